/-
  The document's great numbers: below.
-/
import Derived.Test.YtjnjklcnccfgaaaDoorRGrB
import Derived.WalkSpells
import Derived.WalkLawsBesides
import Derived.StillTactics
import Derived.Laws.Pointers
import Derived.Deep.RegionHeld3
import Derived.Deep.QuietTactic
import Derived.BigQuiet
import Derived.RowKit3
import Derived.Lib.Hide
import Derived.Lib.OthersKept
import Derived.OwnWalk
import Derived.Lib.IndexLaws
import Derived.Lib.ItoaMem
namespace Go.Proofs.YtjnjklcnccfgaaaDoor
open Go.RowKit

theorem valG_lt : ∀ (l : List Nat), (∀ d ∈ l, d < 10000) → valG l < 10000 ^ l.length
  | [], _ => by simp [valG]
  | d :: l, h => by
    have h1 := valG_lt l (fun y hy => h y (by simp [hy]))
    have h2 := h d (by simp)
    rw [valG, List.length_cons, Nat.pow_succ]
    omega
theorem valG_ge (l : List Nat) (hc : CanG l) (h : l ≠ []) : 10000 ^ (l.length - 1) ≤ valG l := by
  obtain ⟨a, d, rfl⟩ : ∃ a d, l = a ++ [d] := ⟨l.dropLast, l.getLast h, (List.dropLast_concat_getLast h).symm⟩
  have h0 := hc d (by simp)
  rw [valG_snoc, List.length_append, List.length_singleton, Nat.add_sub_cancel]
  exact Nat.le_trans (Nat.le_mul_of_pos_right _ h0) (Nat.le_add_left _ _)
theorem below_len (a b : List Nat) (ha : ∀ d ∈ a, d < 10000) (hb : CanG b) (h : a.length < b.length) : valG a < valG b := by
  have h1 := valG_lt a ha
  have h2 := valG_ge b hb (fun e => by rw [e] at h; simp at h)
  exact Nat.lt_of_lt_of_le h1 (Nat.le_trans (Nat.pow_le_pow_right (by decide) (by omega)) h2)
theorem below_at (a b : List Nat) (j x y : Nat) (ha : ∀ d ∈ a, d < 10000) (hx : a[j]? = some x) (hy : b[j]? = some y) (hd : a.drop (j + 1) = b.drop (j + 1)) (h : x < y) : valG a < valG b := by
  obtain ⟨hl1, e1⟩ := List.getElem?_eq_some_iff.1 hx
  obtain ⟨hl2, e2⟩ := List.getElem?_eq_some_iff.1 hy
  have sa := valG_append (a.take j) (a.drop j)
  have sb := valG_append (b.take j) (b.drop j)
  rw [List.take_append_drop, List.drop_eq_getElem_cons hl1, e1, valG, List.length_take, Nat.min_eq_left (by omega)] at sa
  rw [List.take_append_drop, List.drop_eq_getElem_cons hl2, e2, valG, List.length_take, Nat.min_eq_left (by omega), ← hd] at sb
  have h1 := valG_lt (a.take j) (fun d hd => ha d (List.mem_of_mem_take hd))
  rw [List.length_take, Nat.min_eq_left (by omega)] at h1
  obtain ⟨p, hp⟩ : ∃ p, 10000 ^ j = p := ⟨_, rfl⟩
  obtain ⟨v, hv⟩ : ∃ v, 10000 * valG (a.drop (j + 1)) = v := ⟨_, rfl⟩
  rw [hp] at sa sb h1
  rw [hv] at sa sb
  have h2 : p * (x + v) + p ≤ p * (y + v) := by rw [← Nat.mul_succ]; exact Nat.mul_le_mul_left _ (by omega)
  omega
def belowB (a b : List Nat) : Bool := decide (valG a < valG b)
theorem belowB_len (a b : List Nat) (ha : ∀ d ∈ a, d < 10000) (hb : ∀ d ∈ b, d < 10000) (ca : CanG a) (cb : CanG b) (h : a.length ≠ b.length) : decide (a.length < b.length) = belowB a b := by
  unfold belowB
  rcases Nat.lt_or_gt_of_ne h with h | h
  · rw [decide_eq_true (below_len a b ha cb h), decide_eq_true h]
  · have := below_len b a hb ca h
    rw [decide_eq_false (by omega), decide_eq_false (by omega)]
theorem belowB_at (a b : List Nat) (j x y : Nat) (ha : ∀ d ∈ a, d < 10000) (hb : ∀ d ∈ b, d < 10000) (hx : a[j]? = some x) (hy : b[j]? = some y) (hd : a.drop (j + 1) = b.drop (j + 1)) (h : x ≠ y) : decide (x < y) = belowB a b := by
  unfold belowB
  rcases Nat.lt_or_gt_of_ne h with h | h
  · rw [decide_eq_true (below_at a b j x y ha hx hy hd h), decide_eq_true h]
  · have := below_at b a j y x hb hy hx hd.symm h
    rw [decide_eq_false (by omega), decide_eq_false (by omega)]
set_option maxRecDepth 100000 in
set_option maxHeartbeats 2000000 in
theorem below_any (a b : List Nat) (ha : ∀ d ∈ a, d < 10000) (hb : ∀ d ∈ b, d < 10000) (ca : CanG a) (cb : CanG b) (hlen : a.length ≤ 1000000) (w : World) (A A' : Option Addr) (cap cap' : Nat) (hR : RdB w w.heap.size A 1 (a.map fun (d : Nat) => [Value.int .i64 (d : Int)])) (hR' : RdB w w.heap.size A' 1 (b.map fun (d : Nat) => [Value.int .i64 (d : Int)])) : Calls Tryd.prog 107 #[.slice A a.length cap, .slice A' b.length cap'] w fun e w' => e = .returned (.bool (belowB a b)) ∧ Below w.heap.size w w' := by
  have hH := Lib.hid (And.intro ha (And.intro hb (And.intro ca cb)))
  have hRH := Lib.hid (And.intro hR hR')
  clear ha hb ca cb hR hR'
  by_cases hl : a.length = b.length
  · have hlH := Lib.hid hl
    rw [← hl]
    clear hl
    go_enter Tryd.func107, Tryd.ntmps107
    go_wp2
    go_loopw [5] (fun iv wr => ∃ (j : Nat) (i : Int), j ≤ a.length ∧ i = (j : Int) - 1 ∧ iv = .int .i64 i ∧ Hid (a.drop j = b.drop j) ∧ Below w.heap.size w wr) (fun iv _ => (intOf iv + 1).toNat)
    case atStart => exact ⟨a.length, _, Nat.le_refl _, rfl, rfl, Lib.hid (by rw [List.drop_length, hlH.out, List.drop_length]), Below.refl _ _⟩
    case round =>
      obtain ⟨j, i, hj, hi', rfl, hdr, hbr⟩ := hrel
      have hzr := hbr.size
      rcases j with _ | j
      · obtain rfl : i = -1 := by omega
        clear hi'
        go_wp2
        go_ret
        have e := hdr.out
        rw [List.drop_zero, List.drop_zero] at e
        exact ⟨congrArg (fun t => Ending.returned (Value.bool t)) (by unfold belowB; rw [e]; simp), hbr⟩
      · obtain rfl : i = (j : Int) := by omega
        clear hi'
        obtain ⟨x, hx⟩ : ∃ x, a[j]? = some x := ⟨_, List.getElem?_eq_getElem (by omega)⟩
        obtain ⟨y, hy⟩ : ∃ y, b[j]? = some y := ⟨_, List.getElem?_eq_getElem (by have := hlH.out; omega)⟩
        obtain ⟨b1, o1, rfl, hb1, hc1⟩ := (hRH.out.1.below hbr) j [.int .i64 (x : Int)] (by rw [List.getElem?_map, hx]; rfl)
        obtain ⟨b2, o2, rfl, hb2, hc2⟩ := (hRH.out.2.below hbr) j [.int .i64 (y : Int)] (by rw [List.getElem?_map, hy]; rfl)
        have hk1 : wr.cell? ⟨b1, o1 + j, none⟩ = some (.int .i64 (x : Int)) := by simpa using hc1 0 _ rfl
        have hk2 : wr.cell? ⟨b2, o2 + j, none⟩ = some (.int .i64 (y : Int)) := by simpa using hc2 0 _ rfl
        have hjl : (j : Int) < (a.length : Int) := by omega
        have hwj : IntKind.i64.wrap ((j : Int) - 1) = (j : Int) - 1 := IntWalk.i64_in _ (by omega)
        have hxy := Lib.hid (And.intro hx hy)
        clear hx hy hc1 hc2
        by_cases he : x = y
        · subst he
          go_wp2
          go_quiet (fail)
          go_wp2
          go_roundw
          case rel =>
            refine ⟨j, _, by omega, rfl, by go_num, Lib.hid ?_, by (repeat (first | (with_reducible exact Below.refl _ _) | (with_reducible refine Below.alloc ?_ (by first | omega | (dsimp only; omega) | (simp <;> omega)) _) | (with_reducible refine Below.setCell ?_ (by first | omega | (dsimp only; omega) | (simp <;> omega)) _) | (with_reducible refine Below.drew ?_) | (with_reducible refine below_drewN ?_ _) | (with_reducible refine Below.trans ?_ (Below.mono (by assumption) (by first | omega | (dsimp only; omega) | (simp <;> omega))))))⟩
            obtain ⟨h1, e1⟩ := List.getElem?_eq_some_iff.1 hxy.out.1
            obtain ⟨h2, e2⟩ := List.getElem?_eq_some_iff.1 hxy.out.2
            rw [List.drop_eq_getElem_cons h1, List.drop_eq_getElem_cons h2, e1, e2, hdr.out]
          case measure => simp [intOf]
        · have hne : ((x : Int) = (y : Int)) = False := by simp; omega
          have heH := Lib.hid he
          clear hne
          go_wp2
          go_quiet (fail)
          go_wp2
          go_quiet (fail)
          go_wp2
          go_ret
          exact ⟨congrArg (fun t => Ending.returned (Value.bool t)) (belowB_at a b j x y hH.out.1 hH.out.2.1 hxy.out.1 hxy.out.2 hdr.out heH.out), by (repeat (first | (with_reducible exact Below.refl _ _) | (with_reducible refine Below.alloc ?_ (by first | omega | (dsimp only; omega) | (simp <;> omega)) _) | (with_reducible refine Below.setCell ?_ (by first | omega | (dsimp only; omega) | (simp <;> omega)) _) | (with_reducible refine Below.drew ?_) | (with_reducible refine below_drewN ?_ _) | (with_reducible refine Below.trans ?_ (Below.mono (by assumption) (by first | omega | (dsimp only; omega) | (simp <;> omega))))))⟩
  · have hne : ((a.length : Int) = (b.length : Int)) = False := by simp; omega
    have hlH := Lib.hid hl
    clear hne
    go_enter Tryd.func107, Tryd.ntmps107
    go_wp2
    go_ret
    exact ⟨congrArg (fun t => Ending.returned (Value.bool t)) (belowB_len a b hH.out.1 hH.out.2.1 hH.out.2.2.1 hH.out.2.2.2 hlH.out), Below.refl _ _⟩
end Go.Proofs.YtjnjklcnccfgaaaDoor
