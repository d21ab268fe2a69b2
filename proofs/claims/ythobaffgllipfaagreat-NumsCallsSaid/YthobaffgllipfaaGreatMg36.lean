/-
  The document's great numbers: cut, below; The document's great numbers: below.
-/
import Derived.Test.YthobaffgllipfaaGreatRows
import Derived.Test.YthobaffgllipfaaGreatBase
import Derived.Test.YthobaffgllipfaaGreatMg3
import Derived.WalkSpells
import Derived.WalkLawsBesides
import Derived.StillTactics
import Derived.Laws.Pointers
import Derived.Deep.RegionHeld3
import Derived.Deep.QuietTactic
import Derived.BigQuiet
import Derived.RowKit3
import Derived.Lib.Hide
import Derived.Lib.OthersKept
import Derived.OwnWalk
import Derived.Lib.IndexLaws
import Derived.Lib.ItoaMem
import Derived.WalkKit
import Derived.ProofKit
import Derived.OpenShut
import Derived.Carry
import Derived.ChangeSame
import Derived.Deep.Draws
import Derived.Maps.AppendAt
namespace Go.Proofs.YthobaffgllipfaaGreat
open Go.RowKit

theorem valG_append : ∀ (a b : List Nat), valG (a ++ b) = valG a + 10000 ^ a.length * valG b
  | [], b => by simp [valG]
  | d :: a, b => by
    simp only [List.cons_append, valG, valG_append a b, List.length_cons, Nat.pow_succ]
    rw [Nat.mul_add, Nat.add_assoc, Nat.mul_comm (10000 ^ a.length) 10000, Nat.mul_assoc]
theorem valG_all0 : ∀ (l : List Nat), (∀ d ∈ l, d = 0) → valG l = 0
  | [], _ => rfl
  | d :: l, h => by
    rw [valG, h d (by simp), valG_all0 l (fun y hy => h y (by simp [hy]))]
theorem valG_take (l : List Nat) (n : Nat) (h : ∀ d ∈ l.drop n, d = 0) : valG (l.take n) = valG l := by
  have e := valG_append (l.take n) (l.drop n)
  rw [List.take_append_drop, valG_all0 _ h, Nat.mul_zero, Nat.add_zero] at e
  exact e.symm
theorem canG_take (l : List Nat) (k d : Nat) (hd : l[k]? = some d) (h0 : 0 < d) : CanG (l.take (k + 1)) := by
  intro y hy
  rw [List.take_add_one, hd, show (some d).toList = [d] from rfl, List.getLast?_concat] at hy
  injection hy with hy
  omega
theorem ownsRow_takec {w : World} {B g n L cap : Nat} {e : TypeId} {xs : List Value} (h : w.ownsRow B e 1 (.slice (some ⟨g, 0, none⟩) L cap) L xs) (hn : n ≤ L) : w.ownsRow B e 1 (.slice (some ⟨g, 0, none⟩) n cap) n (xs.take n) := by
  obtain ⟨h1, h2⟩ := h
  rcases h2 with ⟨h2, _⟩ | ⟨g', cap', cur, hv, hB, hh, hnc, hm, hs, ht⟩
  · cases h2
  · injection hv with hv1 hv2 hv3
    injection hv1 with hv1
    injection hv1 with hv1
    subst hv1; subst hv3
    refine ⟨by rw [List.length_take, h1]; omega, .inr ⟨g, cap, cur, rfl, hB, hh, by omega, hm, hs, ?_⟩⟩
    rw [← ht, List.take_take, show min n (L * 1) = n by omega, Nat.mul_one]
/-- without the words of nought at the end -/
structure CutAt (B : Nat) (l : List Nat) (w : World) (e : Ending) (w' : World) : Prop where
  same : w' = w
  out : ∃ u l', e = .returned u ∧ w.ownsRow B 3 1 u l'.length (l'.map fun (n : Nat) => Value.int .i64 (n : Int)) ∧ valG l' = valG l ∧ CanG l' ∧ l'.length ≤ l.length ∧ ∀ d ∈ l', d ∈ l
theorem canG_nil : CanG [] := fun d h => by simp at h
set_option maxRecDepth 100000 in
set_option maxHeartbeats 2000000 in
theorem cut_any (B : Nat) (l : List Nat) (hlen : l.length ≤ 1000000) (w : World) (v : Value) (hown : w.ownsRow B 3 1 v l.length (l.map fun (n : Nat) => Value.int .i64 (n : Int))) : Calls Tryz.prog 114 #[v] w (CutAt B l w) := by
  rcases hown.2 with ⟨h2, h3⟩ | ⟨g, cap, cur, hv, hB, hh, hnc, _⟩
  · obtain rfl : l = [] := List.eq_nil_of_length_eq_zero h3
    subst h2
    clear hown
    go_enter Tryz.func114, Tryz.ntmps114
    go_wp2
    go_loopw [3] (fun nv wq => wq = w ∧ nv = .int .i64 0) (fun _ _ => 0)
    case atStart => exact ⟨rfl, rfl⟩
    case round =>
      obtain ⟨rfl, rfl⟩ := hrel
      go_wp2
      go_ret
      exact ⟨rfl, _, [], rfl, World.ownsRow_nil _ _ _ _, rfl, canG_nil, Nat.le_refl _, fun _ h => h⟩
  · subst hv
    have hownH := Lib.hid hown
    clear hown hh
    go_enter Tryz.func114, Tryz.ntmps114
    go_wp2
    go_loopw [3] (fun nv wq => wq = w ∧ ∃ n, n ≤ l.length ∧ nv = .int .i64 (n : Int) ∧ Hid (∀ d ∈ l.drop n, d = 0)) (fun nv _ => (intOf nv).toNat)
    case atStart => exact ⟨rfl, l.length, Nat.le_refl _, rfl, Lib.hid (by simp)⟩
    case round =>
      obtain ⟨rfl, n, hn, rfl, hz⟩ := hrel
      rcases n with _ | k
      · go_wp2
        go_ret
        exact ⟨rfl, _, [], rfl, by simpa using ownsRow_takec hownH.out (Nat.zero_le _), (by rw [valG_all0 l (by simpa using hz.out)]; rfl), canG_nil, Nat.zero_le _, fun _ h => by simp at h⟩
      · obtain ⟨d, hd⟩ : ∃ d, l[k]? = some d := ⟨_, List.getElem?_eq_getElem (by omega)⟩
        have hcA := (hownH.out.cellAt k (by omega)).trans (show _ = some (Value.int .i64 (d : Int)) by rw [List.getElem?_map, hd]; rfl)
        have hw1 : IntKind.i64.wrap ((k : Int) + 1 - 1) = (k : Int) := by rw [IntWalk.i64_in _ (by omega)]; omega
        have hk0 : (0 : Int) < (k : Int) + 1 := by omega
        have hkk : (k : Int) < (l.length : Int) := by omega
        have hkc : k + 1 ≤ cap := by omega
        by_cases hd0 : d = 0
        · subst hd0
          have hd' := Lib.hid hd
          clear hd
          go_wp2
          go_roundw
          case rel =>
            refine ⟨by first | rfl | trivial, k, by omega, by go_num, Lib.hid ?_⟩
            intro y hy
            obtain ⟨hlt, e⟩ := List.getElem?_eq_some_iff.1 hd'.out
            rw [List.drop_eq_getElem_cons hlt, e] at hy
            rcases List.mem_cons.1 hy with h | h
            · exact h
            · exact hz.out y h
          case measure => simp [intOf]
        · have hdn : ((d : Int) = 0) = False := by simp; omega
          have hd' := Lib.hid (And.intro hd hd0)
          clear hd
          go_wp2
          go_ret
          have hl2 : (l.take (k + 1)).length = k + 1 := by rw [List.length_take]; omega
          refine ⟨rfl, _, l.take (k + 1), rfl, ?_, valG_take _ _ hz.out, canG_take _ _ _ hd'.out.1 (by have := hd'.out.2; omega), by rw [hl2]; exact hn, fun y hy => List.mem_of_mem_take hy⟩
          rw [hl2, List.map_take]; exact ownsRow_takec hownH.out hn
end Go.Proofs.YthobaffgllipfaaGreat
namespace Go.Proofs.YthobaffgllipfaaGreat
open Go.RowKit

theorem valG_lt : ∀ (l : List Nat), (∀ d ∈ l, d < 10000) → valG l < 10000 ^ l.length
  | [], _ => by simp [valG]
  | d :: l, h => by
    have h1 := valG_lt l (fun y hy => h y (by simp [hy]))
    have h2 := h d (by simp)
    rw [valG, List.length_cons, Nat.pow_succ]
    omega
theorem valG_ge (l : List Nat) (hc : CanG l) (h : l ≠ []) : 10000 ^ (l.length - 1) ≤ valG l := by
  obtain ⟨a, d, rfl⟩ : ∃ a d, l = a ++ [d] := ⟨l.dropLast, l.getLast h, (List.dropLast_concat_getLast h).symm⟩
  have h0 := hc d (by simp)
  rw [valG_snoc, List.length_append, List.length_singleton, Nat.add_sub_cancel]
  exact Nat.le_trans (Nat.le_mul_of_pos_right _ h0) (Nat.le_add_left _ _)
theorem below_len (a b : List Nat) (ha : ∀ d ∈ a, d < 10000) (hb : CanG b) (h : a.length < b.length) : valG a < valG b := by
  have h1 := valG_lt a ha
  have h2 := valG_ge b hb (fun e => by rw [e] at h; simp at h)
  exact Nat.lt_of_lt_of_le h1 (Nat.le_trans (Nat.pow_le_pow_right (by decide) (by omega)) h2)
theorem below_at (a b : List Nat) (j x y : Nat) (ha : ∀ d ∈ a, d < 10000) (hx : a[j]? = some x) (hy : b[j]? = some y) (hd : a.drop (j + 1) = b.drop (j + 1)) (h : x < y) : valG a < valG b := by
  obtain ⟨hl1, e1⟩ := List.getElem?_eq_some_iff.1 hx
  obtain ⟨hl2, e2⟩ := List.getElem?_eq_some_iff.1 hy
  have sa := valG_append (a.take j) (a.drop j)
  have sb := valG_append (b.take j) (b.drop j)
  rw [List.take_append_drop, List.drop_eq_getElem_cons hl1, e1, valG, List.length_take, Nat.min_eq_left (by omega)] at sa
  rw [List.take_append_drop, List.drop_eq_getElem_cons hl2, e2, valG, List.length_take, Nat.min_eq_left (by omega), ← hd] at sb
  have h1 := valG_lt (a.take j) (fun d hd => ha d (List.mem_of_mem_take hd))
  rw [List.length_take, Nat.min_eq_left (by omega)] at h1
  obtain ⟨p, hp⟩ : ∃ p, 10000 ^ j = p := ⟨_, rfl⟩
  obtain ⟨v, hv⟩ : ∃ v, 10000 * valG (a.drop (j + 1)) = v := ⟨_, rfl⟩
  rw [hp] at sa sb h1
  rw [hv] at sa sb
  have h2 : p * (x + v) + p ≤ p * (y + v) := by rw [← Nat.mul_succ]; exact Nat.mul_le_mul_left _ (by omega)
  omega
def belowB (a b : List Nat) : Bool := decide (valG a < valG b)
theorem belowB_len (a b : List Nat) (ha : ∀ d ∈ a, d < 10000) (hb : ∀ d ∈ b, d < 10000) (ca : CanG a) (cb : CanG b) (h : a.length ≠ b.length) : decide (a.length < b.length) = belowB a b := by
  unfold belowB
  rcases Nat.lt_or_gt_of_ne h with h | h
  · rw [decide_eq_true (below_len a b ha cb h), decide_eq_true h]
  · have := below_len b a hb ca h
    rw [decide_eq_false (by omega), decide_eq_false (by omega)]
theorem belowB_at (a b : List Nat) (j x y : Nat) (ha : ∀ d ∈ a, d < 10000) (hb : ∀ d ∈ b, d < 10000) (hx : a[j]? = some x) (hy : b[j]? = some y) (hd : a.drop (j + 1) = b.drop (j + 1)) (h : x ≠ y) : decide (x < y) = belowB a b := by
  unfold belowB
  rcases Nat.lt_or_gt_of_ne h with h | h
  · rw [decide_eq_true (below_at a b j x y ha hx hy hd h), decide_eq_true h]
  · have := below_at b a j y x hb hy hx hd.symm h
    rw [decide_eq_false (by omega), decide_eq_false (by omega)]
set_option maxRecDepth 100000 in
set_option maxHeartbeats 2000000 in
theorem below_any (a b : List Nat) (ha : ∀ d ∈ a, d < 10000) (hb : ∀ d ∈ b, d < 10000) (ca : CanG a) (cb : CanG b) (hlen : a.length ≤ 1000000) (w : World) (A A' : Option Addr) (cap cap' : Nat) (hR : RdB w w.heap.size A 1 (a.map fun (d : Nat) => [Value.int .i64 (d : Int)])) (hR' : RdB w w.heap.size A' 1 (b.map fun (d : Nat) => [Value.int .i64 (d : Int)])) : Calls Tryz.prog 100 #[.slice A a.length cap, .slice A' b.length cap'] w fun e w' => e = .returned (.bool (belowB a b)) ∧ Below w.heap.size w w' := by
  have hH := Lib.hid (And.intro ha (And.intro hb (And.intro ca cb)))
  have hRH := Lib.hid (And.intro hR hR')
  clear ha hb ca cb hR hR'
  by_cases hl : a.length = b.length
  · have hlH := Lib.hid hl
    rw [← hl]
    clear hl
    go_enter Tryz.func100, Tryz.ntmps100
    go_wp2
    go_loopw [5] (fun iv wr => ∃ (j : Nat) (i : Int), j ≤ a.length ∧ i = (j : Int) - 1 ∧ iv = .int .i64 i ∧ Hid (a.drop j = b.drop j) ∧ Below w.heap.size w wr) (fun iv _ => (intOf iv + 1).toNat)
    case atStart => exact ⟨a.length, _, Nat.le_refl _, rfl, rfl, Lib.hid (by rw [List.drop_length, hlH.out, List.drop_length]), Below.refl _ _⟩
    case round =>
      obtain ⟨j, i, hj, hi', rfl, hdr, hbr⟩ := hrel
      have hzr := hbr.size
      rcases j with _ | j
      · obtain rfl : i = -1 := by omega
        clear hi'
        go_wp2
        go_ret
        have e := hdr.out
        rw [List.drop_zero, List.drop_zero] at e
        exact ⟨congrArg (fun t => Ending.returned (Value.bool t)) (by unfold belowB; rw [e]; simp), hbr⟩
      · obtain rfl : i = (j : Int) := by omega
        clear hi'
        obtain ⟨x, hx⟩ : ∃ x, a[j]? = some x := ⟨_, List.getElem?_eq_getElem (by omega)⟩
        obtain ⟨y, hy⟩ : ∃ y, b[j]? = some y := ⟨_, List.getElem?_eq_getElem (by have := hlH.out; omega)⟩
        obtain ⟨b1, o1, rfl, hb1, hc1⟩ := (hRH.out.1.below hbr) j [.int .i64 (x : Int)] (by rw [List.getElem?_map, hx]; rfl)
        obtain ⟨b2, o2, rfl, hb2, hc2⟩ := (hRH.out.2.below hbr) j [.int .i64 (y : Int)] (by rw [List.getElem?_map, hy]; rfl)
        have hk1 : wr.cell? ⟨b1, o1 + j, none⟩ = some (.int .i64 (x : Int)) := by simpa using hc1 0 _ rfl
        have hk2 : wr.cell? ⟨b2, o2 + j, none⟩ = some (.int .i64 (y : Int)) := by simpa using hc2 0 _ rfl
        have hjl : (j : Int) < (a.length : Int) := by omega
        have hwj : IntKind.i64.wrap ((j : Int) - 1) = (j : Int) - 1 := IntWalk.i64_in _ (by omega)
        have hxy := Lib.hid (And.intro hx hy)
        clear hx hy hc1 hc2
        by_cases he : x = y
        · subst he
          go_wp2
          go_quiet (fail)
          go_wp2
          go_roundw
          case rel =>
            refine ⟨j, _, by omega, rfl, by go_num, Lib.hid ?_, by (repeat (first | (with_reducible exact Below.refl _ _) | (with_reducible refine Below.alloc ?_ (by first | omega | (dsimp only; omega) | (simp <;> omega)) _) | (with_reducible refine Below.setCell ?_ (by first | omega | (dsimp only; omega) | (simp <;> omega)) _) | (with_reducible refine Below.drew ?_) | (with_reducible refine below_drewN ?_ _) | (with_reducible refine Below.trans ?_ (Below.mono (by assumption) (by first | omega | (dsimp only; omega) | (simp <;> omega))))))⟩
            obtain ⟨h1, e1⟩ := List.getElem?_eq_some_iff.1 hxy.out.1
            obtain ⟨h2, e2⟩ := List.getElem?_eq_some_iff.1 hxy.out.2
            rw [List.drop_eq_getElem_cons h1, List.drop_eq_getElem_cons h2, e1, e2, hdr.out]
          case measure => simp [intOf]
        · have hne : ((x : Int) = (y : Int)) = False := by simp; omega
          have heH := Lib.hid he
          clear hne
          go_wp2
          go_quiet (fail)
          go_wp2
          go_quiet (fail)
          go_wp2
          go_ret
          exact ⟨congrArg (fun t => Ending.returned (Value.bool t)) (belowB_at a b j x y hH.out.1 hH.out.2.1 hxy.out.1 hxy.out.2 hdr.out heH.out), by (repeat (first | (with_reducible exact Below.refl _ _) | (with_reducible refine Below.alloc ?_ (by first | omega | (dsimp only; omega) | (simp <;> omega)) _) | (with_reducible refine Below.setCell ?_ (by first | omega | (dsimp only; omega) | (simp <;> omega)) _) | (with_reducible refine Below.drew ?_) | (with_reducible refine below_drewN ?_ _) | (with_reducible refine Below.trans ?_ (Below.mono (by assumption) (by first | omega | (dsimp only; omega) | (simp <;> omega))))))⟩
  · have hne : ((a.length : Int) = (b.length : Int)) = False := by simp; omega
    have hlH := Lib.hid hl
    clear hne
    go_enter Tryz.func100, Tryz.ntmps100
    go_wp2
    go_ret
    exact ⟨congrArg (fun t => Ending.returned (Value.bool t)) (belowB_len a b hH.out.1 hH.out.2.1 hH.out.2.2.1 hH.out.2.2.2 hlH.out), Below.refl _ _⟩
end Go.Proofs.YthobaffgllipfaaGreat
