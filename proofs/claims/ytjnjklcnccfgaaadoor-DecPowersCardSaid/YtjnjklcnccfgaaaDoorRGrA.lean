/-
  The document's great numbers: great.
-/
import Derived.Test.YtjnjklcnccfgaaaDoorRowB
import Derived.Test.YtjnjklcnccfgaaaDoorDecA
import Derived.Maps.AppendAt
import Derived.WalkSpells
import Derived.WalkLawsBesides
import Derived.StillTactics
import Derived.Laws.Pointers
import Derived.Deep.RegionHeld3
import Derived.Deep.QuietTactic
import Derived.BigQuiet
import Derived.RowKit3
import Derived.Lib.Hide
import Derived.Lib.OthersKept
import Derived.OwnWalk
import Derived.Lib.IndexLaws
import Derived.Lib.ItoaMem
namespace Go.Proofs.YtjnjklcnccfgaaaDoor
open Go.RowKit

theorem int_info : (Tryd.prog.info? 3).map (fun i => (i.zero, i.size, i.bytes)) = some (some (.int .i64 0), 1, 8) := by kernel_rfl
/-- words of four digits, the lowest first -/
def valG : List Nat → Nat
  | [] => 0
  | d :: l => d + 10000 * valG l
theorem valG_snoc : ∀ (l : List Nat) (d : Nat), valG (l ++ [d]) = valG l + 10000 ^ l.length * d
  | [], d => by simp [valG]
  | a :: l, d => by
    simp only [List.cons_append, valG, valG_snoc l d, List.length_cons, Nat.pow_succ]
    rw [Nat.mul_add, Nat.add_assoc, Nat.mul_comm (10000 ^ l.length) 10000, Nat.mul_assoc]
/-- none of nought at the end -/
def CanG (l : List Nat) : Prop := ∀ d, l.getLast? = some d → 0 < d
/-- a row of such words that is the call's own -/
structure HeldG (B : Nat) (w0 w : World) (v : Value) (l : List Nat) : Prop where
  own : w.ownsRow B 3 1 v l.length (l.map fun (n : Nat) => Value.int .i64 (n : Int))
  dig : ∀ d ∈ l, d < 10000
  bel : Below B w0 w
  siz : B ≤ w.heap.size
/-- such words that come back -/
structure GreatAt (v : Nat) (n : Nat) (w : World) (e : Ending) (w' : World) : Prop where
  out : ∃ u l, e = .returned u ∧ HeldG w.heap.size w w' u l ∧ valG l = v ∧ CanG l ∧ l.length ≤ n
theorem rdG_own {w : World} {B : Nat} {e : TypeId} {v : Value} {l : List Nat} (h : w.ownsRow B e 1 v l.length (l.map fun (n : Nat) => Value.int .i64 (n : Int))) : ∃ A cap, v = .slice A l.length cap ∧ RdB w w.heap.size A 1 (l.map fun (d : Nat) => [Value.int .i64 (d : Int)]) := by
  rcases h.2 with ⟨h2, h3⟩ | ⟨g, cap, cur, hv, hB, hh, hr⟩
  · exact ⟨none, 0, by rw [h2, h3], fun i c hi => by rw [List.eq_nil_of_length_eq_zero h3] at hi; simp at hi⟩
  · refine ⟨_, cap, hv, fun i c hi => ⟨g, 0, rfl, (Array.getElem?_eq_some_iff.1 hh).1, fun j u hu => ?_⟩⟩
    rw [List.getElem?_map] at hi
    obtain ⟨d, hd, rfl⟩ := Option.map_eq_some_iff.1 hi
    obtain ⟨hlt, _⟩ := List.getElem?_eq_some_iff.1 hd
    rcases j with _ | j
    · simp at hu
      subst hu
      subst hv
      have := h.cellAt i (by omega)
      rw [List.getElem?_map, hd] at this
      simpa using this
    · simp at hu
theorem great_step (v p q d q' n : Nat) (h : v + p * q = n) (hd : d = q % 10000) (hq : q' = q / 10000) : v + p * d + p * 10000 * q' = n := by
  have e : q = d + 10000 * q' := by omega
  rw [← h, e, Nat.mul_add, Nat.mul_assoc, Nat.add_assoc]
theorem great_len (v p q n k : Nat) (hk : k ≤ 5) (hp : p = 10000 ^ k) (h : v + p * q = n) (hn : n < 18446744073709551616) (hq : 0 < q) : k ≤ 4 := by
  rcases Nat.lt_or_ge k 5 with h5 | h5
  · omega
  · obtain rfl : k = 5 := by omega
    have h6 : p * 1 ≤ p * q := Nat.mul_le_mul_left _ hq
    rw [hp] at h6 h
    omega
set_option maxRecDepth 100000 in
set_option maxHeartbeats 2000000 in
theorem great_any (n : Nat) (hn : n < 18446744073709551616) (w : World) : Calls Tryd.prog 103 #[.int .u64 (n : Int)] w (GreatAt n 5 w) := by
  obtain ⟨i0, hi, hz0, hz1, hz2⟩ := info_parts int_info
  have hn' := Lib.hid hn
  clear hn
  go_enter Tryd.func103, Tryd.ntmps103
  go_wp2
  go_loopw [0, 3] (fun nv ov wr => ∃ (q : Nat) (outs : List Nat), nv = .int .u64 (q : Int) ∧ Hid (q < 18446744073709551616) ∧ Hid (valG outs + 10000 ^ outs.length * q = n) ∧ Hid (∀ d ∈ outs, d < 10000) ∧ outs.length ≤ 5 ∧ Hid (q = 0 → CanG outs) ∧ wr.ownsRow w.heap.size 3 1 ov outs.length (outs.map fun (n : Nat) => Value.int .i64 (n : Int)) ∧ Below w.heap.size w wr) (fun nv _ _ => (intOf nv).toNat)
  case atStart => exact ⟨n, [], rfl, hn', Lib.hid (by simp [valG]), Lib.hid (by simp), by simp, Lib.hid (fun _ d h => by simp at h), World.ownsRow_nil _ _ _ _, Below.refl _ _⟩
  case round =>
    obtain ⟨q, outs, rfl, hqb, hval, hdig, hlen, hcan, hown, hbr⟩ := hrel
    have hzr := hbr.size
    by_cases hq0 : q = 0
    · subst hq0
      go_wp2
      go_ret
      exact ⟨_, outs, rfl, ⟨hown, hdig.out, hbr, hzr⟩, by have := hval.out; simpa using this, by first | exact hcan.out rfl | exact hcan.out trivial, hlen⟩
    · have hqp : (0 : Int) < (q : Int) := by omega
      obtain ⟨d, hd⟩ : ∃ d, d = q % 10000 := ⟨_, rfl⟩
      obtain ⟨q', hq'⟩ : ∃ q', q' = q / 10000 := ⟨_, rfl⟩
      have hl4 := great_len _ _ q n _ hlen rfl hval.out hn'.out (by omega)
      have a1 : (q : Int) % 10000 = (d : Int) := by omega
      have a2 : (q : Int) / 10000 = (q' : Int) := by omega
      have a3 : IntKind.i64.wrap (d : Int) = (d : Int) := IntWalk.i64_in _ (by omega)
      have a4 : IntKind.u64.wrap (q' : Int) = (q' : Int) := by rw [IntKind.wrap_u64]; have := hqb.out; omega
      have hst := Lib.hid (great_step _ _ q d q' n hval.out hd hq')
      have hdb : d < 10000 := by omega
      have hqb' := Lib.hid (show q' < 18446744073709551616 by have := hqb.out; omega)
      have hc' := Lib.hid (show q' = 0 → 0 < d by omega)
      have hlt' := Lib.hid (show q' < q by omega)
      clear hd hq' hval hqb hq0 hcan hlen
      go_wp2_with (at_builtin; refine wpList_append_own_at _ rfl _ _ 96 rfl w.heap.size 3 i0 (.int .i64 0) 1 8 Tryd.underlying96 hi hz0 hz1 hz2 rfl (by decide) _ _ _ rfl (hown.alloc _) ⟨wr.heap.size, 0, none⟩ 1 1 [.int .i64 (d : Int)] rfl rfl (cell_one_new _ _ _) (by simp [Value.oneCell']) (by unfold maxLen; omega) (by omega) (by simp; omega) ?_; intro v' w1 hown1 hgrow1 hnil1 hloc1)
      go_roundw
      case rel =>
        refine ⟨q', outs ++ [d], by first | rfl | trivial, hqb', Lib.hid ?_, Lib.hid ?_, by simp; omega, Lib.hid ?_, ?_, ?_⟩
        · rw [valG_snoc, List.length_append, List.length_singleton, Nat.pow_succ]; exact hst.out
        · intro y hy
          rcases List.mem_append.1 hy with h | h
          · exact hdig.out y h
          · simp at h; omega
        · intro h0 y hy
          rw [List.getLast?_concat] at hy
          injection hy with hy
          rw [← hy]; exact hc'.out h0
        · rw [List.map_append, List.length_append]; exact hown1
        · refine (hbr.alloc hzr _).grown hgrow1 (by simp; omega) (fun j hj => ?_)
          exact (hown.lt j hj).1
      case measure => have := hlt'.out; simp [intOf]; omega
end Go.Proofs.YtjnjklcnccfgaaaDoor
