/-
  The document's great numbers: next.
-/
import Derived.Test.YtjnjklcnccfgaaaDoorRGrG
import Derived.Maps.AppendAt
import Derived.WalkSpells
import Derived.WalkLawsBesides
import Derived.StillTactics
import Derived.Laws.Pointers
import Derived.Deep.RegionHeld3
import Derived.Deep.QuietTactic
import Derived.BigQuiet
import Derived.RowKit3
import Derived.Lib.Hide
import Derived.Lib.OthersKept
import Derived.OwnWalk
import Derived.Lib.IndexLaws
import Derived.Lib.ItoaMem
namespace Go.Proofs.YtjnjklcnccfgaaaDoor
open Go.RowKit

theorem next_step (outs : List Nat) (A ta' k o d o' x t : Nat) (h : valG outs + 10000 ^ k * o = A + 1) (ha : ta' = A + 10000 ^ k * x) (hl : outs.length = k) (ht : t = x + o) (hd : d = t % 10000) (ho : o' = t / 10000) : valG (outs ++ [d]) + 10000 ^ (k + 1) * o' = ta' + 1 := by
  rw [valG_snoc, hl, ha, Nat.pow_succ]
  obtain ⟨p, hp⟩ : ∃ p, 10000 ^ k = p := ⟨_, rfl⟩
  rw [hp] at h ⊢
  have e0 : d + 10000 * o' = x + o := by omega
  have e : p * d + p * 10000 * o' = p * x + p * o := by rw [Nat.mul_assoc, ← Nat.mul_add, e0, Nat.mul_add]
  omega
set_option maxRecDepth 100000 in
set_option maxHeartbeats 4000000 in
theorem next_any (a : List Nat) (ha : ∀ d ∈ a, d < 10000) (hlen : a.length ≤ 100000) (w : World) (A : Option Addr) (cap : Nat) (hR : RdB w w.heap.size A 1 (a.map fun (d : Nat) => [Value.int .i64 (d : Int)])) : Calls Tryd.prog 105 #[.slice A a.length cap] w (GreatAt (valG a + 1) (a.length + 1) w) := by
  obtain ⟨i0, hi, hz0, hz1, hz2⟩ := info_parts int_info
  have hH := Lib.hid (And.intro ha hR)
  clear ha hR
  go_enter Tryd.func105, Tryd.ntmps105
  go_wp2
  go_loopw [3, 4, 5] (fun ov uv iv wr => ∃ (k o : Nat) (outs : List Nat), k ≤ a.length ∧ iv = .int .i64 (k : Int) ∧ uv = .int .i64 (o : Int) ∧ o ≤ 1 ∧ outs.length = k ∧ Hid (∀ d ∈ outs, d < 10000) ∧ Hid (valG outs + 10000 ^ k * o = valG (a.take k) + 1) ∧ wr.ownsRow w.heap.size 3 1 ov k (outs.map fun (n : Nat) => Value.int .i64 (n : Int)) ∧ Below w.heap.size w wr) (fun _ _ iv _ => a.length - (intOf iv).toNat)
  case atStart => exact ⟨0, 1, [], Nat.zero_le _, rfl, rfl, by decide, rfl, Lib.hid (by simp), Lib.hid (by simp [valG]), World.ownsRow_nil _ _ _ _, Below.refl _ _⟩
  case round =>
    obtain ⟨k, o, outs, hk, rfl, rfl, ho, hol, hdig, hval, hown, hbr⟩ := hrel
    have hzr := hbr.size
    have hol' := Lib.hid hol
    clear hol
    by_cases hlt : k < a.length
    · obtain ⟨x, hx⟩ : ∃ x, a[k]? = some x := ⟨_, List.getElem?_eq_getElem hlt⟩
      obtain ⟨b1, o1, rfl, hb1, hc1⟩ := (hH.out.2.below hbr) k [.int .i64 (x : Int)] (by rw [List.getElem?_map, hx]; rfl)
      have hk1 : wr.cell? ⟨b1, o1 + k, none⟩ = some (.int .i64 (x : Int)) := by simpa using hc1 0 _ rfl
      have hkl : (k : Int) < (a.length : Int) := by omega
      have hxb := hH.out.1 x (List.mem_of_getElem? hx)
      have hta := Lib.hid (show valG (a.take (k + 1)) = valG (a.take k) + 10000 ^ k * x by rw [show a.take (k + 1) = a.take k ++ [x] by rw [List.take_add_one, hx]; rfl, valG_snoc, show (a.take k).length = k by rw [List.length_take]; omega])
      have a9 : IntKind.i64.wrap ((k : Int) + 1) = (k : Int) + 1 := IntWalk.i64_in _ (by omega)
      obtain ⟨t, ht⟩ : ∃ t, t = x + o := ⟨_, rfl⟩
      obtain ⟨d, hd⟩ : ∃ d, d = t % 10000 := ⟨_, rfl⟩
      obtain ⟨o', ho'⟩ : ∃ o', o' = t / 10000 := ⟨_, rfl⟩
      have a1 : IntKind.i64.wrap ((x : Int) + (o : Int)) = (t : Int) := by rw [IntWalk.i64_in _ (by omega)]; omega
      have a2 : (t : Int) % 10000 = (d : Int) := by omega
      have a3 : (t : Int) / 10000 = (o' : Int) := by omega
      have a4 : IntKind.i64.wrap (d : Int) = (d : Int) := IntWalk.i64_in _ (by omega)
      have a5 : IntKind.i64.wrap (o' : Int) = (o' : Int) := IntWalk.i64_in _ (by omega)
      have hst := Lib.hid (next_step _ _ _ k o d o' x t hval.out hta.out hol'.out ht hd ho')
      have hdb : d < 10000 := by omega
      have hob : o' ≤ 1 := by omega
      clear hx hc1 ht hd ho' hval
      go_wp2_with (at_builtin; refine wpList_append_own_at _ rfl _ _ 96 rfl w.heap.size 3 i0 (.int .i64 0) 1 8 Tryd.underlying96 hi hz0 hz1 hz2 rfl (by decide) _ _ _ rfl (hown.alloc _) ⟨wr.heap.size, 0, none⟩ 1 1 [.int .i64 (d : Int)] rfl rfl (cell_one_new _ _ _) (by simp [Value.oneCell']) (by unfold maxLen; omega) (by omega) (by simp; omega) ?_; intro v' w1 hown1 hgrow1 hnil1 hloc1)
      go_roundw
      case rel =>
        refine ⟨k + 1, o', outs ++ [d], by omega, by go_num, by first | rfl | trivial, hob, by rw [List.length_append, hol'.out]; rfl, Lib.hid ?_, Lib.hid ?_, ?_, ?_⟩
        · intro z hz
          rcases List.mem_append.1 hz with h | h
          · exact hdig.out z h
          · simp at h; omega
        · exact hst.out
        · rw [List.map_append]; exact hown1
        · refine (hbr.alloc hzr _).grown hgrow1 (by simp; omega) (fun j hj => ?_)
          exact (hown.lt j hj).1
      case measure => simp [intOf]; omega
    · obtain rfl : a.length = k := by omega
      have hkl : ¬ ((a.length : Int) < (a.length : Int)) := by omega
      have hv := hval.out
      rw [List.take_length] at hv
      have hvH := Lib.hid hv
      clear hv hval
      go_wp2_with (at_builtin; refine wpList_append_own_at _ rfl _ _ 96 rfl w.heap.size 3 i0 (.int .i64 0) 1 8 Tryd.underlying96 hi hz0 hz1 hz2 rfl (by decide) _ _ _ rfl (hown.alloc _) ⟨wr.heap.size, 0, none⟩ 1 1 [.int .i64 (o : Int)] rfl rfl (cell_one_new _ _ _) (by simp [Value.oneCell']) (by unfold maxLen; omega) (by omega) (by simp; omega) ?_; intro v' w1 hown1 hgrow1 hnil1 hloc1)
      have hb2 : Below w.heap.size w w1 := by
        refine (hbr.alloc hzr _).grown hgrow1 (by simp; omega) (fun j hj => ?_)
        exact (hown.lt j hj).1
      have hl2 : (outs ++ [o]).length = a.length + 1 := by rw [List.length_append, hol'.out]; rfl
      have hown' : w1.ownsRow w.heap.size 3 1 v' (outs ++ [o]).length ((outs ++ [o]).map fun (n : Nat) => Value.int .i64 (n : Int)) := by rw [hl2, List.map_append]; exact hown1
      have C := Lib.hid (cut_any w.heap.size (outs ++ [o]) (by omega) w1 _ hown')
      have hl2H := Lib.hid hl2
      have hb2H := Lib.hid hb2
      clear hown' hown1 hown hb2 hl2 hgrow1
      go_wp2_with fail
      with_reducible refine C.out.mono ?_
      rintro e w3 ⟨rfl, u, l', rfl, ho, hv, hc, hl, hm⟩
      have hoH := Lib.hid (And.intro ho (And.intro hv (And.intro hc (And.intro hl hm))))
      clear ho hv hc hl hm
      go_wp2
      go_ret
      refine ⟨_, l', rfl, ⟨hoH.out.1, fun d hd => ?_, hb2H.out, hb2H.out.size⟩, by rw [hoH.out.2.1, valG_snoc, hol'.out]; exact hvH.out, hoH.out.2.2.1, by rw [← hl2H.out]; exact hoH.out.2.2.2.1⟩
      rcases List.mem_append.1 (hoH.out.2.2.2.2 d hd) with h | h
      · exact hdig.out d h
      · simp at h; omega
end Go.Proofs.YtjnjklcnccfgaaaDoor
