/-
  The document's great numbers: small.
-/
import Derived.Test.YtjnjklcnccfgaaaDoorRGrE
import Derived.WalkSpells
import Derived.WalkLawsBesides
import Derived.StillTactics
import Derived.Laws.Pointers
import Derived.Deep.RegionHeld3
import Derived.Deep.QuietTactic
import Derived.BigQuiet
import Derived.RowKit3
import Derived.Lib.Hide
import Derived.Lib.OthersKept
import Derived.OwnWalk
import Derived.Lib.IndexLaws
import Derived.Lib.ItoaMem
namespace Go.Proofs.YtjnjklcnccfgaaaDoor
open Go.RowKit

theorem small_great (l : List Nat) (hc : CanG l) (h : 5 < l.length) : ¬ valG l ≤ 9223372036854775807 := by
  have h1 := valG_ge l hc (fun e => by rw [e] at h; simp at h)
  have h2 : 10000 ^ 5 ≤ 10000 ^ (l.length - 1) := Nat.pow_le_pow_right (by decide) (by omega)
  omega
theorem valG_drop_le : ∀ (l : List Nat) (j : Nat), valG (l.drop j) ≤ valG l
  | l, 0 => by simp
  | [], j + 1 => by simp
  | d :: l, j + 1 => by
    have := valG_drop_le l j
    rw [List.drop_succ_cons, valG]
    omega
def smallV (l : List Nat) : Nat := if valG l ≤ 9223372036854775807 then valG l else 0
set_option maxRecDepth 100000 in
set_option maxHeartbeats 2000000 in
theorem small_any (l : List Nat) (hd : ∀ d ∈ l, d < 10000) (hc : CanG l) (hlen : l.length ≤ 1000000) (w : World) (A : Option Addr) (cap : Nat) (hR : RdB w w.heap.size A 1 (l.map fun (d : Nat) => [Value.int .i64 (d : Int)])) : Calls Tryd.prog 104 #[.slice A l.length cap] w fun e w' => e = .returned (.tuple #[.int .u64 (smallV l : Int), .bool (decide (valG l ≤ 9223372036854775807))]) ∧ w' = w := by
  have hH := Lib.hid (And.intro hd (And.intro hc hR))
  clear hd hc hR
  by_cases h5 : 5 < l.length
  · have h5' : (5 : Int) < (l.length : Int) := by omega
    have hno := Lib.hid (small_great l hH.out.2.1 h5)
    go_enter Tryd.func104, Tryd.ntmps104
    go_wp2
    go_ret2
    have hn := hno.out
    exact ⟨by unfold smallV; rw [if_neg hn, decide_eq_false hn]; rfl, rfl⟩
  · have h5' : ¬ (5 : Int) < (l.length : Int) := by omega
    go_enter Tryd.func104, Tryd.ntmps104
    go_wp2
    go_loopw [4, 5] (fun nv iv wr => wr = w ∧ ∃ (j : Nat) (i : Int), j ≤ l.length ∧ i = (j : Int) - 1 ∧ iv = .int .i64 i ∧ ∃ m : Nat, nv = .int .u64 (m : Int) ∧ Hid (valG (l.drop j) = m) ∧ Hid (m ≤ 9223372036854775807)) (fun _ iv _ => (intOf iv + 1).toNat)
    case atStart => exact ⟨rfl, l.length, _, Nat.le_refl _, rfl, rfl, 0, rfl, Lib.hid (by rw [List.drop_length]; rfl), Lib.hid (by decide)⟩
    case round =>
      obtain ⟨rfl, j, i, hj, hi', rfl, m, rfl, hval, hmb⟩ := hrel
      rcases j with _ | j
      · obtain rfl : i = -1 := by omega
        clear hi'
        go_wp2
        go_ret2
        have e := hval.out
        rw [List.drop_zero] at e
        have hy : valG l ≤ 9223372036854775807 := by rw [e]; exact hmb.out
        exact ⟨by unfold smallV; rw [if_pos hy, decide_eq_true hy, e]; rfl, rfl⟩
      · obtain rfl : i = (j : Int) := by omega
        clear hi'
        obtain ⟨x, hx⟩ : ∃ x, l[j]? = some x := ⟨_, List.getElem?_eq_getElem (by omega)⟩
        obtain ⟨b1, o1, rfl, hb1, hc1⟩ := hH.out.2.2 j [.int .i64 (x : Int)] (by rw [List.getElem?_map, hx]; rfl)
        have hk1 : wr.cell? ⟨b1, o1 + j, none⟩ = some (.int .i64 (x : Int)) := by simpa using hc1 0 _ rfl
        have hjl : (j : Int) < (l.length : Int) := by omega
        have hxb := hH.out.1 x (List.mem_of_getElem? hx)
        have hwj : IntKind.i64.wrap ((j : Int) - 1) = (j : Int) - 1 := IntWalk.i64_in _ (by omega)
        obtain ⟨s, hs⟩ : ∃ s, s = 9223372036854775807 - x := ⟨_, rfl⟩
        obtain ⟨t, ht⟩ : ∃ t, t = s / 10000 := ⟨_, rfl⟩
        have a1 : IntKind.u64.wrap (x : Int) = (x : Int) := by rw [IntKind.wrap_u64]; omega
        have a2 : IntKind.u64.wrap (9223372036854775807 - (x : Int)) = (s : Int) := by rw [IntKind.wrap_u64]; omega
        have a3 : (s : Int) / 10000 = (t : Int) := by omega
        have a3' : IntKind.u64.wrap (t : Int) = (t : Int) := by rw [IntKind.wrap_u64]; omega
        have hdr : valG (l.drop j) = x + 10000 * m := by
          obtain ⟨h1, e1⟩ := List.getElem?_eq_some_iff.1 hx
          rw [List.drop_eq_getElem_cons h1, e1, valG, hval.out]
        by_cases hlt : t < m
        · have hno := Lib.hid (show ¬ valG l ≤ 9223372036854775807 by have := valG_drop_le l j; omega)
          clear hs ht hdr hx hc1
          go_wp2
          go_ret2
          have hn := hno.out
          exact ⟨by unfold smallV; rw [if_neg hn, decide_eq_false hn]; rfl, rfl⟩
        · obtain ⟨p, hp⟩ : ∃ p, p = m * 10000 := ⟨_, rfl⟩
          obtain ⟨q, hq⟩ : ∃ q, q = p + x := ⟨_, rfl⟩
          have a4 : IntKind.u64.wrap ((m : Int) * 10000) = (p : Int) := by rw [IntKind.wrap_u64]; omega
          have a5 : IntKind.u64.wrap ((p : Int) + (x : Int)) = (q : Int) := by rw [IntKind.wrap_u64]; omega
          have hv2 := Lib.hid (show valG (l.drop j) = q by omega)
          have hq2 := Lib.hid (show q ≤ 9223372036854775807 by omega)
          clear hs ht hdr hx hc1 hp hq
          go_wp2
          go_roundw
          case rel => exact ⟨by first | rfl | trivial, j, _, by omega, rfl, by go_num, q, rfl, hv2, hq2⟩
          case measure => simp [intOf]
end Go.Proofs.YtjnjklcnccfgaaaDoor
