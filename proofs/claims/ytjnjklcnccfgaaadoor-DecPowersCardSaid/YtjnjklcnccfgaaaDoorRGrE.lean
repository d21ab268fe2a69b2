/-
  The document's great numbers: raised.
-/
import Derived.Test.YtjnjklcnccfgaaaDoorRGrD
import Derived.WalkSpells
import Derived.WalkLawsBesides
import Derived.StillTactics
import Derived.Laws.Pointers
import Derived.Deep.RegionHeld3
import Derived.Deep.QuietTactic
import Derived.BigQuiet
import Derived.RowKit3
import Derived.Lib.Hide
import Derived.Lib.OthersKept
import Derived.OwnWalk
import Derived.Lib.IndexLaws
import Derived.Lib.ItoaMem
namespace Go.Proofs.YtjnjklcnccfgaaaDoor
open Go.RowKit

theorem product_held {B : Nat} {w0 w : World} {v : Value} {l : List Nat} (h : HeldG B w0 w v l) (b : List Nat) (hb : ∀ d ∈ b, d < 10000) (hlen : l.length + b.length ≤ 1000000) (A' : Option Addr) (cap' : Nat) (hR' : RdB w w.heap.size A' 1 (b.map fun (d : Nat) => [Value.int .i64 (d : Int)])) : Calls Tryd.prog 106 #[v, .slice A' b.length cap'] w fun e w' => ∃ u l', e = .returned u ∧ HeldG B w0 w' u l' ∧ Hid (valG l' = valG l * valG b) ∧ Hid (CanG l') ∧ l'.length ≤ l.length + b.length := by
  obtain ⟨A, cap, rfl, hR⟩ := rdG_own h.own
  refine (product_any l b h.dig hb hlen w A A' cap cap' hR hR').mono ?_
  rintro e w' ⟨u, l', rfl, hw, hv, hc, hl⟩
  exact ⟨u, l', rfl, ⟨ownsRow_base hw.own h.siz, hw.dig, h.bel.trans (hw.bel.mono h.siz), Nat.le_trans h.siz hw.bel.size⟩, Lib.hid hv, Lib.hid hc, hl⟩
set_option maxRecDepth 100000 in
set_option maxHeartbeats 2000000 in
theorem raised_any (a : List Nat) (ha : ∀ d ∈ a, d < 10000) (hlen : a.length ≤ 1000) (n : Nat) (hn : n ≤ 64) (w : World) (A : Option Addr) (cap : Nat) (hR : RdB w w.heap.size A 1 (a.map fun (d : Nat) => [Value.int .i64 (d : Int)])) : Calls Tryd.prog 102 #[.slice A a.length cap, .int .i64 (n : Int)] w (GreatAt (valG a ^ n) (1 + n * a.length) w) := by
  have hH := Lib.hid (And.intro ha hR)
  clear ha hR
  go_enter Tryd.func102, Tryd.ntmps102
  go_wp2
  have hst0 : HeldG w.heap.size w (w.alloc (Obj.cells #[Value.int .i64 1] 3)) (.slice (some ⟨w.heap.size, 0, none⟩) 1 1) [1] := by
    refine ⟨⟨rfl, .inr ⟨w.heap.size, 1, #[.int .i64 1], rfl, Nat.le_refl _, by show (w.heap.push _)[w.heap.size]? = _; simp, Nat.le_refl _, by unfold maxLen; omega, rfl, rfl⟩⟩, by simp, (Below.refl _ _).alloc (Nat.le_refl _) _, by simp⟩
  go_loopw [5, 6] (fun ov iv wr => ∃ (i : Nat) (l : List Nat), i ≤ n ∧ iv = .int .i64 (i : Int) ∧ HeldG w.heap.size w wr ov l ∧ Hid (valG l = valG a ^ i) ∧ Hid (CanG l) ∧ Hid (l.length ≤ 1 + i * a.length)) (fun _ iv _ => n - (intOf iv).toNat)
  case atStart => exact ⟨0, [1], Nat.zero_le _, rfl, hst0, Lib.hid (by simp [valG]), Lib.hid (fun d h => by simp at h; omega), Lib.hid (by simp)⟩
  case round =>
    obtain ⟨i, l, hin, rfl, hw, hval, hcan, hl⟩ := hrel
    by_cases hlt : i < n
    · have hil : (i : Int) < (n : Int) := by omega
      have hwi : IntKind.i64.wrap ((i : Int) + 1) = (i : Int) + 1 := IntWalk.i64_in _ (by omega)
      have hbd : l.length + a.length ≤ 1000000 := by
        have h1 := hl.out
        have h2 : i * a.length ≤ 64 * 1000 := Nat.mul_le_mul (by omega) hlen
        omega
      have C := Lib.hid (product_held hw a hH.out.1 hbd A cap (hH.out.2.below hw.bel |>.mono hw.bel.size))
      clear hst0
      go_wp2_with fail
      with_reducible refine C.out.mono ?_
      rintro e w2 ⟨u, l', rfl, hw2, hv2, hc2, hl2⟩
      have hwH := Lib.hid hw2
      clear hw2
      go_wp2
      go_roundw
      case rel => exact ⟨i + 1, l', by omega, by go_num, hwH.out, Lib.hid (by rw [hv2.out, hval.out, Nat.pow_succ]), hc2, Lib.hid (by have := hl.out; rw [Nat.add_mul]; omega)⟩
      case measure => simp [intOf]; omega
    · obtain rfl : n = i := by omega
      have hil : ¬ ((n : Int) < (n : Int)) := by omega
      clear hst0
      go_wp2
      go_ret
      exact ⟨_, l, rfl, hw, hval.out, hcan.out, hl.out⟩
end Go.Proofs.YtjnjklcnccfgaaaDoor
