/-
  Package dec: Floor, Whole of both.
-/
import Derived.Test.YtaomlgpakbjegaaGreatDoorRows
import Derived.Test.YtaomlgpakbjegaaGreatDoorBase
import Derived.Test.YtaomlgpakbjegaaGreatDoorMg4
import Derived.WalkSpells
import Derived.WalkLawsBesides
import Derived.StillTactics
import Derived.Laws.Pointers
import Derived.Deep.RegionHeld3
import Derived.Deep.QuietTactic
import Derived.BigQuiet
import Derived.RowKit3
import Derived.Lib.Hide
import Derived.Lib.OthersKept
import Derived.OwnWalk
import Derived.Lib.IndexLaws
import Derived.Lib.ItoaMem
import Derived.WalkKit
import Derived.ProofKit
import Derived.OpenShut
import Derived.Carry
import Derived.ChangeSame
import Derived.Deep.Draws
import Derived.Laws.BitsAllLaws
namespace Go.Proofs.YtaomlgpakbjegaaGreatDoor
open Go.RowKit

/-- Whole -/
def wholeV (x : Int) : Int := if x ≠ -9223372036854775808 ∧ x.tmod 10000 = 0 then x.tdiv 10000 else 0
def wholeB (x : Int) : Bool := decide (x ≠ -9223372036854775808) && decide (x.tmod 10000 = 0)
set_option maxHeartbeats 1000000 in
theorem whole_no (x : Int) (hx : -9223372036854775808 ≤ x ∧ x ≤ 9223372036854775807) (h : x = -9223372036854775808) (w : World) : Calls Tryz.prog 45 #[.int .i64 x] w fun e w' => e = .returned (.tuple #[.int .i64 0, .bool false]) ∧ w = w' := by
  have m1 := may_no h
  clear h
  go_enter Tryz.func45, Tryz.ntmps45
  go_wp2_with (go_at_call 107; refine (dmay_any _ (by first | assumption | (constructor <;> omega)) _).mono ?_; rintro e w1 ⟨rfl, rfl⟩)
  go_ret2
  exact ⟨rfl, rfl⟩
set_option maxHeartbeats 1000000 in
theorem whole_part (x : Int) (hx : -9223372036854775808 ≤ x ∧ x ≤ 9223372036854775807) (h : x ≠ -9223372036854775808) (m : Int) (hm : x.tmod 10000 = m) (h4 : (m != 0) = true) (w : World) : Calls Tryz.prog 45 #[.int .i64 x] w fun e w' => e = .returned (.tuple #[.int .i64 0, .bool false]) ∧ w = w' := by
  have m1 := may_yes h
  have hr := tmod_lt x 10000 (by omega)
  rw [hm] at hr
  have hr1 : -10000 < m ∧ m < 10000 := by omega
  clear hr h
  go_enter Tryz.func45, Tryz.ntmps45
  go_wp2_with (go_at_call 107; refine (dmay_any _ (by first | assumption | (constructor <;> omega)) _).mono ?_; rintro e w1 ⟨rfl, rfl⟩)
  go_ret2
  exact ⟨rfl, rfl⟩
set_option maxHeartbeats 1000000 in
theorem whole_yes (x : Int) (hx : -9223372036854775808 ≤ x ∧ x ≤ 9223372036854775807) (h : x ≠ -9223372036854775808) (hm : x.tmod 10000 = 0) (w : World) : Calls Tryz.prog 45 #[.int .i64 x] w fun e w' => e = .returned (.tuple #[.int .i64 (x.tdiv 10000), .bool true]) ∧ w = w' := by
  have m1 := may_yes h
  have hd : -9223372036854775808 ≤ x.tdiv 10000 ∧ x.tdiv 10000 ≤ 9223372036854775807 := by
    have h1 := Int.mul_tdiv_add_tmod x 10000
    omega
  clear h
  go_enter Tryz.func45, Tryz.ntmps45
  go_wp2_with (go_at_call 107; refine (dmay_any _ (by first | assumption | (constructor <;> omega)) _).mono ?_; rintro e w1 ⟨rfl, rfl⟩)
  go_ret2
  first | exact ⟨rfl, rfl⟩ | (refine ⟨ret_ib ?_ rfl, rfl⟩; first | exact IntWalk.i64_in _ hd | (unfold wrap64; omega))
theorem whole_any (x : Int) (hx : -9223372036854775808 ≤ x ∧ x ≤ 9223372036854775807) (w : World) : Calls Tryz.prog 45 #[.int .i64 x] w fun e w' => e = .returned (.tuple #[.int .i64 (wholeV x), .bool (wholeB x)]) ∧ w = w' := by
  by_cases h : x = -9223372036854775808
  · rw [show wholeV x = 0 from if_neg (by simp [h]), show wholeB x = false by simp [wholeB, h]]
    exact whole_no x hx h w
  by_cases hm : x.tmod 10000 = 0
  · rw [show wholeV x = x.tdiv 10000 from if_pos ⟨h, hm⟩, show wholeB x = true by simp [wholeB, h, hm]]
    exact whole_yes x hx h hm w
  · rw [show wholeV x = 0 from if_neg (by simp [hm]), show wholeB x = false by simp [wholeB, hm]]
    exact whole_part x hx h _ rfl (by simpa using hm) w
end Go.Proofs.YtaomlgpakbjegaaGreatDoor
