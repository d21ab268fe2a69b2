/-
  Package dec and the document's own: May, size, signed.
-/
import Derived.Test.YtfbkoieodflcpaaGreatDoorRows
import Derived.Test.YtfbkoieodflcpaaGreatDoorBase
import Derived.WalkSpells
import Derived.WalkLawsBesides
import Derived.StillTactics
import Derived.Laws.Pointers
import Derived.Deep.RegionHeld3
import Derived.Deep.QuietTactic
import Derived.BigQuiet
import Derived.RowKit3
import Derived.Lib.Hide
import Derived.Lib.OthersKept
import Derived.OwnWalk
import Derived.Lib.IndexLaws
import Derived.Lib.ItoaMem
import Derived.WalkKit
import Derived.ProofKit
import Derived.OpenShut
import Derived.Carry
import Derived.ChangeSame
import Derived.Deep.Draws
namespace Go.Proofs.YtfbkoieodflcpaaGreatDoor
open Go.RowKit

/-- may a number be? -/
def decMay (x : Int) : Bool := !(decide (x = -9223372036854775808))
/-- a number's size -/
def absI (x : Int) : Int := if x < 0 then -x else x

theorem ret_ub {a a' : Int} {b b' : Bool} (h : a = a') (k : b = b') : Ending.returned (.tuple #[.int .u64 a, .bool b]) = Ending.returned (.tuple #[.int .u64 a', .bool b']) := by rw [h, k]
theorem ret_b {b b' : Bool} (k : b = b') : Ending.returned (.bool b) = Ending.returned (.bool b') := by rw [k]

set_option maxHeartbeats 400000 in
theorem dmay_any (x : Int) (hx : -9223372036854775808 ≤ x ∧ x ≤ 9223372036854775807) (w : World) : Calls Tryz.prog 60 #[.int .i64 x] w fun e w' => e = .returned (.bool (decMay x)) ∧ w = w' := by
  obtain ⟨x0, x1⟩ := hx
  go_enter Tryz.func60, Tryz.ntmps60
  go_wp2
  all_goals go_ret
  all_goals refine ⟨ret_b (Bool.eq_iff_iff.2 ?_), rfl⟩
  all_goals simp [decMay]
  all_goals try omega
set_option maxHeartbeats 400000 in
theorem drmay_any (x : Int) (hx : -9223372036854775808 ≤ x ∧ x ≤ 9223372036854775807) (w : World) : Calls Tryz.prog 73 #[.int .i64 x] w fun e w' => e = .returned (.bool (decMay x)) ∧ w = w' := by
  obtain ⟨x0, x1⟩ := hx
  go_enter Tryz.func73, Tryz.ntmps73
  go_wp2
  all_goals go_ret
  all_goals refine ⟨ret_b (Bool.eq_iff_iff.2 ?_), rfl⟩
  all_goals simp [decMay]
  all_goals try omega
set_option maxHeartbeats 400000 in
theorem size_any (x : Int) (hx : -9223372036854775808 ≤ x ∧ x ≤ 9223372036854775807) (w : World) : Calls Tryz.prog 61 #[.int .i64 x] w fun e w' => e = .returned (.tuple #[.int .u64 (absI x), .bool (decide (x < 0))]) ∧ w = w' := by
  obtain ⟨x0, x1⟩ := hx
  go_enter Tryz.func61, Tryz.ntmps61
  go_wp2
  all_goals go_ret2
  all_goals refine ⟨ret_ub ?_ (Bool.eq_iff_iff.2 ?_), rfl⟩
  all_goals simp [absI, IntKind.wrap_u64]
  all_goals repeat' split
  all_goals omega
set_option maxHeartbeats 400000 in
theorem rsize_any (x : Int) (hx : -9223372036854775808 ≤ x ∧ x ≤ 9223372036854775807) (w : World) : Calls Tryz.prog 74 #[.int .i64 x] w fun e w' => e = .returned (.tuple #[.int .u64 (absI x), .bool (decide (x < 0))]) ∧ w = w' := by
  obtain ⟨x0, x1⟩ := hx
  go_enter Tryz.func74, Tryz.ntmps74
  go_wp2
  all_goals go_ret2
  all_goals refine ⟨ret_ub ?_ (Bool.eq_iff_iff.2 ?_), rfl⟩
  all_goals simp [absI, IntKind.wrap_u64, wrap64]
  all_goals repeat' split
  all_goals omega
end Go.Proofs.YtfbkoieodflcpaaGreatDoor
