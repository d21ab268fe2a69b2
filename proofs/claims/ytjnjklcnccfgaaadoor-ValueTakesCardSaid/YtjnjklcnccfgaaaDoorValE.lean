/-
  Package value: cmp.Compare, truth.
-/
import Derived.Test.YtjnjklcnccfgaaaDoorValD
import Derived.WalkSpells
import Derived.WalkLawsBesides
import Derived.StillTactics
import Derived.Laws.Pointers
import Derived.Deep.RegionHeld3
import Derived.Deep.QuietTactic
import Derived.BigQuiet
import Derived.RowKit3
import Derived.Lib.Hide
import Derived.Lib.OthersKept
import Derived.OwnWalk
import Derived.Lib.IndexLaws
import Derived.Lib.ItoaMem
namespace Go.Proofs.YtjnjklcnccfgaaaDoor
open Go.RowKit

theorem ret_i {a a' : Int} (h : a = a') : Ending.returned (.int .i64 a) = Ending.returned (.int .i64 a') := by rw [h]
/-- which of two numbers stands ahead -/
def cmpI (a b : Int) : Int := if a < b then -1 else if b < a then 1 else 0
set_option maxHeartbeats 400000 in
theorem nan_tag (a : Int) (w : World) : Calls Tryd.prog 108 #[.int .i64 a] w fun e w' => e = .returned (.bool false) ∧ w = w' := by
  go_enter Tryd.func108, Tryd.ntmps108
  go_wp2
  go_ret
  exact ⟨rfl, rfl⟩
set_option maxHeartbeats 400000 in
theorem cmp_tag (a b : Int) (w : World) : Calls Tryd.prog 77 #[.int .i64 a, .int .i64 b] w fun e w' => e = .returned (.int .i64 (cmpI a b)) ∧ Below w.heap.size w w' := by
  have key : cmpI a b = if a < b then -1 else if b < a then 1 else 0 := rfl
  go_enter Tryd.func77, Tryd.ntmps77
  go_wp2_with (go_at_call 108; refine (nan_tag _ _).mono ?_; rintro e w1 ⟨rfl, rfl⟩)
  all_goals go_ret
  all_goals refine ⟨ret_i ?_, Below.refl _ _⟩
  all_goals rw [key]
  all_goals repeat' split
  all_goals omega
set_option maxHeartbeats 400000 in
theorem nan_num (a : Int) (w : World) : Calls Tryd.prog 109 #[.int .i64 a] w fun e w' => e = .returned (.bool false) ∧ w = w' := by
  go_enter Tryd.func109, Tryd.ntmps109
  go_wp2
  go_ret
  exact ⟨rfl, rfl⟩
set_option maxHeartbeats 400000 in
theorem cmp_num (a b : Int) (w : World) : Calls Tryd.prog 78 #[.int .i64 a, .int .i64 b] w fun e w' => e = .returned (.int .i64 (cmpI a b)) ∧ Below w.heap.size w w' := by
  have key : cmpI a b = if a < b then -1 else if b < a then 1 else 0 := rfl
  go_enter Tryd.func78, Tryd.ntmps78
  go_wp2_with (go_at_call 109; refine (nan_num _ _).mono ?_; rintro e w1 ⟨rfl, rfl⟩)
  all_goals go_ret
  all_goals refine ⟨ret_i ?_, Below.refl _ _⟩
  all_goals rw [key]
  all_goals repeat' split
  all_goals omega
def b2i (b : Bool) : Int := if b then 1 else 0
theorem b2i_range (b : Bool) : 0 ≤ b2i b ∧ b2i b ≤ 1 := by cases b <;> simp [b2i]
set_option maxHeartbeats 400000 in
theorem truth_int (b : Bool) (w : World) : Calls Tryd.prog 80 #[.bool b] w fun e w' => e = .returned (.int .i64 (b2i b)) ∧ w = w' := by
  cases b
  all_goals
    go_enter Tryd.func80, Tryd.ntmps80
    go_wp2
    go_ret
    exact ⟨rfl, rfl⟩
end Go.Proofs.YtjnjklcnccfgaaaDoor
