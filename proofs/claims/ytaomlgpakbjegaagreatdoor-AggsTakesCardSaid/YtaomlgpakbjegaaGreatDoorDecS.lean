/-
  Neg, Add, Sub of package dec, and the document's own.
-/
import Derived.Test.YtaomlgpakbjegaaGreatDoorRows
import Derived.Test.YtaomlgpakbjegaaGreatDoorBase
import Derived.Test.YtaomlgpakbjegaaGreatDoorDecA
import Derived.WalkSpells
import Derived.WalkLawsBesides
import Derived.StillTactics
import Derived.Laws.Pointers
import Derived.Deep.RegionHeld3
import Derived.Deep.QuietTactic
import Derived.BigQuiet
import Derived.RowKit3
import Derived.Lib.Hide
import Derived.Lib.OthersKept
import Derived.OwnWalk
import Derived.Lib.IndexLaws
import Derived.Lib.ItoaMem
import Derived.WalkKit
import Derived.ProofKit
import Derived.OpenShut
import Derived.Carry
import Derived.ChangeSame
import Derived.Deep.Draws
namespace Go.Proofs.YtaomlgpakbjegaaGreatDoor
open Go.RowKit

theorem may_no {x : Int} (h : x = -9223372036854775808) : decMay x = false := by subst h; decide
theorem may_yes {x : Int} (h : x ≠ -9223372036854775808) : decMay x = true := by simp [decMay, h]
/-- the wrapped sum, by name -/
theorem sum_in {a b : Int} (h0 : -9223372036854775807 ≤ a + b) (h1 : a + b ≤ 9223372036854775807) : exV (a + b) = a + b ∧ exC (a + b) = 0 := by simp [exV, exC]; omega
theorem sum_out {n : Int} (h : n < -9223372036854775807 ∨ 9223372036854775807 < n) : exV n = 0 ∧ exC n = 2 := by simp [exV, exC]; omega

theorem sub_eq {a b : Int} (hb : b ≤ 9223372036854775807) (h : b ≠ -9223372036854775808) : subV a b = addV a (-b) ∧ subC a b = addC a (-b) := by
  have h4 : ¬ (-b = -9223372036854775808) := by omega
  simp [subV, subC, addV, addC, h, h4, Int.sub_eq_add_neg]
end Go.Proofs.YtaomlgpakbjegaaGreatDoor
