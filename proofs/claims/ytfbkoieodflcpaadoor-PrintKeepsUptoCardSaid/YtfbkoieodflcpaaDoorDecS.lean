/-
  Neg, Add, Sub of package dec, and the document's own.
-/
import Derived.Test.YtfbkoieodflcpaaDoorRows
import Derived.Test.YtfbkoieodflcpaaDoorBase
import Derived.Test.YtfbkoieodflcpaaDoorDecA
import Derived.WalkSpells
import Derived.WalkLawsBesides
import Derived.StillTactics
import Derived.Laws.Pointers
import Derived.Deep.RegionHeld3
import Derived.Deep.QuietTactic
import Derived.BigQuiet
import Derived.RowKit3
import Derived.Lib.Hide
import Derived.Lib.OthersKept
import Derived.OwnWalk
import Derived.Lib.IndexLaws
import Derived.Lib.ItoaMem
import Derived.WalkKit
import Derived.ProofKit
import Derived.OpenShut
import Derived.Carry
import Derived.ChangeSame
import Derived.Deep.Draws
namespace Go.Proofs.YtfbkoieodflcpaaDoor
open Go.RowKit

theorem may_no {x : Int} (h : x = -9223372036854775808) : decMay x = false := by subst h; decide
theorem may_yes {x : Int} (h : x ≠ -9223372036854775808) : decMay x = true := by simp [decMay, h]
end Go.Proofs.YtfbkoieodflcpaaDoor
