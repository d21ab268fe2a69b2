/-
  Package value: bare, May.
-/
import Derived.Test.YtiekhbagpmnboaaGreatDoorRows
import Derived.Test.YtiekhbagpmnboaaGreatDoorBase
import Derived.Test.YtiekhbagpmnboaaGreatDoorDecA
import Derived.Test.YtiekhbagpmnboaaGreatDoorValA
import Derived.WalkSpells
import Derived.WalkLawsBesides
import Derived.StillTactics
import Derived.Laws.Pointers
import Derived.Deep.RegionHeld3
import Derived.Deep.QuietTactic
import Derived.BigQuiet
import Derived.RowKit3
import Derived.Lib.Hide
import Derived.Lib.OthersKept
import Derived.OwnWalk
import Derived.Lib.IndexLaws
import Derived.Lib.ItoaMem
import Derived.WalkKit
import Derived.ProofKit
import Derived.OpenShut
import Derived.Carry
import Derived.ChangeSame
import Derived.Deep.Draws
namespace Go.Proofs.YtiekhbagpmnboaaGreatDoor
open Go.RowKit

/-- tags that are none -/
def lowT (k : Nat) : Int := -(k : Int) - 1
def highT (k : Nat) : Int := (k : Int) + 5
@[go_sem, simp] theorem lowT_lt (k : Nat) : (lowT k < 0) = True := by unfold lowT; simp; omega
@[go_sem, simp] theorem highT_lt (k : Nat) : (highT k < 0) = False := by unfold highT; simp; omega
@[go_sem, simp] theorem highT_gt (k : Nat) : (4 < highT k) = True := by unfold highT; simp; omega
@[go_sem, simp] theorem highT_ge (k : Nat) : (highT k > 4) = True := by unfold highT; simp; omega
end Go.Proofs.YtiekhbagpmnboaaGreatDoor
