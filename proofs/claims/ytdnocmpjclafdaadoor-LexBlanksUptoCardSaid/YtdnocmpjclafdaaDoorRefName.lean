/-
  The document's own names of cells: column, digits, Name.
-/
import Derived.Test.YtdnocmpjclafdaaDoorRows
import Derived.Test.YtdnocmpjclafdaaDoorBase
import Derived.Test.YtdnocmpjclafdaaDoorAddrC
import Derived.Test.YtdnocmpjclafdaaDoorNames
import Derived.Test.YtdnocmpjclafdaaDoorParseW
import Derived.WalkSpells
import Derived.WalkLawsBesides
import Derived.StillTactics
import Derived.Laws.Pointers
import Derived.Deep.RegionHeld3
import Derived.Deep.QuietTactic
import Derived.BigQuiet
import Derived.RowKit3
import Derived.Lib.Hide
import Derived.Lib.OthersKept
import Derived.WalkKit
import Derived.ProofKit
import Derived.OpenShut
import Derived.Carry
import Derived.ChangeSame
import Derived.Deep.Draws
import Derived.OwnWalk
import Derived.Lib.IndexLaws
import Derived.Lib.ItoaNum
import Derived.Lib.ItoaMem
namespace Go.Proofs.YtdnocmpjclafdaaDoor
open Go.RowKit

theorem bytes_append (a b : List UInt8) : (⟨a.toArray⟩ : ByteArray) ++ ⟨b.toArray⟩ = ⟨(a ++ b).toArray⟩ := by
  apply ByteArray.ext
  simp

end Go.Proofs.YtdnocmpjclafdaaDoor
