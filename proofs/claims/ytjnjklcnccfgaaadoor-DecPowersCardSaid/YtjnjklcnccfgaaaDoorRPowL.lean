/-
  Powers: the document's rounding and the program's are one (plain).
-/
import Derived.Test.YtjnjklcnccfgaaaDoorRGrJ
import Derived.Test.YtjnjklcnccfgaaaDoorDPowC
import Derived.Test.YtjnjklcnccfgaaaDoorRPowP
import Derived.WalkSpells
import Derived.WalkLawsBesides
import Derived.StillTactics
import Derived.Laws.Pointers
import Derived.Deep.RegionHeld3
import Derived.Deep.QuietTactic
import Derived.BigQuiet
import Derived.RowKit3
import Derived.Lib.Hide
import Derived.Lib.OthersKept
import Derived.OwnWalk
import Derived.Lib.IndexLaws
import Derived.Lib.ItoaMem
namespace Go.Proofs.YtjnjklcnccfgaaaDoor
open Go.RowKit

/-- the quotient, rounded: the exponent below nought -/
theorem powH_low (m k q r : Nat) (hk : 0 < k) (h : 10000 ^ (1 + k) = m ^ k * q + r) (hr : r < m ^ k) : (powH m (-(k : Int)) + 1) / 2 = if 2 * r < m ^ k then q else q + 1 := by
  have e : powH m (-(k : Int)) = 2 * 10000 ^ (1 + k) / m ^ k := by
    unfold powH
    rw [if_neg (by omega), show (-(-(k : Int))).toNat = k by omega]
  rw [e]
  exact round_div _ _ q r h hr
end Go.Proofs.YtjnjklcnccfgaaaDoor
