/-
  The document's Parse of a number, by cases: what the two share.
-/
import Derived.Test.YtjnjklcnccfgaaaDoorRDig
import Derived.WalkSpells
import Derived.WalkLawsBesides
import Derived.StillTactics
import Derived.Laws.Pointers
import Derived.Deep.RegionHeld3
import Derived.Deep.QuietTactic
import Derived.BigQuiet
import Derived.RowKit3
import Derived.Lib.Hide
import Derived.Lib.OthersKept
import Derived.OwnWalk
import Derived.Lib.IndexLaws
import Derived.Lib.ItoaMem
namespace Go.Proofs.YtjnjklcnccfgaaaDoor
open Go.RowKit

theorem rdigits_as (l : List UInt8) (z : Int) (at' k : Nat) (hz : z = (at' : Int)) (hl : l.length ≤ 9223372036854775807) (ha : at' ≤ l.length) (hk : ((l.drop at').takeWhile isDig).length = k) (w : World) : Calls Tryd.prog 90 #[.string ⟨l.toArray⟩, .int .i64 z] w fun e w' => e = .returned (.int .i64 (k : Int)) ∧ w = w' := by
  subst hz
  exact rdigits_t l at' k hl ha hk w
end Go.Proofs.YtjnjklcnccfgaaaDoor
