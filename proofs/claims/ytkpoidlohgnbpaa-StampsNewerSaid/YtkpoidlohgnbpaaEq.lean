/-
  Equality of cells and of rectangles, as the walk meets it.
-/
import Derived.Test.YtkpoidlohgnbpaaRows
import Derived.Test.YtkpoidlohgnbpaaBase
import Derived.Test.YtkpoidlohgnbpaaAddrC
import Derived.WalkSpells
import Derived.WalkLawsBesides
import Derived.StillTactics
import Derived.Laws.Pointers
import Derived.Deep.RegionHeld3
import Derived.Deep.QuietTactic
import Derived.BigQuiet
import Derived.RowKit3
import Derived.Lib.Hide
import Derived.WalkKit
import Derived.ProofKit
import Derived.OpenShut
import Derived.Carry
import Derived.ChangeSame
import Derived.Deep.Draws
import Derived.Lib.OthersKept
import Derived.OwnWalk
import Derived.Lib.IndexLaws
namespace Go.Proofs.Ytkpoidlohgnbpaa
open Go.RowKit

/-- two cells are the same -/
def cellEq (a b c d : Int) : Bool := decide (a = c) && decide (b = d)
/-- two rectangles are the same -/
def rectEq (a b c d a' b' c' d' : Int) : Bool := decide (a = a') && decide (b = b') && decide (c = c') && decide (d = d')
theorem cellEq_same (a b : Int) : cellEq a b a b = true := by simp [cellEq]
theorem rectEq_same (a b c d : Int) : rectEq a b c d a b c d = true := by simp [rectEq]

@[go_sem high] theorem eql_cell (a b c d : Int) (w : World) : (binOp .eql 30 (.agg #[.int .i64 a, .int .i64 b]) (.agg #[.int .i64 c, .int .i64 d])).run Try.prog w = .ok (.bool (cellEq a b c d)) w := by
  by_cases h1 : a = c <;> by_cases h2 : b = d <;> simp [go_sem, cellEq, h1, h2]
@[go_sem high] theorem neq_cell (a b c d : Int) (w : World) : (binOp .neq 30 (.agg #[.int .i64 a, .int .i64 b]) (.agg #[.int .i64 c, .int .i64 d])).run Try.prog w = .ok (.bool (!cellEq a b c d)) w := by
  by_cases h1 : a = c <;> by_cases h2 : b = d <;> simp [go_sem, cellEq, h1, h2]
end Go.Proofs.Ytkpoidlohgnbpaa
