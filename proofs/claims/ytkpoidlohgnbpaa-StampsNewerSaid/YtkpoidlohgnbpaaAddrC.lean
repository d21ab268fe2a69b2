/-
  Contracts of the functions of package addr that only compute (May, MayRect, In, Before), and of the document's own.
-/
import Derived.Test.YtkpoidlohgnbpaaRows
import Derived.Test.YtkpoidlohgnbpaaBase
import Derived.WalkSpells
import Derived.WalkLawsBesides
import Derived.StillTactics
import Derived.Laws.Pointers
import Derived.Deep.RegionHeld3
import Derived.Deep.QuietTactic
import Derived.BigQuiet
import Derived.RowKit3
import Derived.Lib.Hide
import Derived.Lib.OthersKept
import Derived.OwnWalk
import Derived.Lib.IndexLaws
import Derived.WalkKit
import Derived.ProofKit
import Derived.OpenShut
import Derived.Carry
import Derived.ChangeSame
import Derived.Deep.Draws
namespace Go.Proofs.Ytkpoidlohgnbpaa
open Go.RowKit

/-- is a cell in a rectangle? -/
def inB (t l b r row col : Int) : Bool := decide (t ≤ row) && decide (row ≤ b) && decide (l ≤ col) && decide (col ≤ r)
/-- may a cell be? -/
def mayB (row col : Int) : Bool := decide (1 ≤ row) && decide (row ≤ 4096) && decide (1 ≤ col) && decide (col ≤ 256)
/-- may a rectangle be? -/
def mayRectB (t l b r : Int) : Bool := mayB t l && mayB b r && decide (t ≤ b) && decide (l ≤ r)
/-- does a cell stand ahead of another one? -/
def befB (r c r' c' : Int) : Bool := decide (r < r') || (decide (r = r') && decide (c < c'))

set_option maxHeartbeats 400000 in
theorem may_any (a b : Int) (w : World) :
    Calls Try.prog 17 #[.agg #[.int .i64 a, .int .i64 b]] w
      fun e w' => e = .returned (.bool (mayB a b)) ∧ Below w.heap.size w w' := by
  go_enter Try.func17, Try.ntmps17
  go_wp2
  all_goals go_ret
  all_goals refine ⟨congrArg (fun b => Ending.returned (Value.bool b)) (Bool.eq_iff_iff.2 ?_), by (repeat (first | (with_reducible exact Below.refl _ _) | (with_reducible refine Below.alloc ?_ (by first | omega | (dsimp only; omega) | (simp <;> omega)) _) | (with_reducible refine Below.setCell ?_ (by first | omega | (dsimp only; omega) | (simp <;> omega)) _) | (with_reducible refine Below.drew ?_) | (with_reducible refine below_drewN ?_ _) | (with_reducible refine Below.trans ?_ (Below.mono (by assumption) (by first | omega | (dsimp only; omega) | (simp <;> omega))))))⟩
  all_goals simp [mayB]
  all_goals omega
set_option maxHeartbeats 400000 in
theorem rmay_any (a b : Int) (w : World) :
    Calls Try.prog 8 #[.agg #[.int .i64 a, .int .i64 b]] w
      fun e w' => e = .returned (.bool (mayB a b)) ∧ Below w.heap.size w w' := by
  go_enter Try.func8, Try.ntmps8
  go_wp2
  all_goals go_ret
  all_goals refine ⟨congrArg (fun b => Ending.returned (Value.bool b)) (Bool.eq_iff_iff.2 ?_), by (repeat (first | (with_reducible exact Below.refl _ _) | (with_reducible refine Below.alloc ?_ (by first | omega | (dsimp only; omega) | (simp <;> omega)) _) | (with_reducible refine Below.setCell ?_ (by first | omega | (dsimp only; omega) | (simp <;> omega)) _) | (with_reducible refine Below.drew ?_) | (with_reducible refine below_drewN ?_ _) | (with_reducible refine Below.trans ?_ (Below.mono (by assumption) (by first | omega | (dsimp only; omega) | (simp <;> omega))))))⟩
  all_goals simp [mayB]
  all_goals omega
end Go.Proofs.Ytkpoidlohgnbpaa
