/-
  Arguments of functions: may a single value be? (nums)
-/
import Derived.Test.YthobaffgllipfaaRows
import Derived.Test.YthobaffgllipfaaBase
import Derived.Test.YthobaffgllipfaaRowB
import Derived.Test.YthobaffgllipfaaDecA
import Derived.Test.YthobaffgllipfaaValA
import Derived.Test.YthobaffgllipfaaValB
import Derived.Test.YthobaffgllipfaaDecS
import Derived.Test.YthobaffgllipfaaValC
import Derived.Test.YthobaffgllipfaaAddrC
import Derived.Test.YthobaffgllipfaaAddrI
import Derived.Test.YthobaffgllipfaaMapK
import Derived.Test.YthobaffgllipfaaArgK
import Derived.WalkSpells
import Derived.WalkLawsBesides
import Derived.StillTactics
import Derived.Laws.Pointers
import Derived.Deep.RegionHeld3
import Derived.Deep.QuietTactic
import Derived.BigQuiet
import Derived.RowKit3
import Derived.Lib.Hide
import Derived.Lib.OthersKept
import Derived.OwnWalk
import Derived.Lib.IndexLaws
import Derived.Lib.ItoaMem
import Derived.WalkKit
import Derived.ProofKit
import Derived.OpenShut
import Derived.Carry
import Derived.ChangeSame
import Derived.Deep.Draws
import Derived.Maps.OwnSet
import Derived.Maps.AppendAt
namespace Go.Proofs.Ythobaffgllipfaa
open Go.RowKit

set_option maxHeartbeats 1000000 in
theorem nmay_single (t n : Int) (s : ByteArray) (b : Bool) (c : Int) (hn : -9223372036854775808 ≤ n ∧ n ≤ 9223372036854775807) (rt rl rb rr : Int) (A : Option Addr) (m cap : Nat) (w : World) : Calls Try.prog 21 #[.agg #[.bool false, .int .i64 t, .int .i64 n, .string s, .bool b, .int .i64 c, .int .i64 rt, .int .i64 rl, .int .i64 rb, .int .i64 rr, .slice A m cap]] w fun e w' => e = .returned (.bool (((decide (rt = 0) && decide (rl = 0) && decide (rb = 0) && decide (rr = 0)) && decide (m = 0)) && vMay t n s b c)) ∧ Below w.heap.size w w' := by
  go_enter Try.func21, Try.ntmps21
  go_wp2_with (go_at_call 48; refine (vmay_any t n s b c hn _).mono ?_; rintro e w1 ⟨rfl, hb⟩)
  all_goals go_ret
  all_goals refine ⟨ret_b ?_, by (repeat (first | (with_reducible exact Below.refl _ _) | (with_reducible refine Below.alloc ?_ (by first | omega | (dsimp only; omega) | (simp <;> omega)) _) | (with_reducible refine Below.setCell ?_ (by first | omega | (dsimp only; omega) | (simp <;> omega)) _) | (with_reducible refine Below.drew ?_) | (with_reducible refine below_drewN ?_ _) | (with_reducible refine Below.trans ?_ (Below.mono (by assumption) (by first | omega | (dsimp only; omega) | (simp <;> omega))))))⟩
  all_goals simp [*]
end Go.Proofs.Ythobaffgllipfaa
