/-
  Print of package dec: the text of any number.
-/
import Derived.Test.YthobaffgllipfaaRows
import Derived.Test.YthobaffgllipfaaBase
import Derived.Test.YthobaffgllipfaaDecA
import Derived.Test.YthobaffgllipfaaDecS
import Derived.Test.YthobaffgllipfaaProg
import Derived.Test.YthobaffgllipfaaShelf
import Derived.Test.YthobaffgllipfaaPrintL
import Derived.WalkSpells
import Derived.WalkLawsBesides
import Derived.StillTactics
import Derived.Laws.Pointers
import Derived.Deep.RegionHeld3
import Derived.Deep.QuietTactic
import Derived.BigQuiet
import Derived.RowKit3
import Derived.Lib.Hide
import Derived.Lib.OthersKept
import Derived.OwnWalk
import Derived.Lib.IndexLaws
import Derived.Lib.ItoaMem
import Derived.WalkKit
import Derived.ProofKit
import Derived.OpenShut
import Derived.Carry
import Derived.ChangeSame
import Derived.Deep.Draws
import Derived.Shelf.Small.Bits
import Derived.Shelf.Strconv.Itoa0
import Derived.Shelf.Bits.Mul64
import Derived.Lib.TrimByte
namespace Go.Proofs.Ythobaffgllipfaa
open Go.RowKit

theorem absI_nat (x : Int) : absI x = (x.natAbs : Int) := by unfold absI; split <;> omega
theorem size_nat (x : Int) (N : Nat) (hx : -9223372036854775808 ≤ x ∧ x ≤ 9223372036854775807) (h : x.natAbs = N) (w : World) : Calls Try.prog 58 #[.int .i64 x] w fun e w' => e = .returned (.tuple #[.int .u64 N, .bool (decide (x < 0))]) ∧ w = w' := by
  have := size_any x hx w
  rw [absI_nat, h] at this
  exact this
end Go.Proofs.Ythobaffgllipfaa
