/-
  Package value: Compare.
-/
import Derived.Test.YthobaffgllipfaaRows
import Derived.Test.YthobaffgllipfaaBase
import Derived.Test.YthobaffgllipfaaDecA
import Derived.Test.YthobaffgllipfaaValA
import Derived.Test.YthobaffgllipfaaValB
import Derived.Test.YthobaffgllipfaaDecS
import Derived.Test.YthobaffgllipfaaValC
import Derived.Test.YthobaffgllipfaaValE
import Derived.Test.YthobaffgllipfaaProg
import Derived.Test.YthobaffgllipfaaShelf
import Derived.WalkSpells
import Derived.WalkLawsBesides
import Derived.StillTactics
import Derived.Laws.Pointers
import Derived.Deep.RegionHeld3
import Derived.Deep.QuietTactic
import Derived.BigQuiet
import Derived.RowKit3
import Derived.Lib.Hide
import Derived.Lib.OthersKept
import Derived.OwnWalk
import Derived.Lib.IndexLaws
import Derived.Lib.ItoaMem
import Derived.WalkKit
import Derived.ProofKit
import Derived.OpenShut
import Derived.Carry
import Derived.ChangeSame
import Derived.Deep.Draws
import Derived.Shelf.Small.Bits
import Derived.Shelf.Strconv.Itoa0
import Derived.Shelf.Bits.Mul64
namespace Go.Proofs.Ythobaffgllipfaa
open Go.RowKit

theorem vmay_yes (t n : Int) (s : ByteArray) (b : Bool) (c : Int) (hn : -9223372036854775808 ≤ n ∧ n ≤ 9223372036854775807) (h : vMay t n s b c = true) (w : World) : Calls Try.prog 48 #[.agg #[.int .i64 t, .int .i64 n, .string s, .bool b, .int .i64 c]] w fun e w' => e = .returned (.bool true) ∧ Below w.heap.size w w' := by
  have := vmay_any t n s b c hn w
  rw [h] at this
  exact this
theorem vmay_not (t n : Int) (s : ByteArray) (b : Bool) (c : Int) (hn : -9223372036854775808 ≤ n ∧ n ≤ 9223372036854775807) (h : vMay t n s b c = false) (w : World) : Calls Try.prog 48 #[.agg #[.int .i64 t, .int .i64 n, .string s, .bool b, .int .i64 c]] w fun e w' => e = .returned (.bool false) ∧ Below w.heap.size w w' := by
  have := vmay_any t n s b c hn w
  rw [h] at this
  exact this
end Go.Proofs.Ythobaffgllipfaa
