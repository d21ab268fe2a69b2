/-
  Package value: what the laws' known tells.
-/
import Derived.Test.YthobaffgllipfaaValF
import Derived.Test.YthobaffgllipfaaDPrint
import Derived.WalkSpells
import Derived.WalkLawsBesides
import Derived.StillTactics
import Derived.Laws.Pointers
import Derived.Deep.RegionHeld3
import Derived.Deep.QuietTactic
import Derived.BigQuiet
import Derived.RowKit3
import Derived.Lib.Hide
import Derived.Lib.OthersKept
import Derived.OwnWalk
import Derived.Lib.IndexLaws
import Derived.Lib.ItoaMem
namespace Go.Proofs.Ythobaffgllipfaa
open Go.RowKit

theorem known_may1 : vMay 1 10000 ⟨#[]⟩ false 0 = true := by decide +kernel
theorem known_may2 : vMay 2 0 ⟨#[97, 98]⟩ false 0 = true := by decide +kernel
theorem known_one : printL 10000 = [49] := by decide +kernel
theorem known_arg : codeOf ⟨#[35, 65, 82, 71, 33]⟩ = 8 := by decide +kernel
theorem k_may (w : World) : Calls Try.prog 48 #[.agg #[.int .i64 1, .int .i64 10000, .string ⟨#[]⟩, .bool false, .int .i64 0]] w fun e w' => e = .returned (.bool true) ∧ Below w.heap.size w w' := by
  exact vmay_yes _ _ _ _ _ (by decide) known_may1 w
end Go.Proofs.Ythobaffgllipfaa
