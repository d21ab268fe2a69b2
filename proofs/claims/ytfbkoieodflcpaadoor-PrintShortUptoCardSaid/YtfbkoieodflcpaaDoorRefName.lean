/-
  The document's own names of cells: column, digits, Name.
-/
import Derived.Test.YtfbkoieodflcpaaDoorRows
import Derived.Test.YtfbkoieodflcpaaDoorBase
import Derived.Test.YtfbkoieodflcpaaDoorAddrC
import Derived.Test.YtfbkoieodflcpaaDoorNames
import Derived.Test.YtfbkoieodflcpaaDoorParseW
import Derived.WalkSpells
import Derived.WalkLawsBesides
import Derived.StillTactics
import Derived.Laws.Pointers
import Derived.Deep.RegionHeld3
import Derived.Deep.QuietTactic
import Derived.BigQuiet
import Derived.RowKit3
import Derived.Lib.Hide
import Derived.Lib.OthersKept
import Derived.WalkKit
import Derived.ProofKit
import Derived.OpenShut
import Derived.Carry
import Derived.ChangeSame
import Derived.Deep.Draws
import Derived.OwnWalk
import Derived.Lib.IndexLaws
import Derived.Lib.ItoaNum
import Derived.Lib.ItoaMem
namespace Go.Proofs.YtfbkoieodflcpaaDoor
open Go.RowKit

/-- a cell's name, the empty text of one that may not be -/
def nameZ (r c : Int) : List UInt8 := if mayB r c then colL c.toNat ++ Lib.decDigits r.toNat else []
theorem nameZ_nat {r c : Nat} (h : mayN r c = true) : nameZ r c = nameL r c := by
  unfold nameZ
  rw [mayB_nat, h, if_pos rfl]
  simp [nameL]
theorem nameZ_no {r c : Int} (h : mayB r c = false) : nameZ r c = [] := by simp [nameZ, h]
theorem mayB_ints {r c : Int} (h : mayB r c = true) : ∃ r' c' : Nat, r = r' ∧ c = c' ∧ mayN r' c' = true := by
  obtain ⟨h1, h2, h3, h4⟩ : 1 ≤ r ∧ r ≤ 4096 ∧ 1 ≤ c ∧ c ≤ 256 := by simpa [mayB, and_assoc] using h
  obtain ⟨r, rfl⟩ := Int.eq_ofNat_of_zero_le (show 0 ≤ r by omega)
  obtain ⟨c, rfl⟩ := Int.eq_ofNat_of_zero_le (show 0 ≤ c by omega)
  exact ⟨r, c, rfl, rfl, by rw [← mayB_nat]; exact h⟩
end Go.Proofs.YtfbkoieodflcpaaDoor
