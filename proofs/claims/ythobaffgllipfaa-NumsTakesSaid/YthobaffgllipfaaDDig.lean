/-
  Package dec: digits.
-/
import Derived.Test.YthobaffgllipfaaNumL
import Derived.Test.YthobaffgllipfaaShelf
import Derived.Test.YthobaffgllipfaaValA
import Derived.Shelf.Strings.SlTrimAscii
import Derived.WalkSpells
import Derived.WalkLawsBesides
import Derived.StillTactics
import Derived.Laws.Pointers
import Derived.Deep.RegionHeld3
import Derived.Deep.QuietTactic
import Derived.BigQuiet
import Derived.RowKit3
import Derived.Lib.Hide
import Derived.Lib.OthersKept
import Derived.OwnWalk
import Derived.Lib.IndexLaws
import Derived.Lib.ItoaMem
namespace Go.Proofs.Ythobaffgllipfaa
open Go.RowKit

theorem trim_yes {l : List UInt8} (h : l.all isDig = true) : Lib.trimS l [48, 49, 50, 51, 52, 53, 54, 55, 56, 57] = [] := by
  have := trim_digits l
  rw [h] at this
  simpa using this
theorem trim_no {l : List UInt8} (h : l.all isDig = false) : (Lib.trimS l [48, 49, 50, 51, 52, 53, 54, 55, 56, 57] = []) = False := by
  have := trim_digits l
  rw [h] at this
  exact eq_false (by simpa using this)
theorem bytes_nil (l : List UInt8) : ((⟨l.toArray⟩ : ByteArray) = ⟨#[]⟩) = (l = []) := by
  apply propext
  constructor
  · intro h
    have := congrArg (fun b : ByteArray => b.data.toList) h
    simpa using this
  · rintro rfl; rfl
end Go.Proofs.Ythobaffgllipfaa
