/-
  strings.Cut at a separator of one byte, any text.
-/
import Derived.Test.YthobaffgllipfaaBase
import Derived.Test.YthobaffgllipfaaShelf
import Derived.WalkSpells
import Derived.WalkLawsBesides
import Derived.StillTactics
import Derived.Laws.Pointers
import Derived.Deep.RegionHeld3
import Derived.Deep.QuietTactic
import Derived.BigQuiet
import Derived.RowKit3
import Derived.Lib.Hide
import Derived.Lib.OthersKept
import Derived.OwnWalk
import Derived.Lib.IndexLaws
namespace Go.Proofs.Ythobaffgllipfaa
open Go.RowKit

theorem idx_cases (l : List UInt8) (c : UInt8) : Lib.indexByte l c = -1 ∨ ∃ o : Nat, Lib.indexByte l c = o ∧ o < l.length := by
  have h := Lib.indexByte_ge l c
  by_cases h0 : Lib.indexByte l c = -1
  · exact .inl h0
  · obtain ⟨o, ho⟩ := Int.eq_ofNat_of_zero_le (show 0 ≤ Lib.indexByte l c by omega)
    refine .inr ⟨o, ho, ?_⟩
    have := (Lib.indexByte_some ho).1
    exact (List.getElem?_eq_some_iff.1 this).1
theorem ext_take' (l : List UInt8) (n : Nat) : (⟨l.toArray⟩ : ByteArray).extract 0 n = ⟨(l.take n).toArray⟩ := by
  apply ByteArray.ext
  simp
theorem ext_drop' (l : List UInt8) (n m : Nat) (h : l.length ≤ m) : (⟨l.toArray⟩ : ByteArray).extract n m = ⟨(l.drop n).toArray⟩ := by
  apply ByteArray.ext
  simp
  exact List.take_of_length_le (by simp; omega)

end Go.Proofs.Ythobaffgllipfaa
