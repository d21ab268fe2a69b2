/-
  The document's own names of cells: column, digits, Name; orielref04: bytes, words.
-/
import Derived.Test.YtiekhbagpmnboaaGreatDoorRows
import Derived.Test.YtiekhbagpmnboaaGreatDoorMg0
import Derived.Test.YtiekhbagpmnboaaGreatDoorAddrC
import Derived.Test.YtiekhbagpmnboaaGreatDoorNames
import Derived.Test.YtiekhbagpmnboaaGreatDoorParseW
import Derived.Test.YtiekhbagpmnboaaGreatDoorMg2
import Derived.Test.YtiekhbagpmnboaaGreatDoorProg
import Derived.Test.YtiekhbagpmnboaaGreatDoorShelf
import Derived.Test.YtiekhbagpmnboaaGreatDoorCutW
import Derived.Test.YtiekhbagpmnboaaGreatDoorPRect
import Derived.Test.YtiekhbagpmnboaaGreatDoorValA
import Derived.Test.YtiekhbagpmnboaaGreatDoorValB
import Derived.Test.YtiekhbagpmnboaaGreatDoorValD
import Derived.Test.YtiekhbagpmnboaaGreatDoorLexP
import Derived.WalkSpells
import Derived.WalkLawsBesides
import Derived.StillTactics
import Derived.Laws.Pointers
import Derived.Deep.RegionHeld3
import Derived.Deep.QuietTactic
import Derived.BigQuiet
import Derived.RowKit3
import Derived.Lib.Hide
import Derived.Lib.OthersKept
import Derived.WalkKit
import Derived.ProofKit
import Derived.OpenShut
import Derived.Carry
import Derived.ChangeSame
import Derived.Deep.Draws
import Derived.OwnWalk
import Derived.Lib.IndexLaws
import Derived.Lib.ItoaNum
import Derived.Lib.ItoaMem
import Derived.Lib.TrimByte
import Derived.Lib.SlTrimSet
import Derived.Lib.ParseIntB
import Derived.Shelf.Strings.Builder1
import Derived.Shelf.Strings.Trim
import Derived.Shelf.Small.Utf8
import Derived.Shelf.Small.Strs
import Derived.Shelf.Small.Wraps
import Derived.Shelf.Strings.BuilderF
import Derived.Shelf.Strings.BuilderK
import Derived.Shelf.Strconv.Itoa0
import Derived.Shelf.Strconv.Itoa1
import Derived.Shelf.LaysM
import Derived.Shelf.Strconv.Itoa2
import Derived.Shelf.Strconv.Itoa3
import Derived.Ground.MpProg
import Derived.Shelf.Pu.ParseUintPublic10
import Derived.Shelf.Strings.Search1
import Derived.Shelf.Strings.Search2
import Derived.Shelf.Strings.Cut
import Derived.Shelf.Strings.Shaped
import Derived.Shelf.Strings.Prefix
import Derived.Shelf.Strings.Runes
import Derived.Shelf.Strings.AsciiSet
import Derived.Shelf.Unicode.DecodeSlow
namespace Go.Proofs.YtiekhbagpmnboaaGreatDoor
open Go.RowKit

theorem bytes_append (a b : List UInt8) : (⟨a.toArray⟩ : ByteArray) ++ ⟨b.toArray⟩ = ⟨(a ++ b).toArray⟩ := by
  apply ByteArray.ext
  simp

end Go.Proofs.YtiekhbagpmnboaaGreatDoor
namespace Go.Proofs.YtiekhbagpmnboaaGreatDoor
open Go.RowKit

theorem twg_in (p : UInt8 → Bool) (t : List UInt8) (j : Nat) (h : j < (t.takeWhile p).length) (h2 : j < t.length) : p t[j] = true := by
  have e : t[j] = (t.takeWhile p)[j] := by
    have := List.takeWhile_append_dropWhile (p := p) (l := t)
    rw [List.getElem_of_eq this.symm h2, List.getElem_append_left h]
  rw [e]
  exact List.all_eq_true.1 (takeWhile_all p t) _ (List.getElem_mem h)
theorem twg_out (p : UInt8 → Bool) (t : List UInt8) (h2 : (t.takeWhile p).length < t.length) : p t[(t.takeWhile p).length] = false := by
  refine drop_head p t _ ?_
  rw [List.head?_drop, List.getElem?_eq_getElem h2]
theorem takeWhile_self (p : UInt8 → Bool) : ∀ l : List UInt8, l.all p = true → l.takeWhile p = l
  | [], _ => rfl
  | b :: l, h => by
    simp only [List.all_cons, Bool.and_eq_true] at h
    rw [List.takeWhile_cons, if_pos h.1, takeWhile_self p l h.2]
theorem meant_form (l : List UInt8) (k q : Nat) (hk : (l.takeWhile upB).length = k) (hq : ((l.drop k).takeWhile isDig).length = q) : meantB l = (decide (k < l.length) && decide (k + q = l.length)) := by
  have e1 : l.dropWhile upB = l.drop k := by rw [← hk, drop_takeWhile]
  have h1 := takeWhile_le isDig (l.drop k)
  rw [hq, List.length_drop] at h1
  unfold meantB
  rw [e1]
  rw [Bool.eq_iff_iff]
  simp only [Bool.and_eq_true, Bool.not_eq_true', decide_eq_true_eq]
  constructor
  · rintro ⟨h2, h3⟩
    have h4 : k < l.length := by
      refine Nat.lt_of_not_le fun h => ?_
      rw [List.drop_eq_nil_of_le h] at h2; simp at h2
    refine ⟨h4, ?_⟩
    have h5 : (l.drop k).takeWhile isDig = l.drop k := takeWhile_self isDig _ h3
    rw [h5, List.length_drop] at hq
    omega
  · rintro ⟨h2, h3⟩
    refine ⟨?_, ?_⟩
    · cases h4 : l.drop k with
      | nil => have := congrArg List.length h4; simp at this; omega
      | cons => rfl
    · have h5 : (l.drop k).takeWhile isDig = l.drop k := by
        rw [takeWhile_take, hq]; exact List.take_of_length_le (by rw [List.length_drop]; omega)
      rw [← h5]; exact takeWhile_all isDig _
theorem ext_mid (l a : List UInt8) (at' k : Nat) (h : (l.drop at').take k = a) : (⟨l.toArray⟩ : ByteArray).extract at' (at' + k) = ⟨a.toArray⟩ := by
  subst h
  apply ByteArray.ext
  simp
theorem keepB {B : Nat} {W w1 : World} (hb : Below B W w1) (hB : B ≤ W.heap.size) :
    (∀ b o, b < B → w1.cell? ⟨b, o, none⟩ = W.cell? ⟨b, o, none⟩) ∧ (∀ b o, b < B → w1.frozen? ⟨b, o, none⟩ = W.frozen? ⟨b, o, none⟩) ∧ B ≤ w1.heap.size :=
  ⟨fun b o h => hb.cell (p := ⟨b, o, Option.none⟩) h, fun b o h => hb.frozen (p := ⟨b, o, Option.none⟩) h, Nat.le_trans hB hb.size⟩
theorem quote_start (q : List UInt8) : quoteG q = (quoteG (q.drop 0)).map fun x => (([] : List UInt8) ++ x.1, x.2 + 0) := by
  cases h : quoteG q <;> simp [h]
theorem drop_at (l : List UInt8) (i : Nat) (h : i < l.length) : l.drop i = l[i] :: l.drop (i + 1) := List.drop_eq_getElem_cons h
end Go.Proofs.YtiekhbagpmnboaaGreatDoor
