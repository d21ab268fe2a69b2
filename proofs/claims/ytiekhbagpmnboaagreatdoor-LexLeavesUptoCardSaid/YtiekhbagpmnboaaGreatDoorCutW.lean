/-
  strings.Cut at a separator of one byte, any text.
-/
import Derived.Test.YtiekhbagpmnboaaGreatDoorRows
import Derived.Test.YtiekhbagpmnboaaGreatDoorBase
import Derived.Test.YtiekhbagpmnboaaGreatDoorProg
import Derived.Test.YtiekhbagpmnboaaGreatDoorShelf
import Derived.WalkSpells
import Derived.WalkLawsBesides
import Derived.StillTactics
import Derived.Laws.Pointers
import Derived.Deep.RegionHeld3
import Derived.Deep.QuietTactic
import Derived.BigQuiet
import Derived.RowKit3
import Derived.Lib.Hide
import Derived.Lib.OthersKept
import Derived.OwnWalk
import Derived.Lib.IndexLaws
import Derived.WalkKit
import Derived.ProofKit
import Derived.OpenShut
import Derived.Carry
import Derived.ChangeSame
import Derived.Deep.Draws
import Derived.Shelf.Strings.Builder1
import Derived.Shelf.Strings.Trim
import Derived.Shelf.Small.Utf8
import Derived.Shelf.Small.Strs
import Derived.Shelf.Small.Wraps
import Derived.Shelf.Strings.BuilderF
import Derived.Shelf.Strings.BuilderK
import Derived.Shelf.Strconv.Itoa0
import Derived.Shelf.Strconv.Itoa1
import Derived.Shelf.LaysM
import Derived.Shelf.Strconv.Itoa2
import Derived.Shelf.Strconv.Itoa3
import Derived.Ground.MpProg
import Derived.Shelf.Pu.ParseUintPublic10
import Derived.Shelf.Strings.Search1
import Derived.Shelf.Strings.Search2
import Derived.Shelf.Strings.Cut
import Derived.Shelf.Strings.Shaped
import Derived.Shelf.Strings.Prefix
import Derived.Shelf.Strings.Runes
import Derived.Shelf.Strings.AsciiSet
import Derived.Shelf.Unicode.DecodeSlow
namespace Go.Proofs.YtiekhbagpmnboaaGreatDoor
open Go.RowKit

theorem idx_cases (l : List UInt8) (c : UInt8) : Lib.indexByte l c = -1 ∨ ∃ o : Nat, Lib.indexByte l c = o ∧ o < l.length := by
  have h := Lib.indexByte_ge l c
  by_cases h0 : Lib.indexByte l c = -1
  · exact .inl h0
  · obtain ⟨o, ho⟩ := Int.eq_ofNat_of_zero_le (show 0 ≤ Lib.indexByte l c by omega)
    refine .inr ⟨o, ho, ?_⟩
    have := (Lib.indexByte_some ho).1
    exact (List.getElem?_eq_some_iff.1 this).1
theorem ext_take' (l : List UInt8) (n : Nat) : (⟨l.toArray⟩ : ByteArray).extract 0 n = ⟨(l.take n).toArray⟩ := by
  apply ByteArray.ext
  simp
theorem ext_drop' (l : List UInt8) (n m : Nat) (h : l.length ≤ m) : (⟨l.toArray⟩ : ByteArray).extract n m = ⟨(l.drop n).toArray⟩ := by
  apply ByteArray.ext
  simp
  exact List.take_of_length_le (by simp; omega)

set_option maxHeartbeats 400000 in
theorem lcut0 (l : List UInt8) (c : UInt8) (h : Lib.indexByte l c = -1) (w : World) : Calls Tryz.prog 81 #[.string ⟨l.toArray⟩, .string ⟨#[c]⟩] w fun e w' => e = .returned (.tuple #[.string ⟨l.toArray⟩, .string ⟨#[]⟩, .bool false]) ∧ Below w.heap.size w w' := by
  have hi := Lib.hid h
  clear h
  go_enter Tryz.func81, Tryz.ntmps81
  go_wp2_with fail
  refine (Tryz.stringslite_Index_one _ c _).mono ?_
  rintro e w1 ⟨rfl, rfl⟩
  rw [show (⟨l.toArray⟩ : ByteArray).data.toList = l from by simp, hi.out]
  go_wp2
  go_ret3
  exact ⟨rfl, by (repeat (first | (with_reducible exact Below.refl _ _) | (with_reducible refine Below.alloc ?_ (by first | omega | (dsimp only; omega) | (simp <;> omega)) _) | (with_reducible refine Below.setCell ?_ (by first | omega | (dsimp only; omega) | (simp <;> omega)) _) | (with_reducible refine Below.drew ?_) | (with_reducible refine below_drewN ?_ _) | (with_reducible refine Below.trans ?_ (Below.mono (by assumption) (by first | omega | (dsimp only; omega) | (simp <;> omega))))))⟩
set_option maxHeartbeats 400000 in
theorem lcut1 (l : List UInt8) (c : UInt8) (o : Nat) (h : Lib.indexByte l c = o) (ho : o < l.length) (hm : l.length ≤ 9223372036854775807) (w : World) : Calls Tryz.prog 81 #[.string ⟨l.toArray⟩, .string ⟨#[c]⟩] w fun e w' => e = .returned (.tuple #[.string ⟨(l.take o).toArray⟩, .string ⟨(l.drop (o + 1)).toArray⟩, .bool true]) ∧ Below w.heap.size w w' := by
  have hi := Lib.hid h
  clear h
  have hx1 := ext_take' l o
  have hx2 := ext_drop' l (o + 1) l.length (Nat.le_refl _)
  go_enter Tryz.func81, Tryz.ntmps81
  go_wp2_with fail
  refine (Tryz.stringslite_Index_one _ c _).mono ?_
  rintro e w1 ⟨rfl, rfl⟩
  rw [show (⟨l.toArray⟩ : ByteArray).data.toList = l from by simp, hi.out]
  go_wp2
  go_quiet (fail)
  go_wp2
  go_ret3
  exact ⟨rfl, by (repeat (first | (with_reducible exact Below.refl _ _) | (with_reducible refine Below.alloc ?_ (by first | omega | (dsimp only; omega) | (simp <;> omega)) _) | (with_reducible refine Below.setCell ?_ (by first | omega | (dsimp only; omega) | (simp <;> omega)) _) | (with_reducible refine Below.drew ?_) | (with_reducible refine below_drewN ?_ _) | (with_reducible refine Below.trans ?_ (Below.mono (by assumption) (by first | omega | (dsimp only; omega) | (simp <;> omega))))))⟩
set_option maxHeartbeats 400000 in
theorem scut0 (l : List UInt8) (c : UInt8) (h : Lib.indexByte l c = -1) (w : World) : Calls Tryz.prog 47 #[.string ⟨l.toArray⟩, .string ⟨#[c]⟩] w fun e w' => e = .returned (.tuple #[.string ⟨l.toArray⟩, .string ⟨#[]⟩, .bool false]) ∧ Below w.heap.size w w' := by
  go_enter Tryz.func47, Tryz.ntmps47
  go_wp2_with fail
  refine (lcut0 l c h _).mono ?_
  rintro e w1 ⟨rfl, hb⟩
  go_wp2
  go_ret3
  exact ⟨rfl, by assumption⟩
set_option maxHeartbeats 400000 in
theorem scut1 (l : List UInt8) (c : UInt8) (o : Nat) (h : Lib.indexByte l c = o) (ho : o < l.length) (hm : l.length ≤ 9223372036854775807) (w : World) : Calls Tryz.prog 47 #[.string ⟨l.toArray⟩, .string ⟨#[c]⟩] w fun e w' => e = .returned (.tuple #[.string ⟨(l.take o).toArray⟩, .string ⟨(l.drop (o + 1)).toArray⟩, .bool true]) ∧ Below w.heap.size w w' := by
  go_enter Tryz.func47, Tryz.ntmps47
  go_wp2_with fail
  refine (lcut1 l c o h ho hm _).mono ?_
  rintro e w1 ⟨rfl, hb⟩
  go_wp2
  go_ret3
  exact ⟨rfl, by assumption⟩
end Go.Proofs.YtiekhbagpmnboaaGreatDoor
