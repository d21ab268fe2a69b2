/-
  Plain law: what FIND's answer says of the text.
-/
import Derived.Test.YtaomlgpakbjegaaGreatDoorRows
import Derived.Test.YtaomlgpakbjegaaGreatDoorBase
import Derived.Test.YtaomlgpakbjegaaGreatDoorMapK
import Derived.Test.YtaomlgpakbjegaaGreatDoorProg
import Derived.Test.YtaomlgpakbjegaaGreatDoorShelf
import Derived.Test.YtaomlgpakbjegaaGreatDoorTFind
import Derived.Test.YtaomlgpakbjegaaGreatDoorRowB
import Derived.Test.YtaomlgpakbjegaaGreatDoorDecA
import Derived.Test.YtaomlgpakbjegaaGreatDoorValA
import Derived.Test.YtaomlgpakbjegaaGreatDoorValB
import Derived.Test.YtaomlgpakbjegaaGreatDoorMg10
import Derived.Test.YtaomlgpakbjegaaGreatDoorValC
import Derived.Test.YtaomlgpakbjegaaGreatDoorAddrC
import Derived.Test.YtaomlgpakbjegaaGreatDoorAddrI
import Derived.Test.YtaomlgpakbjegaaGreatDoorMg14
import Derived.Test.YtaomlgpakbjegaaGreatDoorFmtU
import Derived.Test.YtaomlgpakbjegaaGreatDoorPrintL
import Derived.Test.YtaomlgpakbjegaaGreatDoorDPrint
import Derived.Test.YtaomlgpakbjegaaGreatDoorRPr
import Derived.Test.YtaomlgpakbjegaaGreatDoorNDoE
import Derived.Test.YtaomlgpakbjegaaGreatDoorTCall
import Derived.Test.YtaomlgpakbjegaaGreatDoorValD
import Derived.Test.YtaomlgpakbjegaaGreatDoorMg21
import Derived.Test.YtaomlgpakbjegaaGreatDoorValJ
import Derived.Test.YtaomlgpakbjegaaGreatDoorValL
import Derived.Test.YtaomlgpakbjegaaGreatDoorNCallK
import Derived.Test.YtaomlgpakbjegaaGreatDoorTCallK
import Derived.Test.YtaomlgpakbjegaaGreatDoorTDoA
import Derived.Test.YtaomlgpakbjegaaGreatDoorTCallB
import Derived.Test.YtaomlgpakbjegaaGreatDoorTDoB
import Derived.Test.YtaomlgpakbjegaaGreatDoorTDoC
import Derived.Test.YtaomlgpakbjegaaGreatDoorTDoD
import Derived.Test.YtaomlgpakbjegaaGreatDoorTArg
import Derived.Test.YtaomlgpakbjegaaGreatDoorTLaw
import Derived.Test.YtaomlgpakbjegaaGreatDoorTAt
import Derived.Test.YtaomlgpakbjegaaGreatDoorTJoiL
import Derived.Test.YtaomlgpakbjegaaGreatDoorTDoG
import Derived.Test.YtaomlgpakbjegaaGreatDoorTDoH
import Derived.Test.YtaomlgpakbjegaaGreatDoorTDoI
import Derived.Test.YtaomlgpakbjegaaGreatDoorTAtF
import Derived.WalkSpells
import Derived.WalkLawsBesides
import Derived.StillTactics
import Derived.Laws.Pointers
import Derived.Deep.RegionHeld3
import Derived.Deep.QuietTactic
import Derived.BigQuiet
import Derived.RowKit3
import Derived.Lib.Hide
import Derived.Lib.OthersKept
import Derived.OwnWalk
import Derived.Lib.IndexLaws
import Derived.Lib.ItoaMem
import Derived.WalkKit
import Derived.ProofKit
import Derived.OpenShut
import Derived.Carry
import Derived.ChangeSame
import Derived.Deep.Draws
import Derived.Maps.OwnSet
import Derived.Maps.AppendAt
import Derived.Shelf.Strings.Builder1
import Derived.Shelf.Strings.Builder2
import Derived.Shelf.Strings.OnBuilder
import Derived.Shelf.Strings.Trim
import Derived.Shelf.Small.Bits
import Derived.Shelf.Small.Strs
import Derived.Shelf.Small.Wraps
import Derived.Shelf.Strings.BuilderF
import Derived.Shelf.Strings.BuilderK
import Derived.Shelf.Strconv.Itoa0
import Derived.Shelf.Strconv.Itoa1
import Derived.Shelf.LaysM
import Derived.Shelf.Strconv.Itoa2
import Derived.Ground.MpProg
import Derived.Shelf.Pu.ParseUintPublic10
import Derived.Shelf.Strings.Search1
import Derived.Shelf.Strings.Search2
import Derived.Shelf.Strings.Search3
import Derived.Shelf.Strings.Cut
import Derived.Shelf.Strings.Prefix
import Derived.Shelf.Strings.Runes
import Derived.Shelf.Strings.AsciiSet
import Derived.Shelf.Bits.Mul64
import Derived.Shelf.Strings.Repeat
import Derived.Laws.EntriesVeiled
import Derived.Laws.BitsAllLaws
import Derived.Lib.TrimByte
import Derived.Lib.Bytealg
import Derived.Lib.SlTrimSet
import Derived.Lib.ParseIntB
import Derived.Shelf.Strings.SlTrimAscii
import Derived.Lib.SmallJoins
import Derived.Deep.RegionWith
import Derived.IntWalk
import Derived.Laws.IdiomStrings
import Derived.RegionTactic
import Derived.ChangeAlike
import Derived.Lib.Repeat
import Derived.Lib.IndexMore
namespace Go.Proofs.YtaomlgpakbjegaaGreatDoor
open Go.RowKit

theorem ext_list (s : ByteArray) (a b : Nat) : (s.extract a b).data.toList = (s.data.toList.drop a).take (b - a) := by
  simp [ByteArray.data_extract, Array.toList_extract, List.extract]
theorem ext_occ (s t : ByteArray) (m : Nat) (h : m + t.size ≤ s.size) : s.extract m (m + t.size) = t ↔ Lib.occAt s.data.toList t.data.toList m = true := by
  rw [Lib.occAt_iff_take s.data.toList t.data.toList m h, beq_iff_eq]
  have h1 := ext_list s m (m + t.size)
  rw [Nat.add_sub_cancel_left] at h1
  constructor
  · intro h2
    rw [h2] at h1
    exact h1.symm
  · intro h2
    have h3 : (s.extract m (m + t.size)).data.toList = t.data.toList := h1.trans h2
    exact ByteArray.ext (Array.ext' h3)
theorem occ_drop (s t : List UInt8) (a i : Nat) : Lib.occAt (s.drop a) t i = Lib.occAt s t (a + i) := by
  unfold Lib.occAt; rw [List.drop_drop]
/-- FIND's answer: a place where the text stands and none before it, or none at all -/
theorem find_yes (t s : ByteArray) (n : Nat) (hn : n ≤ s.size) (h : 0 ≤ Lib.index (s.extract n s.size).data.toList t.data.toList) : ∃ e : Nat, findL t s ((n : Int) + 1) = numL (((e : Int) + 1) * 10000) ∧ n ≤ e ∧ e + t.size ≤ s.size ∧ s.extract e (e + t.size) = t ∧ ∀ m, n ≤ m → m < e → m + t.size ≤ s.size → ¬ s.extract m (m + t.size) = t := by
  have hd : (s.extract n s.size).data.toList = s.data.toList.drop n := by
    rw [ext_list, List.take_of_length_le]
    rw [List.length_drop]; exact Nat.le_refl _
  have hN : ((n : Int) + 1).toNat - 1 = n := by omega
  obtain ⟨i, hi, hl, ho, hno⟩ := index_occ _ _ h
  have hsz : s.data.toList.length = s.size := rfl
  have htz : t.data.toList.length = t.size := rfl
  rw [hd] at hl ho hno
  rw [occ_drop] at ho
  rw [List.length_drop, hsz] at hl
  have hroom : n + i + t.size ≤ s.size := by
    rcases Lib.occAt_room ho with h9 | h9
    · rw [hsz, htz] at h9; exact h9
    · have : t.size = 0 := by rw [← htz, h9]; rfl
      omega
  refine ⟨n + i, ?_, Nat.le_add_right _ _, hroom, (ext_occ s t _ hroom).2 ho, ?_⟩
  · unfold findL
    rw [if_neg (by omega), if_neg (by omega), hN, if_neg (by omega), hi]
    congr 2
    omega
  · intro m h1 h2 h3 h4
    have h5 := (ext_occ s t m h3).1 h4
    have h6 := hno (m - n) (by omega)
    rw [occ_drop, show n + (m - n) = m by omega, h5] at h6
    cases h6
theorem find_no (t s : ByteArray) (n : Nat) (hn : n ≤ s.size) (h : Lib.index (s.extract n s.size).data.toList t.data.toList < 0) : findL t s ((n : Int) + 1) = errL 6 ∧ ∀ m, n ≤ m → m + t.size ≤ s.size → ¬ s.extract m (m + t.size) = t := by
  have hd : (s.extract n s.size).data.toList = s.data.toList.drop n := by
    rw [ext_list, List.take_of_length_le]
    rw [List.length_drop]; exact Nat.le_refl _
  have hN : ((n : Int) + 1).toNat - 1 = n := by omega
  have hsz : s.data.toList.length = s.size := rfl
  refine ⟨?_, ?_⟩
  · unfold findL
    rw [if_neg (by omega), if_neg (by omega), hN, if_pos h]
  · intro m h1 h3 h4
    have h5 := (ext_occ s t m h3).1 h4
    have h6 := index_not _ _ h (m - n) (by rw [hd, List.length_drop, hsz]; omega)
    rw [hd, occ_drop, show n + (m - n) = m by omega, h5] at h6
    cases h6
theorem find_far (t s : ByteArray) (n : Nat) (hn : s.size < n) : findL t s ((n : Int) + 1) = errL 6 := by
  unfold findL
  rw [if_neg (by omega), if_pos (by omega)]
end Go.Proofs.YtaomlgpakbjegaaGreatDoor
