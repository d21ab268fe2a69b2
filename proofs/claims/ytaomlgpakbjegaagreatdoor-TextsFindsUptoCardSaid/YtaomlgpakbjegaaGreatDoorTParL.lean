/-
  the plain law of the parts of texts.
-/
import Derived.Test.YtaomlgpakbjegaaGreatDoorRows
import Derived.Test.YtaomlgpakbjegaaGreatDoorBase
import Derived.Test.YtaomlgpakbjegaaGreatDoorMapK
import Derived.Test.YtaomlgpakbjegaaGreatDoorProg
import Derived.Test.YtaomlgpakbjegaaGreatDoorShelf
import Derived.Test.YtaomlgpakbjegaaGreatDoorTFind
import Derived.Test.YtaomlgpakbjegaaGreatDoorRowB
import Derived.Test.YtaomlgpakbjegaaGreatDoorDecA
import Derived.Test.YtaomlgpakbjegaaGreatDoorValA
import Derived.Test.YtaomlgpakbjegaaGreatDoorValB
import Derived.Test.YtaomlgpakbjegaaGreatDoorMg10
import Derived.Test.YtaomlgpakbjegaaGreatDoorValC
import Derived.Test.YtaomlgpakbjegaaGreatDoorAddrC
import Derived.Test.YtaomlgpakbjegaaGreatDoorAddrI
import Derived.Test.YtaomlgpakbjegaaGreatDoorMg14
import Derived.Test.YtaomlgpakbjegaaGreatDoorFmtU
import Derived.Test.YtaomlgpakbjegaaGreatDoorPrintL
import Derived.Test.YtaomlgpakbjegaaGreatDoorDPrint
import Derived.Test.YtaomlgpakbjegaaGreatDoorRPr
import Derived.Test.YtaomlgpakbjegaaGreatDoorNDoE
import Derived.Test.YtaomlgpakbjegaaGreatDoorTCall
import Derived.Test.YtaomlgpakbjegaaGreatDoorValD
import Derived.Test.YtaomlgpakbjegaaGreatDoorMg21
import Derived.Test.YtaomlgpakbjegaaGreatDoorValJ
import Derived.Test.YtaomlgpakbjegaaGreatDoorValL
import Derived.Test.YtaomlgpakbjegaaGreatDoorNCallK
import Derived.Test.YtaomlgpakbjegaaGreatDoorTCallK
import Derived.Test.YtaomlgpakbjegaaGreatDoorTDoA
import Derived.Test.YtaomlgpakbjegaaGreatDoorTCallB
import Derived.Test.YtaomlgpakbjegaaGreatDoorTDoB
import Derived.Test.YtaomlgpakbjegaaGreatDoorTDoC
import Derived.Test.YtaomlgpakbjegaaGreatDoorTDoD
import Derived.Test.YtaomlgpakbjegaaGreatDoorTArg
import Derived.Test.YtaomlgpakbjegaaGreatDoorTLaw
import Derived.Test.YtaomlgpakbjegaaGreatDoorTAt
import Derived.Test.YtaomlgpakbjegaaGreatDoorTAtB
import Derived.WalkSpells
import Derived.WalkLawsBesides
import Derived.StillTactics
import Derived.Laws.Pointers
import Derived.Deep.RegionHeld3
import Derived.Deep.QuietTactic
import Derived.BigQuiet
import Derived.RowKit3
import Derived.Lib.Hide
import Derived.Lib.OthersKept
import Derived.OwnWalk
import Derived.Lib.IndexLaws
import Derived.Lib.ItoaMem
import Derived.WalkKit
import Derived.ProofKit
import Derived.OpenShut
import Derived.Carry
import Derived.ChangeSame
import Derived.Deep.Draws
import Derived.Maps.OwnSet
import Derived.Maps.AppendAt
import Derived.Shelf.Strings.Builder1
import Derived.Shelf.Strings.Builder2
import Derived.Shelf.Strings.OnBuilder
import Derived.Shelf.Strings.Trim
import Derived.Shelf.Small.Bits
import Derived.Shelf.Small.Strs
import Derived.Shelf.Small.Wraps
import Derived.Shelf.Strings.BuilderF
import Derived.Shelf.Strings.BuilderK
import Derived.Shelf.Strconv.Itoa0
import Derived.Shelf.Strconv.Itoa1
import Derived.Shelf.LaysM
import Derived.Shelf.Strconv.Itoa2
import Derived.Ground.MpProg
import Derived.Shelf.Pu.ParseUintPublic10
import Derived.Shelf.Strings.Search1
import Derived.Shelf.Strings.Search2
import Derived.Shelf.Strings.Search3
import Derived.Shelf.Strings.Cut
import Derived.Shelf.Strings.Prefix
import Derived.Shelf.Strings.Runes
import Derived.Shelf.Strings.AsciiSet
import Derived.Shelf.Bits.Mul64
import Derived.Shelf.Strings.Repeat
import Derived.Laws.EntriesVeiled
import Derived.Laws.BitsAllLaws
import Derived.Lib.TrimByte
import Derived.Lib.Bytealg
import Derived.Lib.SlTrimSet
import Derived.Lib.ParseIntB
import Derived.Shelf.Strings.SlTrimAscii
import Derived.Lib.SmallJoins
import Derived.Deep.RegionWith
import Derived.IntWalk
import Derived.Laws.IdiomStrings
import Derived.RegionTactic
import Derived.ChangeAlike
namespace Go.Proofs.YtaomlgpakbjegaaGreatDoor
open Go.RowKit

/-- cutting a text in two, and back -/
theorem ba_size (s : ByteArray) (a b : Nat) (h : b ≤ s.size) : (s.extract a b).size = b - a := by rw [ByteArray.size_extract, Nat.min_eq_left h]
theorem told_in (text : Int) (u : ByteArray) (h : (u.size : Int) ≤ text) : toldT text u = txtL u := by unfold toldT; rw [if_neg (by omega)]
theorem ex_all (s : ByteArray) (n : Nat) (h : s.size = n) : s.extract 0 n = s := by subst h; exact ByteArray.extract_zero_size
theorem cutD_is (s : ByteArray) (k : Nat) (h : k ≤ s.size) : cutD s (k : Int) = s.extract 0 k := by
  unfold cutD
  rw [show (min (k : Int) (s.size : Int)).toNat = k by omega]
theorem midD_is (s : ByteArray) (k : Nat) (h : k ≤ s.size) : midD s ((k : Int) + 1) = s.extract k s.size := by
  unfold midD
  rw [show (min ((k : Int) + 1 - 1) (s.size : Int)).toNat = k by omega]
theorem mid_one (s : ByteArray) : midD s 1 = s := by
  have := midD_is s 0 (Nat.zero_le _)
  rw [show ((0 : Nat) : Int) + 1 = 1 by rfl] at this
  rw [this]; exact ex_all s _ rfl
theorem mid_back (s : ByteArray) (k : Nat) (h : k ≤ s.size) : cutD (midD s ((k : Int) + 1)) (s.size : Int) = s.extract k s.size := by
  rw [midD_is s k h]
  have hz : (s.extract k s.size).size = s.size - k := ba_size s k s.size (Nat.le_refl _)
  unfold cutD
  rw [hz, show (min (s.size : Int) ((s.size - k : Nat) : Int)).toNat = s.size - k by omega]
  exact ex_all _ _ hz
theorem right_is (s : ByteArray) (k : Nat) (_h : k ≤ s.size) : rightD s ((s.size : Int) - (k : Int)) = s.extract k s.size := by
  unfold rightD
  rw [show ((s.size : Int) - min ((s.size : Int) - (k : Int)) (s.size : Int)).toNat = k by omega]
theorem revS_revS (s : ByteArray) : revS (revS s) = s := by
  unfold revS
  simp
theorem caseU_up (c : UInt8) : caseU 97 65 (caseU 65 97 c) = caseU 97 65 c := by
  have : ∀ c : Fin 256, caseU 97 65 (caseU 65 97 (UInt8.ofFin c)) = caseU 97 65 (UInt8.ofFin c) := by decide +kernel
  exact this c.toFin
theorem case_case (s : ByteArray) : caseS 97 65 (caseS 65 97 s) = caseS 97 65 s := by
  unfold caseS
  simp only [List.map_map]
  congr 3
  funext c
  exact caseU_up c
end Go.Proofs.YtaomlgpakbjegaaGreatDoor
