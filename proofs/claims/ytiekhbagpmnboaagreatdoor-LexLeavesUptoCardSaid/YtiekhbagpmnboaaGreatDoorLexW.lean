/-
  lex: runs of bytes.
-/
import Derived.Test.YtiekhbagpmnboaaGreatDoorPrintL
import Derived.Test.YtiekhbagpmnboaaGreatDoorNumL
import Derived.Test.YtiekhbagpmnboaaGreatDoorRows
import Derived.Test.YtiekhbagpmnboaaGreatDoorBase
import Derived.Test.YtiekhbagpmnboaaGreatDoorProg
import Derived.Test.YtiekhbagpmnboaaGreatDoorShelf
import Derived.Test.YtiekhbagpmnboaaGreatDoorCutW
import Derived.Test.YtiekhbagpmnboaaGreatDoorAddrC
import Derived.Test.YtiekhbagpmnboaaGreatDoorNames
import Derived.Test.YtiekhbagpmnboaaGreatDoorParseW
import Derived.Test.YtiekhbagpmnboaaGreatDoorPRect
import Derived.Test.YtiekhbagpmnboaaGreatDoorDecA
import Derived.Test.YtiekhbagpmnboaaGreatDoorValA
import Derived.Test.YtiekhbagpmnboaaGreatDoorValB
import Derived.Test.YtiekhbagpmnboaaGreatDoorValD
import Derived.Test.YtiekhbagpmnboaaGreatDoorLexP
import Derived.Shelf.Strings.SlTrimAscii
import Derived.WalkSpells
import Derived.WalkLawsBesides
import Derived.StillTactics
import Derived.Laws.Pointers
import Derived.Deep.RegionHeld3
import Derived.Deep.QuietTactic
import Derived.BigQuiet
import Derived.RowKit3
import Derived.Lib.Hide
import Derived.Lib.OthersKept
import Derived.OwnWalk
import Derived.Lib.IndexLaws
import Derived.Lib.ItoaMem
import Derived.Lib.TrimByte
import Derived.Lib.SlTrimSet
import Derived.Lib.ParseIntB
import Derived.WalkKit
import Derived.ProofKit
import Derived.OpenShut
import Derived.Carry
import Derived.ChangeSame
import Derived.Deep.Draws
import Derived.Shelf.Strings.Builder1
import Derived.Shelf.Strings.Trim
import Derived.Shelf.Small.Utf8
import Derived.Shelf.Small.Strs
import Derived.Shelf.Small.Wraps
import Derived.Shelf.Strings.BuilderF
import Derived.Shelf.Strings.BuilderK
import Derived.Shelf.Strconv.Itoa0
import Derived.Shelf.Strconv.Itoa1
import Derived.Shelf.LaysM
import Derived.Shelf.Strconv.Itoa2
import Derived.Shelf.Strconv.Itoa3
import Derived.Ground.MpProg
import Derived.Shelf.Pu.ParseUintPublic10
import Derived.Shelf.Strings.Search1
import Derived.Shelf.Strings.Search2
import Derived.Shelf.Strings.Cut
import Derived.Shelf.Strings.Shaped
import Derived.Shelf.Strings.Prefix
import Derived.Shelf.Strings.Runes
import Derived.Shelf.Strings.AsciiSet
import Derived.Shelf.Unicode.DecodeSlow
import Derived.Lib.ItoaNum
namespace Go.Proofs.YtiekhbagpmnboaaGreatDoor
open Go.RowKit

theorem sub_len (n k : Nat) (hk : k ≤ n) (hn : n ≤ 9223372036854775807) : IntKind.i64.wrap ((n : Int) - ((n - k : Nat) : Int)) = (k : Int) := by
  rw [IntWalk.i64_in _ (by omega)]; omega
theorem ltrim_num (l : List UInt8) (k : Nat) (hk : (l.takeWhile numB).length = k) (w : World) : Calls Tryz.prog 20 #[.string ⟨l.toArray⟩, .string ⟨#[48, 49, 50, 51, 52, 53, 54, 55, 56, 57, 46]⟩] w fun e w' => e = .returned (.string ⟨(l.drop k).toArray⟩) ∧ Below w.heap.size w w' := by
  have := Any.strings_TrimLeft_laid Tryz.lays161 (by kernel_rfl) ⟨l.toArray⟩ ⟨#[48, 49, 50, 51, 52, 53, 54, 55, 56, 57, 46]⟩ w (by decide) (ascii_of_all (by decide))
  have e : Lib.trimLeftS (⟨l.toArray⟩ : ByteArray).data.toList (⟨#[48, 49, 50, 51, 52, 53, 54, 55, 56, 57, 46]⟩ : ByteArray).data.toList = l.drop k := by
    show Lib.trimLeftS l csNum = l.drop k
    unfold Lib.trimLeftS
    rw [← hk, drop_takeWhile, csNum_is]
  rwa [e] at this
set_option maxHeartbeats 400000 in
theorem lrun_num (l : List UInt8) (k : Nat) (hl : l.length ≤ 9223372036854775807) (hk : (l.takeWhile numB).length = k) (w : World) : Calls Tryz.prog 44 #[.string ⟨l.toArray⟩, .string ⟨#[48, 49, 50, 51, 52, 53, 54, 55, 56, 57, 46]⟩] w fun e w' => e = .returned (.int .i64 (k : Int)) ∧ Below w.heap.size w w' := by
  have hkl : k ≤ l.length := by have := takeWhile_le numB l; omega
  have CT := ltrim_num l k hk
  have hs := sub_len l.length k hkl hl
  clear hk
  go_enter Tryz.func44, Tryz.ntmps44
  go_wp2_with (go_at_call 20; refine (CT _).mono ?_; rintro e w1 ⟨rfl, hb⟩)
  go_ret
  exact ⟨by first | rfl | simp [hs], hb⟩
theorem ltrim_part (l : List UInt8) (k : Nat) (hk : (l.takeWhile partB).length = k) (w : World) : Calls Tryz.prog 20 #[.string ⟨l.toArray⟩, .string ⟨#[65, 66, 67, 68, 69, 70, 71, 72, 73, 74, 75, 76, 77, 78, 79, 80, 81, 82, 83, 84, 85, 86, 87, 88, 89, 90, 48, 49, 50, 51, 52, 53, 54, 55, 56, 57, 95]⟩] w fun e w' => e = .returned (.string ⟨(l.drop k).toArray⟩) ∧ Below w.heap.size w w' := by
  have := Any.strings_TrimLeft_laid Tryz.lays161 (by kernel_rfl) ⟨l.toArray⟩ ⟨#[65, 66, 67, 68, 69, 70, 71, 72, 73, 74, 75, 76, 77, 78, 79, 80, 81, 82, 83, 84, 85, 86, 87, 88, 89, 90, 48, 49, 50, 51, 52, 53, 54, 55, 56, 57, 95]⟩ w (by decide) (ascii_of_all (by decide))
  have e : Lib.trimLeftS (⟨l.toArray⟩ : ByteArray).data.toList (⟨#[65, 66, 67, 68, 69, 70, 71, 72, 73, 74, 75, 76, 77, 78, 79, 80, 81, 82, 83, 84, 85, 86, 87, 88, 89, 90, 48, 49, 50, 51, 52, 53, 54, 55, 56, 57, 95]⟩ : ByteArray).data.toList = l.drop k := by
    show Lib.trimLeftS l csPart = l.drop k
    unfold Lib.trimLeftS
    rw [← hk, drop_takeWhile, csPart_is]
  rwa [e] at this
set_option maxHeartbeats 400000 in
theorem lrun_part (l : List UInt8) (k : Nat) (hl : l.length ≤ 9223372036854775807) (hk : (l.takeWhile partB).length = k) (w : World) : Calls Tryz.prog 44 #[.string ⟨l.toArray⟩, .string ⟨#[65, 66, 67, 68, 69, 70, 71, 72, 73, 74, 75, 76, 77, 78, 79, 80, 81, 82, 83, 84, 85, 86, 87, 88, 89, 90, 48, 49, 50, 51, 52, 53, 54, 55, 56, 57, 95]⟩] w fun e w' => e = .returned (.int .i64 (k : Int)) ∧ Below w.heap.size w w' := by
  have hkl : k ≤ l.length := by have := takeWhile_le partB l; omega
  have CT := ltrim_part l k hk
  have hs := sub_len l.length k hkl hl
  clear hk
  go_enter Tryz.func44, Tryz.ntmps44
  go_wp2_with (go_at_call 20; refine (CT _).mono ?_; rintro e w1 ⟨rfl, hb⟩)
  go_ret
  exact ⟨by first | rfl | simp [hs], hb⟩
theorem ltrim_up (l : List UInt8) (k : Nat) (hk : (l.takeWhile upB).length = k) (w : World) : Calls Tryz.prog 20 #[.string ⟨l.toArray⟩, .string ⟨#[65, 66, 67, 68, 69, 70, 71, 72, 73, 74, 75, 76, 77, 78, 79, 80, 81, 82, 83, 84, 85, 86, 87, 88, 89, 90]⟩] w fun e w' => e = .returned (.string ⟨(l.drop k).toArray⟩) ∧ Below w.heap.size w w' := by
  have := Any.strings_TrimLeft_laid Tryz.lays161 (by kernel_rfl) ⟨l.toArray⟩ ⟨#[65, 66, 67, 68, 69, 70, 71, 72, 73, 74, 75, 76, 77, 78, 79, 80, 81, 82, 83, 84, 85, 86, 87, 88, 89, 90]⟩ w (by decide) (ascii_of_all (by decide))
  have e : Lib.trimLeftS (⟨l.toArray⟩ : ByteArray).data.toList (⟨#[65, 66, 67, 68, 69, 70, 71, 72, 73, 74, 75, 76, 77, 78, 79, 80, 81, 82, 83, 84, 85, 86, 87, 88, 89, 90]⟩ : ByteArray).data.toList = l.drop k := by
    show Lib.trimLeftS l csUp = l.drop k
    unfold Lib.trimLeftS
    rw [← hk, drop_takeWhile, csUp_is]
  rwa [e] at this
set_option maxHeartbeats 400000 in
theorem lrun_up (l : List UInt8) (k : Nat) (hl : l.length ≤ 9223372036854775807) (hk : (l.takeWhile upB).length = k) (w : World) : Calls Tryz.prog 44 #[.string ⟨l.toArray⟩, .string ⟨#[65, 66, 67, 68, 69, 70, 71, 72, 73, 74, 75, 76, 77, 78, 79, 80, 81, 82, 83, 84, 85, 86, 87, 88, 89, 90]⟩] w fun e w' => e = .returned (.int .i64 (k : Int)) ∧ Below w.heap.size w w' := by
  have hkl : k ≤ l.length := by have := takeWhile_le upB l; omega
  have CT := ltrim_up l k hk
  have hs := sub_len l.length k hkl hl
  clear hk
  go_enter Tryz.func44, Tryz.ntmps44
  go_wp2_with (go_at_call 20; refine (CT _).mono ?_; rintro e w1 ⟨rfl, hb⟩)
  go_ret
  exact ⟨by first | rfl | simp [hs], hb⟩
theorem ltrim_dig (l : List UInt8) (k : Nat) (hk : (l.takeWhile isDig).length = k) (w : World) : Calls Tryz.prog 20 #[.string ⟨l.toArray⟩, .string ⟨#[48, 49, 50, 51, 52, 53, 54, 55, 56, 57]⟩] w fun e w' => e = .returned (.string ⟨(l.drop k).toArray⟩) ∧ Below w.heap.size w w' := by
  have := Any.strings_TrimLeft_laid Tryz.lays161 (by kernel_rfl) ⟨l.toArray⟩ ⟨#[48, 49, 50, 51, 52, 53, 54, 55, 56, 57]⟩ w (by decide) (ascii_of_all (by decide))
  have e : Lib.trimLeftS (⟨l.toArray⟩ : ByteArray).data.toList (⟨#[48, 49, 50, 51, 52, 53, 54, 55, 56, 57]⟩ : ByteArray).data.toList = l.drop k := by
    show Lib.trimLeftS l csDig = l.drop k
    unfold Lib.trimLeftS
    rw [← hk, drop_takeWhile, csDig_is]
  rwa [e] at this
set_option maxHeartbeats 400000 in
theorem lrun_dig (l : List UInt8) (k : Nat) (hl : l.length ≤ 9223372036854775807) (hk : (l.takeWhile isDig).length = k) (w : World) : Calls Tryz.prog 44 #[.string ⟨l.toArray⟩, .string ⟨#[48, 49, 50, 51, 52, 53, 54, 55, 56, 57]⟩] w fun e w' => e = .returned (.int .i64 (k : Int)) ∧ Below w.heap.size w w' := by
  have hkl : k ≤ l.length := by have := takeWhile_le isDig l; omega
  have CT := ltrim_dig l k hk
  have hs := sub_len l.length k hkl hl
  clear hk
  go_enter Tryz.func44, Tryz.ntmps44
  go_wp2_with (go_at_call 20; refine (CT _).mono ?_; rintro e w1 ⟨rfl, hb⟩)
  go_ret
  exact ⟨by first | rfl | simp [hs], hb⟩
theorem ltrim_blank (l : List UInt8) (w : World) : Calls Tryz.prog 20 #[.string ⟨l.toArray⟩, .string ⟨#[32]⟩] w fun e w' => e = .returned (.string ⟨(blank l).toArray⟩) ∧ Below w.heap.size w w' := by
  have := Any.strings_TrimLeft_laid Tryz.lays161 (by kernel_rfl) ⟨l.toArray⟩ ⟨#[32]⟩ w (by decide) (ascii_of_all (by decide))
  have e : Lib.trimLeftS (⟨l.toArray⟩ : ByteArray).data.toList (⟨#[32]⟩ : ByteArray).data.toList = blank l := by
    show l.dropWhile (([32] : List UInt8).contains ·) = blank l
    unfold blank
    congr 1
    funext b
    exact by simpa using all_bytes (P := fun b => ([32] : List UInt8).contains b == decide (b.toNat = 32)) (by decide +kernel) b
  rwa [e] at this
end Go.Proofs.YtiekhbagpmnboaaGreatDoor
