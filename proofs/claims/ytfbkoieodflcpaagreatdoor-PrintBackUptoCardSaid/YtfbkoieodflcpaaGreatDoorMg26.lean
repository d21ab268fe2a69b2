/-
  lex: runs of bytes; lex: sign; lex: quoted.
-/
import Derived.Test.YtfbkoieodflcpaaGreatDoorMg3
import Derived.Test.YtfbkoieodflcpaaGreatDoorRows
import Derived.Test.YtfbkoieodflcpaaGreatDoorMg0
import Derived.Test.YtfbkoieodflcpaaGreatDoorProg
import Derived.Test.YtfbkoieodflcpaaGreatDoorShelf
import Derived.Test.YtfbkoieodflcpaaGreatDoorMg4
import Derived.Test.YtfbkoieodflcpaaGreatDoorAddrC
import Derived.Test.YtfbkoieodflcpaaGreatDoorMg6
import Derived.Test.YtfbkoieodflcpaaGreatDoorValA
import Derived.Test.YtfbkoieodflcpaaGreatDoorValB
import Derived.Test.YtfbkoieodflcpaaGreatDoorMg9
import Derived.Test.YtfbkoieodflcpaaGreatDoorMg11
import Derived.Shelf.Strings.SlTrimAscii
import Derived.WalkSpells
import Derived.WalkLawsBesides
import Derived.StillTactics
import Derived.Laws.Pointers
import Derived.Deep.RegionHeld3
import Derived.Deep.QuietTactic
import Derived.BigQuiet
import Derived.RowKit3
import Derived.Lib.Hide
import Derived.Lib.OthersKept
import Derived.OwnWalk
import Derived.Lib.IndexLaws
import Derived.Lib.ItoaMem
import Derived.Lib.TrimByte
import Derived.Lib.SlTrimSet
import Derived.Lib.ParseIntB
import Derived.WalkKit
import Derived.ProofKit
import Derived.OpenShut
import Derived.Carry
import Derived.ChangeSame
import Derived.Deep.Draws
import Derived.Shelf.Strings.Builder1
import Derived.Shelf.Strings.Builder2
import Derived.Shelf.Strings.Trim
import Derived.Shelf.Small.Utf8
import Derived.Shelf.Small.Strs
import Derived.Shelf.Small.Wraps
import Derived.Shelf.Strings.BuilderF
import Derived.Shelf.Strings.BuilderK
import Derived.Shelf.Utf8.RuneCount
import Derived.Shelf.Strconv.Itoa0
import Derived.Shelf.Strconv.Itoa1
import Derived.Shelf.LaysM
import Derived.Shelf.Strconv.Itoa2
import Derived.Shelf.Strconv.Itoa3
import Derived.Ground.MpProg
import Derived.Shelf.Pu.ParseUintPublic10
import Derived.Shelf.Strings.Search1
import Derived.Shelf.Strings.Search2
import Derived.Shelf.Strings.Search3
import Derived.Shelf.Strings.Cut
import Derived.Shelf.Strings.Count
import Derived.Shelf.Strings.Shaped
import Derived.Shelf.Strings.Prefix
import Derived.Shelf.Strings.Split
import Derived.Shelf.Strings.Replace
import Derived.Shelf.Strings.SplitShaped
import Derived.Shelf.Unicode.Decode
import Derived.Shelf.Strings.Runes
import Derived.Shelf.Strings.RuneCount
import Derived.Shelf.Strings.AsciiSet
import Derived.Shelf.Unicode.DecodeSlow
import Derived.Shelf.Unicode.DecodeAny
import Derived.Shelf.Unicode.DecodeLast
import Derived.Lib.ItoaNum
namespace Go.Proofs.YtfbkoieodflcpaaGreatDoor
open Go.RowKit

theorem sub_len (n k : Nat) (hk : k ≤ n) (hn : n ≤ 9223372036854775807) : IntKind.i64.wrap ((n : Int) - ((n - k : Nat) : Int)) = (k : Int) := by
  rw [IntWalk.i64_in _ (by omega)]; omega
theorem ltrim_num (l : List UInt8) (k : Nat) (hk : (l.takeWhile numB).length = k) (w : World) : Calls Tryz.prog 50 #[.string ⟨l.toArray⟩, .string ⟨#[48, 49, 50, 51, 52, 53, 54, 55, 56, 57, 46]⟩] w fun e w' => e = .returned (.string ⟨(l.drop k).toArray⟩) ∧ Below w.heap.size w w' := by
  have := Any.strings_TrimLeft_laid Tryz.lays161 (by kernel_rfl) ⟨l.toArray⟩ ⟨#[48, 49, 50, 51, 52, 53, 54, 55, 56, 57, 46]⟩ w (by decide) (ascii_of_all (by decide))
  have e : Lib.trimLeftS (⟨l.toArray⟩ : ByteArray).data.toList (⟨#[48, 49, 50, 51, 52, 53, 54, 55, 56, 57, 46]⟩ : ByteArray).data.toList = l.drop k := by
    show Lib.trimLeftS l csNum = l.drop k
    unfold Lib.trimLeftS
    rw [← hk, drop_takeWhile, csNum_is]
  rwa [e] at this
set_option maxHeartbeats 400000 in
theorem lrun_num (l : List UInt8) (k : Nat) (hl : l.length ≤ 9223372036854775807) (hk : (l.takeWhile numB).length = k) (w : World) : Calls Tryz.prog 88 #[.string ⟨l.toArray⟩, .string ⟨#[48, 49, 50, 51, 52, 53, 54, 55, 56, 57, 46]⟩] w fun e w' => e = .returned (.int .i64 (k : Int)) ∧ Below w.heap.size w w' := by
  have hkl : k ≤ l.length := by have := takeWhile_le numB l; omega
  have CT := ltrim_num l k hk
  have hs := sub_len l.length k hkl hl
  clear hk
  go_enter Tryz.func88, Tryz.ntmps88
  go_wp2_with (go_at_call 50; refine (CT _).mono ?_; rintro e w1 ⟨rfl, hb⟩)
  go_ret
  exact ⟨by first | rfl | simp [hs], hb⟩
theorem ltrim_part (l : List UInt8) (k : Nat) (hk : (l.takeWhile partB).length = k) (w : World) : Calls Tryz.prog 50 #[.string ⟨l.toArray⟩, .string ⟨#[65, 66, 67, 68, 69, 70, 71, 72, 73, 74, 75, 76, 77, 78, 79, 80, 81, 82, 83, 84, 85, 86, 87, 88, 89, 90, 48, 49, 50, 51, 52, 53, 54, 55, 56, 57, 95]⟩] w fun e w' => e = .returned (.string ⟨(l.drop k).toArray⟩) ∧ Below w.heap.size w w' := by
  have := Any.strings_TrimLeft_laid Tryz.lays161 (by kernel_rfl) ⟨l.toArray⟩ ⟨#[65, 66, 67, 68, 69, 70, 71, 72, 73, 74, 75, 76, 77, 78, 79, 80, 81, 82, 83, 84, 85, 86, 87, 88, 89, 90, 48, 49, 50, 51, 52, 53, 54, 55, 56, 57, 95]⟩ w (by decide) (ascii_of_all (by decide))
  have e : Lib.trimLeftS (⟨l.toArray⟩ : ByteArray).data.toList (⟨#[65, 66, 67, 68, 69, 70, 71, 72, 73, 74, 75, 76, 77, 78, 79, 80, 81, 82, 83, 84, 85, 86, 87, 88, 89, 90, 48, 49, 50, 51, 52, 53, 54, 55, 56, 57, 95]⟩ : ByteArray).data.toList = l.drop k := by
    show Lib.trimLeftS l csPart = l.drop k
    unfold Lib.trimLeftS
    rw [← hk, drop_takeWhile, csPart_is]
  rwa [e] at this
set_option maxHeartbeats 400000 in
theorem lrun_part (l : List UInt8) (k : Nat) (hl : l.length ≤ 9223372036854775807) (hk : (l.takeWhile partB).length = k) (w : World) : Calls Tryz.prog 88 #[.string ⟨l.toArray⟩, .string ⟨#[65, 66, 67, 68, 69, 70, 71, 72, 73, 74, 75, 76, 77, 78, 79, 80, 81, 82, 83, 84, 85, 86, 87, 88, 89, 90, 48, 49, 50, 51, 52, 53, 54, 55, 56, 57, 95]⟩] w fun e w' => e = .returned (.int .i64 (k : Int)) ∧ Below w.heap.size w w' := by
  have hkl : k ≤ l.length := by have := takeWhile_le partB l; omega
  have CT := ltrim_part l k hk
  have hs := sub_len l.length k hkl hl
  clear hk
  go_enter Tryz.func88, Tryz.ntmps88
  go_wp2_with (go_at_call 50; refine (CT _).mono ?_; rintro e w1 ⟨rfl, hb⟩)
  go_ret
  exact ⟨by first | rfl | simp [hs], hb⟩
theorem ltrim_up (l : List UInt8) (k : Nat) (hk : (l.takeWhile upB).length = k) (w : World) : Calls Tryz.prog 50 #[.string ⟨l.toArray⟩, .string ⟨#[65, 66, 67, 68, 69, 70, 71, 72, 73, 74, 75, 76, 77, 78, 79, 80, 81, 82, 83, 84, 85, 86, 87, 88, 89, 90]⟩] w fun e w' => e = .returned (.string ⟨(l.drop k).toArray⟩) ∧ Below w.heap.size w w' := by
  have := Any.strings_TrimLeft_laid Tryz.lays161 (by kernel_rfl) ⟨l.toArray⟩ ⟨#[65, 66, 67, 68, 69, 70, 71, 72, 73, 74, 75, 76, 77, 78, 79, 80, 81, 82, 83, 84, 85, 86, 87, 88, 89, 90]⟩ w (by decide) (ascii_of_all (by decide))
  have e : Lib.trimLeftS (⟨l.toArray⟩ : ByteArray).data.toList (⟨#[65, 66, 67, 68, 69, 70, 71, 72, 73, 74, 75, 76, 77, 78, 79, 80, 81, 82, 83, 84, 85, 86, 87, 88, 89, 90]⟩ : ByteArray).data.toList = l.drop k := by
    show Lib.trimLeftS l csUp = l.drop k
    unfold Lib.trimLeftS
    rw [← hk, drop_takeWhile, csUp_is]
  rwa [e] at this
set_option maxHeartbeats 400000 in
theorem lrun_up (l : List UInt8) (k : Nat) (hl : l.length ≤ 9223372036854775807) (hk : (l.takeWhile upB).length = k) (w : World) : Calls Tryz.prog 88 #[.string ⟨l.toArray⟩, .string ⟨#[65, 66, 67, 68, 69, 70, 71, 72, 73, 74, 75, 76, 77, 78, 79, 80, 81, 82, 83, 84, 85, 86, 87, 88, 89, 90]⟩] w fun e w' => e = .returned (.int .i64 (k : Int)) ∧ Below w.heap.size w w' := by
  have hkl : k ≤ l.length := by have := takeWhile_le upB l; omega
  have CT := ltrim_up l k hk
  have hs := sub_len l.length k hkl hl
  clear hk
  go_enter Tryz.func88, Tryz.ntmps88
  go_wp2_with (go_at_call 50; refine (CT _).mono ?_; rintro e w1 ⟨rfl, hb⟩)
  go_ret
  exact ⟨by first | rfl | simp [hs], hb⟩
theorem ltrim_dig (l : List UInt8) (k : Nat) (hk : (l.takeWhile isDig).length = k) (w : World) : Calls Tryz.prog 50 #[.string ⟨l.toArray⟩, .string ⟨#[48, 49, 50, 51, 52, 53, 54, 55, 56, 57]⟩] w fun e w' => e = .returned (.string ⟨(l.drop k).toArray⟩) ∧ Below w.heap.size w w' := by
  have := Any.strings_TrimLeft_laid Tryz.lays161 (by kernel_rfl) ⟨l.toArray⟩ ⟨#[48, 49, 50, 51, 52, 53, 54, 55, 56, 57]⟩ w (by decide) (ascii_of_all (by decide))
  have e : Lib.trimLeftS (⟨l.toArray⟩ : ByteArray).data.toList (⟨#[48, 49, 50, 51, 52, 53, 54, 55, 56, 57]⟩ : ByteArray).data.toList = l.drop k := by
    show Lib.trimLeftS l csDig = l.drop k
    unfold Lib.trimLeftS
    rw [← hk, drop_takeWhile, csDig_is]
  rwa [e] at this
set_option maxHeartbeats 400000 in
theorem lrun_dig (l : List UInt8) (k : Nat) (hl : l.length ≤ 9223372036854775807) (hk : (l.takeWhile isDig).length = k) (w : World) : Calls Tryz.prog 88 #[.string ⟨l.toArray⟩, .string ⟨#[48, 49, 50, 51, 52, 53, 54, 55, 56, 57]⟩] w fun e w' => e = .returned (.int .i64 (k : Int)) ∧ Below w.heap.size w w' := by
  have hkl : k ≤ l.length := by have := takeWhile_le isDig l; omega
  have CT := ltrim_dig l k hk
  have hs := sub_len l.length k hkl hl
  clear hk
  go_enter Tryz.func88, Tryz.ntmps88
  go_wp2_with (go_at_call 50; refine (CT _).mono ?_; rintro e w1 ⟨rfl, hb⟩)
  go_ret
  exact ⟨by first | rfl | simp [hs], hb⟩
theorem ltrim_blank (l : List UInt8) (w : World) : Calls Tryz.prog 50 #[.string ⟨l.toArray⟩, .string ⟨#[32]⟩] w fun e w' => e = .returned (.string ⟨(blank l).toArray⟩) ∧ Below w.heap.size w w' := by
  have := Any.strings_TrimLeft_laid Tryz.lays161 (by kernel_rfl) ⟨l.toArray⟩ ⟨#[32]⟩ w (by decide) (ascii_of_all (by decide))
  have e : Lib.trimLeftS (⟨l.toArray⟩ : ByteArray).data.toList (⟨#[32]⟩ : ByteArray).data.toList = blank l := by
    show l.dropWhile (([32] : List UInt8).contains ·) = blank l
    unfold blank
    congr 1
    funext b
    exact by simpa using all_bytes (P := fun b => ([32] : List UInt8).contains b == decide (b.toNat = 32)) (by decide +kernel) b
  rwa [e] at this
end Go.Proofs.YtfbkoieodflcpaaGreatDoor
namespace Go.Proofs.YtfbkoieodflcpaaGreatDoor
open Go.RowKit

theorem idx_none (l : List UInt8) (c : UInt8) (h : Lib.indexByte l c = -1) (hm : c ∈ l) : False := by
  obtain ⟨k, hk⟩ := List.getElem?_of_mem hm
  exact Lib.indexByte_none h k hk
theorem idx_absent (l : List UInt8) (c : UInt8) (hm : c ∉ l) : Lib.indexByte l c = -1 := by
  rcases idx_cases l c with h | ⟨o, ho, _⟩
  · exact h
  · exact absurd (List.mem_of_getElem? (Lib.indexByte_some ho).1) hm
theorem lpre (l p : List UInt8) (b : Bool) (h : Lib.hasPrefix l p = b) (w : World) : Calls Tryz.prog 125 #[.string ⟨l.toArray⟩, .string ⟨p.toArray⟩] w fun e w' => e = .returned (.bool b) ∧ w' = w := by
  have := Tryz.strings_HasPrefix ⟨l.toArray⟩ ⟨p.toArray⟩ w
  rw [← h]; simpa using this
theorem pre_two (l : List UInt8) (a b : UInt8) : Lib.hasPrefix l [a, b] = decide (l.take 2 = [a, b]) := by
  rw [Bool.eq_iff_iff]
  simp only [decide_eq_true_eq]
  unfold Lib.hasPrefix
  cases l with
  | nil => simp
  | cons c r =>
    cases r with
    | nil => simp
    | cons d r =>
      simp
      constructor <;> (rintro ⟨rfl, rfl⟩; exact ⟨rfl, rfl⟩)
set_option maxHeartbeats 1000000 in
theorem lsign_two0 (l : List UInt8) (_hl : l.length ≤ 140737488355328) (_h0 : 0 < l.length) (h : l.take 2 = [60, 62]) (w : World) : Calls Tryz.prog 94 #[.string ⟨l.toArray⟩] w fun e w' => e = .returned (.tuple #[.agg #[.int .i64 7, .int .i64 0, .int .i64 0, .string ⟨#[60, 62]⟩, .int .i64 0, .int .i64 0, .int .i64 0, .int .i64 0, .int .i64 0, .int .i64 0, .int .i64 0], .int .i64 2]) ∧ Below w.heap.size w w' := by
  have p0 : Hid (Lib.hasPrefix l [60, 62] = true) := Lib.hid (by rw [pre_two, h]; decide)
  clear h
  go_enter Tryz.func94, Tryz.ntmps94
  go_wp2
  go_loop [8] (fun i => ∃ j : Nat, j ≤ 0 ∧ i = .int .i64 (j : Int)) (fun i => 0 - (intOf i).toNat)
  case atStart => exact ⟨0, by omega, rfl⟩
  case round =>
    obtain ⟨j, hj, rfl⟩ := hrel
    obtain rfl : j = 0 := by omega
    · go_wp2_with (go_at_call 125; refine (lpre l _ _ p0.out _).mono ?_; rintro e w1 ⟨rfl, hw1⟩; subst hw1)
      refine bodyPost_ret (v := _) ?_ rfl ⟨rfl, by (repeat (first | (with_reducible exact Below.refl _ _) | (with_reducible refine Below.alloc ?_ (by first | omega | (dsimp only; omega) | (simp <;> omega)) _) | (with_reducible refine Below.setCell ?_ (by first | omega | (dsimp only; omega) | (simp <;> omega)) _) | (with_reducible refine Below.drew ?_) | (with_reducible refine below_drewN ?_ _) | (with_reducible refine Below.trans ?_ (Below.mono (by assumption) (by first | omega | (dsimp only; omega) | (simp <;> omega))))))⟩
      first | (simp [results, Tryz.results94, go_sem, *]; done) | (simp [results, Tryz.results94, go_sem, *]; omega)
set_option maxHeartbeats 1000000 in
theorem lsign_two1 (l : List UInt8) (_hl : l.length ≤ 140737488355328) (_h0 : 0 < l.length) (h : l.take 2 = [60, 61]) (w : World) : Calls Tryz.prog 94 #[.string ⟨l.toArray⟩] w fun e w' => e = .returned (.tuple #[.agg #[.int .i64 7, .int .i64 0, .int .i64 0, .string ⟨#[60, 61]⟩, .int .i64 0, .int .i64 0, .int .i64 0, .int .i64 0, .int .i64 0, .int .i64 0, .int .i64 0], .int .i64 2]) ∧ Below w.heap.size w w' := by
  have p0 : Hid (Lib.hasPrefix l [60, 62] = false) := Lib.hid (by rw [pre_two, h]; decide)
  have p1 : Hid (Lib.hasPrefix l [60, 61] = true) := Lib.hid (by rw [pre_two, h]; decide)
  clear h
  go_enter Tryz.func94, Tryz.ntmps94
  go_wp2
  go_loop [8] (fun i => ∃ j : Nat, j ≤ 1 ∧ i = .int .i64 (j : Int)) (fun i => 1 - (intOf i).toNat)
  case atStart => exact ⟨0, by omega, rfl⟩
  case round =>
    obtain ⟨j, hj, rfl⟩ := hrel
    obtain rfl | rfl : j = 0 ∨ j = 1 := by omega
    · go_wp2_with (go_at_call 125; refine (lpre l _ _ p0.out _).mono ?_; rintro e w1 ⟨rfl, hw1⟩; subst hw1)
      go_round
      case rel => exact ⟨1, by omega, by first | rfl | go_num⟩
      case measure => simp [intOf]
    · go_wp2_with (go_at_call 125; refine (lpre l _ _ p1.out _).mono ?_; rintro e w1 ⟨rfl, hw1⟩; subst hw1)
      refine bodyPost_ret (v := _) ?_ rfl ⟨rfl, by (repeat (first | (with_reducible exact Below.refl _ _) | (with_reducible refine Below.alloc ?_ (by first | omega | (dsimp only; omega) | (simp <;> omega)) _) | (with_reducible refine Below.setCell ?_ (by first | omega | (dsimp only; omega) | (simp <;> omega)) _) | (with_reducible refine Below.drew ?_) | (with_reducible refine below_drewN ?_ _) | (with_reducible refine Below.trans ?_ (Below.mono (by assumption) (by first | omega | (dsimp only; omega) | (simp <;> omega))))))⟩
      first | (simp [results, Tryz.results94, go_sem, *]; done) | (simp [results, Tryz.results94, go_sem, *]; omega)
set_option maxHeartbeats 1000000 in
theorem lsign_two2 (l : List UInt8) (_hl : l.length ≤ 140737488355328) (_h0 : 0 < l.length) (h : l.take 2 = [62, 61]) (w : World) : Calls Tryz.prog 94 #[.string ⟨l.toArray⟩] w fun e w' => e = .returned (.tuple #[.agg #[.int .i64 7, .int .i64 0, .int .i64 0, .string ⟨#[62, 61]⟩, .int .i64 0, .int .i64 0, .int .i64 0, .int .i64 0, .int .i64 0, .int .i64 0, .int .i64 0], .int .i64 2]) ∧ Below w.heap.size w w' := by
  have p0 : Hid (Lib.hasPrefix l [60, 62] = false) := Lib.hid (by rw [pre_two, h]; decide)
  have p1 : Hid (Lib.hasPrefix l [60, 61] = false) := Lib.hid (by rw [pre_two, h]; decide)
  have p2 : Hid (Lib.hasPrefix l [62, 61] = true) := Lib.hid (by rw [pre_two, h]; decide)
  clear h
  go_enter Tryz.func94, Tryz.ntmps94
  go_wp2
  go_loop [8] (fun i => ∃ j : Nat, j ≤ 2 ∧ i = .int .i64 (j : Int)) (fun i => 2 - (intOf i).toNat)
  case atStart => exact ⟨0, by omega, rfl⟩
  case round =>
    obtain ⟨j, hj, rfl⟩ := hrel
    obtain rfl | rfl | rfl : j = 0 ∨ j = 1 ∨ j = 2 := by omega
    · go_wp2_with (go_at_call 125; refine (lpre l _ _ p0.out _).mono ?_; rintro e w1 ⟨rfl, hw1⟩; subst hw1)
      go_round
      case rel => exact ⟨1, by omega, by first | rfl | go_num⟩
      case measure => simp [intOf]
    · go_wp2_with (go_at_call 125; refine (lpre l _ _ p1.out _).mono ?_; rintro e w1 ⟨rfl, hw1⟩; subst hw1)
      go_round
      case rel => exact ⟨2, by omega, by first | rfl | go_num⟩
      case measure => simp [intOf]
    · go_wp2_with (go_at_call 125; refine (lpre l _ _ p2.out _).mono ?_; rintro e w1 ⟨rfl, hw1⟩; subst hw1)
      refine bodyPost_ret (v := _) ?_ rfl ⟨rfl, by (repeat (first | (with_reducible exact Below.refl _ _) | (with_reducible refine Below.alloc ?_ (by first | omega | (dsimp only; omega) | (simp <;> omega)) _) | (with_reducible refine Below.setCell ?_ (by first | omega | (dsimp only; omega) | (simp <;> omega)) _) | (with_reducible refine Below.drew ?_) | (with_reducible refine below_drewN ?_ _) | (with_reducible refine Below.trans ?_ (Below.mono (by assumption) (by first | omega | (dsimp only; omega) | (simp <;> omega))))))⟩
      first | (simp [results, Tryz.results94, go_sem, *]; done) | (simp [results, Tryz.results94, go_sem, *]; omega)
theorem lidx_yes (b : UInt8) (h : signs.contains b = true) (w : World) : Calls Tryz.prog 126 #[.string ⟨#[40, 41, 44, 43, 45, 42, 47, 37, 38, 61, 60, 62]⟩, .int .u8 (b.toNat : Int)] w fun e w' => (∃ i : Int, 0 ≤ i ∧ e = .returned (.int .i64 i)) ∧ w' = w := by
  refine (Tryz.strings_IndexByte ⟨#[40, 41, 44, 43, 45, 42, 47, 37, 38, 61, 60, 62]⟩ (b.toNat : Int) w).mono ?_
  rw [show ((b.toNat : Int)).toNat.toUInt8 = b by simp]
  rintro e w' ⟨rfl, hw⟩
  refine ⟨⟨_, ?_, rfl⟩, hw⟩
  have hge := Lib.indexByte_ge signs b
  refine Int.not_lt.1 fun hlt => ?_
  have hn : Lib.indexByte signs b = -1 := by
    have : Lib.indexByte (⟨#[40, 41, 44, 43, 45, 42, 47, 37, 38, 61, 60, 62]⟩ : ByteArray).data.toList b < 0 := hlt
    change Lib.indexByte signs b < 0 at this
    omega
  exact idx_none signs b hn (by simpa using h)
theorem lidx_no (b : UInt8) (h : signs.contains b = false) (w : World) : Calls Tryz.prog 126 #[.string ⟨#[40, 41, 44, 43, 45, 42, 47, 37, 38, 61, 60, 62]⟩, .int .u8 (b.toNat : Int)] w fun e w' => (∃ i : Int, i = -1 ∧ e = .returned (.int .i64 i)) ∧ w' = w := by
  refine (Tryz.strings_IndexByte ⟨#[40, 41, 44, 43, 45, 42, 47, 37, 38, 61, 60, 62]⟩ (b.toNat : Int) w).mono ?_
  rw [show ((b.toNat : Int)).toNat.toUInt8 = b by simp]
  rintro e w' ⟨rfl, hw⟩
  refine ⟨⟨_, ?_, rfl⟩, hw⟩
  show Lib.indexByte signs b = -1
  exact idx_absent signs b (by simpa using h)
set_option maxHeartbeats 1000000 in
theorem lsign_yes (l : List UInt8) (_hl : l.length ≤ 140737488355328) (h0 : 0 < l.length) (n0 : l.take 2 ≠ [60, 62]) (n1 : l.take 2 ≠ [60, 61]) (n2 : l.take 2 ≠ [62, 61]) (b : UInt8) (r : List UInt8) (hb : l = b :: r) (hs : signs.contains b = true) (w : World) : Calls Tryz.prog 94 #[.string ⟨l.toArray⟩] w fun e w' => e = .returned (.tuple #[.agg #[.int .i64 7, .int .i64 0, .int .i64 0, .string ⟨#[b]⟩, .int .i64 0, .int .i64 0, .int .i64 0, .int .i64 0, .int .i64 0, .int .i64 0, .int .i64 0], .int .i64 1]) ∧ Below w.heap.size w w' := by
  have p0 : Hid (Lib.hasPrefix l [60, 62] = false) := Lib.hid (by rw [pre_two]; simpa using n0)
  have p1 : Hid (Lib.hasPrefix l [60, 61] = false) := Lib.hid (by rw [pre_two]; simpa using n1)
  have p2 : Hid (Lib.hasPrefix l [62, 61] = false) := Lib.hid (by rw [pre_two]; simpa using n2)
  have hi0 : 0 < (⟨l.toArray⟩ : ByteArray).size := by show 0 < l.toArray.size; simpa using h0
  have hbe : (⟨l.toArray⟩ : ByteArray)[0]'hi0 = b := by subst hb; rfl
  have CI := lidx_yes b hs
  have hx := ext_mid l [b] 0 1 (by rw [hb]; rfl)
  rw [Nat.zero_add] at hx
  clear n0 n1 n2 hb hs
  go_enter Tryz.func94, Tryz.ntmps94
  go_wp2
  go_loop [8] (fun i => ∃ j : Nat, j ≤ 3 ∧ i = .int .i64 (j : Int)) (fun i => 3 - (intOf i).toNat)
  case atStart => exact ⟨0, by omega, rfl⟩
  case round =>
    obtain ⟨j, hj, rfl⟩ := hrel
    obtain rfl | rfl | rfl | rfl : j = 0 ∨ j = 1 ∨ j = 2 ∨ j = 3 := by omega
    · go_wp2_with (go_at_call 125; refine (lpre l _ _ p0.out _).mono ?_; rintro e w1 ⟨rfl, hw1⟩; subst hw1)
      go_round
      case rel => exact ⟨1, by omega, by first | rfl | go_num⟩
      case measure => simp [intOf]
    · go_wp2_with (go_at_call 125; refine (lpre l _ _ p1.out _).mono ?_; rintro e w1 ⟨rfl, hw1⟩; subst hw1)
      go_round
      case rel => exact ⟨2, by omega, by first | rfl | go_num⟩
      case measure => simp [intOf]
    · go_wp2_with (go_at_call 125; refine (lpre l _ _ p2.out _).mono ?_; rintro e w1 ⟨rfl, hw1⟩; subst hw1)
      go_round
      case rel => exact ⟨3, by omega, by first | rfl | go_num⟩
      case measure => simp [intOf]
    · go_wp2_with (go_at_call 126; (try rw [hbe]); refine (CI _).mono ?_; rintro e w1 ⟨⟨i, hi, rfl⟩, hw1⟩; subst hw1)
      refine bodyPost_ret (v := _) ?_ rfl ⟨rfl, by (repeat (first | (with_reducible exact Below.refl _ _) | (with_reducible refine Below.alloc ?_ (by first | omega | (dsimp only; omega) | (simp <;> omega)) _) | (with_reducible refine Below.setCell ?_ (by first | omega | (dsimp only; omega) | (simp <;> omega)) _) | (with_reducible refine Below.drew ?_) | (with_reducible refine below_drewN ?_ _) | (with_reducible refine Below.trans ?_ (Below.mono (by assumption) (by first | omega | (dsimp only; omega) | (simp <;> omega))))))⟩
      first | (simp [results, Tryz.results94, go_sem, *]; done) | (simp [results, Tryz.results94, go_sem, *]; omega)
set_option maxHeartbeats 1000000 in
theorem lsign_no (l : List UInt8) (_hl : l.length ≤ 140737488355328) (h0 : 0 < l.length) (n0 : l.take 2 ≠ [60, 62]) (n1 : l.take 2 ≠ [60, 61]) (n2 : l.take 2 ≠ [62, 61]) (b : UInt8) (r : List UInt8) (hb : l = b :: r) (hs : signs.contains b = false) (w : World) : Calls Tryz.prog 94 #[.string ⟨l.toArray⟩] w fun e w' => e = .returned (.tuple #[.agg #[.int .i64 8, .int .i64 0, .int .i64 0, .string ⟨#[]⟩, .int .i64 0, .int .i64 0, .int .i64 0, .int .i64 0, .int .i64 0, .int .i64 0, .int .i64 0], .int .i64 0]) ∧ Below w.heap.size w w' := by
  have p0 : Hid (Lib.hasPrefix l [60, 62] = false) := Lib.hid (by rw [pre_two]; simpa using n0)
  have p1 : Hid (Lib.hasPrefix l [60, 61] = false) := Lib.hid (by rw [pre_two]; simpa using n1)
  have p2 : Hid (Lib.hasPrefix l [62, 61] = false) := Lib.hid (by rw [pre_two]; simpa using n2)
  have hi0 : 0 < (⟨l.toArray⟩ : ByteArray).size := by show 0 < l.toArray.size; simpa using h0
  have hbe : (⟨l.toArray⟩ : ByteArray)[0]'hi0 = b := by subst hb; rfl
  have CI := lidx_no b hs
  have hx := ext_mid l [b] 0 1 (by rw [hb]; rfl)
  rw [Nat.zero_add] at hx
  clear n0 n1 n2 hb hs
  go_enter Tryz.func94, Tryz.ntmps94
  go_wp2
  go_loop [8] (fun i => ∃ j : Nat, j ≤ 3 ∧ i = .int .i64 (j : Int)) (fun i => 3 - (intOf i).toNat)
  case atStart => exact ⟨0, by omega, rfl⟩
  case round =>
    obtain ⟨j, hj, rfl⟩ := hrel
    obtain rfl | rfl | rfl | rfl : j = 0 ∨ j = 1 ∨ j = 2 ∨ j = 3 := by omega
    · go_wp2_with (go_at_call 125; refine (lpre l _ _ p0.out _).mono ?_; rintro e w1 ⟨rfl, hw1⟩; subst hw1)
      go_round
      case rel => exact ⟨1, by omega, by first | rfl | go_num⟩
      case measure => simp [intOf]
    · go_wp2_with (go_at_call 125; refine (lpre l _ _ p1.out _).mono ?_; rintro e w1 ⟨rfl, hw1⟩; subst hw1)
      go_round
      case rel => exact ⟨2, by omega, by first | rfl | go_num⟩
      case measure => simp [intOf]
    · go_wp2_with (go_at_call 125; refine (lpre l _ _ p2.out _).mono ?_; rintro e w1 ⟨rfl, hw1⟩; subst hw1)
      go_round
      case rel => exact ⟨3, by omega, by first | rfl | go_num⟩
      case measure => simp [intOf]
    · go_wp2_with (go_at_call 126; (try rw [hbe]); refine (CI _).mono ?_; rintro e w1 ⟨⟨i, hi, rfl⟩, hw1⟩; subst hw1)
      refine bodyPost_ret (v := _) ?_ rfl ⟨rfl, by (repeat (first | (with_reducible exact Below.refl _ _) | (with_reducible refine Below.alloc ?_ (by first | omega | (dsimp only; omega) | (simp <;> omega)) _) | (with_reducible refine Below.setCell ?_ (by first | omega | (dsimp only; omega) | (simp <;> omega)) _) | (with_reducible refine Below.drew ?_) | (with_reducible refine below_drewN ?_ _) | (with_reducible refine Below.trans ?_ (Below.mono (by assumption) (by first | omega | (dsimp only; omega) | (simp <;> omega))))))⟩
      first | (simp [results, Tryz.results94, go_sem, *]; done) | (simp [results, Tryz.results94, go_sem, *]; omega)
theorem lsign (l : List UInt8) (c : UInt8) (r : List UInt8) (hlc : l = c :: r) (hl : l.length ≤ 140737488355328) (x : Tok) (n : Nat) (hx : signT l = (x, n)) (w : World) : Calls Tryz.prog 94 #[.string ⟨l.toArray⟩] w fun e w' => e = .returned (.tuple #[.agg #[.int .i64 x.kind, .int .i64 x.place, .int .i64 x.num, .string x.str, .int .i64 x.r, .int .i64 x.c, .int .i64 x.t, .int .i64 x.l, .int .i64 x.b, .int .i64 x.q, .int .i64 x.code], .int .i64 (n : Int)]) ∧ Below w.heap.size w w' := by
  have h0 : 0 < l.length := by rw [hlc]; simp
  have hhead : l.head? = some c := by rw [hlc]; rfl
  have htk : l.take 1 = [c] := by rw [hlc]; simp
  unfold signT at hx
  split at hx
  · rename_i h
    simp only [twoB, Bool.or_eq_true, decide_eq_true_eq] at h
    rcases h with (h | h) | h
    · rw [h] at hx; cases hx; exact lsign_two0 l hl h0 h w
    · rw [h] at hx; cases hx; exact lsign_two1 l hl h0 h w
    · rw [h] at hx; cases hx; exact lsign_two2 l hl h0 h w
  · rename_i h
    simp only [twoB, Bool.or_eq_true, decide_eq_true_eq, not_or] at h
    obtain ⟨⟨n1, n2⟩, n3⟩ := h
    rw [hhead, htk] at hx
    split at hx
    · rename_i hs
      cases hx
      exact lsign_yes l hl h0 n1 n2 n3 c r hlc (by simpa using hs) w
    · rename_i hs
      cases hx
      exact lsign_no l hl h0 n1 n2 n3 c r hlc (by simpa using hs) w
end Go.Proofs.YtfbkoieodflcpaaGreatDoor
namespace Go.Proofs.YtfbkoieodflcpaaGreatDoor
open Go.RowKit

theorem lwrite34 (B : Nat) (acc : List UInt8) (hl : acc.length + 1 ≤ 140737488355328) (w : World) (hB : B ≤ w.heap.size) (h : Lib.IsBuilderF 59 5 B B (Lib.byteCells acc) w) : Calls Tryz.prog 17 #[.pointer (some ⟨B, 0, none⟩), .int .u8 34] w fun e w' => e = .returned .nilIface ∧ Lib.IsBuilderF 59 5 B B (Lib.byteCells (acc ++ [34])) w' ∧ Below B w w' := lwrite B acc 34 hl w hB h
set_option maxRecDepth 100000 in
set_option maxHeartbeats 2000000 in
theorem lquoted_yes (l : List UInt8) (hl : l.length ≤ 140737488355327) (h0 : 0 < l.length) (t : List UInt8) (n : Nat) (hq : quoteG (l.drop 1) = some (t, n)) (w : World) : Calls Tryz.prog 90 #[.string ⟨l.toArray⟩] w fun e w' => e = .returned (.tuple #[.agg #[.int .i64 2, .int .i64 0, .int .i64 0, .string ⟨t.toArray⟩, .int .i64 0, .int .i64 0, .int .i64 0, .int .i64 0, .int .i64 0, .int .i64 0, .int .i64 0], .int .i64 ((1 + n : Nat) : Int)]) ∧ Below w.heap.size w w' := by
  have hq' := Lib.hid hq
  clear hq
  go_enter Tryz.func90, Tryz.ntmps90
  go_wp2
  have hI0 : Lib.IsBuilderF 59 5 (w.heap.size + 1) (w.heap.size + 1) (Lib.byteCells ([])) ((w.alloc (.cells #[.int .i64 0, .int .i64 0, .int .i64 0, .string ⟨#[]⟩, .int .i64 0, .int .i64 0, .int .i64 0, .int .i64 0, .int .i64 0, .int .i64 0, .int .i64 0] 77)).alloc (.cells #[.pointer none, .slice none 0 0] 59)) := by
    have h9 := Lib.IsBuilderF.of (Lib.fresh_isBuilder 59 5 (w.alloc (.cells #[.int .i64 0, .int .i64 0, .int .i64 0, .string ⟨#[]⟩, .int .i64 0, .int .i64 0, .int .i64 0, .int .i64 0, .int .i64 0, .int .i64 0, .int .i64 0] 77)))
    simp only [World.size_alloc] at h9
    exact h9
  obtain ⟨w0, hw0⟩ : ∃ w0, ((w.alloc (.cells #[.int .i64 0, .int .i64 0, .int .i64 0, .string ⟨#[]⟩, .int .i64 0, .int .i64 0, .int .i64 0, .int .i64 0, .int .i64 0, .int .i64 0, .int .i64 0] 77)).alloc (.cells #[.pointer none, .slice none 0 0] 59)) = w0 := ⟨_, rfl⟩
  have hsz : w0.heap.size = w.heap.size + 2 := by rw [← hw0]; simp
  go_loopw [5] (fun i wr => ∃ (j : Nat) (acc : List UInt8), 1 + j ≤ l.length ∧ acc.length ≤ j ∧ i = .int .i64 ((1 + j : Nat) : Int) ∧ Lib.IsBuilderF 59 5 (w.heap.size + 1) (w.heap.size + 1) (Lib.byteCells (acc)) wr ∧ Below (w.heap.size + 1) w0 wr ∧ Hid (quoteG (l.drop 1) = (quoteG ((l.drop 1).drop j)).map fun x => (acc ++ x.1, x.2 + j))) (fun i _ => l.length - (intOf i).toNat)
  case atStart => exact ⟨0, [], by omega, by simp, rfl, hI0, by rw [hw0]; exact Below.refl _ _, Lib.hid (quote_start _)⟩
  case round =>
    clear hI0
    obtain ⟨j, acc, hj, hacc, rfl, hIb, hbr, hG⟩ := hrel
    obtain ⟨hc, hf, hz⟩ := keepB hbr (by omega)
    have hzr := hbr.size
    subst hw0
    obtain ⟨g1, g2, g3, g4, g5⟩ := quote_step acc _ j _ hG.out
    by_cases h1 : 1 + j < l.length
    · have hd1 : (l.drop 1).drop j = l[1 + j] :: l.drop (1 + j + 1) := by rw [List.drop_drop, drop_at l _ h1]
      have hb : 1 + j < (⟨l.toArray⟩ : ByteArray).size := by show 1 + j < l.toArray.size; simpa using h1
      by_cases h2 : l[1 + j].toNat = 34
      · have hb2 : ((⟨l.toArray⟩ : ByteArray)[1 + j]'hb).toNat = 34 := h2
        by_cases h3 : 1 + j + 1 < l.length
        · have hz0 : ((1 : Int) + (j : Int) + 1 == (l.length : Int)) = false := by simp; omega
          have hcb : 1 + j + 1 < (⟨l.toArray⟩ : ByteArray).size := by show 1 + j + 1 < l.toArray.size; simpa using h3
          by_cases h4 : l[1 + j + 1].toNat = 34
          · have hc2 : ((⟨l.toArray⟩ : ByteArray)[1 + j + 1]'hcb).toNat = 34 := h4
            have h34 : l[1 + j + 1] = 34 := by rw [← UInt8.toNat_inj]; exact h4
            have hG2 := Lib.hid (g4 _ _ _ (by rw [hd1, drop_at l _ h3]) h2 h4)
            rw [h34] at hG2
            clear g1 g2 g3 g4 g5 hG hd1 h2 h4 h34
            go_wp2_with fail
            refine (lwrite34 (w.heap.size + 1) acc (by omega) _ (by omega) hIb).mono ?_
            rintro e w4 ⟨rfl, hI4, hb4⟩
            have hbr4 := hbr.trans hb4
            clear hb4 hIb hbr
            go_wp2
            go_roundw
            case rel => exact ⟨j + 2, acc ++ [34], by omega, by simp; omega, by go_num, hI4, hbr4, by
              have := hG2.out
              rw [show (l.drop 1).drop (j + 2) = l.drop (1 + j + 1 + 1) by rw [List.drop_drop]; congr 1]
              exact Lib.hid this⟩
            case measure => simp [intOf]; omega
          · have hc2 : ((⟨l.toArray⟩ : ByteArray)[1 + j + 1]'hcb).toNat ≠ 34 := h4
            have hE := g3 _ _ hd1 h2 (fun c hc => by rw [List.head?_drop, List.getElem?_eq_getElem h3] at hc; cases hc; exact h4)
            clear g1 g2 g3 g4 g5 hG hd1 h2 h4
            rw [hq'.out] at hE
            obtain ⟨rfl, hn⟩ : t = acc ∧ n = j + 1 := by injection hE with h; injection h with h5 h6; exact ⟨h5, h6⟩
            have hn' := Lib.hid hn
            clear hn hE hq'
            have hq1 : Below w.heap.size w wr := (((Below.refl _ w).alloc (Nat.le_refl _) _).alloc (by simp) _).trans (hbr.mono (by omega))
            go_wp2_with fail
            refine (bstring_any (w.heap.size + 1) t _ rfl _ (by omega) hIb).mono ?_
            rintro e w4 ⟨rfl, hI4, hb4⟩
            obtain ⟨hc4, hf4, hz4⟩ := keepB hb4 (by omega)
            clear hI4 hIb
            go_wp2
            refine bodyPost_ret (v := _) ?_ rfl ⟨rfl, by (repeat (first | (with_reducible exact Below.refl _ _) | (with_reducible refine Below.alloc ?_ (by first | omega | (dsimp only; omega) | (simp <;> omega)) _) | (with_reducible refine Below.setCell ?_ (by first | omega | (dsimp only; omega) | (simp <;> omega)) _) | (with_reducible refine Below.drew ?_) | (with_reducible refine below_drewN ?_ _) | (with_reducible refine Below.trans ?_ (Below.mono (by assumption) (by first | omega | (dsimp only; omega) | (simp <;> omega))))))⟩
            rw [hn'.out]
            first | (simp [results, Tryz.results90, go_sem, *]; done) | (simp [results, Tryz.results90, go_sem, *]; omega)
        · have hE := g3 _ _ hd1 h2 (fun c hc => by rw [List.head?_drop, List.getElem?_eq_none (by omega)] at hc; cases hc)
          have hz0 : ((1 : Int) + (j : Int) + 1 == (l.length : Int)) = true := by simp; omega
          clear g1 g2 g3 g4 g5 hG hd1 h2
          rw [hq'.out] at hE
          obtain ⟨rfl, hn⟩ : t = acc ∧ n = j + 1 := by injection hE with h; injection h with h5 h6; exact ⟨h5, h6⟩
          have hn' := Lib.hid hn
          clear hn hE hq'
          have hq1 : Below w.heap.size w wr := (((Below.refl _ w).alloc (Nat.le_refl _) _).alloc (by simp) _).trans (hbr.mono (by omega))
          go_wp2_with fail
          refine (bstring_any (w.heap.size + 1) t _ rfl _ (by omega) hIb).mono ?_
          rintro e w4 ⟨rfl, hI4, hb4⟩
          obtain ⟨hc4, hf4, hz4⟩ := keepB hb4 (by omega)
          clear hI4 hIb
          go_wp2
          refine bodyPost_ret (v := _) ?_ rfl ⟨rfl, by (repeat (first | (with_reducible exact Below.refl _ _) | (with_reducible refine Below.alloc ?_ (by first | omega | (dsimp only; omega) | (simp <;> omega)) _) | (with_reducible refine Below.setCell ?_ (by first | omega | (dsimp only; omega) | (simp <;> omega)) _) | (with_reducible refine Below.drew ?_) | (with_reducible refine below_drewN ?_ _) | (with_reducible refine Below.trans ?_ (Below.mono (by assumption) (by first | omega | (dsimp only; omega) | (simp <;> omega))))))⟩
          rw [hn'.out]
          first | (simp [results, Tryz.results90, go_sem, *]; done) | (simp [results, Tryz.results90, go_sem, *]; omega)
      · have hb2 : ((⟨l.toArray⟩ : ByteArray)[1 + j]'hb).toNat ≠ 34 := h2
        have hG2 := Lib.hid (g5 _ _ hd1 h2)
        clear g1 g2 g3 g4 g5 hG hd1 h2
        go_wp2_with fail
        refine (lwrite (w.heap.size + 1) acc ((⟨l.toArray⟩ : ByteArray)[1 + j]'hb) (by omega) _ (by omega) hIb).mono ?_
        rintro e w4 ⟨rfl, hI4, hb4⟩
        have hbr4 := hbr.trans hb4
        clear hb4 hIb hbr
        go_wp2
        go_roundw
        case rel => exact ⟨j + 1, acc ++ [l[1 + j]], by omega, by simp; omega, by go_num, hI4, hbr4, by
          have := hG2.out
          rw [show (l.drop 1).drop (j + 1) = l.drop (1 + j + 1) by rw [List.drop_drop]; congr 1]
          exact Lib.hid this⟩
        case measure => simp [intOf]; omega
    · have hE := g2 (by rw [List.drop_drop]; exact List.drop_eq_nil_of_le (by omega))
      clear g1 g2 g3 g4 g5 hG
      rw [hq'.out] at hE
      cases hE
set_option maxRecDepth 100000 in
set_option maxHeartbeats 2000000 in
theorem lquoted_no (l : List UInt8) (hl : l.length ≤ 140737488355327) (h0 : 0 < l.length) (hq : quoteG (l.drop 1) = none) (w : World) : Calls Tryz.prog 90 #[.string ⟨l.toArray⟩] w fun e w' => e = .returned (.tuple #[.agg #[.int .i64 8, .int .i64 0, .int .i64 0, .string ⟨#[]⟩, .int .i64 0, .int .i64 0, .int .i64 0, .int .i64 0, .int .i64 0, .int .i64 0, .int .i64 0], .int .i64 0]) ∧ Below w.heap.size w w' := by
  have hq' := Lib.hid hq
  clear hq
  go_enter Tryz.func90, Tryz.ntmps90
  go_wp2
  have hI0 : Lib.IsBuilderF 59 5 (w.heap.size + 1) (w.heap.size + 1) (Lib.byteCells ([])) ((w.alloc (.cells #[.int .i64 0, .int .i64 0, .int .i64 0, .string ⟨#[]⟩, .int .i64 0, .int .i64 0, .int .i64 0, .int .i64 0, .int .i64 0, .int .i64 0, .int .i64 0] 77)).alloc (.cells #[.pointer none, .slice none 0 0] 59)) := by
    have h9 := Lib.IsBuilderF.of (Lib.fresh_isBuilder 59 5 (w.alloc (.cells #[.int .i64 0, .int .i64 0, .int .i64 0, .string ⟨#[]⟩, .int .i64 0, .int .i64 0, .int .i64 0, .int .i64 0, .int .i64 0, .int .i64 0, .int .i64 0] 77)))
    simp only [World.size_alloc] at h9
    exact h9
  obtain ⟨w0, hw0⟩ : ∃ w0, ((w.alloc (.cells #[.int .i64 0, .int .i64 0, .int .i64 0, .string ⟨#[]⟩, .int .i64 0, .int .i64 0, .int .i64 0, .int .i64 0, .int .i64 0, .int .i64 0, .int .i64 0] 77)).alloc (.cells #[.pointer none, .slice none 0 0] 59)) = w0 := ⟨_, rfl⟩
  have hsz : w0.heap.size = w.heap.size + 2 := by rw [← hw0]; simp
  go_loopw [5] (fun i wr => ∃ (j : Nat) (acc : List UInt8), 1 + j ≤ l.length ∧ acc.length ≤ j ∧ i = .int .i64 ((1 + j : Nat) : Int) ∧ Lib.IsBuilderF 59 5 (w.heap.size + 1) (w.heap.size + 1) (Lib.byteCells (acc)) wr ∧ Below (w.heap.size + 1) w0 wr ∧ Hid (quoteG (l.drop 1) = (quoteG ((l.drop 1).drop j)).map fun x => (acc ++ x.1, x.2 + j))) (fun i _ => l.length - (intOf i).toNat)
  case atStart => exact ⟨0, [], by omega, by simp, rfl, hI0, by rw [hw0]; exact Below.refl _ _, Lib.hid (quote_start _)⟩
  case round =>
    clear hI0
    obtain ⟨j, acc, hj, hacc, rfl, hIb, hbr, hG⟩ := hrel
    obtain ⟨hc, hf, hz⟩ := keepB hbr (by omega)
    have hzr := hbr.size
    subst hw0
    obtain ⟨g1, g2, g3, g4, g5⟩ := quote_step acc _ j _ hG.out
    by_cases h1 : 1 + j < l.length
    · have hd1 : (l.drop 1).drop j = l[1 + j] :: l.drop (1 + j + 1) := by rw [List.drop_drop, drop_at l _ h1]
      have hb : 1 + j < (⟨l.toArray⟩ : ByteArray).size := by show 1 + j < l.toArray.size; simpa using h1
      by_cases h2 : l[1 + j].toNat = 34
      · have hb2 : ((⟨l.toArray⟩ : ByteArray)[1 + j]'hb).toNat = 34 := h2
        by_cases h3 : 1 + j + 1 < l.length
        · have hz0 : ((1 : Int) + (j : Int) + 1 == (l.length : Int)) = false := by simp; omega
          have hcb : 1 + j + 1 < (⟨l.toArray⟩ : ByteArray).size := by show 1 + j + 1 < l.toArray.size; simpa using h3
          by_cases h4 : l[1 + j + 1].toNat = 34
          · have hc2 : ((⟨l.toArray⟩ : ByteArray)[1 + j + 1]'hcb).toNat = 34 := h4
            have h34 : l[1 + j + 1] = 34 := by rw [← UInt8.toNat_inj]; exact h4
            have hG2 := Lib.hid (g4 _ _ _ (by rw [hd1, drop_at l _ h3]) h2 h4)
            rw [h34] at hG2
            clear g1 g2 g3 g4 g5 hG hd1 h2 h4 h34
            go_wp2_with fail
            refine (lwrite34 (w.heap.size + 1) acc (by omega) _ (by omega) hIb).mono ?_
            rintro e w4 ⟨rfl, hI4, hb4⟩
            have hbr4 := hbr.trans hb4
            clear hb4 hIb hbr
            go_wp2
            go_roundw
            case rel => exact ⟨j + 2, acc ++ [34], by omega, by simp; omega, by go_num, hI4, hbr4, by
              have := hG2.out
              rw [show (l.drop 1).drop (j + 2) = l.drop (1 + j + 1 + 1) by rw [List.drop_drop]; congr 1]
              exact Lib.hid this⟩
            case measure => simp [intOf]; omega
          · have hc2 : ((⟨l.toArray⟩ : ByteArray)[1 + j + 1]'hcb).toNat ≠ 34 := h4
            have hE := g3 _ _ hd1 h2 (fun c hc => by rw [List.head?_drop, List.getElem?_eq_getElem h3] at hc; cases hc; exact h4)
            clear g1 g2 g3 g4 g5 hG hd1 h2 h4
            rw [hq'.out] at hE
            cases hE
        · have hE := g3 _ _ hd1 h2 (fun c hc => by rw [List.head?_drop, List.getElem?_eq_none (by omega)] at hc; cases hc)
          have hz0 : ((1 : Int) + (j : Int) + 1 == (l.length : Int)) = true := by simp; omega
          clear g1 g2 g3 g4 g5 hG hd1 h2
          rw [hq'.out] at hE
          cases hE
      · have hb2 : ((⟨l.toArray⟩ : ByteArray)[1 + j]'hb).toNat ≠ 34 := h2
        have hG2 := Lib.hid (g5 _ _ hd1 h2)
        clear g1 g2 g3 g4 g5 hG hd1 h2
        go_wp2_with fail
        refine (lwrite (w.heap.size + 1) acc ((⟨l.toArray⟩ : ByteArray)[1 + j]'hb) (by omega) _ (by omega) hIb).mono ?_
        rintro e w4 ⟨rfl, hI4, hb4⟩
        have hbr4 := hbr.trans hb4
        clear hb4 hIb hbr
        go_wp2
        go_roundw
        case rel => exact ⟨j + 1, acc ++ [l[1 + j]], by omega, by simp; omega, by go_num, hI4, hbr4, by
          have := hG2.out
          rw [show (l.drop 1).drop (j + 1) = l.drop (1 + j + 1) by rw [List.drop_drop]; congr 1]
          exact Lib.hid this⟩
        case measure => simp [intOf]; omega
    · have hE := g2 (by rw [List.drop_drop]; exact List.drop_eq_nil_of_le (by omega))
      clear g1 g2 g3 g4 g5 hG
      clear hE hq'
      have hq1 : Below w.heap.size w wr := (((Below.refl _ w).alloc (Nat.le_refl _) _).alloc (by simp) _).trans (hbr.mono (by omega))
      clear hIb
      go_wp2
      refine bodyPost_ret (v := _) ?_ rfl ⟨rfl, by (repeat (first | (with_reducible exact Below.refl _ _) | (with_reducible refine Below.alloc ?_ (by first | omega | (dsimp only; omega) | (simp <;> omega)) _) | (with_reducible refine Below.setCell ?_ (by first | omega | (dsimp only; omega) | (simp <;> omega)) _) | (with_reducible refine Below.drew ?_) | (with_reducible refine below_drewN ?_ _) | (with_reducible refine Below.trans ?_ (Below.mono (by assumption) (by first | omega | (dsimp only; omega) | (simp <;> omega))))))⟩
      first | (simp [results, Tryz.results90, go_sem, *]; done) | (simp [results, Tryz.results90, go_sem, *]; omega)
theorem lquoted (l : List UInt8) (hl : l.length ≤ 140737488355327) (h0 : 0 < l.length) (x : Tok) (n : Nat) (hx : textT l = (x, n)) (w : World) : Calls Tryz.prog 90 #[.string ⟨l.toArray⟩] w fun e w' => e = .returned (.tuple #[.agg #[.int .i64 x.kind, .int .i64 x.place, .int .i64 x.num, .string x.str, .int .i64 x.r, .int .i64 x.c, .int .i64 x.t, .int .i64 x.l, .int .i64 x.b, .int .i64 x.q, .int .i64 x.code], .int .i64 (n : Int)]) ∧ Below w.heap.size w w' := by
  unfold textT at hx
  cases hq : quoteG (l.drop 1) with
  | none => rw [hq] at hx; cases hx; exact lquoted_no l hl h0 hq w
  | some y =>
    rw [hq] at hx; cases hx
    have := lquoted_yes l hl h0 y.1 y.2 hq w
    rwa [Nat.add_comm] at this
end Go.Proofs.YtfbkoieodflcpaaGreatDoor
