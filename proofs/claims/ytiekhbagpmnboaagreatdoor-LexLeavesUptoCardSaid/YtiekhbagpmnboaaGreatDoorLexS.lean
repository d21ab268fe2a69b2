/-
  orielref04: sign.
-/
import Derived.Test.YtiekhbagpmnboaaGreatDoorPrintL
import Derived.Test.YtiekhbagpmnboaaGreatDoorNumL
import Derived.Test.YtiekhbagpmnboaaGreatDoorRows
import Derived.Test.YtiekhbagpmnboaaGreatDoorBase
import Derived.Test.YtiekhbagpmnboaaGreatDoorProg
import Derived.Test.YtiekhbagpmnboaaGreatDoorShelf
import Derived.Test.YtiekhbagpmnboaaGreatDoorCutW
import Derived.Test.YtiekhbagpmnboaaGreatDoorAddrC
import Derived.Test.YtiekhbagpmnboaaGreatDoorNames
import Derived.Test.YtiekhbagpmnboaaGreatDoorParseW
import Derived.Test.YtiekhbagpmnboaaGreatDoorPRect
import Derived.Test.YtiekhbagpmnboaaGreatDoorDecA
import Derived.Test.YtiekhbagpmnboaaGreatDoorValA
import Derived.Test.YtiekhbagpmnboaaGreatDoorValB
import Derived.Test.YtiekhbagpmnboaaGreatDoorValD
import Derived.Test.YtiekhbagpmnboaaGreatDoorLexP
import Derived.Test.YtiekhbagpmnboaaGreatDoorRefName
import Derived.Test.YtiekhbagpmnboaaGreatDoorLexR
import Derived.WalkSpells
import Derived.WalkLawsBesides
import Derived.StillTactics
import Derived.Laws.Pointers
import Derived.Deep.RegionHeld3
import Derived.Deep.QuietTactic
import Derived.BigQuiet
import Derived.RowKit3
import Derived.Lib.Hide
import Derived.Lib.OthersKept
import Derived.OwnWalk
import Derived.Lib.IndexLaws
import Derived.Lib.ItoaMem
import Derived.Lib.TrimByte
import Derived.Lib.SlTrimSet
import Derived.Lib.ParseIntB
import Derived.WalkKit
import Derived.ProofKit
import Derived.OpenShut
import Derived.Carry
import Derived.ChangeSame
import Derived.Deep.Draws
import Derived.Shelf.Strings.Builder1
import Derived.Shelf.Strings.Trim
import Derived.Shelf.Small.Utf8
import Derived.Shelf.Small.Strs
import Derived.Shelf.Small.Wraps
import Derived.Shelf.Strings.BuilderF
import Derived.Shelf.Strings.BuilderK
import Derived.Shelf.Strconv.Itoa0
import Derived.Shelf.Strconv.Itoa1
import Derived.Shelf.LaysM
import Derived.Shelf.Strconv.Itoa2
import Derived.Shelf.Strconv.Itoa3
import Derived.Ground.MpProg
import Derived.Shelf.Pu.ParseUintPublic10
import Derived.Shelf.Strings.Search1
import Derived.Shelf.Strings.Search2
import Derived.Shelf.Strings.Cut
import Derived.Shelf.Strings.Shaped
import Derived.Shelf.Strings.Prefix
import Derived.Shelf.Strings.Runes
import Derived.Shelf.Strings.AsciiSet
import Derived.Shelf.Unicode.DecodeSlow
import Derived.Lib.ItoaNum
namespace Go.Proofs.YtiekhbagpmnboaaGreatDoor
open Go.RowKit

theorem list_bytes (a b : List UInt8) : ((⟨a.toArray⟩ : ByteArray) = ⟨b.toArray⟩) = (a = b) := by
  apply propext
  constructor
  · intro h
    have := congrArg (fun b : ByteArray => b.data.toList) h
    simpa using this
  · rintro rfl; rfl
theorem sign_at (b : UInt8) : signs.contains b = true ↔ ∃ j : Nat, ∃ h : j < 12, (signs[j]'h) = b ∧ ∀ i (hi : i < j), (signs[i]'(by show i < 12; omega)) ≠ b := by
  constructor
  · intro h
    have hm : b ∈ signs := by simpa using h
    obtain ⟨j, hj⟩ : ∃ j, signs.findIdx? (· == b) = some j := by
      rw [← Option.isSome_iff_exists, List.findIdx?_isSome]
      simpa using hm
    obtain ⟨h1, h2, h3⟩ := List.findIdx?_eq_some_iff_getElem.1 hj
    exact ⟨j, h1, by simpa using h2, fun i hi => by simpa using h3 i hi⟩
  · rintro ⟨j, h, e, _⟩
    rw [← e, List.contains_iff_mem]; exact List.getElem_mem h
set_option maxHeartbeats 1000000 in
theorem r4sign_ne (l : List UInt8) (at' : Nat) (hl : l.length ≤ 9223372036854775000) (ha : at' < l.length) (h2 : (l.drop at').take 2 = [60, 62]) (w : World) : Calls Tryz.prog 38 #[.string ⟨l.toArray⟩, .int .i64 (at' : Int)] w fun e w' => e = .returned (.tuple #[.agg #[.int .i64 7, .int .i64 (at' : Int), .int .i64 0, .string ⟨#[60, 62]⟩, .int .i64 0, .int .i64 0, .int .i64 0, .int .i64 0, .int .i64 0, .int .i64 0, .int .i64 0], .int .i64 ((at' + 2 : Nat) : Int)]) ∧ Below w.heap.size w w' := by
  have h1 : at' + 1 < l.length := by
    have := congrArg List.length h2
    simp at this; omega
  have hx := ext_mid l _ at' 2 h2
  clear h2
  go_enter Tryz.func38, Tryz.ntmps38
  go_wp2
  refine bodyPost_ret (v := _) ?_ rfl ⟨rfl, by (repeat (first | (with_reducible exact Below.refl _ _) | (with_reducible refine Below.alloc ?_ (by first | omega | (dsimp only; omega) | (simp <;> omega)) _) | (with_reducible refine Below.setCell ?_ (by first | omega | (dsimp only; omega) | (simp <;> omega)) _) | (with_reducible refine Below.drew ?_) | (with_reducible refine below_drewN ?_ _) | (with_reducible refine Below.trans ?_ (Below.mono (by assumption) (by first | omega | (dsimp only; omega) | (simp <;> omega))))))⟩
  first | (simp [results, Tryz.results38, go_sem, *]; done) | (simp [results, Tryz.results38, go_sem, *]; omega)
set_option maxHeartbeats 1000000 in
theorem r4sign_le (l : List UInt8) (at' : Nat) (hl : l.length ≤ 9223372036854775000) (ha : at' < l.length) (h2 : (l.drop at').take 2 = [60, 61]) (w : World) : Calls Tryz.prog 38 #[.string ⟨l.toArray⟩, .int .i64 (at' : Int)] w fun e w' => e = .returned (.tuple #[.agg #[.int .i64 7, .int .i64 (at' : Int), .int .i64 0, .string ⟨#[60, 61]⟩, .int .i64 0, .int .i64 0, .int .i64 0, .int .i64 0, .int .i64 0, .int .i64 0, .int .i64 0], .int .i64 ((at' + 2 : Nat) : Int)]) ∧ Below w.heap.size w w' := by
  have h1 : at' + 1 < l.length := by
    have := congrArg List.length h2
    simp at this; omega
  have hx := ext_mid l _ at' 2 h2
  clear h2
  go_enter Tryz.func38, Tryz.ntmps38
  go_wp2
  refine bodyPost_ret (v := _) ?_ rfl ⟨rfl, by (repeat (first | (with_reducible exact Below.refl _ _) | (with_reducible refine Below.alloc ?_ (by first | omega | (dsimp only; omega) | (simp <;> omega)) _) | (with_reducible refine Below.setCell ?_ (by first | omega | (dsimp only; omega) | (simp <;> omega)) _) | (with_reducible refine Below.drew ?_) | (with_reducible refine below_drewN ?_ _) | (with_reducible refine Below.trans ?_ (Below.mono (by assumption) (by first | omega | (dsimp only; omega) | (simp <;> omega))))))⟩
  first | (simp [results, Tryz.results38, go_sem, *]; done) | (simp [results, Tryz.results38, go_sem, *]; omega)
set_option maxHeartbeats 1000000 in
theorem r4sign_ge (l : List UInt8) (at' : Nat) (hl : l.length ≤ 9223372036854775000) (ha : at' < l.length) (h2 : (l.drop at').take 2 = [62, 61]) (w : World) : Calls Tryz.prog 38 #[.string ⟨l.toArray⟩, .int .i64 (at' : Int)] w fun e w' => e = .returned (.tuple #[.agg #[.int .i64 7, .int .i64 (at' : Int), .int .i64 0, .string ⟨#[62, 61]⟩, .int .i64 0, .int .i64 0, .int .i64 0, .int .i64 0, .int .i64 0, .int .i64 0, .int .i64 0], .int .i64 ((at' + 2 : Nat) : Int)]) ∧ Below w.heap.size w w' := by
  have h1 : at' + 1 < l.length := by
    have := congrArg List.length h2
    simp at this; omega
  have hx := ext_mid l _ at' 2 h2
  clear h2
  go_enter Tryz.func38, Tryz.ntmps38
  go_wp2
  refine bodyPost_ret (v := _) ?_ rfl ⟨rfl, by (repeat (first | (with_reducible exact Below.refl _ _) | (with_reducible refine Below.alloc ?_ (by first | omega | (dsimp only; omega) | (simp <;> omega)) _) | (with_reducible refine Below.setCell ?_ (by first | omega | (dsimp only; omega) | (simp <;> omega)) _) | (with_reducible refine Below.drew ?_) | (with_reducible refine below_drewN ?_ _) | (with_reducible refine Below.trans ?_ (Below.mono (by assumption) (by first | omega | (dsimp only; omega) | (simp <;> omega))))))⟩
  first | (simp [results, Tryz.results38, go_sem, *]; done) | (simp [results, Tryz.results38, go_sem, *]; omega)
set_option maxHeartbeats 1000000 in
theorem r4sign_last_yes (l : List UInt8) (at' : Nat) (hl : l.length ≤ 9223372036854775000) (ha : at' < l.length) (hlast : at' + 1 = l.length) (j0 : Nat) (hj0 : j0 < 12) (hjb : signs[j0] = l[at']) (hjn : ∀ i (hi : i < j0), (signs[i]'(by show i < 12; omega)) ≠ l[at']) (w : World) : Calls Tryz.prog 38 #[.string ⟨l.toArray⟩, .int .i64 (at' : Int)] w fun e w' => e = .returned (.tuple #[.agg #[.int .i64 7, .int .i64 (at' : Int), .int .i64 0, .string ⟨#[l[at']]⟩, .int .i64 0, .int .i64 0, .int .i64 0, .int .i64 0, .int .i64 0, .int .i64 0, .int .i64 0], .int .i64 ((at' + 1 : Nat) : Int)]) ∧ Below w.heap.size w w' := by
  have hb : at' < (⟨l.toArray⟩ : ByteArray).size := by show at' < l.toArray.size; simpa using ha
  have hin : Hid (∀ i (hi : i < j0) (hi2 : i < (⟨#[40, 41, 44, 43, 45, 42, 47, 37, 38, 61, 60, 62]⟩ : ByteArray).size), ((⟨#[40, 41, 44, 43, 45, 42, 47, 37, 38, 61, 60, 62]⟩ : ByteArray)[i]'hi2).toNat ≠ ((⟨l.toArray⟩ : ByteArray)[at']'hb).toNat) := Lib.hid fun i hi hi2 h => hjn i hi (by rw [← UInt8.toNat_inj]; exact h)
  have hyes : Hid (∀ (hi2 : j0 < (⟨#[40, 41, 44, 43, 45, 42, 47, 37, 38, 61, 60, 62]⟩ : ByteArray).size), ((⟨#[40, 41, 44, 43, 45, 42, 47, 37, 38, 61, 60, 62]⟩ : ByteArray)[j0]'hi2).toNat = ((⟨l.toArray⟩ : ByteArray)[at']'hb).toNat) := Lib.hid fun hi2 => congrArg UInt8.toNat hjb
  have hx := ext_one l at' ha
  clear hjn hjb
  have hlast' : l.length ≤ at' + 1 := by omega
  clear hlast
  go_enter Tryz.func38, Tryz.ntmps38
  go_wp2
  go_loopw [8] (fun n wr => ∃ j : Nat, j ≤ j0 ∧ n = .int .i64 (j : Int) ∧ Below (w.heap.size + 1) (w.alloc (.cells #[.int .i64 0, .int .i64 0, .int .i64 0, .string ⟨#[]⟩, .int .i64 0, .int .i64 0, .int .i64 0, .int .i64 0, .int .i64 0, .int .i64 0, .int .i64 0] 33)) wr) (fun n _ => j0 - (intOf n).toNat)
  case atStart => exact ⟨0, by omega, rfl, Below.refl _ _⟩
  case round =>
    obtain ⟨j, hj, rfl, hbr⟩ := hrel
    obtain ⟨hc, hf, hz⟩ := keepB hbr (by simp)
    have hq1 : Below w.heap.size w wr := ((Below.refl _ w).alloc (Nat.le_refl _) _).trans (hbr.mono (by omega))
    by_cases hlt : j < j0
    · have hi2 : j < (⟨#[40, 41, 44, 43, 45, 42, 47, 37, 38, 61, 60, 62]⟩ : ByteArray).size := by show j < 12; omega
      have hne := hin.out j hlt hi2
      go_wp2
      go_quiet (fail)
      go_wp2
      go_roundw
      case rel => exact ⟨j + 1, by omega, by go_num, below_drewN hbr _⟩
      case measure => simp [intOf]; omega
    · obtain rfl : j = j0 := by omega
      have hi2 : j < (⟨#[40, 41, 44, 43, 45, 42, 47, 37, 38, 61, 60, 62]⟩ : ByteArray).size := hj0
      have he := hyes.out hi2
      go_wp2
      go_quiet (fail)
      go_wp2
      refine bodyPost_ret (v := _) ?_ rfl ⟨rfl, by (repeat (first | (with_reducible exact Below.refl _ _) | (with_reducible refine Below.alloc ?_ (by first | omega | (dsimp only; omega) | (simp <;> omega)) _) | (with_reducible refine Below.setCell ?_ (by first | omega | (dsimp only; omega) | (simp <;> omega)) _) | (with_reducible refine Below.drew ?_) | (with_reducible refine below_drewN ?_ _) | (with_reducible refine Below.trans ?_ (Below.mono (by assumption) (by first | omega | (dsimp only; omega) | (simp <;> omega))))))⟩
      first | (simp [results, Tryz.results38, go_sem, *]; done) | (simp [results, Tryz.results38, go_sem, *]; omega)
set_option maxHeartbeats 1000000 in
theorem r4sign_more_yes (l : List UInt8) (at' : Nat) (hl : l.length ≤ 9223372036854775000) (ha : at' < l.length) (hm : at' + 1 < l.length) (n1 : (l.drop at').take 2 ≠ [60, 62]) (n2 : (l.drop at').take 2 ≠ [60, 61]) (n3 : (l.drop at').take 2 ≠ [62, 61]) (j0 : Nat) (hj0 : j0 < 12) (hjb : signs[j0] = l[at']) (hjn : ∀ i (hi : i < j0), (signs[i]'(by show i < 12; omega)) ≠ l[at']) (w : World) : Calls Tryz.prog 38 #[.string ⟨l.toArray⟩, .int .i64 (at' : Int)] w fun e w' => e = .returned (.tuple #[.agg #[.int .i64 7, .int .i64 (at' : Int), .int .i64 0, .string ⟨#[l[at']]⟩, .int .i64 0, .int .i64 0, .int .i64 0, .int .i64 0, .int .i64 0, .int .i64 0, .int .i64 0], .int .i64 ((at' + 1 : Nat) : Int)]) ∧ Below w.heap.size w w' := by
  have hb : at' < (⟨l.toArray⟩ : ByteArray).size := by show at' < l.toArray.size; simpa using ha
  have hin : Hid (∀ i (hi : i < j0) (hi2 : i < (⟨#[40, 41, 44, 43, 45, 42, 47, 37, 38, 61, 60, 62]⟩ : ByteArray).size), ((⟨#[40, 41, 44, 43, 45, 42, 47, 37, 38, 61, 60, 62]⟩ : ByteArray)[i]'hi2).toNat ≠ ((⟨l.toArray⟩ : ByteArray)[at']'hb).toNat) := Lib.hid fun i hi hi2 h => hjn i hi (by rw [← UInt8.toNat_inj]; exact h)
  have hyes : Hid (∀ (hi2 : j0 < (⟨#[40, 41, 44, 43, 45, 42, 47, 37, 38, 61, 60, 62]⟩ : ByteArray).size), ((⟨#[40, 41, 44, 43, 45, 42, 47, 37, 38, 61, 60, 62]⟩ : ByteArray)[j0]'hi2).toNat = ((⟨l.toArray⟩ : ByteArray)[at']'hb).toNat) := Lib.hid fun hi2 => congrArg UInt8.toNat hjb
  have hx := ext_one l at' ha
  clear hjn hjb
  have hx2 := ext_mid l _ at' 2 rfl
  generalize (l.drop at').take 2 = s2 at *
  have m1 : ((⟨s2.toArray⟩ : ByteArray) = ⟨#[60, 62]⟩) = False := by rw [show (⟨#[60, 62]⟩ : ByteArray) = ⟨([60, 62] : List UInt8).toArray⟩ from rfl, list_bytes]; exact eq_false n1
  have m2 : ((⟨s2.toArray⟩ : ByteArray) = ⟨#[60, 61]⟩) = False := by rw [show (⟨#[60, 61]⟩ : ByteArray) = ⟨([60, 61] : List UInt8).toArray⟩ from rfl, list_bytes]; exact eq_false n2
  have m3 : ((⟨s2.toArray⟩ : ByteArray) = ⟨#[62, 61]⟩) = False := by rw [show (⟨#[62, 61]⟩ : ByteArray) = ⟨([62, 61] : List UInt8).toArray⟩ from rfl, list_bytes]; exact eq_false n3
  clear n1 n2 n3
  go_enter Tryz.func38, Tryz.ntmps38
  go_wp2
  go_loopw [8] (fun n wr => ∃ j : Nat, j ≤ j0 ∧ n = .int .i64 (j : Int) ∧ Below (w.heap.size + 1) (w.alloc (.cells #[.int .i64 0, .int .i64 0, .int .i64 0, .string ⟨#[]⟩, .int .i64 0, .int .i64 0, .int .i64 0, .int .i64 0, .int .i64 0, .int .i64 0, .int .i64 0] 33)) wr) (fun n _ => j0 - (intOf n).toNat)
  case atStart => exact ⟨0, by omega, rfl, Below.refl _ _⟩
  case round =>
    obtain ⟨j, hj, rfl, hbr⟩ := hrel
    obtain ⟨hc, hf, hz⟩ := keepB hbr (by simp)
    have hq1 : Below w.heap.size w wr := ((Below.refl _ w).alloc (Nat.le_refl _) _).trans (hbr.mono (by omega))
    by_cases hlt : j < j0
    · have hi2 : j < (⟨#[40, 41, 44, 43, 45, 42, 47, 37, 38, 61, 60, 62]⟩ : ByteArray).size := by show j < 12; omega
      have hne := hin.out j hlt hi2
      go_wp2
      go_quiet (fail)
      go_wp2
      go_roundw
      case rel => exact ⟨j + 1, by omega, by go_num, below_drewN hbr _⟩
      case measure => simp [intOf]; omega
    · obtain rfl : j = j0 := by omega
      have hi2 : j < (⟨#[40, 41, 44, 43, 45, 42, 47, 37, 38, 61, 60, 62]⟩ : ByteArray).size := hj0
      have he := hyes.out hi2
      go_wp2
      go_quiet (fail)
      go_wp2
      refine bodyPost_ret (v := _) ?_ rfl ⟨rfl, by (repeat (first | (with_reducible exact Below.refl _ _) | (with_reducible refine Below.alloc ?_ (by first | omega | (dsimp only; omega) | (simp <;> omega)) _) | (with_reducible refine Below.setCell ?_ (by first | omega | (dsimp only; omega) | (simp <;> omega)) _) | (with_reducible refine Below.drew ?_) | (with_reducible refine below_drewN ?_ _) | (with_reducible refine Below.trans ?_ (Below.mono (by assumption) (by first | omega | (dsimp only; omega) | (simp <;> omega))))))⟩
      first | (simp [results, Tryz.results38, go_sem, *]; done) | (simp [results, Tryz.results38, go_sem, *]; omega)
set_option maxHeartbeats 1000000 in
theorem r4sign_last_no (l : List UInt8) (at' : Nat) (hl : l.length ≤ 9223372036854775000) (ha : at' < l.length) (hlast : at' + 1 = l.length) (hjn : ∀ i (hi : i < 12), signs[i] ≠ l[at']) (w : World) : Calls Tryz.prog 38 #[.string ⟨l.toArray⟩, .int .i64 (at' : Int)] w fun e w' => e = .returned (.tuple #[.agg #[.int .i64 8, .int .i64 (at' : Int), .int .i64 0, .string ⟨#[]⟩, .int .i64 0, .int .i64 0, .int .i64 0, .int .i64 0, .int .i64 0, .int .i64 0, .int .i64 0], .int .i64 (at' : Int)]) ∧ Below w.heap.size w w' := by
  have hb : at' < (⟨l.toArray⟩ : ByteArray).size := by show at' < l.toArray.size; simpa using ha
  have hin : Hid (∀ i (hi : i < 12) (hi2 : i < (⟨#[40, 41, 44, 43, 45, 42, 47, 37, 38, 61, 60, 62]⟩ : ByteArray).size), ((⟨#[40, 41, 44, 43, 45, 42, 47, 37, 38, 61, 60, 62]⟩ : ByteArray)[i]'hi2).toNat ≠ ((⟨l.toArray⟩ : ByteArray)[at']'hb).toNat) := Lib.hid fun i hi hi2 h => hjn i hi (by rw [← UInt8.toNat_inj]; exact h)
  clear hjn
  have hlast' : l.length ≤ at' + 1 := by omega
  clear hlast
  go_enter Tryz.func38, Tryz.ntmps38
  go_wp2
  go_loopw [8] (fun n wr => ∃ j : Nat, j ≤ 12 ∧ n = .int .i64 (j : Int) ∧ Below (w.heap.size + 1) (w.alloc (.cells #[.int .i64 0, .int .i64 0, .int .i64 0, .string ⟨#[]⟩, .int .i64 0, .int .i64 0, .int .i64 0, .int .i64 0, .int .i64 0, .int .i64 0, .int .i64 0] 33)) wr) (fun n _ => 12 - (intOf n).toNat)
  case atStart => exact ⟨0, by omega, rfl, Below.refl _ _⟩
  case round =>
    obtain ⟨j, hj, rfl, hbr⟩ := hrel
    obtain ⟨hc, hf, hz⟩ := keepB hbr (by simp)
    have hq1 : Below w.heap.size w wr := ((Below.refl _ w).alloc (Nat.le_refl _) _).trans (hbr.mono (by omega))
    by_cases hlt : j < 12
    · have hi2 : j < (⟨#[40, 41, 44, 43, 45, 42, 47, 37, 38, 61, 60, 62]⟩ : ByteArray).size := by show j < 12; omega
      have hne := hin.out j hlt hi2
      go_wp2
      go_quiet (fail)
      go_wp2
      go_roundw
      case rel => exact ⟨j + 1, by omega, by go_num, below_drewN hbr _⟩
      case measure => simp [intOf]; omega
    · obtain rfl : j = 12 := by omega
      go_wp2_with (go_at_call 66; refine (r4wrong _ _).mono ?_; rintro e w2 ⟨rfl, hb2⟩; obtain ⟨hc2, hf2, hz2⟩ := bkeep hb2 (w.heap.size + 1) (by first | omega | (simp <;> omega)))
      refine bodyPost_ret (v := _) ?_ rfl ⟨rfl, by (repeat (first | (with_reducible exact Below.refl _ _) | (with_reducible refine Below.alloc ?_ (by first | omega | (dsimp only; omega) | (simp <;> omega)) _) | (with_reducible refine Below.setCell ?_ (by first | omega | (dsimp only; omega) | (simp <;> omega)) _) | (with_reducible refine Below.drew ?_) | (with_reducible refine below_drewN ?_ _) | (with_reducible refine Below.trans ?_ (Below.mono (by assumption) (by first | omega | (dsimp only; omega) | (simp <;> omega))))))⟩
      first | (simp [results, Tryz.results38, go_sem, *]; done) | (simp [results, Tryz.results38, go_sem, *]; omega)
set_option maxHeartbeats 1000000 in
theorem r4sign_more_no (l : List UInt8) (at' : Nat) (hl : l.length ≤ 9223372036854775000) (ha : at' < l.length) (hm : at' + 1 < l.length) (n1 : (l.drop at').take 2 ≠ [60, 62]) (n2 : (l.drop at').take 2 ≠ [60, 61]) (n3 : (l.drop at').take 2 ≠ [62, 61]) (hjn : ∀ i (hi : i < 12), signs[i] ≠ l[at']) (w : World) : Calls Tryz.prog 38 #[.string ⟨l.toArray⟩, .int .i64 (at' : Int)] w fun e w' => e = .returned (.tuple #[.agg #[.int .i64 8, .int .i64 (at' : Int), .int .i64 0, .string ⟨#[]⟩, .int .i64 0, .int .i64 0, .int .i64 0, .int .i64 0, .int .i64 0, .int .i64 0, .int .i64 0], .int .i64 (at' : Int)]) ∧ Below w.heap.size w w' := by
  have hb : at' < (⟨l.toArray⟩ : ByteArray).size := by show at' < l.toArray.size; simpa using ha
  have hin : Hid (∀ i (hi : i < 12) (hi2 : i < (⟨#[40, 41, 44, 43, 45, 42, 47, 37, 38, 61, 60, 62]⟩ : ByteArray).size), ((⟨#[40, 41, 44, 43, 45, 42, 47, 37, 38, 61, 60, 62]⟩ : ByteArray)[i]'hi2).toNat ≠ ((⟨l.toArray⟩ : ByteArray)[at']'hb).toNat) := Lib.hid fun i hi hi2 h => hjn i hi (by rw [← UInt8.toNat_inj]; exact h)
  clear hjn
  have hx2 := ext_mid l _ at' 2 rfl
  generalize (l.drop at').take 2 = s2 at *
  have m1 : ((⟨s2.toArray⟩ : ByteArray) = ⟨#[60, 62]⟩) = False := by rw [show (⟨#[60, 62]⟩ : ByteArray) = ⟨([60, 62] : List UInt8).toArray⟩ from rfl, list_bytes]; exact eq_false n1
  have m2 : ((⟨s2.toArray⟩ : ByteArray) = ⟨#[60, 61]⟩) = False := by rw [show (⟨#[60, 61]⟩ : ByteArray) = ⟨([60, 61] : List UInt8).toArray⟩ from rfl, list_bytes]; exact eq_false n2
  have m3 : ((⟨s2.toArray⟩ : ByteArray) = ⟨#[62, 61]⟩) = False := by rw [show (⟨#[62, 61]⟩ : ByteArray) = ⟨([62, 61] : List UInt8).toArray⟩ from rfl, list_bytes]; exact eq_false n3
  clear n1 n2 n3
  go_enter Tryz.func38, Tryz.ntmps38
  go_wp2
  go_loopw [8] (fun n wr => ∃ j : Nat, j ≤ 12 ∧ n = .int .i64 (j : Int) ∧ Below (w.heap.size + 1) (w.alloc (.cells #[.int .i64 0, .int .i64 0, .int .i64 0, .string ⟨#[]⟩, .int .i64 0, .int .i64 0, .int .i64 0, .int .i64 0, .int .i64 0, .int .i64 0, .int .i64 0] 33)) wr) (fun n _ => 12 - (intOf n).toNat)
  case atStart => exact ⟨0, by omega, rfl, Below.refl _ _⟩
  case round =>
    obtain ⟨j, hj, rfl, hbr⟩ := hrel
    obtain ⟨hc, hf, hz⟩ := keepB hbr (by simp)
    have hq1 : Below w.heap.size w wr := ((Below.refl _ w).alloc (Nat.le_refl _) _).trans (hbr.mono (by omega))
    by_cases hlt : j < 12
    · have hi2 : j < (⟨#[40, 41, 44, 43, 45, 42, 47, 37, 38, 61, 60, 62]⟩ : ByteArray).size := by show j < 12; omega
      have hne := hin.out j hlt hi2
      go_wp2
      go_quiet (fail)
      go_wp2
      go_roundw
      case rel => exact ⟨j + 1, by omega, by go_num, below_drewN hbr _⟩
      case measure => simp [intOf]; omega
    · obtain rfl : j = 12 := by omega
      go_wp2_with (go_at_call 66; refine (r4wrong _ _).mono ?_; rintro e w2 ⟨rfl, hb2⟩; obtain ⟨hc2, hf2, hz2⟩ := bkeep hb2 (w.heap.size + 1) (by first | omega | (simp <;> omega)))
      refine bodyPost_ret (v := _) ?_ rfl ⟨rfl, by (repeat (first | (with_reducible exact Below.refl _ _) | (with_reducible refine Below.alloc ?_ (by first | omega | (dsimp only; omega) | (simp <;> omega)) _) | (with_reducible refine Below.setCell ?_ (by first | omega | (dsimp only; omega) | (simp <;> omega)) _) | (with_reducible refine Below.drew ?_) | (with_reducible refine below_drewN ?_ _) | (with_reducible refine Below.trans ?_ (Below.mono (by assumption) (by first | omega | (dsimp only; omega) | (simp <;> omega))))))⟩
      first | (simp [results, Tryz.results38, go_sem, *]; done) | (simp [results, Tryz.results38, go_sem, *]; omega)
end Go.Proofs.YtiekhbagpmnboaaGreatDoor
