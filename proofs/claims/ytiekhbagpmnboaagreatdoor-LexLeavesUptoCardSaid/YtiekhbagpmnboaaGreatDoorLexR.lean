/-
  orielref04: bytes, words.
-/
import Derived.Test.YtiekhbagpmnboaaGreatDoorPrintL
import Derived.Test.YtiekhbagpmnboaaGreatDoorNumL
import Derived.Test.YtiekhbagpmnboaaGreatDoorRows
import Derived.Test.YtiekhbagpmnboaaGreatDoorBase
import Derived.Test.YtiekhbagpmnboaaGreatDoorProg
import Derived.Test.YtiekhbagpmnboaaGreatDoorShelf
import Derived.Test.YtiekhbagpmnboaaGreatDoorCutW
import Derived.Test.YtiekhbagpmnboaaGreatDoorAddrC
import Derived.Test.YtiekhbagpmnboaaGreatDoorNames
import Derived.Test.YtiekhbagpmnboaaGreatDoorParseW
import Derived.Test.YtiekhbagpmnboaaGreatDoorPRect
import Derived.Test.YtiekhbagpmnboaaGreatDoorDecA
import Derived.Test.YtiekhbagpmnboaaGreatDoorValA
import Derived.Test.YtiekhbagpmnboaaGreatDoorValB
import Derived.Test.YtiekhbagpmnboaaGreatDoorValD
import Derived.Test.YtiekhbagpmnboaaGreatDoorLexP
import Derived.Test.YtiekhbagpmnboaaGreatDoorRefName
import Derived.WalkSpells
import Derived.WalkLawsBesides
import Derived.StillTactics
import Derived.Laws.Pointers
import Derived.Deep.RegionHeld3
import Derived.Deep.QuietTactic
import Derived.BigQuiet
import Derived.RowKit3
import Derived.Lib.Hide
import Derived.Lib.OthersKept
import Derived.OwnWalk
import Derived.Lib.IndexLaws
import Derived.Lib.ItoaMem
import Derived.Lib.TrimByte
import Derived.Lib.SlTrimSet
import Derived.Lib.ParseIntB
import Derived.WalkKit
import Derived.ProofKit
import Derived.OpenShut
import Derived.Carry
import Derived.ChangeSame
import Derived.Deep.Draws
import Derived.Shelf.Strings.Builder1
import Derived.Shelf.Strings.Trim
import Derived.Shelf.Small.Utf8
import Derived.Shelf.Small.Strs
import Derived.Shelf.Small.Wraps
import Derived.Shelf.Strings.BuilderF
import Derived.Shelf.Strings.BuilderK
import Derived.Shelf.Strconv.Itoa0
import Derived.Shelf.Strconv.Itoa1
import Derived.Shelf.LaysM
import Derived.Shelf.Strconv.Itoa2
import Derived.Shelf.Strconv.Itoa3
import Derived.Ground.MpProg
import Derived.Shelf.Pu.ParseUintPublic10
import Derived.Shelf.Strings.Search1
import Derived.Shelf.Strings.Search2
import Derived.Shelf.Strings.Cut
import Derived.Shelf.Strings.Shaped
import Derived.Shelf.Strings.Prefix
import Derived.Shelf.Strings.Runes
import Derived.Shelf.Strings.AsciiSet
import Derived.Shelf.Unicode.DecodeSlow
import Derived.Lib.ItoaNum
namespace Go.Proofs.YtiekhbagpmnboaaGreatDoor
open Go.RowKit

set_option maxHeartbeats 400000 in
theorem r4digit (b : UInt8) (w : World) : Calls Tryz.prog 32 #[.int .u8 (b.toNat : Int)] w fun e w' => e = .returned (.bool (isDig b)) ∧ w = w' := by
  have hb := b.toNat_lt
  by_cases h1 : 48 ≤ b.toNat
  · by_cases h2 : b.toNat ≤ 57
    · have e := Lib.hid (show isDig b = true by simp [isDig, h1, h2])
      go_enter Tryz.func32, Tryz.ntmps32
      go_wp2
      go_ret
      exact ⟨ret_b (by rw [e.out]; simp; omega), rfl⟩
    · have e := Lib.hid (show isDig b = false by simp [isDig, h2])
      go_enter Tryz.func32, Tryz.ntmps32
      go_wp2
      go_ret
      exact ⟨ret_b (by rw [e.out]; simp; omega), rfl⟩
  · have e := Lib.hid (show isDig b = false by simp [isDig, h1])
    go_enter Tryz.func32, Tryz.ntmps32
    go_wp2
    go_ret
    exact ⟨by rw [e.out]; rfl, rfl⟩
theorem r4digit_as (b : UInt8) (p : Bool) (h : isDig b = p) (w : World) : Calls Tryz.prog 32 #[.int .u8 (b.toNat : Int)] w fun e w' => e = .returned (.bool p) ∧ w = w' := by
  subst h; exact r4digit b w
set_option maxHeartbeats 400000 in
theorem r4letter (b : UInt8) (w : World) : Calls Tryz.prog 36 #[.int .u8 (b.toNat : Int)] w fun e w' => e = .returned (.bool (upB b)) ∧ w = w' := by
  have hb := b.toNat_lt
  by_cases h1 : 65 ≤ b.toNat
  · by_cases h2 : b.toNat ≤ 90
    · have e := Lib.hid (show upB b = true by simp [upB, h1, h2])
      go_enter Tryz.func36, Tryz.ntmps36
      go_wp2
      go_ret
      exact ⟨ret_b (by rw [e.out]; simp; omega), rfl⟩
    · have e := Lib.hid (show upB b = false by simp [upB, h2])
      go_enter Tryz.func36, Tryz.ntmps36
      go_wp2
      go_ret
      exact ⟨ret_b (by rw [e.out]; simp; omega), rfl⟩
  · have e := Lib.hid (show upB b = false by simp [upB, h1])
    go_enter Tryz.func36, Tryz.ntmps36
    go_wp2
    go_ret
    exact ⟨by rw [e.out]; rfl, rfl⟩
theorem r4letter_as (b : UInt8) (p : Bool) (h : upB b = p) (w : World) : Calls Tryz.prog 36 #[.int .u8 (b.toNat : Int)] w fun e w' => e = .returned (.bool p) ∧ w = w' := by
  subst h; exact r4letter b w
set_option maxHeartbeats 400000 in
theorem r4part (b : UInt8) (w : World) : Calls Tryz.prog 98 #[.int .u8 (b.toNat : Int)] w fun e w' => e = .returned (.bool (partB b)) ∧ w = w' := by
  have hb := b.toNat_lt
  rcases hd1 : isDig b
  · rcases hu1 : upB b
    · have hd := Lib.hid hd1
      have hu := Lib.hid hu1
      have e := Lib.hid (show partB b = decide (b.toNat = 95) by simp [partB, hd1, hu1])
      clear hd1 hu1
      go_enter Tryz.func98, Tryz.ntmps98
      go_wp2_with (first | (go_at_call 32; refine (r4digit_as b _ hd.out _).mono ?_; rintro e w1 ⟨rfl, rfl⟩) | (go_at_call 36; refine (r4letter_as b _ hu.out _).mono ?_; rintro e w1 ⟨rfl, rfl⟩))
      go_ret
      have h9 : ((b.toNat : Int) == 95) = decide (b.toNat = 95) := by rw [Bool.eq_iff_iff]; simp; omega
      exact ⟨by rw [e.out, ← h9]; rfl, rfl⟩
    · have hd := Lib.hid hd1
      have hu := Lib.hid hu1
      have e := Lib.hid (show partB b = true by simp [partB, hu1])
      clear hd1 hu1
      go_enter Tryz.func98, Tryz.ntmps98
      go_wp2_with (first | (go_at_call 32; refine (r4digit_as b _ hd.out _).mono ?_; rintro e w1 ⟨rfl, rfl⟩) | (go_at_call 36; refine (r4letter_as b _ hu.out _).mono ?_; rintro e w1 ⟨rfl, rfl⟩))
      go_ret
      exact ⟨by rw [e.out]; rfl, rfl⟩
  · have hd := Lib.hid hd1
    have e := Lib.hid (show partB b = true by simp [partB, hd1])
    clear hd1
    go_enter Tryz.func98, Tryz.ntmps98
    go_wp2_with (go_at_call 32; refine (r4digit_as b _ hd.out _).mono ?_; rintro e w1 ⟨rfl, rfl⟩)
    go_ret
    exact ⟨by rw [e.out]; rfl, rfl⟩
theorem r4part_as (b : UInt8) (p : Bool) (h : partB b = p) (w : World) : Calls Tryz.prog 98 #[.int .u8 (b.toNat : Int)] w fun e w' => e = .returned (.bool p) ∧ w = w' := by
  subst h; exact r4part b w
theorem twg_in (p : UInt8 → Bool) (t : List UInt8) (j : Nat) (h : j < (t.takeWhile p).length) (h2 : j < t.length) : p t[j] = true := by
  have e : t[j] = (t.takeWhile p)[j] := by
    have := List.takeWhile_append_dropWhile (p := p) (l := t)
    rw [List.getElem_of_eq this.symm h2, List.getElem_append_left h]
  rw [e]
  exact List.all_eq_true.1 (takeWhile_all p t) _ (List.getElem_mem h)
theorem twg_out (p : UInt8 → Bool) (t : List UInt8) (h2 : (t.takeWhile p).length < t.length) : p t[(t.takeWhile p).length] = false := by
  refine drop_head p t _ ?_
  rw [List.head?_drop, List.getElem?_eq_getElem h2]
set_option maxHeartbeats 1000000 in
theorem r4word (l : List UInt8) (at' k : Nat) (hl : l.length ≤ 9223372036854775807) (ha : at' ≤ l.length) (hk : ((l.drop at').takeWhile partB).length = k) (w : World) : Calls Tryz.prog 68 #[.string ⟨l.toArray⟩, .int .i64 (at' : Int)] w fun e w' => e = .returned (.int .i64 ((at' + k : Nat) : Int)) ∧ w = w' := by
  have hkl : at' + k ≤ l.length := by
    have := takeWhile_le partB (l.drop at')
    rw [hk] at this
    simp at this; omega
  have hin : ∀ j (h : j < k) (h2 : at' + j < l.length), partB l[at' + j] = true := fun j h h2 => by
    have := twg_in partB (l.drop at') j (by omega) (by simp; omega)
    simpa using this
  have hout : ∀ (h2 : at' + k < l.length), partB l[at' + k] = false := fun h2 => by
    have := twg_out partB (l.drop at') (by rw [hk]; simp; omega)
    simp only [hk] at this
    simpa using this
  have hin' := Lib.hid hin
  have hout' := Lib.hid hout
  clear hin hout hk
  go_enter Tryz.func68, Tryz.ntmps68
  go_wp2
  go_loop [1] (fun n => ∃ j : Nat, j ≤ k ∧ n = .int .i64 ((at' + j : Nat) : Int)) (fun n => at' + k - (intOf n).toNat)
  case atStart => exact ⟨0, by omega, rfl⟩
  case round =>
    obtain ⟨j, hj, rfl⟩ := hrel
    by_cases h1 : at' + j < l.length
    · have hb : at' + j < (⟨l.toArray⟩ : ByteArray).size := by show at' + j < l.toArray.size; simpa using h1
      by_cases h2 : j < k
      · have hd := Lib.hid (hin'.out j h2 h1)
        go_wp2_with (go_at_call 98; refine (r4part_as ((⟨l.toArray⟩ : ByteArray)[at' + j]'hb) _ hd.out _).mono ?_; rintro e w1 ⟨rfl, rfl⟩)
        go_round
        case rel => exact ⟨j + 1, by omega, by go_num⟩
        case measure => simp [intOf]; omega
      · obtain rfl : j = k := by omega
        have hd := Lib.hid (hout'.out h1)
        go_wp2_with (go_at_call 98; refine (r4part_as ((⟨l.toArray⟩ : ByteArray)[at' + j]'hb) _ hd.out _).mono ?_; rintro e w1 ⟨rfl, rfl⟩)
        go_ret
        exact ⟨rfl, rfl⟩
    · obtain rfl : j = k := by omega
      go_wp2
      go_ret
      exact ⟨rfl, rfl⟩
set_option maxHeartbeats 1000000 in
theorem r4meant_0 (l : List UInt8) (k : Nat) (hl : l.length ≤ 9223372036854775807) (hk : (l.takeWhile upB).length = k) (h0 : k = 0 ∨ k = l.length) (w : World) : Calls Tryz.prog 69 #[.string ⟨l.toArray⟩] w fun e w' => e = .returned (.bool false) ∧ w = w' := by
  have hkl : k ≤ l.length := by have := takeWhile_le upB l; omega
  have hin : ∀ j (h : j < k) (h2 : j < l.length), upB l[j] = true := fun j h h2 => twg_in upB l j (by omega) h2
  have hout : ∀ (h2 : k < l.length), upB l[k] = false := fun h2 => by
    have := twg_out upB l (by omega)
    simp only [hk] at this
    exact this
  have hin' := Lib.hid hin
  have hout' := Lib.hid hout
  clear hin hout hk
  go_enter Tryz.func69, Tryz.ntmps69
  go_wp2
  go_loop [3] (fun n => ∃ j : Nat, j ≤ k ∧ n = .int .i64 (j : Int)) (fun n => k - (intOf n).toNat)
  case atStart => exact ⟨0, by omega, rfl⟩
  case round =>
    obtain ⟨j, hj, rfl⟩ := hrel
    by_cases h1 : j < l.length
    · have hb : j < (⟨l.toArray⟩ : ByteArray).size := by show j < l.toArray.size; simpa using h1
      by_cases h2 : j < k
      · have hd := Lib.hid (hin'.out j h2 h1)
        go_wp2_with (go_at_call 36; refine (r4letter_as ((⟨l.toArray⟩ : ByteArray)[j]'hb) _ hd.out _).mono ?_; rintro e w1 ⟨rfl, rfl⟩)
        go_round
        case rel => exact ⟨j + 1, by omega, by go_num⟩
        case measure => simp [intOf]; omega
      · obtain rfl : j = k := by omega
        have hd := Lib.hid (hout'.out h1)
        have hz : ((j : Int) == 0) = true := by simp; omega
        clear h0
        go_wp2_with (go_at_call 36; refine (r4letter_as ((⟨l.toArray⟩ : ByteArray)[j]'hb) _ hd.out _).mono ?_; rintro e w1 ⟨rfl, rfl⟩)
        go_ret
        exact ⟨rfl, rfl⟩
    · obtain rfl : j = k := by omega
      have hz : ((j : Int) == (l.length : Int)) = true := by simp; omega
      clear h0
      rcases h9 : ((j : Int) == 0)
      · go_wp2
        go_ret
        exact ⟨rfl, rfl⟩
      · go_wp2
        go_ret
        exact ⟨rfl, rfl⟩
set_option maxHeartbeats 1000000 in
theorem r4meant_no (l : List UInt8) (k q : Nat) (hl : l.length ≤ 9223372036854775807) (hk : (l.takeWhile upB).length = k) (hk0 : 0 < k) (hk1 : k < l.length) (hq : ((l.drop k).takeWhile isDig).length = q) (hq1 : k + q < l.length) (w : World) : Calls Tryz.prog 69 #[.string ⟨l.toArray⟩] w fun e w' => e = .returned (.bool false) ∧ w = w' := by
  have hkl : k ≤ l.length := by have := takeWhile_le upB l; omega
  have hin : ∀ j (h : j < k) (h2 : j < l.length), upB l[j] = true := fun j h h2 => twg_in upB l j (by omega) h2
  have hout : ∀ (h2 : k < l.length), upB l[k] = false := fun h2 => by
    have := twg_out upB l (by omega)
    simp only [hk] at this
    exact this
  have hq0 : k + q ≤ l.length := by have := takeWhile_le isDig (l.drop k); rw [hq, List.length_drop] at this; omega
  have din : ∀ j (h : j < q) (h2 : k + j < l.length), isDig l[k + j] = true := fun j h h2 => by
    have := twg_in isDig (l.drop k) j (by omega) (by simp; omega)
    simpa using this
  have dout : ∀ (h2 : k + q < l.length), isDig l[k + q] = false := fun h2 => by
    have := twg_out isDig (l.drop k) (by rw [hq]; simp; omega)
    simp only [hq] at this
    simpa using this
  have din' := Lib.hid din
  have dout' := Lib.hid dout
  clear din dout hq
  have hin' := Lib.hid hin
  have hout' := Lib.hid hout
  clear hin hout hk
  go_enter Tryz.func69, Tryz.ntmps69
  go_wp2
  go_loop [3] (fun n => ∃ j : Nat, j ≤ k ∧ n = .int .i64 (j : Int)) (fun n => k - (intOf n).toNat)
  case atStart => exact ⟨0, by omega, rfl⟩
  case round =>
    obtain ⟨j, hj, rfl⟩ := hrel
    by_cases h1 : j < l.length
    · have hb : j < (⟨l.toArray⟩ : ByteArray).size := by show j < l.toArray.size; simpa using h1
      by_cases h2 : j < k
      · have hd := Lib.hid (hin'.out j h2 h1)
        go_wp2_with (go_at_call 36; refine (r4letter_as ((⟨l.toArray⟩ : ByteArray)[j]'hb) _ hd.out _).mono ?_; rintro e w1 ⟨rfl, rfl⟩)
        go_round
        case rel => exact ⟨j + 1, by omega, by go_num⟩
        case measure => simp [intOf]; omega
      · obtain rfl : j = k := by omega
        have hd := Lib.hid (hout'.out h1)
        have hz0 : ((j : Int) == 0) = false := by simp; omega
        have hz1 : ((j : Int) == (l.length : Int)) = false := by simp; omega
        go_wp2_with (go_at_call 36; refine (r4letter_as ((⟨l.toArray⟩ : ByteArray)[j]'hb) _ hd.out _).mono ?_; rintro e w1 ⟨rfl, rfl⟩)
        go_loop [3] (fun n => ∃ i : Nat, i ≤ q ∧ n = .int .i64 ((j + i : Nat) : Int)) (fun n => j + q - (intOf n).toNat)
        case atStart => exact ⟨0, by omega, rfl⟩
        case round =>
          obtain ⟨i, hi, rfl⟩ := hrel
          by_cases h3 : j + i < l.length
          · have hb : j + i < (⟨l.toArray⟩ : ByteArray).size := by show j + i < l.toArray.size; simpa using h3
            by_cases h4 : i < q
            · have hd := Lib.hid (din'.out i h4 h3)
              go_wp2_with (go_at_call 32; refine (r4digit_as ((⟨l.toArray⟩ : ByteArray)[j + i]'hb) _ hd.out _).mono ?_; rintro e w1 ⟨rfl, rfl⟩)
              go_round
              case rel => exact ⟨i + 1, by omega, by go_num⟩
              case measure => simp [intOf]; omega
            · obtain rfl : i = q := by omega
              have hd := Lib.hid (dout'.out h3)
              go_wp2_with (go_at_call 32; refine (r4digit_as ((⟨l.toArray⟩ : ByteArray)[j + i]'hb) _ hd.out _).mono ?_; rintro e w1 ⟨rfl, rfl⟩)
              go_ret
              exact ⟨rfl, rfl⟩
          · obtain rfl : i = q := by omega
            exfalso; omega
    · obtain rfl : j = k := by omega
      exfalso; omega
set_option maxHeartbeats 1000000 in
theorem r4meant_yes (l : List UInt8) (k q : Nat) (hl : l.length ≤ 9223372036854775807) (hk : (l.takeWhile upB).length = k) (hk0 : 0 < k) (hk1 : k < l.length) (hq : ((l.drop k).takeWhile isDig).length = q) (hq1 : k + q = l.length) (w : World) : Calls Tryz.prog 69 #[.string ⟨l.toArray⟩] w fun e w' => e = .returned (.bool true) ∧ w = w' := by
  have hkl : k ≤ l.length := by have := takeWhile_le upB l; omega
  have hin : ∀ j (h : j < k) (h2 : j < l.length), upB l[j] = true := fun j h h2 => twg_in upB l j (by omega) h2
  have hout : ∀ (h2 : k < l.length), upB l[k] = false := fun h2 => by
    have := twg_out upB l (by omega)
    simp only [hk] at this
    exact this
  have hq0 : k + q ≤ l.length := by have := takeWhile_le isDig (l.drop k); rw [hq, List.length_drop] at this; omega
  have din : ∀ j (h : j < q) (h2 : k + j < l.length), isDig l[k + j] = true := fun j h h2 => by
    have := twg_in isDig (l.drop k) j (by omega) (by simp; omega)
    simpa using this
  have dout : ∀ (h2 : k + q < l.length), isDig l[k + q] = false := fun h2 => by
    have := twg_out isDig (l.drop k) (by rw [hq]; simp; omega)
    simp only [hq] at this
    simpa using this
  have din' := Lib.hid din
  have dout' := Lib.hid dout
  clear din dout hq
  have hin' := Lib.hid hin
  have hout' := Lib.hid hout
  clear hin hout hk
  go_enter Tryz.func69, Tryz.ntmps69
  go_wp2
  go_loop [3] (fun n => ∃ j : Nat, j ≤ k ∧ n = .int .i64 (j : Int)) (fun n => k - (intOf n).toNat)
  case atStart => exact ⟨0, by omega, rfl⟩
  case round =>
    obtain ⟨j, hj, rfl⟩ := hrel
    by_cases h1 : j < l.length
    · have hb : j < (⟨l.toArray⟩ : ByteArray).size := by show j < l.toArray.size; simpa using h1
      by_cases h2 : j < k
      · have hd := Lib.hid (hin'.out j h2 h1)
        go_wp2_with (go_at_call 36; refine (r4letter_as ((⟨l.toArray⟩ : ByteArray)[j]'hb) _ hd.out _).mono ?_; rintro e w1 ⟨rfl, rfl⟩)
        go_round
        case rel => exact ⟨j + 1, by omega, by go_num⟩
        case measure => simp [intOf]; omega
      · obtain rfl : j = k := by omega
        have hd := Lib.hid (hout'.out h1)
        have hz0 : ((j : Int) == 0) = false := by simp; omega
        have hz1 : ((j : Int) == (l.length : Int)) = false := by simp; omega
        go_wp2_with (go_at_call 36; refine (r4letter_as ((⟨l.toArray⟩ : ByteArray)[j]'hb) _ hd.out _).mono ?_; rintro e w1 ⟨rfl, rfl⟩)
        go_loop [3] (fun n => ∃ i : Nat, i ≤ q ∧ n = .int .i64 ((j + i : Nat) : Int)) (fun n => j + q - (intOf n).toNat)
        case atStart => exact ⟨0, by omega, rfl⟩
        case round =>
          obtain ⟨i, hi, rfl⟩ := hrel
          by_cases h3 : j + i < l.length
          · have hb : j + i < (⟨l.toArray⟩ : ByteArray).size := by show j + i < l.toArray.size; simpa using h3
            by_cases h4 : i < q
            · have hd := Lib.hid (din'.out i h4 h3)
              go_wp2_with (go_at_call 32; refine (r4digit_as ((⟨l.toArray⟩ : ByteArray)[j + i]'hb) _ hd.out _).mono ?_; rintro e w1 ⟨rfl, rfl⟩)
              go_round
              case rel => exact ⟨i + 1, by omega, by go_num⟩
              case measure => simp [intOf]; omega
            · obtain rfl : i = q := by omega
              exfalso; omega
          · obtain rfl : i = q := by omega
            go_wp2
            go_ret
            exact ⟨rfl, rfl⟩
    · obtain rfl : j = k := by omega
      exfalso; omega
theorem takeWhile_self (p : UInt8 → Bool) : ∀ l : List UInt8, l.all p = true → l.takeWhile p = l
  | [], _ => rfl
  | b :: l, h => by
    simp only [List.all_cons, Bool.and_eq_true] at h
    rw [List.takeWhile_cons, if_pos h.1, takeWhile_self p l h.2]
theorem meant_form (l : List UInt8) (k q : Nat) (hk : (l.takeWhile upB).length = k) (hq : ((l.drop k).takeWhile isDig).length = q) : meantB l = (decide (k < l.length) && decide (k + q = l.length)) := by
  have e1 : l.dropWhile upB = l.drop k := by rw [← hk, drop_takeWhile]
  have h1 := takeWhile_le isDig (l.drop k)
  rw [hq, List.length_drop] at h1
  unfold meantB
  rw [e1]
  rw [Bool.eq_iff_iff]
  simp only [Bool.and_eq_true, Bool.not_eq_true', decide_eq_true_eq]
  constructor
  · rintro ⟨h2, h3⟩
    have h4 : k < l.length := by
      refine Nat.lt_of_not_le fun h => ?_
      rw [List.drop_eq_nil_of_le h] at h2; simp at h2
    refine ⟨h4, ?_⟩
    have h5 : (l.drop k).takeWhile isDig = l.drop k := takeWhile_self isDig _ h3
    rw [h5, List.length_drop] at hq
    omega
  · rintro ⟨h2, h3⟩
    refine ⟨?_, ?_⟩
    · cases h4 : l.drop k with
      | nil => have := congrArg List.length h4; simp at this; omega
      | cons => rfl
    · have h5 : (l.drop k).takeWhile isDig = l.drop k := by
        rw [takeWhile_take, hq]; exact List.take_of_length_le (by rw [List.length_drop]; omega)
      rw [← h5]; exact takeWhile_all isDig _
theorem r4meant (l : List UInt8) (m : Bool) (hl : l.length ≤ 9223372036854775807) (h0 : 0 < (l.takeWhile upB).length) (h : meantB l = m) (w : World) : Calls Tryz.prog 69 #[.string ⟨l.toArray⟩] w fun e w' => e = .returned (.bool m) ∧ w = w' := by
  obtain ⟨k, hk⟩ : ∃ k, (l.takeWhile upB).length = k := ⟨_, rfl⟩
  obtain ⟨q, hq⟩ : ∃ q, ((l.drop k).takeWhile isDig).length = q := ⟨_, rfl⟩
  have hf := meant_form l k q hk hq
  have hkl : k ≤ l.length := by have := takeWhile_le upB l; omega
  have h1 := takeWhile_le isDig (l.drop k)
  rw [hq, List.length_drop] at h1
  subst h
  rw [hk] at h0
  by_cases h2 : k < l.length
  · by_cases h3 : k + q = l.length
    · rw [hf, decide_eq_true h2, decide_eq_true h3]; exact r4meant_yes l k q hl hk h0 h2 hq h3 w
    · rw [hf, decide_eq_true h2, decide_eq_false h3]; exact r4meant_no l k q hl hk h0 h2 hq (by omega) w
  · rw [hf, decide_eq_false h2]; exact r4meant_0 l k hl hk (.inr (by omega)) w
theorem ext_mid (l a : List UInt8) (at' k : Nat) (h : (l.drop at').take k = a) : (⟨l.toArray⟩ : ByteArray).extract at' (at' + k) = ⟨a.toArray⟩ := by
  subst h
  apply ByteArray.ext
  simp
set_option maxHeartbeats 400000 in
theorem r4wrong (p : Int) (w : World) : Calls Tryz.prog 66 #[.int .i64 p] w fun e w' => e = .returned (.tuple #[.agg #[.int .i64 8, .int .i64 p, .int .i64 0, .string ⟨#[]⟩, .int .i64 0, .int .i64 0, .int .i64 0, .int .i64 0, .int .i64 0, .int .i64 0, .int .i64 0], .int .i64 p]) ∧ Below w.heap.size w w' := by
  go_enter Tryz.func66, Tryz.ntmps66
  go_wp2
  refine bodyPost_ret (v := _) ?_ rfl ⟨rfl, by (repeat (first | (with_reducible exact Below.refl _ _) | (with_reducible refine Below.alloc ?_ (by first | omega | (dsimp only; omega) | (simp <;> omega)) _) | (with_reducible refine Below.setCell ?_ (by first | omega | (dsimp only; omega) | (simp <;> omega)) _) | (with_reducible refine Below.drew ?_) | (with_reducible refine below_drewN ?_ _) | (with_reducible refine Below.trans ?_ (Below.mono (by assumption) (by first | omega | (dsimp only; omega) | (simp <;> omega))))))⟩
  first | (simp [results, Tryz.results66, go_sem, *]; done) | (simp [results, Tryz.results66, go_sem, *]; omega)
theorem keepB {B : Nat} {W w1 : World} (hb : Below B W w1) (hB : B ≤ W.heap.size) :
    (∀ b o, b < B → w1.cell? ⟨b, o, none⟩ = W.cell? ⟨b, o, none⟩) ∧ (∀ b o, b < B → w1.frozen? ⟨b, o, none⟩ = W.frozen? ⟨b, o, none⟩) ∧ B ≤ w1.heap.size :=
  ⟨fun b o h => hb.cell (p := ⟨b, o, Option.none⟩) h, fun b o h => hb.frozen (p := ⟨b, o, Option.none⟩) h, Nat.le_trans hB hb.size⟩
theorem quote_start (q : List UInt8) : quoteG q = (quoteG (q.drop 0)).map fun x => (([] : List UInt8) ++ x.1, x.2 + 0) := by
  cases h : quoteG q <;> simp [h]
theorem ext_one (l : List UInt8) (i : Nat) (h : i < l.length) : (⟨l.toArray⟩ : ByteArray).extract i (i + 1) = ⟨#[l[i]]⟩ := by
  refine ext_mid l [l[i]] i 1 ?_
  rw [List.take_one, List.head?_drop, List.getElem?_eq_getElem h]; rfl
theorem drop_at (l : List UInt8) (i : Nat) (h : i < l.length) : l.drop i = l[i] :: l.drop (i + 1) := List.drop_eq_getElem_cons h
end Go.Proofs.YtiekhbagpmnboaaGreatDoor
