/-
  orielref04: numbers, codes.
-/
import Derived.Test.YtiekhbagpmnboaaGreatDoorPrintL
import Derived.Test.YtiekhbagpmnboaaGreatDoorNumL
import Derived.Test.YtiekhbagpmnboaaGreatDoorRows
import Derived.Test.YtiekhbagpmnboaaGreatDoorBase
import Derived.Test.YtiekhbagpmnboaaGreatDoorProg
import Derived.Test.YtiekhbagpmnboaaGreatDoorShelf
import Derived.Test.YtiekhbagpmnboaaGreatDoorCutW
import Derived.Test.YtiekhbagpmnboaaGreatDoorAddrC
import Derived.Test.YtiekhbagpmnboaaGreatDoorNames
import Derived.Test.YtiekhbagpmnboaaGreatDoorParseW
import Derived.Test.YtiekhbagpmnboaaGreatDoorPRect
import Derived.Test.YtiekhbagpmnboaaGreatDoorDecA
import Derived.Test.YtiekhbagpmnboaaGreatDoorValA
import Derived.Test.YtiekhbagpmnboaaGreatDoorValB
import Derived.Test.YtiekhbagpmnboaaGreatDoorValD
import Derived.Test.YtiekhbagpmnboaaGreatDoorLexP
import Derived.Test.YtiekhbagpmnboaaGreatDoorRefName
import Derived.Test.YtiekhbagpmnboaaGreatDoorLexR
import Derived.Test.YtiekhbagpmnboaaGreatDoorMg30
import Derived.Test.YtiekhbagpmnboaaGreatDoorMg31
import Derived.Test.YtiekhbagpmnboaaGreatDoorRDPar
import Derived.Test.YtiekhbagpmnboaaGreatDoorRDParB
import Derived.Test.YtiekhbagpmnboaaGreatDoorDDig
import Derived.Test.YtiekhbagpmnboaaGreatDoorDParse
import Derived.Test.YtiekhbagpmnboaaGreatDoorRDJoin
import Derived.Test.YtiekhbagpmnboaaGreatDoorValK
import Derived.WalkSpells
import Derived.WalkLawsBesides
import Derived.StillTactics
import Derived.Laws.Pointers
import Derived.Deep.RegionHeld3
import Derived.Deep.QuietTactic
import Derived.BigQuiet
import Derived.RowKit3
import Derived.Lib.Hide
import Derived.Lib.OthersKept
import Derived.OwnWalk
import Derived.Lib.IndexLaws
import Derived.Lib.ItoaMem
import Derived.Lib.TrimByte
import Derived.Lib.SlTrimSet
import Derived.Lib.ParseIntB
import Derived.WalkKit
import Derived.ProofKit
import Derived.OpenShut
import Derived.Carry
import Derived.ChangeSame
import Derived.Deep.Draws
import Derived.Shelf.Strings.Builder1
import Derived.Shelf.Strings.Trim
import Derived.Shelf.Small.Utf8
import Derived.Shelf.Small.Strs
import Derived.Shelf.Small.Wraps
import Derived.Shelf.Strings.BuilderF
import Derived.Shelf.Strings.BuilderK
import Derived.Shelf.Strconv.Itoa0
import Derived.Shelf.Strconv.Itoa1
import Derived.Shelf.LaysM
import Derived.Shelf.Strconv.Itoa2
import Derived.Shelf.Strconv.Itoa3
import Derived.Ground.MpProg
import Derived.Shelf.Pu.ParseUintPublic10
import Derived.Shelf.Strings.Search1
import Derived.Shelf.Strings.Search2
import Derived.Shelf.Strings.Cut
import Derived.Shelf.Strings.Shaped
import Derived.Shelf.Strings.Prefix
import Derived.Shelf.Strings.Runes
import Derived.Shelf.Strings.AsciiSet
import Derived.Shelf.Unicode.DecodeSlow
import Derived.Lib.ItoaNum
import Derived.Shelf.Strings.SlTrimAscii
import Derived.Lib.SmallJoins
namespace Go.Proofs.YtiekhbagpmnboaaGreatDoor
open Go.RowKit

set_option maxHeartbeats 2000000 in
theorem r4number_yes (l a : List UInt8) (at' k : Nat) (hl : l.length ≤ 9223372036854775807) (ha : at' ≤ l.length) (hka : (l.drop at').takeWhile numB = a) (hk : a.length = k) (ham : (⟨a.toArray⟩ : ByteArray).size ≤ maxLen) (v : Int) (hv : numV a = v) (hok : numOk a = true) (w : World) : Calls Tryz.prog 33 #[.string ⟨l.toArray⟩, .int .i64 (at' : Int)] w fun e w' => e = .returned (.tuple #[.agg #[.int .i64 1, .int .i64 (at' : Int), .int .i64 v, .string ⟨#[]⟩, .int .i64 0, .int .i64 0, .int .i64 0, .int .i64 0, .int .i64 0, .int .i64 0, .int .i64 0], .int .i64 ((at' + k : Nat) : Int)]) ∧ Below w.heap.size w w' := by
  have hkl : at' + k ≤ l.length := by
    have := takeWhile_le numB (l.drop at')
    rw [hka, hk] at this
    simp at this; omega
  have hin : ∀ j (h : j < k) (h2 : at' + j < l.length), numB l[at' + j] = true := fun j h h2 => by
    have := twg_in numB (l.drop at') j (by rw [hka]; omega) (by simp; omega)
    simpa using this
  have hout : ∀ (h2 : at' + k < l.length), numB l[at' + k] = false := fun h2 => by
    have := twg_out numB (l.drop at') (by rw [hka, hk]; simp; omega)
    simp only [hka, hk] at this
    simpa using this
  have hx := ext_mid l a at' k (by rw [← hka, takeWhile_take, hka, hk])
  have CP := (rdparse_any ⟨a.toArray⟩ ham)
  have hin' := Lib.hid hin
  have hout' := Lib.hid hout
  have hv' := Lib.hid (And.intro hv hok)
  clear hin hout hka hk hv hok
  go_enter Tryz.func33, Tryz.ntmps33
  go_wp2
  go_loop [6] (fun n => ∃ j : Nat, j ≤ k ∧ n = .int .i64 ((at' + j : Nat) : Int)) (fun n => at' + k - (intOf n).toNat)
  case atStart => exact ⟨0, by omega, rfl⟩
  case round =>
    obtain ⟨j, hj, rfl⟩ := hrel
    by_cases h1 : at' + j < l.length
    · have hb : at' + j < (⟨l.toArray⟩ : ByteArray).size := by show at' + j < l.toArray.size; simpa using h1
      by_cases h2 : j < k
      · have hn := hin'.out j h2 h1
        rcases hd1 : isDig l[at' + j]
        · have hd := Lib.hid hd1
          have hdot0 : l[at' + j].toNat = 46 := by rw [numB, hd1] at hn; simpa using hn
          have hdot : ((⟨l.toArray⟩ : ByteArray)[at' + j]'hb).toNat = 46 := hdot0
          clear hdot0
          have hdot' := Lib.hid hdot
          clear hn hd1 hdot
          go_wp2_with fail
          refine (r4digit_as ((⟨l.toArray⟩ : ByteArray)[at' + j]'hb) _ hd.out _).mono ?_
          rintro e w1 ⟨rfl, rfl⟩
          have hdot := hdot'.out
          go_wp2
          go_round
          case rel => exact ⟨j + 1, by omega, by go_num⟩
          case measure => simp [intOf]; omega
        · have hd := Lib.hid hd1
          clear hn hd1
          go_wp2_with (go_at_call 32; refine (r4digit_as ((⟨l.toArray⟩ : ByteArray)[at' + j]'hb) _ hd.out _).mono ?_; rintro e w1 ⟨rfl, rfl⟩)
          go_round
          case rel => exact ⟨j + 1, by omega, by go_num⟩
          case measure => simp [intOf]; omega
      · obtain rfl : j = k := by omega
        have hn := hout'.out h1
        have hd := Lib.hid (show isDig l[at' + j] = false by rcases h : isDig l[at' + j] <;> simp [numB, h] at hn ⊢)
        have hdot : ((⟨l.toArray⟩ : ByteArray)[at' + j]'hb).toNat ≠ 46 := by
          intro h; have h' : (l[at' + j]).toNat = 46 := h
          simp [numB, h'] at hn
        clear hn
        go_wp2_with (go_at_call 32; refine (r4digit_as ((⟨l.toArray⟩ : ByteArray)[at' + j]'hb) _ hd.out _).mono ?_; rintro e w1 ⟨rfl, rfl⟩)
        try rw [hx]
        refine (CP _).mono ?_
        rintro e w1 ⟨rfl, hw⟩
        subst hw
        try rw [show (⟨a.toArray⟩ : ByteArray).data.toList = a from by simp]
        rw [hv'.out.1, hv'.out.2]
        go_wp2
        refine bodyPost_ret (v := _) ?_ rfl ⟨rfl, by (repeat (first | (with_reducible exact Below.refl _ _) | (with_reducible refine Below.alloc ?_ (by first | omega | (dsimp only; omega) | (simp <;> omega)) _) | (with_reducible refine Below.setCell ?_ (by first | omega | (dsimp only; omega) | (simp <;> omega)) _) | (with_reducible refine Below.drew ?_) | (with_reducible refine below_drewN ?_ _) | (with_reducible refine Below.trans ?_ (Below.mono (by assumption) (by first | omega | (dsimp only; omega) | (simp <;> omega))))))⟩
        first | (simp [results, Tryz.results33, go_sem, *]; done) | (simp [results, Tryz.results33, go_sem, *]; omega)
    · obtain rfl : j = k := by omega
      go_wp2_with fail
      try rw [hx]
      refine (CP _).mono ?_
      rintro e w1 ⟨rfl, hw⟩
      subst hw
      try rw [show (⟨a.toArray⟩ : ByteArray).data.toList = a from by simp]
      rw [hv'.out.1, hv'.out.2]
      go_wp2
      refine bodyPost_ret (v := _) ?_ rfl ⟨rfl, by (repeat (first | (with_reducible exact Below.refl _ _) | (with_reducible refine Below.alloc ?_ (by first | omega | (dsimp only; omega) | (simp <;> omega)) _) | (with_reducible refine Below.setCell ?_ (by first | omega | (dsimp only; omega) | (simp <;> omega)) _) | (with_reducible refine Below.drew ?_) | (with_reducible refine below_drewN ?_ _) | (with_reducible refine Below.trans ?_ (Below.mono (by assumption) (by first | omega | (dsimp only; omega) | (simp <;> omega))))))⟩
      first | (simp [results, Tryz.results33, go_sem, *]; done) | (simp [results, Tryz.results33, go_sem, *]; omega)
set_option maxHeartbeats 2000000 in
theorem r4number_no (l a : List UInt8) (at' k : Nat) (hl : l.length ≤ 9223372036854775807) (ha : at' ≤ l.length) (hka : (l.drop at').takeWhile numB = a) (hk : a.length = k) (ham : (⟨a.toArray⟩ : ByteArray).size ≤ maxLen) (v : Int) (hv : numV a = v) (hok : numOk a = false) (w : World) : Calls Tryz.prog 33 #[.string ⟨l.toArray⟩, .int .i64 (at' : Int)] w fun e w' => e = .returned (.tuple #[.agg #[.int .i64 8, .int .i64 (at' : Int), .int .i64 0, .string ⟨#[]⟩, .int .i64 0, .int .i64 0, .int .i64 0, .int .i64 0, .int .i64 0, .int .i64 0, .int .i64 0], .int .i64 (at' : Int)]) ∧ Below w.heap.size w w' := by
  have hkl : at' + k ≤ l.length := by
    have := takeWhile_le numB (l.drop at')
    rw [hka, hk] at this
    simp at this; omega
  have hin : ∀ j (h : j < k) (h2 : at' + j < l.length), numB l[at' + j] = true := fun j h h2 => by
    have := twg_in numB (l.drop at') j (by rw [hka]; omega) (by simp; omega)
    simpa using this
  have hout : ∀ (h2 : at' + k < l.length), numB l[at' + k] = false := fun h2 => by
    have := twg_out numB (l.drop at') (by rw [hka, hk]; simp; omega)
    simp only [hka, hk] at this
    simpa using this
  have hx := ext_mid l a at' k (by rw [← hka, takeWhile_take, hka, hk])
  have CP := (rdparse_any ⟨a.toArray⟩ ham)
  have hin' := Lib.hid hin
  have hout' := Lib.hid hout
  have hv' := Lib.hid (And.intro hv hok)
  clear hin hout hka hk hv hok
  go_enter Tryz.func33, Tryz.ntmps33
  go_wp2
  go_loop [6] (fun n => ∃ j : Nat, j ≤ k ∧ n = .int .i64 ((at' + j : Nat) : Int)) (fun n => at' + k - (intOf n).toNat)
  case atStart => exact ⟨0, by omega, rfl⟩
  case round =>
    obtain ⟨j, hj, rfl⟩ := hrel
    by_cases h1 : at' + j < l.length
    · have hb : at' + j < (⟨l.toArray⟩ : ByteArray).size := by show at' + j < l.toArray.size; simpa using h1
      by_cases h2 : j < k
      · have hn := hin'.out j h2 h1
        rcases hd1 : isDig l[at' + j]
        · have hd := Lib.hid hd1
          have hdot0 : l[at' + j].toNat = 46 := by rw [numB, hd1] at hn; simpa using hn
          have hdot : ((⟨l.toArray⟩ : ByteArray)[at' + j]'hb).toNat = 46 := hdot0
          clear hdot0
          have hdot' := Lib.hid hdot
          clear hn hd1 hdot
          go_wp2_with fail
          refine (r4digit_as ((⟨l.toArray⟩ : ByteArray)[at' + j]'hb) _ hd.out _).mono ?_
          rintro e w1 ⟨rfl, rfl⟩
          have hdot := hdot'.out
          go_wp2
          go_round
          case rel => exact ⟨j + 1, by omega, by go_num⟩
          case measure => simp [intOf]; omega
        · have hd := Lib.hid hd1
          clear hn hd1
          go_wp2_with (go_at_call 32; refine (r4digit_as ((⟨l.toArray⟩ : ByteArray)[at' + j]'hb) _ hd.out _).mono ?_; rintro e w1 ⟨rfl, rfl⟩)
          go_round
          case rel => exact ⟨j + 1, by omega, by go_num⟩
          case measure => simp [intOf]; omega
      · obtain rfl : j = k := by omega
        have hn := hout'.out h1
        have hd := Lib.hid (show isDig l[at' + j] = false by rcases h : isDig l[at' + j] <;> simp [numB, h] at hn ⊢)
        have hdot : ((⟨l.toArray⟩ : ByteArray)[at' + j]'hb).toNat ≠ 46 := by
          intro h; have h' : (l[at' + j]).toNat = 46 := h
          simp [numB, h'] at hn
        clear hn
        go_wp2_with (go_at_call 32; refine (r4digit_as ((⟨l.toArray⟩ : ByteArray)[at' + j]'hb) _ hd.out _).mono ?_; rintro e w1 ⟨rfl, rfl⟩)
        try rw [hx]
        refine (CP _).mono ?_
        rintro e w1 ⟨rfl, hw⟩
        subst hw
        try rw [show (⟨a.toArray⟩ : ByteArray).data.toList = a from by simp]
        rw [hv'.out.1, hv'.out.2]
        go_wp2_with (go_at_call 66; refine (r4wrong _ _).mono ?_; rintro e w2 ⟨rfl, hb2⟩; obtain ⟨hc2, hf2, hz2⟩ := bkeep hb2 (w.heap.size + 1) (by first | omega | (simp <;> omega)))
        refine bodyPost_ret (v := _) ?_ rfl ⟨rfl, by (repeat (first | (with_reducible exact Below.refl _ _) | (with_reducible refine Below.alloc ?_ (by first | omega | (dsimp only; omega) | (simp <;> omega)) _) | (with_reducible refine Below.setCell ?_ (by first | omega | (dsimp only; omega) | (simp <;> omega)) _) | (with_reducible refine Below.drew ?_) | (with_reducible refine below_drewN ?_ _) | (with_reducible refine Below.trans ?_ (Below.mono (by assumption) (by first | omega | (dsimp only; omega) | (simp <;> omega))))))⟩
        first | (simp [results, Tryz.results33, go_sem, *]; done) | (simp [results, Tryz.results33, go_sem, *]; omega)
    · obtain rfl : j = k := by omega
      go_wp2_with fail
      try rw [hx]
      refine (CP _).mono ?_
      rintro e w1 ⟨rfl, hw⟩
      subst hw
      try rw [show (⟨a.toArray⟩ : ByteArray).data.toList = a from by simp]
      rw [hv'.out.1, hv'.out.2]
      go_wp2_with (go_at_call 66; refine (r4wrong _ _).mono ?_; rintro e w2 ⟨rfl, hb2⟩; obtain ⟨hc2, hf2, hz2⟩ := bkeep hb2 (w.heap.size + 1) (by first | omega | (simp <;> omega)))
      refine bodyPost_ret (v := _) ?_ rfl ⟨rfl, by (repeat (first | (with_reducible exact Below.refl _ _) | (with_reducible refine Below.alloc ?_ (by first | omega | (dsimp only; omega) | (simp <;> omega)) _) | (with_reducible refine Below.setCell ?_ (by first | omega | (dsimp only; omega) | (simp <;> omega)) _) | (with_reducible refine Below.drew ?_) | (with_reducible refine below_drewN ?_ _) | (with_reducible refine Below.trans ?_ (Below.mono (by assumption) (by first | omega | (dsimp only; omega) | (simp <;> omega))))))⟩
      first | (simp [results, Tryz.results33, go_sem, *]; done) | (simp [results, Tryz.results33, go_sem, *]; omega)
set_option maxHeartbeats 1000000 in
theorem r4fault_none (l a : List UInt8) (at' k : Nat) (hl : l.length ≤ 9223372036854775806) (ha : at' ≤ l.length) (hka : (l.drop at').takeWhile bangB = a) (hk : a.length = k) (hend : at' + k = l.length) (w : World) : Calls Tryz.prog 35 #[.string ⟨l.toArray⟩, .int .i64 (at' : Int)] w fun e w' => e = .returned (.tuple #[.agg #[.int .i64 8, .int .i64 (at' : Int), .int .i64 0, .string ⟨#[]⟩, .int .i64 0, .int .i64 0, .int .i64 0, .int .i64 0, .int .i64 0, .int .i64 0, .int .i64 0], .int .i64 (at' : Int)]) ∧ Below w.heap.size w w' := by
  have hkl : at' + k ≤ l.length := by
    have := takeWhile_le bangB (l.drop at')
    rw [hka, hk] at this
    simp at this; omega
  have hin' : Hid (∀ j (h : j < k) (h2 : at' + j < l.length), l[at' + j].toNat ≠ 33) := Lib.hid fun j h h2 => by
    have := twg_in bangB (l.drop at') j (by rw [hka]; omega) (by simp; omega)
    simpa [bangB] using this
  have hout' : Hid (∀ (h2 : at' + k < l.length), l[at' + k].toNat = 33) := Lib.hid fun h2 => by
    have := twg_out bangB (l.drop at') (by rw [hka, hk]; simp; omega)
    simp only [hka, hk] at this
    simpa [bangB] using this
  clear hka hk
  go_enter Tryz.func35, Tryz.ntmps35
  go_wp2
  go_loop [6] (fun n => ∃ j : Nat, j ≤ k ∧ n = .int .i64 ((at' + j : Nat) : Int)) (fun n => at' + k - (intOf n).toNat)
  case atStart => exact ⟨0, by omega, rfl⟩
  case round =>
    obtain ⟨j, hj, rfl⟩ := hrel
    by_cases h1 : at' + j < l.length
    · have hb : at' + j < (⟨l.toArray⟩ : ByteArray).size := by show at' + j < l.toArray.size; simpa using h1
      by_cases h2 : j < k
      · have hne : ((⟨l.toArray⟩ : ByteArray)[at' + j]'hb).toNat ≠ 33 := hin'.out j h2 h1
        go_wp2
        go_round
        case rel => exact ⟨j + 1, by omega, by go_num⟩
        case measure => simp [intOf]; omega
      · obtain rfl : j = k := by omega
        have hyes : ((⟨l.toArray⟩ : ByteArray)[at' + j]'hb).toNat = 33 := hout'.out h1
        exfalso; omega
    · obtain rfl : j = k := by omega
      go_wp2_with (go_at_call 66; refine (r4wrong _ _).mono ?_; rintro e w2 ⟨rfl, hb2⟩; obtain ⟨hc2, hf2, hz2⟩ := bkeep hb2 (w.heap.size + 1) (by first | omega | (simp <;> omega)))
      refine bodyPost_ret (v := _) ?_ rfl ⟨rfl, by (repeat (first | (with_reducible exact Below.refl _ _) | (with_reducible refine Below.alloc ?_ (by first | omega | (dsimp only; omega) | (simp <;> omega)) _) | (with_reducible refine Below.setCell ?_ (by first | omega | (dsimp only; omega) | (simp <;> omega)) _) | (with_reducible refine Below.drew ?_) | (with_reducible refine below_drewN ?_ _) | (with_reducible refine Below.trans ?_ (Below.mono (by assumption) (by first | omega | (dsimp only; omega) | (simp <;> omega))))))⟩
      first | (simp [results, Tryz.results35, go_sem, *]; done) | (simp [results, Tryz.results35, go_sem, *]; omega)
set_option maxHeartbeats 1000000 in
theorem r4fault_no (l a : List UInt8) (at' k : Nat) (hl : l.length ≤ 9223372036854775806) (ha : at' ≤ l.length) (hka : (l.drop at').takeWhile bangB = a) (hk : a.length = k) (hend : at' + k < l.length) (hc0 : codeOf ⟨(a ++ [33]).toArray⟩ = 0) (w : World) : Calls Tryz.prog 35 #[.string ⟨l.toArray⟩, .int .i64 (at' : Int)] w fun e w' => e = .returned (.tuple #[.agg #[.int .i64 8, .int .i64 (at' : Int), .int .i64 0, .string ⟨#[]⟩, .int .i64 0, .int .i64 0, .int .i64 0, .int .i64 0, .int .i64 0, .int .i64 0, .int .i64 0], .int .i64 (at' : Int)]) ∧ Below w.heap.size w w' := by
  have hkl : at' + k ≤ l.length := by
    have := takeWhile_le bangB (l.drop at')
    rw [hka, hk] at this
    simp at this; omega
  have hin' : Hid (∀ j (h : j < k) (h2 : at' + j < l.length), l[at' + j].toNat ≠ 33) := Lib.hid fun j h h2 => by
    have := twg_in bangB (l.drop at') j (by rw [hka]; omega) (by simp; omega)
    simpa [bangB] using this
  have hout' : Hid (∀ (h2 : at' + k < l.length), l[at' + k].toNat = 33) := Lib.hid fun h2 => by
    have := twg_out bangB (l.drop at') (by rw [hka, hk]; simp; omega)
    simp only [hka, hk] at this
    simpa [bangB] using this
  have hx : (⟨l.toArray⟩ : ByteArray).extract at' (at' + k + 1) = ⟨(a ++ [33]).toArray⟩ := by
    refine ext_mid l (a ++ [33]) at' (k + 1) ?_
    rw [List.take_add_one, ← hk, ← hka, ← takeWhile_take, hka, hk, List.getElem?_drop, List.getElem?_eq_getElem hend]
    have := hout'.out hend
    have h33 : l[at' + k] = 33 := by rw [← UInt8.toNat_inj]; exact this
    rw [h33]; rfl
  have CN := rnamed_any ⟨(a ++ [33]).toArray⟩
  have hc0' := Lib.hid hc0
  clear hka hk hc0
  go_enter Tryz.func35, Tryz.ntmps35
  go_wp2
  go_loop [6] (fun n => ∃ j : Nat, j ≤ k ∧ n = .int .i64 ((at' + j : Nat) : Int)) (fun n => at' + k - (intOf n).toNat)
  case atStart => exact ⟨0, by omega, rfl⟩
  case round =>
    obtain ⟨j, hj, rfl⟩ := hrel
    by_cases h1 : at' + j < l.length
    · have hb : at' + j < (⟨l.toArray⟩ : ByteArray).size := by show at' + j < l.toArray.size; simpa using h1
      by_cases h2 : j < k
      · have hne : ((⟨l.toArray⟩ : ByteArray)[at' + j]'hb).toNat ≠ 33 := hin'.out j h2 h1
        go_wp2
        go_round
        case rel => exact ⟨j + 1, by omega, by go_num⟩
        case measure => simp [intOf]; omega
      · obtain rfl : j = k := by omega
        have hyes : ((⟨l.toArray⟩ : ByteArray)[at' + j]'hb).toNat = 33 := hout'.out h1
        go_wp2_with fail
        try rw [hx]
        refine (CN _).mono ?_
        rintro e w1 ⟨rfl, hb1⟩
        obtain ⟨hc1, hf1, hz1⟩ := bkeep hb1 (w.heap.size + 1) (by first | omega | (simp <;> omega))
        rw [hc0'.out, decide_eq_true (rfl : (0 : Int) = 0), Bool.not_true]
        go_wp2_with (go_at_call 66; refine (r4wrong _ _).mono ?_; rintro e w2 ⟨rfl, hb2⟩; obtain ⟨hc2, hf2, hz2⟩ := bkeep hb2 (w.heap.size + 1) (by first | omega | (simp <;> omega)))
        refine bodyPost_ret (v := _) ?_ rfl ⟨rfl, by (repeat (first | (with_reducible exact Below.refl _ _) | (with_reducible refine Below.alloc ?_ (by first | omega | (dsimp only; omega) | (simp <;> omega)) _) | (with_reducible refine Below.setCell ?_ (by first | omega | (dsimp only; omega) | (simp <;> omega)) _) | (with_reducible refine Below.drew ?_) | (with_reducible refine below_drewN ?_ _) | (with_reducible refine Below.trans ?_ (Below.mono (by assumption) (by first | omega | (dsimp only; omega) | (simp <;> omega))))))⟩
        first | (simp [results, Tryz.results35, go_sem, *]; done) | (simp [results, Tryz.results35, go_sem, *]; omega)
    · obtain rfl : j = k := by omega
      exfalso; omega
set_option maxHeartbeats 1000000 in
theorem r4fault_cycle (l a : List UInt8) (at' k : Nat) (hl : l.length ≤ 9223372036854775806) (ha : at' ≤ l.length) (hka : (l.drop at').takeWhile bangB = a) (hk : a.length = k) (hend : at' + k < l.length) (hc0 : codeOf ⟨(a ++ [33]).toArray⟩ = 1) (w : World) : Calls Tryz.prog 35 #[.string ⟨l.toArray⟩, .int .i64 (at' : Int)] w fun e w' => e = .returned (.tuple #[.agg #[.int .i64 8, .int .i64 (at' : Int), .int .i64 0, .string ⟨#[]⟩, .int .i64 0, .int .i64 0, .int .i64 0, .int .i64 0, .int .i64 0, .int .i64 0, .int .i64 0], .int .i64 (at' : Int)]) ∧ Below w.heap.size w w' := by
  have hkl : at' + k ≤ l.length := by
    have := takeWhile_le bangB (l.drop at')
    rw [hka, hk] at this
    simp at this; omega
  have hin' : Hid (∀ j (h : j < k) (h2 : at' + j < l.length), l[at' + j].toNat ≠ 33) := Lib.hid fun j h h2 => by
    have := twg_in bangB (l.drop at') j (by rw [hka]; omega) (by simp; omega)
    simpa [bangB] using this
  have hout' : Hid (∀ (h2 : at' + k < l.length), l[at' + k].toNat = 33) := Lib.hid fun h2 => by
    have := twg_out bangB (l.drop at') (by rw [hka, hk]; simp; omega)
    simp only [hka, hk] at this
    simpa [bangB] using this
  have hx : (⟨l.toArray⟩ : ByteArray).extract at' (at' + k + 1) = ⟨(a ++ [33]).toArray⟩ := by
    refine ext_mid l (a ++ [33]) at' (k + 1) ?_
    rw [List.take_add_one, ← hk, ← hka, ← takeWhile_take, hka, hk, List.getElem?_drop, List.getElem?_eq_getElem hend]
    have := hout'.out hend
    have h33 : l[at' + k] = 33 := by rw [← UInt8.toNat_inj]; exact this
    rw [h33]; rfl
  have CN := rnamed_any ⟨(a ++ [33]).toArray⟩
  have hc0' := Lib.hid hc0
  clear hka hk hc0
  go_enter Tryz.func35, Tryz.ntmps35
  go_wp2
  go_loop [6] (fun n => ∃ j : Nat, j ≤ k ∧ n = .int .i64 ((at' + j : Nat) : Int)) (fun n => at' + k - (intOf n).toNat)
  case atStart => exact ⟨0, by omega, rfl⟩
  case round =>
    obtain ⟨j, hj, rfl⟩ := hrel
    by_cases h1 : at' + j < l.length
    · have hb : at' + j < (⟨l.toArray⟩ : ByteArray).size := by show at' + j < l.toArray.size; simpa using h1
      by_cases h2 : j < k
      · have hne : ((⟨l.toArray⟩ : ByteArray)[at' + j]'hb).toNat ≠ 33 := hin'.out j h2 h1
        go_wp2
        go_round
        case rel => exact ⟨j + 1, by omega, by go_num⟩
        case measure => simp [intOf]; omega
      · obtain rfl : j = k := by omega
        have hyes : ((⟨l.toArray⟩ : ByteArray)[at' + j]'hb).toNat = 33 := hout'.out h1
        go_wp2_with fail
        try rw [hx]
        refine (CN _).mono ?_
        rintro e w1 ⟨rfl, hb1⟩
        obtain ⟨hc1, hf1, hz1⟩ := bkeep hb1 (w.heap.size + 1) (by first | omega | (simp <;> omega))
        rw [hc0'.out, decide_eq_false (by decide : ¬ (1 : Int) = 0), Bool.not_false]
        go_wp2_with (go_at_call 66; refine (r4wrong _ _).mono ?_; rintro e w2 ⟨rfl, hb2⟩; obtain ⟨hc2, hf2, hz2⟩ := bkeep hb2 (w.heap.size + 1) (by first | omega | (simp <;> omega)))
        refine bodyPost_ret (v := _) ?_ rfl ⟨rfl, by (repeat (first | (with_reducible exact Below.refl _ _) | (with_reducible refine Below.alloc ?_ (by first | omega | (dsimp only; omega) | (simp <;> omega)) _) | (with_reducible refine Below.setCell ?_ (by first | omega | (dsimp only; omega) | (simp <;> omega)) _) | (with_reducible refine Below.drew ?_) | (with_reducible refine below_drewN ?_ _) | (with_reducible refine Below.trans ?_ (Below.mono (by assumption) (by first | omega | (dsimp only; omega) | (simp <;> omega))))))⟩
        first | (simp [results, Tryz.results35, go_sem, *]; done) | (simp [results, Tryz.results35, go_sem, *]; omega)
    · obtain rfl : j = k := by omega
      exfalso; omega
set_option maxHeartbeats 1000000 in
theorem r4fault_yes (l a : List UInt8) (at' k : Nat) (hl : l.length ≤ 9223372036854775806) (ha : at' ≤ l.length) (hka : (l.drop at').takeWhile bangB = a) (hk : a.length = k) (hend : at' + k < l.length) (c : Int) (hc0 : codeOf ⟨(a ++ [33]).toArray⟩ = c) (hk0 : c ≠ 0) (hk1 : c ≠ 1) (w : World) : Calls Tryz.prog 35 #[.string ⟨l.toArray⟩, .int .i64 (at' : Int)] w fun e w' => e = .returned (.tuple #[.agg #[.int .i64 6, .int .i64 (at' : Int), .int .i64 0, .string ⟨#[]⟩, .int .i64 0, .int .i64 0, .int .i64 0, .int .i64 0, .int .i64 0, .int .i64 0, .int .i64 c], .int .i64 ((at' + k + 1 : Nat) : Int)]) ∧ Below w.heap.size w w' := by
  have hkl : at' + k ≤ l.length := by
    have := takeWhile_le bangB (l.drop at')
    rw [hka, hk] at this
    simp at this; omega
  have hin' : Hid (∀ j (h : j < k) (h2 : at' + j < l.length), l[at' + j].toNat ≠ 33) := Lib.hid fun j h h2 => by
    have := twg_in bangB (l.drop at') j (by rw [hka]; omega) (by simp; omega)
    simpa [bangB] using this
  have hout' : Hid (∀ (h2 : at' + k < l.length), l[at' + k].toNat = 33) := Lib.hid fun h2 => by
    have := twg_out bangB (l.drop at') (by rw [hka, hk]; simp; omega)
    simp only [hka, hk] at this
    simpa [bangB] using this
  have hx : (⟨l.toArray⟩ : ByteArray).extract at' (at' + k + 1) = ⟨(a ++ [33]).toArray⟩ := by
    refine ext_mid l (a ++ [33]) at' (k + 1) ?_
    rw [List.take_add_one, ← hk, ← hka, ← takeWhile_take, hka, hk, List.getElem?_drop, List.getElem?_eq_getElem hend]
    have := hout'.out hend
    have h33 : l[at' + k] = 33 := by rw [← UInt8.toNat_inj]; exact this
    rw [h33]; rfl
  have CN := rnamed_any ⟨(a ++ [33]).toArray⟩
  have hc0' := Lib.hid hc0
  clear hka hk hc0
  go_enter Tryz.func35, Tryz.ntmps35
  go_wp2
  go_loop [6] (fun n => ∃ j : Nat, j ≤ k ∧ n = .int .i64 ((at' + j : Nat) : Int)) (fun n => at' + k - (intOf n).toNat)
  case atStart => exact ⟨0, by omega, rfl⟩
  case round =>
    obtain ⟨j, hj, rfl⟩ := hrel
    by_cases h1 : at' + j < l.length
    · have hb : at' + j < (⟨l.toArray⟩ : ByteArray).size := by show at' + j < l.toArray.size; simpa using h1
      by_cases h2 : j < k
      · have hne : ((⟨l.toArray⟩ : ByteArray)[at' + j]'hb).toNat ≠ 33 := hin'.out j h2 h1
        go_wp2
        go_round
        case rel => exact ⟨j + 1, by omega, by go_num⟩
        case measure => simp [intOf]; omega
      · obtain rfl : j = k := by omega
        have hyes : ((⟨l.toArray⟩ : ByteArray)[at' + j]'hb).toNat = 33 := hout'.out h1
        go_wp2_with fail
        try rw [hx]
        refine (CN _).mono ?_
        rintro e w1 ⟨rfl, hb1⟩
        obtain ⟨hc1, hf1, hz1⟩ := bkeep hb1 (w.heap.size + 1) (by first | omega | (simp <;> omega))
        rw [hc0'.out, decide_eq_false hk0, Bool.not_false]
        go_wp2
        refine bodyPost_ret (v := _) ?_ rfl ⟨rfl, by (repeat (first | (with_reducible exact Below.refl _ _) | (with_reducible refine Below.alloc ?_ (by first | omega | (dsimp only; omega) | (simp <;> omega)) _) | (with_reducible refine Below.setCell ?_ (by first | omega | (dsimp only; omega) | (simp <;> omega)) _) | (with_reducible refine Below.drew ?_) | (with_reducible refine below_drewN ?_ _) | (with_reducible refine Below.trans ?_ (Below.mono (by assumption) (by first | omega | (dsimp only; omega) | (simp <;> omega))))))⟩
        first | (simp [results, Tryz.results35, go_sem, *]; done) | (simp [results, Tryz.results35, go_sem, *]; omega)
    · obtain rfl : j = k := by omega
      exfalso; omega
end Go.Proofs.YtiekhbagpmnboaaGreatDoor
