/-
  orielref04: next.
-/
import Derived.Test.YtiekhbagpmnboaaGreatDoorPrintL
import Derived.Test.YtiekhbagpmnboaaGreatDoorNumL
import Derived.Test.YtiekhbagpmnboaaGreatDoorRows
import Derived.Test.YtiekhbagpmnboaaGreatDoorBase
import Derived.Test.YtiekhbagpmnboaaGreatDoorProg
import Derived.Test.YtiekhbagpmnboaaGreatDoorShelf
import Derived.Test.YtiekhbagpmnboaaGreatDoorCutW
import Derived.Test.YtiekhbagpmnboaaGreatDoorAddrC
import Derived.Test.YtiekhbagpmnboaaGreatDoorNames
import Derived.Test.YtiekhbagpmnboaaGreatDoorParseW
import Derived.Test.YtiekhbagpmnboaaGreatDoorPRect
import Derived.Test.YtiekhbagpmnboaaGreatDoorDecA
import Derived.Test.YtiekhbagpmnboaaGreatDoorValA
import Derived.Test.YtiekhbagpmnboaaGreatDoorValB
import Derived.Test.YtiekhbagpmnboaaGreatDoorValD
import Derived.Test.YtiekhbagpmnboaaGreatDoorLexP
import Derived.Test.YtiekhbagpmnboaaGreatDoorRefName
import Derived.Test.YtiekhbagpmnboaaGreatDoorLexR
import Derived.Test.YtiekhbagpmnboaaGreatDoorLexQ
import Derived.Test.YtiekhbagpmnboaaGreatDoorLexS
import Derived.Test.YtiekhbagpmnboaaGreatDoorRParse
import Derived.Test.YtiekhbagpmnboaaGreatDoorRPRect
import Derived.Test.YtiekhbagpmnboaaGreatDoorLexN
import Derived.Test.YtiekhbagpmnboaaGreatDoorMg30
import Derived.Test.YtiekhbagpmnboaaGreatDoorMg31
import Derived.Test.YtiekhbagpmnboaaGreatDoorRDPar
import Derived.Test.YtiekhbagpmnboaaGreatDoorRDParB
import Derived.Test.YtiekhbagpmnboaaGreatDoorDDig
import Derived.Test.YtiekhbagpmnboaaGreatDoorDParse
import Derived.Test.YtiekhbagpmnboaaGreatDoorRDJoin
import Derived.Test.YtiekhbagpmnboaaGreatDoorValK
import Derived.Test.YtiekhbagpmnboaaGreatDoorLexD
import Derived.Test.YtiekhbagpmnboaaGreatDoorLexA
import Derived.WalkSpells
import Derived.WalkLawsBesides
import Derived.StillTactics
import Derived.Laws.Pointers
import Derived.Deep.RegionHeld3
import Derived.Deep.QuietTactic
import Derived.BigQuiet
import Derived.RowKit3
import Derived.Lib.Hide
import Derived.Lib.OthersKept
import Derived.OwnWalk
import Derived.Lib.IndexLaws
import Derived.Lib.ItoaMem
import Derived.Lib.TrimByte
import Derived.Lib.SlTrimSet
import Derived.Lib.ParseIntB
import Derived.WalkKit
import Derived.ProofKit
import Derived.OpenShut
import Derived.Carry
import Derived.ChangeSame
import Derived.Deep.Draws
import Derived.Shelf.Strings.Builder1
import Derived.Shelf.Strings.Trim
import Derived.Shelf.Small.Utf8
import Derived.Shelf.Small.Strs
import Derived.Shelf.Small.Wraps
import Derived.Shelf.Strings.BuilderF
import Derived.Shelf.Strings.BuilderK
import Derived.Shelf.Strconv.Itoa0
import Derived.Shelf.Strconv.Itoa1
import Derived.Shelf.LaysM
import Derived.Shelf.Strconv.Itoa2
import Derived.Shelf.Strconv.Itoa3
import Derived.Ground.MpProg
import Derived.Shelf.Pu.ParseUintPublic10
import Derived.Shelf.Strings.Search1
import Derived.Shelf.Strings.Search2
import Derived.Shelf.Strings.Cut
import Derived.Shelf.Strings.Shaped
import Derived.Shelf.Strings.Prefix
import Derived.Shelf.Strings.Runes
import Derived.Shelf.Strings.AsciiSet
import Derived.Shelf.Unicode.DecodeSlow
import Derived.Lib.ItoaNum
import Derived.Shelf.Strings.SlTrimAscii
import Derived.Lib.SmallJoins
namespace Go.Proofs.YtiekhbagpmnboaaGreatDoor
open Go.RowKit

set_option maxHeartbeats 2000000 in
theorem r4next_end (l : List UInt8) (at' k p : Nat) (hl : l.length ≤ 9223372036854775000) (_ham : l.length ≤ maxLen) (ha : at' ≤ l.length) (hk : ((l.drop at').takeWhile fun b => decide (b.toNat = 32)).length = k) (hp : p = at' + k) (hend : p = l.length) (w : World) : Calls Tryz.prog 17 #[.string ⟨l.toArray⟩, .int .i64 (at' : Int)] w fun e w' => e = .returned (.tuple #[.agg #[.int .i64 0, .int .i64 (p : Int), .int .i64 0, .string ⟨#[]⟩, .int .i64 0, .int .i64 0, .int .i64 0, .int .i64 0, .int .i64 0, .int .i64 0, .int .i64 0], .int .i64 (p : Int)]) ∧ Below w.heap.size w w' := by
  have hkl : at' + k ≤ l.length := by
    have := takeWhile_le (fun b => decide (b.toNat = 32)) (l.drop at')
    rw [hk] at this
    simp at this; omega
  have hin' : Hid (∀ j (h : j < k) (h2 : at' + j < l.length), l[at' + j].toNat = 32) := Lib.hid fun j h h2 => by
    have := twg_in (fun b => decide (b.toNat = 32)) (l.drop at') j (by omega) (by simp; omega)
    simpa using this
  have hout' : Hid (∀ (h2 : at' + k < l.length), l[at' + k].toNat ≠ 32) := Lib.hid fun h2 => by
    have := twg_out (fun b => decide (b.toNat = 32)) (l.drop at') (by rw [hk]; simp; omega)
    simp only [hk] at this
    simpa using this
  subst hp
  clear hk
  go_enter Tryz.func17, Tryz.ntmps17
  go_wp2
  go_loop [1] (fun n => ∃ j : Nat, j ≤ k ∧ n = .int .i64 ((at' + j : Nat) : Int)) (fun n => at' + k - (intOf n).toNat)
  case atStart => exact ⟨0, by omega, rfl⟩
  case round =>
    obtain ⟨j, hj, rfl⟩ := hrel
    by_cases h1 : at' + j < l.length
    · have hb : at' + j < (⟨l.toArray⟩ : ByteArray).size := by show at' + j < l.toArray.size; simpa using h1
      by_cases h2 : j < k
      · have hne : ((⟨l.toArray⟩ : ByteArray)[at' + j]'hb).toNat = 32 := hin'.out j h2 h1
        go_wp2
        go_round
        case rel => exact ⟨j + 1, by omega, by go_num⟩
        case measure => simp [intOf]; omega
      · obtain rfl : j = k := by omega
        have hyes : ((⟨l.toArray⟩ : ByteArray)[at' + j]'hb).toNat ≠ 32 := hout'.out h1
        exfalso; omega
    · obtain rfl : j = k := by omega
      go_wp2
      refine bodyPost_ret (v := _) ?_ rfl ⟨rfl, by (repeat (first | (with_reducible exact Below.refl _ _) | (with_reducible refine Below.alloc ?_ (by first | omega | (dsimp only; omega) | (simp <;> omega)) _) | (with_reducible refine Below.setCell ?_ (by first | omega | (dsimp only; omega) | (simp <;> omega)) _) | (with_reducible refine Below.drew ?_) | (with_reducible refine below_drewN ?_ _) | (with_reducible refine Below.trans ?_ (Below.mono (by assumption) (by first | omega | (dsimp only; omega) | (simp <;> omega))))))⟩
      first | (simp [results, Tryz.results17, go_sem, *]; done) | (simp [results, Tryz.results17, go_sem, *]; omega)
set_option maxHeartbeats 2000000 in
theorem r4next_number (l : List UInt8) (at' k p : Nat) (hl : l.length ≤ 9223372036854775000) (ham : l.length ≤ maxLen) (ha : at' ≤ l.length) (hk : ((l.drop at').takeWhile fun b => decide (b.toNat = 32)).length = k) (hp : p = at' + k) (hlt : p < l.length) (x : Tok) (n : Nat) (hx : nuT (l.drop p) = (x, n)) (c1 : isDig l[p] = true) (w : World) : Calls Tryz.prog 17 #[.string ⟨l.toArray⟩, .int .i64 (at' : Int)] w fun e w' => e = .returned (.tuple #[.agg #[.int .i64 x.kind, .int .i64 (p : Int), .int .i64 x.num, .string x.str, .int .i64 x.r, .int .i64 x.c, .int .i64 x.t, .int .i64 x.l, .int .i64 x.b, .int .i64 x.q, .int .i64 x.code], .int .i64 ((p + n : Nat) : Int)]) ∧ Below w.heap.size w w' := by
  have hkl : at' + k ≤ l.length := by
    have := takeWhile_le (fun b => decide (b.toNat = 32)) (l.drop at')
    rw [hk] at this
    simp at this; omega
  have hin' : Hid (∀ j (h : j < k) (h2 : at' + j < l.length), l[at' + j].toNat = 32) := Lib.hid fun j h h2 => by
    have := twg_in (fun b => decide (b.toNat = 32)) (l.drop at') j (by omega) (by simp; omega)
    simpa using this
  have hout' : Hid (∀ (h2 : at' + k < l.length), l[at' + k].toNat ≠ 32) := Lib.hid fun h2 => by
    have := twg_out (fun b => decide (b.toNat = 32)) (l.drop at') (by rw [hk]; simp; omega)
    simp only [hk] at this
    simpa using this
  subst hp
  have hd : Hid (isDig ((⟨l.toArray⟩ : ByteArray)[at' + k]'(by show at' + k < l.toArray.size; simpa using hlt)) = true) := Lib.hid c1
  have CF := r4number l (at' + k) hl ham hlt x n hx
  clear c1
  clear hk
  go_enter Tryz.func17, Tryz.ntmps17
  go_wp2
  go_loop [1] (fun n => ∃ j : Nat, j ≤ k ∧ n = .int .i64 ((at' + j : Nat) : Int)) (fun n => at' + k - (intOf n).toNat)
  case atStart => exact ⟨0, by omega, rfl⟩
  case round =>
    obtain ⟨j, hj, rfl⟩ := hrel
    by_cases h1 : at' + j < l.length
    · have hb : at' + j < (⟨l.toArray⟩ : ByteArray).size := by show at' + j < l.toArray.size; simpa using h1
      by_cases h2 : j < k
      · have hne : ((⟨l.toArray⟩ : ByteArray)[at' + j]'hb).toNat = 32 := hin'.out j h2 h1
        go_wp2
        go_round
        case rel => exact ⟨j + 1, by omega, by go_num⟩
        case measure => simp [intOf]; omega
      · obtain rfl : j = k := by omega
        have hyes : ((⟨l.toArray⟩ : ByteArray)[at' + j]'hb).toNat ≠ 32 := hout'.out h1
        go_wp2_with (first | (go_at_call 32; refine (r4digit_as ((⟨l.toArray⟩ : ByteArray)[at' + j]'hb) _ hd.out _).mono ?_; rintro e w1 ⟨rfl, rfl⟩) | (go_at_call 33; refine (CF _).mono ?_; rintro e w2 ⟨rfl, hb2⟩; obtain ⟨hc2, hf2, hz2⟩ := bkeep hb2 (w.heap.size + 1) (by first | omega | (simp <;> omega))))
        refine bodyPost_ret (v := _) ?_ rfl ⟨rfl, by (repeat (first | (with_reducible exact Below.refl _ _) | (with_reducible refine Below.alloc ?_ (by first | omega | (dsimp only; omega) | (simp <;> omega)) _) | (with_reducible refine Below.setCell ?_ (by first | omega | (dsimp only; omega) | (simp <;> omega)) _) | (with_reducible refine Below.drew ?_) | (with_reducible refine below_drewN ?_ _) | (with_reducible refine Below.trans ?_ (Below.mono (by assumption) (by first | omega | (dsimp only; omega) | (simp <;> omega))))))⟩
        first | (simp [results, Tryz.results17, go_sem, *]; done) | (simp [results, Tryz.results17, go_sem, *]; omega)
    · obtain rfl : j = k := by omega
      exfalso; omega
set_option maxHeartbeats 2000000 in
theorem r4next_quoted (l : List UInt8) (at' k p : Nat) (hl : l.length ≤ 9223372036854775000) (ham : l.length ≤ maxLen) (ha : at' ≤ l.length) (hk : ((l.drop at').takeWhile fun b => decide (b.toNat = 32)).length = k) (hp : p = at' + k) (hlt : p < l.length) (x : Tok) (n : Nat) (hx : textT (l.drop p) = (x, n)) (c1 : isDig l[p] = false) (c2 : l[p].toNat = 34) (w : World) : Calls Tryz.prog 17 #[.string ⟨l.toArray⟩, .int .i64 (at' : Int)] w fun e w' => e = .returned (.tuple #[.agg #[.int .i64 x.kind, .int .i64 (p : Int), .int .i64 x.num, .string x.str, .int .i64 x.r, .int .i64 x.c, .int .i64 x.t, .int .i64 x.l, .int .i64 x.b, .int .i64 x.q, .int .i64 x.code], .int .i64 ((p + n : Nat) : Int)]) ∧ Below w.heap.size w w' := by
  have hkl : at' + k ≤ l.length := by
    have := takeWhile_le (fun b => decide (b.toNat = 32)) (l.drop at')
    rw [hk] at this
    simp at this; omega
  have hin' : Hid (∀ j (h : j < k) (h2 : at' + j < l.length), l[at' + j].toNat = 32) := Lib.hid fun j h h2 => by
    have := twg_in (fun b => decide (b.toNat = 32)) (l.drop at') j (by omega) (by simp; omega)
    simpa using this
  have hout' : Hid (∀ (h2 : at' + k < l.length), l[at' + k].toNat ≠ 32) := Lib.hid fun h2 => by
    have := twg_out (fun b => decide (b.toNat = 32)) (l.drop at') (by rw [hk]; simp; omega)
    simp only [hk] at this
    simpa using this
  subst hp
  have hd : Hid (isDig ((⟨l.toArray⟩ : ByteArray)[at' + k]'(by show at' + k < l.toArray.size; simpa using hlt)) = false) := Lib.hid c1
  have h34 : ((⟨l.toArray⟩ : ByteArray)[at' + k]'(by show at' + k < l.toArray.size; simpa using hlt)).toNat = 34 := c2
  have CF := r4quoted l (at' + k) hl ham hlt x n hx
  clear c1 c2
  have h34' := Lib.hid h34
  clear h34
  clear hk
  go_enter Tryz.func17, Tryz.ntmps17
  go_wp2
  go_loop [1] (fun n => ∃ j : Nat, j ≤ k ∧ n = .int .i64 ((at' + j : Nat) : Int)) (fun n => at' + k - (intOf n).toNat)
  case atStart => exact ⟨0, by omega, rfl⟩
  case round =>
    obtain ⟨j, hj, rfl⟩ := hrel
    by_cases h1 : at' + j < l.length
    · have hb : at' + j < (⟨l.toArray⟩ : ByteArray).size := by show at' + j < l.toArray.size; simpa using h1
      by_cases h2 : j < k
      · have hne : ((⟨l.toArray⟩ : ByteArray)[at' + j]'hb).toNat = 32 := hin'.out j h2 h1
        go_wp2
        go_round
        case rel => exact ⟨j + 1, by omega, by go_num⟩
        case measure => simp [intOf]; omega
      · obtain rfl : j = k := by omega
        have hyes : ((⟨l.toArray⟩ : ByteArray)[at' + j]'hb).toNat ≠ 32 := hout'.out h1
        go_wp2_with fail
        refine (r4digit_as ((⟨l.toArray⟩ : ByteArray)[at' + j]'hb) _ hd.out _).mono ?_
        rintro e w1 ⟨rfl, rfl⟩
        have h34 := h34'.out
        go_wp2_with (first | (go_at_call 32; refine (r4digit_as ((⟨l.toArray⟩ : ByteArray)[at' + j]'hb) _ hd.out _).mono ?_; rintro e w1 ⟨rfl, rfl⟩) | (go_at_call 34; refine (CF _).mono ?_; rintro e w2 ⟨rfl, hb2⟩; obtain ⟨hc2, hf2, hz2⟩ := bkeep hb2 (w.heap.size + 1) (by first | omega | (simp <;> omega))))
        refine bodyPost_ret (v := _) ?_ rfl ⟨rfl, by (repeat (first | (with_reducible exact Below.refl _ _) | (with_reducible refine Below.alloc ?_ (by first | omega | (dsimp only; omega) | (simp <;> omega)) _) | (with_reducible refine Below.setCell ?_ (by first | omega | (dsimp only; omega) | (simp <;> omega)) _) | (with_reducible refine Below.drew ?_) | (with_reducible refine below_drewN ?_ _) | (with_reducible refine Below.trans ?_ (Below.mono (by assumption) (by first | omega | (dsimp only; omega) | (simp <;> omega))))))⟩
        first | (simp [results, Tryz.results17, go_sem, *]; done) | (simp [results, Tryz.results17, go_sem, *]; omega)
    · obtain rfl : j = k := by omega
      exfalso; omega
set_option maxHeartbeats 2000000 in
theorem r4next_fault (l : List UInt8) (at' k p : Nat) (hl : l.length ≤ 9223372036854775000) (ham : l.length ≤ maxLen) (ha : at' ≤ l.length) (hk : ((l.drop at').takeWhile fun b => decide (b.toNat = 32)).length = k) (hp : p = at' + k) (hlt : p < l.length) (x : Tok) (n : Nat) (hx : codeT (l.drop p) = (x, n)) (c1 : isDig l[p] = false) (c2 : ¬ l[p].toNat = 34) (c3 : l[p].toNat = 35) (w : World) : Calls Tryz.prog 17 #[.string ⟨l.toArray⟩, .int .i64 (at' : Int)] w fun e w' => e = .returned (.tuple #[.agg #[.int .i64 x.kind, .int .i64 (p : Int), .int .i64 x.num, .string x.str, .int .i64 x.r, .int .i64 x.c, .int .i64 x.t, .int .i64 x.l, .int .i64 x.b, .int .i64 x.q, .int .i64 x.code], .int .i64 ((p + n : Nat) : Int)]) ∧ Below w.heap.size w w' := by
  have hkl : at' + k ≤ l.length := by
    have := takeWhile_le (fun b => decide (b.toNat = 32)) (l.drop at')
    rw [hk] at this
    simp at this; omega
  have hin' : Hid (∀ j (h : j < k) (h2 : at' + j < l.length), l[at' + j].toNat = 32) := Lib.hid fun j h h2 => by
    have := twg_in (fun b => decide (b.toNat = 32)) (l.drop at') j (by omega) (by simp; omega)
    simpa using this
  have hout' : Hid (∀ (h2 : at' + k < l.length), l[at' + k].toNat ≠ 32) := Lib.hid fun h2 => by
    have := twg_out (fun b => decide (b.toNat = 32)) (l.drop at') (by rw [hk]; simp; omega)
    simp only [hk] at this
    simpa using this
  subst hp
  have hd : Hid (isDig ((⟨l.toArray⟩ : ByteArray)[at' + k]'(by show at' + k < l.toArray.size; simpa using hlt)) = false) := Lib.hid c1
  have h34 : ¬ ((⟨l.toArray⟩ : ByteArray)[at' + k]'(by show at' + k < l.toArray.size; simpa using hlt)).toNat = 34 := c2
  have h35 : ((⟨l.toArray⟩ : ByteArray)[at' + k]'(by show at' + k < l.toArray.size; simpa using hlt)).toNat = 35 := c3
  have CF := r4fault l (at' + k) hl ham hlt x n hx
  clear c1 c2 c3
  have h35' := Lib.hid h35
  clear h35
  clear hk
  go_enter Tryz.func17, Tryz.ntmps17
  go_wp2
  go_loop [1] (fun n => ∃ j : Nat, j ≤ k ∧ n = .int .i64 ((at' + j : Nat) : Int)) (fun n => at' + k - (intOf n).toNat)
  case atStart => exact ⟨0, by omega, rfl⟩
  case round =>
    obtain ⟨j, hj, rfl⟩ := hrel
    by_cases h1 : at' + j < l.length
    · have hb : at' + j < (⟨l.toArray⟩ : ByteArray).size := by show at' + j < l.toArray.size; simpa using h1
      by_cases h2 : j < k
      · have hne : ((⟨l.toArray⟩ : ByteArray)[at' + j]'hb).toNat = 32 := hin'.out j h2 h1
        go_wp2
        go_round
        case rel => exact ⟨j + 1, by omega, by go_num⟩
        case measure => simp [intOf]; omega
      · obtain rfl : j = k := by omega
        have hyes : ((⟨l.toArray⟩ : ByteArray)[at' + j]'hb).toNat ≠ 32 := hout'.out h1
        go_wp2_with fail
        refine (r4digit_as ((⟨l.toArray⟩ : ByteArray)[at' + j]'hb) _ hd.out _).mono ?_
        rintro e w1 ⟨rfl, rfl⟩
        have h35 := h35'.out
        go_wp2_with (first | (go_at_call 32; refine (r4digit_as ((⟨l.toArray⟩ : ByteArray)[at' + j]'hb) _ hd.out _).mono ?_; rintro e w1 ⟨rfl, rfl⟩) | (go_at_call 35; refine (CF _).mono ?_; rintro e w2 ⟨rfl, hb2⟩; obtain ⟨hc2, hf2, hz2⟩ := bkeep hb2 (w.heap.size + 1) (by first | omega | (simp <;> omega))))
        refine bodyPost_ret (v := _) ?_ rfl ⟨rfl, by (repeat (first | (with_reducible exact Below.refl _ _) | (with_reducible refine Below.alloc ?_ (by first | omega | (dsimp only; omega) | (simp <;> omega)) _) | (with_reducible refine Below.setCell ?_ (by first | omega | (dsimp only; omega) | (simp <;> omega)) _) | (with_reducible refine Below.drew ?_) | (with_reducible refine below_drewN ?_ _) | (with_reducible refine Below.trans ?_ (Below.mono (by assumption) (by first | omega | (dsimp only; omega) | (simp <;> omega))))))⟩
        first | (simp [results, Tryz.results17, go_sem, *]; done) | (simp [results, Tryz.results17, go_sem, *]; omega)
    · obtain rfl : j = k := by omega
      exfalso; omega
set_option maxHeartbeats 2000000 in
theorem r4next_name (l : List UInt8) (at' k p : Nat) (hl : l.length ≤ 9223372036854775000) (ham : l.length ≤ maxLen) (ha : at' ≤ l.length) (hk : ((l.drop at').takeWhile fun b => decide (b.toNat = 32)).length = k) (hp : p = at' + k) (hlt : p < l.length) (x : Tok) (n : Nat) (hx : wordT (l.drop p) = (x, n)) (c1 : isDig l[p] = false) (c2 : ¬ l[p].toNat = 34) (c3 : ¬ l[p].toNat = 35) (c4 : upB l[p] = true) (w : World) : Calls Tryz.prog 17 #[.string ⟨l.toArray⟩, .int .i64 (at' : Int)] w fun e w' => e = .returned (.tuple #[.agg #[.int .i64 x.kind, .int .i64 (p : Int), .int .i64 x.num, .string x.str, .int .i64 x.r, .int .i64 x.c, .int .i64 x.t, .int .i64 x.l, .int .i64 x.b, .int .i64 x.q, .int .i64 x.code], .int .i64 ((p + n : Nat) : Int)]) ∧ Below w.heap.size w w' := by
  have hkl : at' + k ≤ l.length := by
    have := takeWhile_le (fun b => decide (b.toNat = 32)) (l.drop at')
    rw [hk] at this
    simp at this; omega
  have hin' : Hid (∀ j (h : j < k) (h2 : at' + j < l.length), l[at' + j].toNat = 32) := Lib.hid fun j h h2 => by
    have := twg_in (fun b => decide (b.toNat = 32)) (l.drop at') j (by omega) (by simp; omega)
    simpa using this
  have hout' : Hid (∀ (h2 : at' + k < l.length), l[at' + k].toNat ≠ 32) := Lib.hid fun h2 => by
    have := twg_out (fun b => decide (b.toNat = 32)) (l.drop at') (by rw [hk]; simp; omega)
    simp only [hk] at this
    simpa using this
  subst hp
  have hd : Hid (isDig ((⟨l.toArray⟩ : ByteArray)[at' + k]'(by show at' + k < l.toArray.size; simpa using hlt)) = false) := Lib.hid c1
  have h34 : ¬ ((⟨l.toArray⟩ : ByteArray)[at' + k]'(by show at' + k < l.toArray.size; simpa using hlt)).toNat = 34 := c2
  have h35 : ¬ ((⟨l.toArray⟩ : ByteArray)[at' + k]'(by show at' + k < l.toArray.size; simpa using hlt)).toNat = 35 := c3
  have hu : Hid (upB ((⟨l.toArray⟩ : ByteArray)[at' + k]'(by show at' + k < l.toArray.size; simpa using hlt)) = true) := Lib.hid c4
  have CF := r4name l (at' + k) hl ham hlt c4 x n hx
  clear c1 c2 c3 c4
  clear hk
  go_enter Tryz.func17, Tryz.ntmps17
  go_wp2
  go_loop [1] (fun n => ∃ j : Nat, j ≤ k ∧ n = .int .i64 ((at' + j : Nat) : Int)) (fun n => at' + k - (intOf n).toNat)
  case atStart => exact ⟨0, by omega, rfl⟩
  case round =>
    obtain ⟨j, hj, rfl⟩ := hrel
    by_cases h1 : at' + j < l.length
    · have hb : at' + j < (⟨l.toArray⟩ : ByteArray).size := by show at' + j < l.toArray.size; simpa using h1
      by_cases h2 : j < k
      · have hne : ((⟨l.toArray⟩ : ByteArray)[at' + j]'hb).toNat = 32 := hin'.out j h2 h1
        go_wp2
        go_round
        case rel => exact ⟨j + 1, by omega, by go_num⟩
        case measure => simp [intOf]; omega
      · obtain rfl : j = k := by omega
        have hyes : ((⟨l.toArray⟩ : ByteArray)[at' + j]'hb).toNat ≠ 32 := hout'.out h1
        go_wp2_with (first | (go_at_call 32; refine (r4digit_as ((⟨l.toArray⟩ : ByteArray)[at' + j]'hb) _ hd.out _).mono ?_; rintro e w1 ⟨rfl, rfl⟩) | (go_at_call 36; refine (r4letter_as ((⟨l.toArray⟩ : ByteArray)[at' + j]'hb) _ hu.out _).mono ?_; rintro e w1 ⟨rfl, rfl⟩) | (go_at_call 37; refine (CF _).mono ?_; rintro e w2 ⟨rfl, hb2⟩; obtain ⟨hc2, hf2, hz2⟩ := bkeep hb2 (w.heap.size + 1) (by first | omega | (simp <;> omega))))
        refine bodyPost_ret (v := _) ?_ rfl ⟨rfl, by (repeat (first | (with_reducible exact Below.refl _ _) | (with_reducible refine Below.alloc ?_ (by first | omega | (dsimp only; omega) | (simp <;> omega)) _) | (with_reducible refine Below.setCell ?_ (by first | omega | (dsimp only; omega) | (simp <;> omega)) _) | (with_reducible refine Below.drew ?_) | (with_reducible refine below_drewN ?_ _) | (with_reducible refine Below.trans ?_ (Below.mono (by assumption) (by first | omega | (dsimp only; omega) | (simp <;> omega))))))⟩
        first | (simp [results, Tryz.results17, go_sem, *]; done) | (simp [results, Tryz.results17, go_sem, *]; omega)
    · obtain rfl : j = k := by omega
      exfalso; omega
set_option maxHeartbeats 2000000 in
theorem r4next_sign (l : List UInt8) (at' k p : Nat) (hl : l.length ≤ 9223372036854775000) (ham : l.length ≤ maxLen) (ha : at' ≤ l.length) (hk : ((l.drop at').takeWhile fun b => decide (b.toNat = 32)).length = k) (hp : p = at' + k) (hlt : p < l.length) (x : Tok) (n : Nat) (hx : signT (l.drop p) = (x, n)) (c1 : isDig l[p] = false) (c2 : ¬ l[p].toNat = 34) (c3 : ¬ l[p].toNat = 35) (c4 : upB l[p] = false) (w : World) : Calls Tryz.prog 17 #[.string ⟨l.toArray⟩, .int .i64 (at' : Int)] w fun e w' => e = .returned (.tuple #[.agg #[.int .i64 x.kind, .int .i64 (p : Int), .int .i64 x.num, .string x.str, .int .i64 x.r, .int .i64 x.c, .int .i64 x.t, .int .i64 x.l, .int .i64 x.b, .int .i64 x.q, .int .i64 x.code], .int .i64 ((p + n : Nat) : Int)]) ∧ Below w.heap.size w w' := by
  have hkl : at' + k ≤ l.length := by
    have := takeWhile_le (fun b => decide (b.toNat = 32)) (l.drop at')
    rw [hk] at this
    simp at this; omega
  have hin' : Hid (∀ j (h : j < k) (h2 : at' + j < l.length), l[at' + j].toNat = 32) := Lib.hid fun j h h2 => by
    have := twg_in (fun b => decide (b.toNat = 32)) (l.drop at') j (by omega) (by simp; omega)
    simpa using this
  have hout' : Hid (∀ (h2 : at' + k < l.length), l[at' + k].toNat ≠ 32) := Lib.hid fun h2 => by
    have := twg_out (fun b => decide (b.toNat = 32)) (l.drop at') (by rw [hk]; simp; omega)
    simp only [hk] at this
    simpa using this
  subst hp
  have hd : Hid (isDig ((⟨l.toArray⟩ : ByteArray)[at' + k]'(by show at' + k < l.toArray.size; simpa using hlt)) = false) := Lib.hid c1
  have h34 : ¬ ((⟨l.toArray⟩ : ByteArray)[at' + k]'(by show at' + k < l.toArray.size; simpa using hlt)).toNat = 34 := c2
  have h35 : ¬ ((⟨l.toArray⟩ : ByteArray)[at' + k]'(by show at' + k < l.toArray.size; simpa using hlt)).toNat = 35 := c3
  have hu : Hid (upB ((⟨l.toArray⟩ : ByteArray)[at' + k]'(by show at' + k < l.toArray.size; simpa using hlt)) = false) := Lib.hid c4
  have CF := r4sign l (at' + k) hl ham hlt x n hx
  clear c1 c2 c3 c4
  clear hk
  go_enter Tryz.func17, Tryz.ntmps17
  go_wp2
  go_loop [1] (fun n => ∃ j : Nat, j ≤ k ∧ n = .int .i64 ((at' + j : Nat) : Int)) (fun n => at' + k - (intOf n).toNat)
  case atStart => exact ⟨0, by omega, rfl⟩
  case round =>
    obtain ⟨j, hj, rfl⟩ := hrel
    by_cases h1 : at' + j < l.length
    · have hb : at' + j < (⟨l.toArray⟩ : ByteArray).size := by show at' + j < l.toArray.size; simpa using h1
      by_cases h2 : j < k
      · have hne : ((⟨l.toArray⟩ : ByteArray)[at' + j]'hb).toNat = 32 := hin'.out j h2 h1
        go_wp2
        go_round
        case rel => exact ⟨j + 1, by omega, by go_num⟩
        case measure => simp [intOf]; omega
      · obtain rfl : j = k := by omega
        have hyes : ((⟨l.toArray⟩ : ByteArray)[at' + j]'hb).toNat ≠ 32 := hout'.out h1
        go_wp2_with (first | (go_at_call 32; refine (r4digit_as ((⟨l.toArray⟩ : ByteArray)[at' + j]'hb) _ hd.out _).mono ?_; rintro e w1 ⟨rfl, rfl⟩) | (go_at_call 36; refine (r4letter_as ((⟨l.toArray⟩ : ByteArray)[at' + j]'hb) _ hu.out _).mono ?_; rintro e w1 ⟨rfl, rfl⟩) | (go_at_call 38; refine (CF _).mono ?_; rintro e w2 ⟨rfl, hb2⟩; obtain ⟨hc2, hf2, hz2⟩ := bkeep hb2 (w.heap.size + 1) (by first | omega | (simp <;> omega))))
        refine bodyPost_ret (v := _) ?_ rfl ⟨rfl, by (repeat (first | (with_reducible exact Below.refl _ _) | (with_reducible refine Below.alloc ?_ (by first | omega | (dsimp only; omega) | (simp <;> omega)) _) | (with_reducible refine Below.setCell ?_ (by first | omega | (dsimp only; omega) | (simp <;> omega)) _) | (with_reducible refine Below.drew ?_) | (with_reducible refine below_drewN ?_ _) | (with_reducible refine Below.trans ?_ (Below.mono (by assumption) (by first | omega | (dsimp only; omega) | (simp <;> omega))))))⟩
        first | (simp [results, Tryz.results17, go_sem, *]; done) | (simp [results, Tryz.results17, go_sem, *]; omega)
    · obtain rfl : j = k := by omega
      exfalso; omega
theorem blank_drop (l : List UInt8) (at' : Nat) : blank (l.drop at') = l.drop (at' + ((l.drop at').takeWhile fun b => decide (b.toNat = 32)).length) := by
  rw [← List.drop_drop, drop_takeWhile]; rfl
theorem r4next (l : List UInt8) (at' p : Nat) (hl : l.length ≤ 9223372036854775000) (ham : l.length ≤ maxLen) (ha : at' ≤ l.length) (hp : p = l.length - (blank (l.drop at')).length) (x : Tok) (n : Nat) (hx : firstT (blank (l.drop at')) = (x, n)) (w : World) : Calls Tryz.prog 17 #[.string ⟨l.toArray⟩, .int .i64 (at' : Int)] w fun e w' => e = .returned (.tuple #[.agg #[.int .i64 x.kind, .int .i64 (p : Int), .int .i64 x.num, .string x.str, .int .i64 x.r, .int .i64 x.c, .int .i64 x.t, .int .i64 x.l, .int .i64 x.b, .int .i64 x.q, .int .i64 x.code], .int .i64 ((p + n : Nat) : Int)]) ∧ Below w.heap.size w w' := by
  obtain ⟨k, hk⟩ : ∃ k, ((l.drop at').takeWhile fun b => decide (b.toNat = 32)).length = k := ⟨_, rfl⟩
  have hkl := takeWhile_le (fun b => decide (b.toNat = 32)) (l.drop at')
  rw [hk, List.length_drop] at hkl
  have hbl := blank_drop l at'
  rw [hk] at hbl
  rw [hbl, List.length_drop] at hp
  have hp2 : p = at' + k := by omega
  rw [hbl, ← hp2] at hx
  by_cases hlt : p < l.length
  · rw [drop_at l p hlt] at hx
    simp only [firstT] at hx
    rw [← drop_at l p hlt] at hx
    split at hx
    · rename_i c1
      exact r4next_number l at' k p hl ham ha hk hp2 hlt x n hx c1 w
    rename_i c1
    split at hx
    · rename_i c2
      exact r4next_quoted l at' k p hl ham ha hk hp2 hlt x n hx (by simpa using c1) c2 w
    rename_i c2
    split at hx
    · rename_i c3
      exact r4next_fault l at' k p hl ham ha hk hp2 hlt x n hx (by simpa using c1) c2 c3 w
    rename_i c3
    split at hx
    · rename_i c4
      exact r4next_name l at' k p hl ham ha hk hp2 hlt x n hx (by simpa using c1) c2 c3 c4 w
    · rename_i c4
      exact r4next_sign l at' k p hl ham ha hk hp2 hlt x n hx (by simpa using c1) c2 c3 (by simpa using c4) w
  · rw [List.drop_eq_nil_of_le (by omega)] at hx
    cases hx
    exact r4next_end l at' k p hl ham ha hk hp2 (by omega) w
end Go.Proofs.YtiekhbagpmnboaaGreatDoor
