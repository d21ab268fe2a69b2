/-
  lex: sign.
-/
import Derived.Test.YtiekhbagpmnboaaGreatDoorPrintL
import Derived.Test.YtiekhbagpmnboaaGreatDoorNumL
import Derived.Test.YtiekhbagpmnboaaGreatDoorRows
import Derived.Test.YtiekhbagpmnboaaGreatDoorBase
import Derived.Test.YtiekhbagpmnboaaGreatDoorProg
import Derived.Test.YtiekhbagpmnboaaGreatDoorShelf
import Derived.Test.YtiekhbagpmnboaaGreatDoorCutW
import Derived.Test.YtiekhbagpmnboaaGreatDoorAddrC
import Derived.Test.YtiekhbagpmnboaaGreatDoorNames
import Derived.Test.YtiekhbagpmnboaaGreatDoorParseW
import Derived.Test.YtiekhbagpmnboaaGreatDoorPRect
import Derived.Test.YtiekhbagpmnboaaGreatDoorDecA
import Derived.Test.YtiekhbagpmnboaaGreatDoorValA
import Derived.Test.YtiekhbagpmnboaaGreatDoorValB
import Derived.Test.YtiekhbagpmnboaaGreatDoorValD
import Derived.Test.YtiekhbagpmnboaaGreatDoorLexP
import Derived.Test.YtiekhbagpmnboaaGreatDoorLexW
import Derived.Test.YtiekhbagpmnboaaGreatDoorRefName
import Derived.Test.YtiekhbagpmnboaaGreatDoorLexR
import Derived.WalkSpells
import Derived.WalkLawsBesides
import Derived.StillTactics
import Derived.Laws.Pointers
import Derived.Deep.RegionHeld3
import Derived.Deep.QuietTactic
import Derived.BigQuiet
import Derived.RowKit3
import Derived.Lib.Hide
import Derived.Lib.OthersKept
import Derived.OwnWalk
import Derived.Lib.IndexLaws
import Derived.Lib.ItoaMem
import Derived.Lib.TrimByte
import Derived.Lib.SlTrimSet
import Derived.Lib.ParseIntB
import Derived.WalkKit
import Derived.ProofKit
import Derived.OpenShut
import Derived.Carry
import Derived.ChangeSame
import Derived.Deep.Draws
import Derived.Shelf.Strings.Builder1
import Derived.Shelf.Strings.Trim
import Derived.Shelf.Small.Utf8
import Derived.Shelf.Small.Strs
import Derived.Shelf.Small.Wraps
import Derived.Shelf.Strings.BuilderF
import Derived.Shelf.Strings.BuilderK
import Derived.Shelf.Strconv.Itoa0
import Derived.Shelf.Strconv.Itoa1
import Derived.Shelf.LaysM
import Derived.Shelf.Strconv.Itoa2
import Derived.Shelf.Strconv.Itoa3
import Derived.Ground.MpProg
import Derived.Shelf.Pu.ParseUintPublic10
import Derived.Shelf.Strings.Search1
import Derived.Shelf.Strings.Search2
import Derived.Shelf.Strings.Cut
import Derived.Shelf.Strings.Shaped
import Derived.Shelf.Strings.Prefix
import Derived.Shelf.Strings.Runes
import Derived.Shelf.Strings.AsciiSet
import Derived.Shelf.Unicode.DecodeSlow
import Derived.Lib.ItoaNum
import Derived.Shelf.Strings.SlTrimAscii
namespace Go.Proofs.YtiekhbagpmnboaaGreatDoor
open Go.RowKit

theorem idx_none (l : List UInt8) (c : UInt8) (h : Lib.indexByte l c = -1) (hm : c ∈ l) : False := by
  obtain ⟨k, hk⟩ := List.getElem?_of_mem hm
  exact Lib.indexByte_none h k hk
theorem idx_absent (l : List UInt8) (c : UInt8) (hm : c ∉ l) : Lib.indexByte l c = -1 := by
  rcases idx_cases l c with h | ⟨o, ho, _⟩
  · exact h
  · exact absurd (List.mem_of_getElem? (Lib.indexByte_some ho).1) hm
theorem lpre (l p : List UInt8) (b : Bool) (h : Lib.hasPrefix l p = b) (w : World) : Calls Tryz.prog 85 #[.string ⟨l.toArray⟩, .string ⟨p.toArray⟩] w fun e w' => e = .returned (.bool b) ∧ w' = w := by
  have := Tryz.strings_HasPrefix ⟨l.toArray⟩ ⟨p.toArray⟩ w
  rw [← h]; simpa using this
theorem pre_two (l : List UInt8) (a b : UInt8) : Lib.hasPrefix l [a, b] = decide (l.take 2 = [a, b]) := by
  rw [Bool.eq_iff_iff]
  simp only [decide_eq_true_eq]
  unfold Lib.hasPrefix
  cases l with
  | nil => simp
  | cons c r =>
    cases r with
    | nil => simp
    | cons d r =>
      simp
      constructor <;> (rintro ⟨rfl, rfl⟩; exact ⟨rfl, rfl⟩)
set_option maxHeartbeats 1000000 in
theorem lsign_two0 (l : List UInt8) (_hl : l.length ≤ 140737488355328) (_h0 : 0 < l.length) (h : l.take 2 = [60, 62]) (w : World) : Calls Tryz.prog 50 #[.string ⟨l.toArray⟩] w fun e w' => e = .returned (.tuple #[.agg #[.int .i64 7, .int .i64 0, .int .i64 0, .string ⟨#[60, 62]⟩, .int .i64 0, .int .i64 0, .int .i64 0, .int .i64 0, .int .i64 0, .int .i64 0, .int .i64 0], .int .i64 2]) ∧ Below w.heap.size w w' := by
  have p0 : Hid (Lib.hasPrefix l [60, 62] = true) := Lib.hid (by rw [pre_two, h]; decide)
  clear h
  go_enter Tryz.func50, Tryz.ntmps50
  go_wp2
  go_loop [8] (fun i => ∃ j : Nat, j ≤ 0 ∧ i = .int .i64 (j : Int)) (fun i => 0 - (intOf i).toNat)
  case atStart => exact ⟨0, by omega, rfl⟩
  case round =>
    obtain ⟨j, hj, rfl⟩ := hrel
    obtain rfl : j = 0 := by omega
    · go_wp2_with (go_at_call 85; refine (lpre l _ _ p0.out _).mono ?_; rintro e w1 ⟨rfl, hw1⟩; subst hw1)
      refine bodyPost_ret (v := _) ?_ rfl ⟨rfl, by (repeat (first | (with_reducible exact Below.refl _ _) | (with_reducible refine Below.alloc ?_ (by first | omega | (dsimp only; omega) | (simp <;> omega)) _) | (with_reducible refine Below.setCell ?_ (by first | omega | (dsimp only; omega) | (simp <;> omega)) _) | (with_reducible refine Below.drew ?_) | (with_reducible refine below_drewN ?_ _) | (with_reducible refine Below.trans ?_ (Below.mono (by assumption) (by first | omega | (dsimp only; omega) | (simp <;> omega))))))⟩
      first | (simp [results, Tryz.results50, go_sem, *]; done) | (simp [results, Tryz.results50, go_sem, *]; omega)
set_option maxHeartbeats 1000000 in
theorem lsign_two1 (l : List UInt8) (_hl : l.length ≤ 140737488355328) (_h0 : 0 < l.length) (h : l.take 2 = [60, 61]) (w : World) : Calls Tryz.prog 50 #[.string ⟨l.toArray⟩] w fun e w' => e = .returned (.tuple #[.agg #[.int .i64 7, .int .i64 0, .int .i64 0, .string ⟨#[60, 61]⟩, .int .i64 0, .int .i64 0, .int .i64 0, .int .i64 0, .int .i64 0, .int .i64 0, .int .i64 0], .int .i64 2]) ∧ Below w.heap.size w w' := by
  have p0 : Hid (Lib.hasPrefix l [60, 62] = false) := Lib.hid (by rw [pre_two, h]; decide)
  have p1 : Hid (Lib.hasPrefix l [60, 61] = true) := Lib.hid (by rw [pre_two, h]; decide)
  clear h
  go_enter Tryz.func50, Tryz.ntmps50
  go_wp2
  go_loop [8] (fun i => ∃ j : Nat, j ≤ 1 ∧ i = .int .i64 (j : Int)) (fun i => 1 - (intOf i).toNat)
  case atStart => exact ⟨0, by omega, rfl⟩
  case round =>
    obtain ⟨j, hj, rfl⟩ := hrel
    obtain rfl | rfl : j = 0 ∨ j = 1 := by omega
    · go_wp2_with (go_at_call 85; refine (lpre l _ _ p0.out _).mono ?_; rintro e w1 ⟨rfl, hw1⟩; subst hw1)
      go_round
      case rel => exact ⟨1, by omega, by first | rfl | go_num⟩
      case measure => simp [intOf]
    · go_wp2_with (go_at_call 85; refine (lpre l _ _ p1.out _).mono ?_; rintro e w1 ⟨rfl, hw1⟩; subst hw1)
      refine bodyPost_ret (v := _) ?_ rfl ⟨rfl, by (repeat (first | (with_reducible exact Below.refl _ _) | (with_reducible refine Below.alloc ?_ (by first | omega | (dsimp only; omega) | (simp <;> omega)) _) | (with_reducible refine Below.setCell ?_ (by first | omega | (dsimp only; omega) | (simp <;> omega)) _) | (with_reducible refine Below.drew ?_) | (with_reducible refine below_drewN ?_ _) | (with_reducible refine Below.trans ?_ (Below.mono (by assumption) (by first | omega | (dsimp only; omega) | (simp <;> omega))))))⟩
      first | (simp [results, Tryz.results50, go_sem, *]; done) | (simp [results, Tryz.results50, go_sem, *]; omega)
set_option maxHeartbeats 1000000 in
theorem lsign_two2 (l : List UInt8) (_hl : l.length ≤ 140737488355328) (_h0 : 0 < l.length) (h : l.take 2 = [62, 61]) (w : World) : Calls Tryz.prog 50 #[.string ⟨l.toArray⟩] w fun e w' => e = .returned (.tuple #[.agg #[.int .i64 7, .int .i64 0, .int .i64 0, .string ⟨#[62, 61]⟩, .int .i64 0, .int .i64 0, .int .i64 0, .int .i64 0, .int .i64 0, .int .i64 0, .int .i64 0], .int .i64 2]) ∧ Below w.heap.size w w' := by
  have p0 : Hid (Lib.hasPrefix l [60, 62] = false) := Lib.hid (by rw [pre_two, h]; decide)
  have p1 : Hid (Lib.hasPrefix l [60, 61] = false) := Lib.hid (by rw [pre_two, h]; decide)
  have p2 : Hid (Lib.hasPrefix l [62, 61] = true) := Lib.hid (by rw [pre_two, h]; decide)
  clear h
  go_enter Tryz.func50, Tryz.ntmps50
  go_wp2
  go_loop [8] (fun i => ∃ j : Nat, j ≤ 2 ∧ i = .int .i64 (j : Int)) (fun i => 2 - (intOf i).toNat)
  case atStart => exact ⟨0, by omega, rfl⟩
  case round =>
    obtain ⟨j, hj, rfl⟩ := hrel
    obtain rfl | rfl | rfl : j = 0 ∨ j = 1 ∨ j = 2 := by omega
    · go_wp2_with (go_at_call 85; refine (lpre l _ _ p0.out _).mono ?_; rintro e w1 ⟨rfl, hw1⟩; subst hw1)
      go_round
      case rel => exact ⟨1, by omega, by first | rfl | go_num⟩
      case measure => simp [intOf]
    · go_wp2_with (go_at_call 85; refine (lpre l _ _ p1.out _).mono ?_; rintro e w1 ⟨rfl, hw1⟩; subst hw1)
      go_round
      case rel => exact ⟨2, by omega, by first | rfl | go_num⟩
      case measure => simp [intOf]
    · go_wp2_with (go_at_call 85; refine (lpre l _ _ p2.out _).mono ?_; rintro e w1 ⟨rfl, hw1⟩; subst hw1)
      refine bodyPost_ret (v := _) ?_ rfl ⟨rfl, by (repeat (first | (with_reducible exact Below.refl _ _) | (with_reducible refine Below.alloc ?_ (by first | omega | (dsimp only; omega) | (simp <;> omega)) _) | (with_reducible refine Below.setCell ?_ (by first | omega | (dsimp only; omega) | (simp <;> omega)) _) | (with_reducible refine Below.drew ?_) | (with_reducible refine below_drewN ?_ _) | (with_reducible refine Below.trans ?_ (Below.mono (by assumption) (by first | omega | (dsimp only; omega) | (simp <;> omega))))))⟩
      first | (simp [results, Tryz.results50, go_sem, *]; done) | (simp [results, Tryz.results50, go_sem, *]; omega)
theorem lidx_yes (b : UInt8) (h : signs.contains b = true) (w : World) : Calls Tryz.prog 86 #[.string ⟨#[40, 41, 44, 43, 45, 42, 47, 37, 38, 61, 60, 62]⟩, .int .u8 (b.toNat : Int)] w fun e w' => (∃ i : Int, 0 ≤ i ∧ e = .returned (.int .i64 i)) ∧ w' = w := by
  refine (Tryz.strings_IndexByte ⟨#[40, 41, 44, 43, 45, 42, 47, 37, 38, 61, 60, 62]⟩ (b.toNat : Int) w).mono ?_
  rw [show ((b.toNat : Int)).toNat.toUInt8 = b by simp]
  rintro e w' ⟨rfl, hw⟩
  refine ⟨⟨_, ?_, rfl⟩, hw⟩
  have hge := Lib.indexByte_ge signs b
  refine Int.not_lt.1 fun hlt => ?_
  have hn : Lib.indexByte signs b = -1 := by
    have : Lib.indexByte (⟨#[40, 41, 44, 43, 45, 42, 47, 37, 38, 61, 60, 62]⟩ : ByteArray).data.toList b < 0 := hlt
    change Lib.indexByte signs b < 0 at this
    omega
  exact idx_none signs b hn (by simpa using h)
theorem lidx_no (b : UInt8) (h : signs.contains b = false) (w : World) : Calls Tryz.prog 86 #[.string ⟨#[40, 41, 44, 43, 45, 42, 47, 37, 38, 61, 60, 62]⟩, .int .u8 (b.toNat : Int)] w fun e w' => (∃ i : Int, i = -1 ∧ e = .returned (.int .i64 i)) ∧ w' = w := by
  refine (Tryz.strings_IndexByte ⟨#[40, 41, 44, 43, 45, 42, 47, 37, 38, 61, 60, 62]⟩ (b.toNat : Int) w).mono ?_
  rw [show ((b.toNat : Int)).toNat.toUInt8 = b by simp]
  rintro e w' ⟨rfl, hw⟩
  refine ⟨⟨_, ?_, rfl⟩, hw⟩
  show Lib.indexByte signs b = -1
  exact idx_absent signs b (by simpa using h)
set_option maxHeartbeats 1000000 in
theorem lsign_yes (l : List UInt8) (_hl : l.length ≤ 140737488355328) (h0 : 0 < l.length) (n0 : l.take 2 ≠ [60, 62]) (n1 : l.take 2 ≠ [60, 61]) (n2 : l.take 2 ≠ [62, 61]) (b : UInt8) (r : List UInt8) (hb : l = b :: r) (hs : signs.contains b = true) (w : World) : Calls Tryz.prog 50 #[.string ⟨l.toArray⟩] w fun e w' => e = .returned (.tuple #[.agg #[.int .i64 7, .int .i64 0, .int .i64 0, .string ⟨#[b]⟩, .int .i64 0, .int .i64 0, .int .i64 0, .int .i64 0, .int .i64 0, .int .i64 0, .int .i64 0], .int .i64 1]) ∧ Below w.heap.size w w' := by
  have p0 : Hid (Lib.hasPrefix l [60, 62] = false) := Lib.hid (by rw [pre_two]; simpa using n0)
  have p1 : Hid (Lib.hasPrefix l [60, 61] = false) := Lib.hid (by rw [pre_two]; simpa using n1)
  have p2 : Hid (Lib.hasPrefix l [62, 61] = false) := Lib.hid (by rw [pre_two]; simpa using n2)
  have hi0 : 0 < (⟨l.toArray⟩ : ByteArray).size := by show 0 < l.toArray.size; simpa using h0
  have hbe : (⟨l.toArray⟩ : ByteArray)[0]'hi0 = b := by subst hb; rfl
  have CI := lidx_yes b hs
  have hx := ext_mid l [b] 0 1 (by rw [hb]; rfl)
  rw [Nat.zero_add] at hx
  clear n0 n1 n2 hb hs
  go_enter Tryz.func50, Tryz.ntmps50
  go_wp2
  go_loop [8] (fun i => ∃ j : Nat, j ≤ 3 ∧ i = .int .i64 (j : Int)) (fun i => 3 - (intOf i).toNat)
  case atStart => exact ⟨0, by omega, rfl⟩
  case round =>
    obtain ⟨j, hj, rfl⟩ := hrel
    obtain rfl | rfl | rfl | rfl : j = 0 ∨ j = 1 ∨ j = 2 ∨ j = 3 := by omega
    · go_wp2_with (go_at_call 85; refine (lpre l _ _ p0.out _).mono ?_; rintro e w1 ⟨rfl, hw1⟩; subst hw1)
      go_round
      case rel => exact ⟨1, by omega, by first | rfl | go_num⟩
      case measure => simp [intOf]
    · go_wp2_with (go_at_call 85; refine (lpre l _ _ p1.out _).mono ?_; rintro e w1 ⟨rfl, hw1⟩; subst hw1)
      go_round
      case rel => exact ⟨2, by omega, by first | rfl | go_num⟩
      case measure => simp [intOf]
    · go_wp2_with (go_at_call 85; refine (lpre l _ _ p2.out _).mono ?_; rintro e w1 ⟨rfl, hw1⟩; subst hw1)
      go_round
      case rel => exact ⟨3, by omega, by first | rfl | go_num⟩
      case measure => simp [intOf]
    · go_wp2_with (go_at_call 86; (try rw [hbe]); refine (CI _).mono ?_; rintro e w1 ⟨⟨i, hi, rfl⟩, hw1⟩; subst hw1)
      refine bodyPost_ret (v := _) ?_ rfl ⟨rfl, by (repeat (first | (with_reducible exact Below.refl _ _) | (with_reducible refine Below.alloc ?_ (by first | omega | (dsimp only; omega) | (simp <;> omega)) _) | (with_reducible refine Below.setCell ?_ (by first | omega | (dsimp only; omega) | (simp <;> omega)) _) | (with_reducible refine Below.drew ?_) | (with_reducible refine below_drewN ?_ _) | (with_reducible refine Below.trans ?_ (Below.mono (by assumption) (by first | omega | (dsimp only; omega) | (simp <;> omega))))))⟩
      first | (simp [results, Tryz.results50, go_sem, *]; done) | (simp [results, Tryz.results50, go_sem, *]; omega)
set_option maxHeartbeats 1000000 in
theorem lsign_no (l : List UInt8) (_hl : l.length ≤ 140737488355328) (h0 : 0 < l.length) (n0 : l.take 2 ≠ [60, 62]) (n1 : l.take 2 ≠ [60, 61]) (n2 : l.take 2 ≠ [62, 61]) (b : UInt8) (r : List UInt8) (hb : l = b :: r) (hs : signs.contains b = false) (w : World) : Calls Tryz.prog 50 #[.string ⟨l.toArray⟩] w fun e w' => e = .returned (.tuple #[.agg #[.int .i64 8, .int .i64 0, .int .i64 0, .string ⟨#[]⟩, .int .i64 0, .int .i64 0, .int .i64 0, .int .i64 0, .int .i64 0, .int .i64 0, .int .i64 0], .int .i64 0]) ∧ Below w.heap.size w w' := by
  have p0 : Hid (Lib.hasPrefix l [60, 62] = false) := Lib.hid (by rw [pre_two]; simpa using n0)
  have p1 : Hid (Lib.hasPrefix l [60, 61] = false) := Lib.hid (by rw [pre_two]; simpa using n1)
  have p2 : Hid (Lib.hasPrefix l [62, 61] = false) := Lib.hid (by rw [pre_two]; simpa using n2)
  have hi0 : 0 < (⟨l.toArray⟩ : ByteArray).size := by show 0 < l.toArray.size; simpa using h0
  have hbe : (⟨l.toArray⟩ : ByteArray)[0]'hi0 = b := by subst hb; rfl
  have CI := lidx_no b hs
  have hx := ext_mid l [b] 0 1 (by rw [hb]; rfl)
  rw [Nat.zero_add] at hx
  clear n0 n1 n2 hb hs
  go_enter Tryz.func50, Tryz.ntmps50
  go_wp2
  go_loop [8] (fun i => ∃ j : Nat, j ≤ 3 ∧ i = .int .i64 (j : Int)) (fun i => 3 - (intOf i).toNat)
  case atStart => exact ⟨0, by omega, rfl⟩
  case round =>
    obtain ⟨j, hj, rfl⟩ := hrel
    obtain rfl | rfl | rfl | rfl : j = 0 ∨ j = 1 ∨ j = 2 ∨ j = 3 := by omega
    · go_wp2_with (go_at_call 85; refine (lpre l _ _ p0.out _).mono ?_; rintro e w1 ⟨rfl, hw1⟩; subst hw1)
      go_round
      case rel => exact ⟨1, by omega, by first | rfl | go_num⟩
      case measure => simp [intOf]
    · go_wp2_with (go_at_call 85; refine (lpre l _ _ p1.out _).mono ?_; rintro e w1 ⟨rfl, hw1⟩; subst hw1)
      go_round
      case rel => exact ⟨2, by omega, by first | rfl | go_num⟩
      case measure => simp [intOf]
    · go_wp2_with (go_at_call 85; refine (lpre l _ _ p2.out _).mono ?_; rintro e w1 ⟨rfl, hw1⟩; subst hw1)
      go_round
      case rel => exact ⟨3, by omega, by first | rfl | go_num⟩
      case measure => simp [intOf]
    · go_wp2_with (go_at_call 86; (try rw [hbe]); refine (CI _).mono ?_; rintro e w1 ⟨⟨i, hi, rfl⟩, hw1⟩; subst hw1)
      refine bodyPost_ret (v := _) ?_ rfl ⟨rfl, by (repeat (first | (with_reducible exact Below.refl _ _) | (with_reducible refine Below.alloc ?_ (by first | omega | (dsimp only; omega) | (simp <;> omega)) _) | (with_reducible refine Below.setCell ?_ (by first | omega | (dsimp only; omega) | (simp <;> omega)) _) | (with_reducible refine Below.drew ?_) | (with_reducible refine below_drewN ?_ _) | (with_reducible refine Below.trans ?_ (Below.mono (by assumption) (by first | omega | (dsimp only; omega) | (simp <;> omega))))))⟩
      first | (simp [results, Tryz.results50, go_sem, *]; done) | (simp [results, Tryz.results50, go_sem, *]; omega)
theorem lsign (l : List UInt8) (c : UInt8) (r : List UInt8) (hlc : l = c :: r) (hl : l.length ≤ 140737488355328) (x : Tok) (n : Nat) (hx : signT l = (x, n)) (w : World) : Calls Tryz.prog 50 #[.string ⟨l.toArray⟩] w fun e w' => e = .returned (.tuple #[.agg #[.int .i64 x.kind, .int .i64 x.place, .int .i64 x.num, .string x.str, .int .i64 x.r, .int .i64 x.c, .int .i64 x.t, .int .i64 x.l, .int .i64 x.b, .int .i64 x.q, .int .i64 x.code], .int .i64 (n : Int)]) ∧ Below w.heap.size w w' := by
  have h0 : 0 < l.length := by rw [hlc]; simp
  have hhead : l.head? = some c := by rw [hlc]; rfl
  have htk : l.take 1 = [c] := by rw [hlc]; simp
  unfold signT at hx
  split at hx
  · rename_i h
    simp only [twoB, Bool.or_eq_true, decide_eq_true_eq] at h
    rcases h with (h | h) | h
    · rw [h] at hx; cases hx; exact lsign_two0 l hl h0 h w
    · rw [h] at hx; cases hx; exact lsign_two1 l hl h0 h w
    · rw [h] at hx; cases hx; exact lsign_two2 l hl h0 h w
  · rename_i h
    simp only [twoB, Bool.or_eq_true, decide_eq_true_eq, not_or] at h
    obtain ⟨⟨n1, n2⟩, n3⟩ := h
    rw [hhead, htk] at hx
    split at hx
    · rename_i hs
      cases hx
      exact lsign_yes l hl h0 n1 n2 n3 c r hlc (by simpa using hs) w
    · rename_i hs
      cases hx
      exact lsign_no l hl h0 n1 n2 n3 c r hlc (by simpa using hs) w
end Go.Proofs.YtiekhbagpmnboaaGreatDoor
