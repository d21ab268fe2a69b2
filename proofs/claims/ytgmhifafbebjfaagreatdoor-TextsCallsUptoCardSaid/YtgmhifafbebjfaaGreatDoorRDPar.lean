/-
  The document's Parse of a number, by cases: without a sign.
-/
import Derived.Test.YtgmhifafbebjfaaGreatDoorMg11
namespace Go.Proofs.YtgmhifafbebjfaaGreatDoor
open Go.RowKit

set_option maxRecDepth 100000 in
set_option maxHeartbeats 4000000 in
theorem rp0_k0 (l : List UInt8) (k : Nat) (hl : l.length ≤ 9223372036854775807) (hs1 : l.length = 0 ∨ ∃ hs0 : 0 < (⟨l.toArray⟩ : ByteArray).size, ¬ ((⟨l.toArray⟩ : ByteArray)[0]'hs0).toNat = 45) (hk : Hid (((l.drop 0).takeWhile isDig).length = k)) (hk0 : k < 1) (w : World) : Calls Tryz.prog 98 #[.string ⟨l.toArray⟩] w fun e w' => e = .returned (.tuple #[.int .i64 0, .bool false]) ∧ w = w' := by
  rcases hs1 with hs1 | ⟨hs0, hs1⟩
  all_goals
    go_enter Tryz.func98, Tryz.ntmps98
    go_wp2_with (go_at_call 167; refine (rdigits_as l _ 0 k rfl hl (by omega) hk.out _).mono ?_; rintro e w1 ⟨rfl, rfl⟩)
    go_ret2
    exact ⟨rfl, rfl⟩
set_option maxRecDepth 100000 in
set_option maxHeartbeats 4000000 in
theorem rp0_k16 (l : List UInt8) (k : Nat) (hl : l.length ≤ 9223372036854775807) (hs0 : 0 < (⟨l.toArray⟩ : ByteArray).size) (hs1 : ¬ ((⟨l.toArray⟩ : ByteArray)[0]'hs0).toNat = 45) (hk : Hid (((l.drop 0).takeWhile isDig).length = k)) (hk0 : 15 < k) (w : World) : Calls Tryz.prog 98 #[.string ⟨l.toArray⟩] w fun e w' => e = .returned (.tuple #[.int .i64 0, .bool false]) ∧ w = w' := by
  all_goals
    go_enter Tryz.func98, Tryz.ntmps98
    go_wp2_with (go_at_call 167; refine (rdigits_as l _ 0 k rfl hl (by omega) hk.out _).mono ?_; rintro e w1 ⟨rfl, rfl⟩)
    go_ret2
    exact ⟨rfl, rfl⟩
set_option maxRecDepth 100000 in
set_option maxHeartbeats 4000000 in
theorem rp0_lead (l : List UInt8) (k : Nat) (hl : l.length ≤ 9223372036854775807) (hs0 : 0 < (⟨l.toArray⟩ : ByteArray).size) (_hs1 : ¬ ((⟨l.toArray⟩ : ByteArray)[0]'hs0).toNat = 45) (hk : Hid (((l.drop 0).takeWhile isDig).length = k)) (hk0 : 1 < k) (hk1 : k ≤ 15) (ht0 : 0 < (⟨l.toArray⟩ : ByteArray).size) (ht1 : ((⟨l.toArray⟩ : ByteArray)[0]'ht0).toNat = 48) (w : World) : Calls Tryz.prog 98 #[.string ⟨l.toArray⟩] w fun e w' => e = .returned (.tuple #[.int .i64 0, .bool false]) ∧ w = w' := by
  have ht2 : 0 < l.length := by have : 0 < l.toArray.size := ht0; simpa using this
  all_goals
    go_enter Tryz.func98, Tryz.ntmps98
    go_wp2_with (go_at_call 167; refine (rdigits_as l _ 0 k rfl hl (by omega) hk.out _).mono ?_; rintro e w1 ⟨rfl, rfl⟩)
    go_ret2
    exact ⟨rfl, rfl⟩
set_option maxRecDepth 100000 in
set_option maxHeartbeats 4000000 in
theorem rp0_dotless (l : List UInt8) (k : Nat) (hl : l.length ≤ 9223372036854775807) (hs0 : 0 < (⟨l.toArray⟩ : ByteArray).size) (hs1 : ¬ ((⟨l.toArray⟩ : ByteArray)[0]'hs0).toNat = 45) (hk : Hid (((l.drop 0).takeWhile isDig).length = k)) (hk0 : 1 ≤ k) (hk1 : k ≤ 15) (hkl : k ≤ l.length) (ht0 : 0 < (⟨l.toArray⟩ : ByteArray).size) (ht1 : ((⟨l.toArray⟩ : ByteArray)[0]'ht0).toNat = 48 ∧ k < 2 ∨ ¬ ((⟨l.toArray⟩ : ByteArray)[0]'ht0).toNat = 48) (V : Nat → Nat) (hV0 : Hid (V 0 = 0)) (hVs : Hid (∀ j (_ : j < k) (h : j < (⟨l.toArray⟩ : ByteArray).size), 48 ≤ ((⟨l.toArray⟩ : ByteArray)[j]'h).toNat ∧ ((⟨l.toArray⟩ : ByteArray)[j]'h).toNat ≤ 57 ∧ V j ≤ 1000000000000000 ∧ V (j + 1) = V j * 10 + (((⟨l.toArray⟩ : ByteArray)[j]'h).toNat - 48))) (he : k < l.length) (hp0 : k < (⟨l.toArray⟩ : ByteArray).size) (r : Nat) (hr : Hid (((l.drop (k + 1)).takeWhile isDig).length = r)) (hp1 : ¬ ((⟨l.toArray⟩ : ByteArray)[k]'hp0).toNat = 46) (w : World) : Calls Tryz.prog 98 #[.string ⟨l.toArray⟩] w fun e w' => e = .returned (.tuple #[.int .i64 0, .bool false]) ∧ w = w' := by
  rcases ht1 with ⟨ht1, ht2⟩ | ht1
  have hp2 : ((((⟨l.toArray⟩ : ByteArray)[k]'hp0).toNat : Int) != 46) = true := by simp; omega
  all_goals
    go_enter Tryz.func98, Tryz.ntmps98
    go_wp2_with (go_at_call 167; refine (rdigits_as l _ 0 k rfl hl (by omega) hk.out _).mono ?_; rintro e w1 ⟨rfl, rfl⟩)
    go_loop [7, 8] (fun n i => ∃ j : Nat, j ≤ k ∧ i = .int .i64 ((j : Int)) ∧ n = .int .u64 (V j : Int)) (fun _ i => k + 1 - (intOf i).toNat)
    case atStart => exact ⟨0, by omega, rfl, by rw [hV0.out]; rfl⟩
    case round =>
      obtain ⟨j, hj, rfl, rfl⟩ := hrel
      by_cases hlt : j < k
      · have hb : j < (⟨l.toArray⟩ : ByteArray).size := by show j < l.toArray.size; simp; omega
        obtain ⟨b1, b2, b3, b4⟩ := hVs.out j hlt hb
        have hc : ((j : Int)).toNat = j := by omega
        have b5 := Lib.hid b4
        clear b4
        go_wp2
        go_round
        case rel => exact ⟨j + 1, by omega, by go_num, by rw [b5.out]; go_num⟩
        case measure => simp [intOf]; omega
      · obtain rfl : j = k := by omega
        have hc : ((j : Int)).toNat = j := by omega
        go_wp2_with (go_at_call 167; refine (rdigits_as l _ (j + 1) r (by omega) hl (by omega) hr.out _).mono ?_; rintro e w1 ⟨rfl, rfl⟩)
        go_ret2
        exact ⟨rfl, rfl⟩
set_option maxRecDepth 100000 in
set_option maxHeartbeats 4000000 in
theorem rp0_r0 (l : List UInt8) (k : Nat) (hl : l.length ≤ 9223372036854775807) (hs0 : 0 < (⟨l.toArray⟩ : ByteArray).size) (hs1 : ¬ ((⟨l.toArray⟩ : ByteArray)[0]'hs0).toNat = 45) (hk : Hid (((l.drop 0).takeWhile isDig).length = k)) (hk0 : 1 ≤ k) (hk1 : k ≤ 15) (hkl : k ≤ l.length) (ht0 : 0 < (⟨l.toArray⟩ : ByteArray).size) (ht1 : ((⟨l.toArray⟩ : ByteArray)[0]'ht0).toNat = 48 ∧ k < 2 ∨ ¬ ((⟨l.toArray⟩ : ByteArray)[0]'ht0).toNat = 48) (V : Nat → Nat) (hV0 : Hid (V 0 = 0)) (hVs : Hid (∀ j (_ : j < k) (h : j < (⟨l.toArray⟩ : ByteArray).size), 48 ≤ ((⟨l.toArray⟩ : ByteArray)[j]'h).toNat ∧ ((⟨l.toArray⟩ : ByteArray)[j]'h).toNat ≤ 57 ∧ V j ≤ 1000000000000000 ∧ V (j + 1) = V j * 10 + (((⟨l.toArray⟩ : ByteArray)[j]'h).toNat - 48))) (he : k < l.length) (hp0 : k < (⟨l.toArray⟩ : ByteArray).size) (r : Nat) (hr : Hid (((l.drop (k + 1)).takeWhile isDig).length = r)) (hp1 : ((⟨l.toArray⟩ : ByteArray)[k]'hp0).toNat = 46) (hr0 : r < 1) (w : World) : Calls Tryz.prog 98 #[.string ⟨l.toArray⟩] w fun e w' => e = .returned (.tuple #[.int .i64 0, .bool false]) ∧ w = w' := by
  rcases ht1 with ⟨ht1, ht2⟩ | ht1
  all_goals
    go_enter Tryz.func98, Tryz.ntmps98
    go_wp2_with (go_at_call 167; refine (rdigits_as l _ 0 k rfl hl (by omega) hk.out _).mono ?_; rintro e w1 ⟨rfl, rfl⟩)
    go_loop [7, 8] (fun n i => ∃ j : Nat, j ≤ k ∧ i = .int .i64 ((j : Int)) ∧ n = .int .u64 (V j : Int)) (fun _ i => k + 1 - (intOf i).toNat)
    case atStart => exact ⟨0, by omega, rfl, by rw [hV0.out]; rfl⟩
    case round =>
      obtain ⟨j, hj, rfl, rfl⟩ := hrel
      by_cases hlt : j < k
      · have hb : j < (⟨l.toArray⟩ : ByteArray).size := by show j < l.toArray.size; simp; omega
        obtain ⟨b1, b2, b3, b4⟩ := hVs.out j hlt hb
        have hc : ((j : Int)).toNat = j := by omega
        have b5 := Lib.hid b4
        clear b4
        go_wp2
        go_round
        case rel => exact ⟨j + 1, by omega, by go_num, by rw [b5.out]; go_num⟩
        case measure => simp [intOf]; omega
      · obtain rfl : j = k := by omega
        have hc : ((j : Int)).toNat = j := by omega
        go_wp2_with (go_at_call 167; refine (rdigits_as l _ (j + 1) r (by omega) hl (by omega) hr.out _).mono ?_; rintro e w1 ⟨rfl, rfl⟩)
        go_ret2
        exact ⟨rfl, rfl⟩
set_option maxRecDepth 100000 in
set_option maxHeartbeats 4000000 in
theorem rp0_r5 (l : List UInt8) (k : Nat) (hl : l.length ≤ 9223372036854775807) (hs0 : 0 < (⟨l.toArray⟩ : ByteArray).size) (hs1 : ¬ ((⟨l.toArray⟩ : ByteArray)[0]'hs0).toNat = 45) (hk : Hid (((l.drop 0).takeWhile isDig).length = k)) (hk0 : 1 ≤ k) (hk1 : k ≤ 15) (hkl : k ≤ l.length) (ht0 : 0 < (⟨l.toArray⟩ : ByteArray).size) (ht1 : ((⟨l.toArray⟩ : ByteArray)[0]'ht0).toNat = 48 ∧ k < 2 ∨ ¬ ((⟨l.toArray⟩ : ByteArray)[0]'ht0).toNat = 48) (V : Nat → Nat) (hV0 : Hid (V 0 = 0)) (hVs : Hid (∀ j (_ : j < k) (h : j < (⟨l.toArray⟩ : ByteArray).size), 48 ≤ ((⟨l.toArray⟩ : ByteArray)[j]'h).toNat ∧ ((⟨l.toArray⟩ : ByteArray)[j]'h).toNat ≤ 57 ∧ V j ≤ 1000000000000000 ∧ V (j + 1) = V j * 10 + (((⟨l.toArray⟩ : ByteArray)[j]'h).toNat - 48))) (he : k < l.length) (hp0 : k < (⟨l.toArray⟩ : ByteArray).size) (r : Nat) (hr : Hid (((l.drop (k + 1)).takeWhile isDig).length = r)) (hp1 : ((⟨l.toArray⟩ : ByteArray)[k]'hp0).toNat = 46) (hr0 : 4 < r) (w : World) : Calls Tryz.prog 98 #[.string ⟨l.toArray⟩] w fun e w' => e = .returned (.tuple #[.int .i64 0, .bool false]) ∧ w = w' := by
  rcases ht1 with ⟨ht1, ht2⟩ | ht1
  all_goals
    go_enter Tryz.func98, Tryz.ntmps98
    go_wp2_with (go_at_call 167; refine (rdigits_as l _ 0 k rfl hl (by omega) hk.out _).mono ?_; rintro e w1 ⟨rfl, rfl⟩)
    go_loop [7, 8] (fun n i => ∃ j : Nat, j ≤ k ∧ i = .int .i64 ((j : Int)) ∧ n = .int .u64 (V j : Int)) (fun _ i => k + 1 - (intOf i).toNat)
    case atStart => exact ⟨0, by omega, rfl, by rw [hV0.out]; rfl⟩
    case round =>
      obtain ⟨j, hj, rfl, rfl⟩ := hrel
      by_cases hlt : j < k
      · have hb : j < (⟨l.toArray⟩ : ByteArray).size := by show j < l.toArray.size; simp; omega
        obtain ⟨b1, b2, b3, b4⟩ := hVs.out j hlt hb
        have hc : ((j : Int)).toNat = j := by omega
        have b5 := Lib.hid b4
        clear b4
        go_wp2
        go_round
        case rel => exact ⟨j + 1, by omega, by go_num, by rw [b5.out]; go_num⟩
        case measure => simp [intOf]; omega
      · obtain rfl : j = k := by omega
        have hc : ((j : Int)).toNat = j := by omega
        go_wp2_with (go_at_call 167; refine (rdigits_as l _ (j + 1) r (by omega) hl (by omega) hr.out _).mono ?_; rintro e w1 ⟨rfl, rfl⟩)
        go_ret2
        exact ⟨rfl, rfl⟩
set_option maxRecDepth 100000 in
set_option maxHeartbeats 4000000 in
theorem rp0_rem (l : List UInt8) (k : Nat) (hl : l.length ≤ 9223372036854775807) (hs0 : 0 < (⟨l.toArray⟩ : ByteArray).size) (hs1 : ¬ ((⟨l.toArray⟩ : ByteArray)[0]'hs0).toNat = 45) (hk : Hid (((l.drop 0).takeWhile isDig).length = k)) (hk0 : 1 ≤ k) (hk1 : k ≤ 15) (hkl : k ≤ l.length) (ht0 : 0 < (⟨l.toArray⟩ : ByteArray).size) (ht1 : ((⟨l.toArray⟩ : ByteArray)[0]'ht0).toNat = 48 ∧ k < 2 ∨ ¬ ((⟨l.toArray⟩ : ByteArray)[0]'ht0).toNat = 48) (V : Nat → Nat) (hV0 : Hid (V 0 = 0)) (hVs : Hid (∀ j (_ : j < k) (h : j < (⟨l.toArray⟩ : ByteArray).size), 48 ≤ ((⟨l.toArray⟩ : ByteArray)[j]'h).toNat ∧ ((⟨l.toArray⟩ : ByteArray)[j]'h).toNat ≤ 57 ∧ V j ≤ 1000000000000000 ∧ V (j + 1) = V j * 10 + (((⟨l.toArray⟩ : ByteArray)[j]'h).toNat - 48))) (he : k < l.length) (hp0 : k < (⟨l.toArray⟩ : ByteArray).size) (r : Nat) (hr : Hid (((l.drop (k + 1)).takeWhile isDig).length = r)) (hp1 : ((⟨l.toArray⟩ : ByteArray)[k]'hp0).toNat = 46) (hr0 : 1 ≤ r) (hr1 : r ≤ 4) (hrl : k + 1 + r < l.length) (w : World) : Calls Tryz.prog 98 #[.string ⟨l.toArray⟩] w fun e w' => e = .returned (.tuple #[.int .i64 0, .bool false]) ∧ w = w' := by
  rcases ht1 with ⟨ht1, ht2⟩ | ht1
  all_goals
    go_enter Tryz.func98, Tryz.ntmps98
    go_wp2_with (go_at_call 167; refine (rdigits_as l _ 0 k rfl hl (by omega) hk.out _).mono ?_; rintro e w1 ⟨rfl, rfl⟩)
    go_loop [7, 8] (fun n i => ∃ j : Nat, j ≤ k ∧ i = .int .i64 ((j : Int)) ∧ n = .int .u64 (V j : Int)) (fun _ i => k + 1 - (intOf i).toNat)
    case atStart => exact ⟨0, by omega, rfl, by rw [hV0.out]; rfl⟩
    case round =>
      obtain ⟨j, hj, rfl, rfl⟩ := hrel
      by_cases hlt : j < k
      · have hb : j < (⟨l.toArray⟩ : ByteArray).size := by show j < l.toArray.size; simp; omega
        obtain ⟨b1, b2, b3, b4⟩ := hVs.out j hlt hb
        have hc : ((j : Int)).toNat = j := by omega
        have b5 := Lib.hid b4
        clear b4
        go_wp2
        go_round
        case rel => exact ⟨j + 1, by omega, by go_num, by rw [b5.out]; go_num⟩
        case measure => simp [intOf]; omega
      · obtain rfl : j = k := by omega
        have hc : ((j : Int)).toNat = j := by omega
        go_wp2_with (go_at_call 167; refine (rdigits_as l _ (j + 1) r (by omega) hl (by omega) hr.out _).mono ?_; rintro e w1 ⟨rfl, rfl⟩)
        go_ret2
        exact ⟨rfl, rfl⟩
set_option maxRecDepth 100000 in
set_option maxHeartbeats 4000000 in
theorem rp0_end0 (l : List UInt8) (k : Nat) (hl : l.length ≤ 9223372036854775807) (hs0 : 0 < (⟨l.toArray⟩ : ByteArray).size) (hs1 : ¬ ((⟨l.toArray⟩ : ByteArray)[0]'hs0).toNat = 45) (hk : Hid (((l.drop 0).takeWhile isDig).length = k)) (hk0 : 1 ≤ k) (hk1 : k ≤ 15) (hkl : k ≤ l.length) (ht0 : 0 < (⟨l.toArray⟩ : ByteArray).size) (ht1 : ((⟨l.toArray⟩ : ByteArray)[0]'ht0).toNat = 48 ∧ k < 2 ∨ ¬ ((⟨l.toArray⟩ : ByteArray)[0]'ht0).toNat = 48) (V : Nat → Nat) (hV0 : Hid (V 0 = 0)) (hVs : Hid (∀ j (_ : j < k) (h : j < (⟨l.toArray⟩ : ByteArray).size), 48 ≤ ((⟨l.toArray⟩ : ByteArray)[j]'h).toNat ∧ ((⟨l.toArray⟩ : ByteArray)[j]'h).toNat ≤ 57 ∧ V j ≤ 1000000000000000 ∧ V (j + 1) = V j * 10 + (((⟨l.toArray⟩ : ByteArray)[j]'h).toNat - 48))) (he : l.length ≤ k) (U : Nat → Nat) (hU0 : Hid (V k = U 0)) (hUb : Hid (∀ j, j < 4 → U j ≤ 1000000000000000000 ∧ U (j + 1) ≤ 18446744073709551615)) (hUz : Hid (∀ j, j < 4 → U (j + 1) = U j * 10)) (hf : 9223372036854775807 < U 4) (w : World) : Calls Tryz.prog 98 #[.string ⟨l.toArray⟩] w fun e w' => e = .returned (.tuple #[.int .i64 0, .bool false]) ∧ w = w' := by
  rcases ht1 with ⟨ht1, ht2⟩ | ht1
  all_goals
    go_enter Tryz.func98, Tryz.ntmps98
    go_wp2_with (go_at_call 167; refine (rdigits_as l _ 0 k rfl hl (by omega) hk.out _).mono ?_; rintro e w1 ⟨rfl, rfl⟩)
    go_loop [7, 8] (fun n i => ∃ j : Nat, j ≤ k ∧ i = .int .i64 ((j : Int)) ∧ n = .int .u64 (V j : Int)) (fun _ i => k + 1 - (intOf i).toNat)
    case atStart => exact ⟨0, by omega, rfl, by rw [hV0.out]; rfl⟩
    case round =>
      obtain ⟨j, hj, rfl, rfl⟩ := hrel
      by_cases hlt : j < k
      · have hb : j < (⟨l.toArray⟩ : ByteArray).size := by show j < l.toArray.size; simp; omega
        obtain ⟨b1, b2, b3, b4⟩ := hVs.out j hlt hb
        have hc : ((j : Int)).toNat = j := by omega
        have b5 := Lib.hid b4
        clear b4
        go_wp2
        go_round
        case rel => exact ⟨j + 1, by omega, by go_num, by rw [b5.out]; go_num⟩
        case measure => simp [intOf]; omega
      · obtain rfl : j = k := by omega
        have hc : ((j : Int)).toNat = j := by omega
        go_wp2
        go_loop [7, 10] (fun n i => ∃ q : Nat, q ≤ 4 ∧ i = .int .i64 (q : Int) ∧ n = .int .u64 (U q : Int)) (fun _ i => 4 - (intOf i).toNat)
        case atStart => exact ⟨0, by omega, rfl, by rw [hU0.out]⟩
        case round =>
          obtain ⟨q, hq, rfl, rfl⟩ := hrel
          by_cases hlt4 : q < 4
          · obtain ⟨u1, u2⟩ := hUb.out q hlt4
            have b5 := Lib.hid (hUz.out q hlt4)
            go_wp2
            go_round
            case rel => exact ⟨q + 1, by omega, by go_num, by rw [b5.out]; go_num⟩
            case measure => simp [intOf]; omega
          · obtain rfl : q = 4 := by omega
            go_wp2
            go_ret2
            exact ⟨rfl, rfl⟩
set_option maxRecDepth 100000 in
set_option maxHeartbeats 4000000 in
theorem rp0_end1 (l : List UInt8) (k : Nat) (hl : l.length ≤ 9223372036854775807) (hs0 : 0 < (⟨l.toArray⟩ : ByteArray).size) (hs1 : ¬ ((⟨l.toArray⟩ : ByteArray)[0]'hs0).toNat = 45) (hk : Hid (((l.drop 0).takeWhile isDig).length = k)) (hk0 : 1 ≤ k) (hk1 : k ≤ 15) (hkl : k ≤ l.length) (ht0 : 0 < (⟨l.toArray⟩ : ByteArray).size) (ht1 : ((⟨l.toArray⟩ : ByteArray)[0]'ht0).toNat = 48 ∧ k < 2 ∨ ¬ ((⟨l.toArray⟩ : ByteArray)[0]'ht0).toNat = 48) (V : Nat → Nat) (hV0 : Hid (V 0 = 0)) (hVs : Hid (∀ j (_ : j < k) (h : j < (⟨l.toArray⟩ : ByteArray).size), 48 ≤ ((⟨l.toArray⟩ : ByteArray)[j]'h).toNat ∧ ((⟨l.toArray⟩ : ByteArray)[j]'h).toNat ≤ 57 ∧ V j ≤ 1000000000000000 ∧ V (j + 1) = V j * 10 + (((⟨l.toArray⟩ : ByteArray)[j]'h).toNat - 48))) (he : l.length ≤ k) (U : Nat → Nat) (hU0 : Hid (V k = U 0)) (hUb : Hid (∀ j, j < 4 → U j ≤ 1000000000000000000 ∧ U (j + 1) ≤ 18446744073709551615)) (hUz : Hid (∀ j, j < 4 → U (j + 1) = U j * 10)) (hf : U 4 ≤ 9223372036854775807) (w : World) : Calls Tryz.prog 98 #[.string ⟨l.toArray⟩] w fun e w' => e = .returned (.tuple #[.int .i64 ((U 4 : Int)), .bool true]) ∧ w = w' := by
  rcases ht1 with ⟨ht1, ht2⟩ | ht1
  all_goals
    go_enter Tryz.func98, Tryz.ntmps98
    go_wp2_with (go_at_call 167; refine (rdigits_as l _ 0 k rfl hl (by omega) hk.out _).mono ?_; rintro e w1 ⟨rfl, rfl⟩)
    go_loop [7, 8] (fun n i => ∃ j : Nat, j ≤ k ∧ i = .int .i64 ((j : Int)) ∧ n = .int .u64 (V j : Int)) (fun _ i => k + 1 - (intOf i).toNat)
    case atStart => exact ⟨0, by omega, rfl, by rw [hV0.out]; rfl⟩
    case round =>
      obtain ⟨j, hj, rfl, rfl⟩ := hrel
      by_cases hlt : j < k
      · have hb : j < (⟨l.toArray⟩ : ByteArray).size := by show j < l.toArray.size; simp; omega
        obtain ⟨b1, b2, b3, b4⟩ := hVs.out j hlt hb
        have hc : ((j : Int)).toNat = j := by omega
        have b5 := Lib.hid b4
        clear b4
        go_wp2
        go_round
        case rel => exact ⟨j + 1, by omega, by go_num, by rw [b5.out]; go_num⟩
        case measure => simp [intOf]; omega
      · obtain rfl : j = k := by omega
        have hc : ((j : Int)).toNat = j := by omega
        go_wp2
        go_loop [7, 10] (fun n i => ∃ q : Nat, q ≤ 4 ∧ i = .int .i64 (q : Int) ∧ n = .int .u64 (U q : Int)) (fun _ i => 4 - (intOf i).toNat)
        case atStart => exact ⟨0, by omega, rfl, by rw [hU0.out]⟩
        case round =>
          obtain ⟨q, hq, rfl, rfl⟩ := hrel
          by_cases hlt4 : q < 4
          · obtain ⟨u1, u2⟩ := hUb.out q hlt4
            have b5 := Lib.hid (hUz.out q hlt4)
            go_wp2
            go_round
            case rel => exact ⟨q + 1, by omega, by go_num, by rw [b5.out]; go_num⟩
            case measure => simp [intOf]; omega
          · obtain rfl : q = 4 := by omega
            have hex : exV ((U 4 : Int)) = (U 4 : Int) := by unfold exV; rw [if_pos (by omega)]
            have hex' := Lib.hid hex
            clear hex
            go_wp2_with (go_at_call 168; refine (rsigned_any (U 4 : Int) (by omega) false _).mono ?_; rintro e w1 ⟨rfl, rfl⟩)
            go_ret2
            exact ⟨ret_ib hex'.out rfl, rfl⟩
set_option maxRecDepth 100000 in
set_option maxHeartbeats 4000000 in
theorem rp0_good0 (l : List UInt8) (k : Nat) (hl : l.length ≤ 9223372036854775807) (hs0 : 0 < (⟨l.toArray⟩ : ByteArray).size) (hs1 : ¬ ((⟨l.toArray⟩ : ByteArray)[0]'hs0).toNat = 45) (hk : Hid (((l.drop 0).takeWhile isDig).length = k)) (hk0 : 1 ≤ k) (hk1 : k ≤ 15) (hkl : k ≤ l.length) (ht0 : 0 < (⟨l.toArray⟩ : ByteArray).size) (ht1 : ((⟨l.toArray⟩ : ByteArray)[0]'ht0).toNat = 48 ∧ k < 2 ∨ ¬ ((⟨l.toArray⟩ : ByteArray)[0]'ht0).toNat = 48) (V : Nat → Nat) (hV0 : Hid (V 0 = 0)) (hVs : Hid (∀ j (_ : j < k) (h : j < (⟨l.toArray⟩ : ByteArray).size), 48 ≤ ((⟨l.toArray⟩ : ByteArray)[j]'h).toNat ∧ ((⟨l.toArray⟩ : ByteArray)[j]'h).toNat ≤ 57 ∧ V j ≤ 1000000000000000 ∧ V (j + 1) = V j * 10 + (((⟨l.toArray⟩ : ByteArray)[j]'h).toNat - 48))) (he : k < l.length) (hp0 : k < (⟨l.toArray⟩ : ByteArray).size) (r : Nat) (hr : Hid (((l.drop (k + 1)).takeWhile isDig).length = r)) (hp1 : ((⟨l.toArray⟩ : ByteArray)[k]'hp0).toNat = 46) (hr0 : 1 ≤ r) (hr1 : r ≤ 4) (hrl : k + 1 + r ≤ l.length) (hrl2 : l.length ≤ k + 1 + r) (U : Nat → Nat) (hU0 : Hid (V k = U 0)) (hUb : Hid (∀ j, j < 4 → U j ≤ 1000000000000000000 ∧ U (j + 1) ≤ 18446744073709551615)) (hUs : Hid (∀ j (_ : j < r) (h : k + 1 + j < (⟨l.toArray⟩ : ByteArray).size), 48 ≤ ((⟨l.toArray⟩ : ByteArray)[k + 1 + j]'h).toNat ∧ ((⟨l.toArray⟩ : ByteArray)[k + 1 + j]'h).toNat ≤ 57 ∧ U (j + 1) = U j * 10 + (((⟨l.toArray⟩ : ByteArray)[k + 1 + j]'h).toNat - 48))) (hUz : Hid (∀ j, r ≤ j → j < 4 → U (j + 1) = U j * 10)) (hf : 9223372036854775807 < U 4) (w : World) : Calls Tryz.prog 98 #[.string ⟨l.toArray⟩] w fun e w' => e = .returned (.tuple #[.int .i64 0, .bool false]) ∧ w = w' := by
  rcases ht1 with ⟨ht1, ht2⟩ | ht1
  all_goals
    go_enter Tryz.func98, Tryz.ntmps98
    go_wp2_with (go_at_call 167; refine (rdigits_as l _ 0 k rfl hl (by omega) hk.out _).mono ?_; rintro e w1 ⟨rfl, rfl⟩)
    go_loop [7, 8] (fun n i => ∃ j : Nat, j ≤ k ∧ i = .int .i64 ((j : Int)) ∧ n = .int .u64 (V j : Int)) (fun _ i => k + 1 - (intOf i).toNat)
    case atStart => exact ⟨0, by omega, rfl, by rw [hV0.out]; rfl⟩
    case round =>
      obtain ⟨j, hj, rfl, rfl⟩ := hrel
      by_cases hlt : j < k
      · have hb : j < (⟨l.toArray⟩ : ByteArray).size := by show j < l.toArray.size; simp; omega
        obtain ⟨b1, b2, b3, b4⟩ := hVs.out j hlt hb
        have hc : ((j : Int)).toNat = j := by omega
        have b5 := Lib.hid b4
        clear b4
        go_wp2
        go_round
        case rel => exact ⟨j + 1, by omega, by go_num, by rw [b5.out]; go_num⟩
        case measure => simp [intOf]; omega
      · obtain rfl : j = k := by omega
        have hc : ((j : Int)).toNat = j := by omega
        go_wp2_with (go_at_call 167; refine (rdigits_as l _ (j + 1) r (by omega) hl (by omega) hr.out _).mono ?_; rintro e w1 ⟨rfl, rfl⟩)
        go_loop [7, 10] (fun n i => ∃ q : Nat, q ≤ 4 ∧ i = .int .i64 (q : Int) ∧ n = .int .u64 (U q : Int)) (fun _ i => 4 - (intOf i).toNat)
        case atStart => exact ⟨0, by omega, rfl, by rw [hU0.out]⟩
        case round =>
          obtain ⟨q, hq, rfl, rfl⟩ := hrel
          by_cases hlt4 : q < 4
          · obtain ⟨u1, u2⟩ := hUb.out q hlt4
            by_cases hqr : q < r
            · have hb : j + 1 + q < (⟨l.toArray⟩ : ByteArray).size := by show j + 1 + q < l.toArray.size; simp; omega
              have hc2 : ((j : Int) + 1 + (q : Int)).toNat = j + 1 + q := by omega
              obtain ⟨b1, b2, b4⟩ := hUs.out q hqr hb
              have b5 := Lib.hid b4
              clear b4
              go_wp2
              go_round
              case rel => exact ⟨q + 1, by omega, by go_num, by rw [b5.out]; go_num⟩
              case measure => simp [intOf]; omega
            · have b5 := Lib.hid (hUz.out q (by omega) hlt4)
              go_wp2
              go_round
              case rel => exact ⟨q + 1, by omega, by go_num, by rw [b5.out]; go_num⟩
              case measure => simp [intOf]; omega
          · obtain rfl : q = 4 := by omega
            go_wp2
            go_ret2
            exact ⟨rfl, rfl⟩
set_option maxRecDepth 100000 in
set_option maxHeartbeats 4000000 in
theorem rp0_good1 (l : List UInt8) (k : Nat) (hl : l.length ≤ 9223372036854775807) (hs0 : 0 < (⟨l.toArray⟩ : ByteArray).size) (hs1 : ¬ ((⟨l.toArray⟩ : ByteArray)[0]'hs0).toNat = 45) (hk : Hid (((l.drop 0).takeWhile isDig).length = k)) (hk0 : 1 ≤ k) (hk1 : k ≤ 15) (hkl : k ≤ l.length) (ht0 : 0 < (⟨l.toArray⟩ : ByteArray).size) (ht1 : ((⟨l.toArray⟩ : ByteArray)[0]'ht0).toNat = 48 ∧ k < 2 ∨ ¬ ((⟨l.toArray⟩ : ByteArray)[0]'ht0).toNat = 48) (V : Nat → Nat) (hV0 : Hid (V 0 = 0)) (hVs : Hid (∀ j (_ : j < k) (h : j < (⟨l.toArray⟩ : ByteArray).size), 48 ≤ ((⟨l.toArray⟩ : ByteArray)[j]'h).toNat ∧ ((⟨l.toArray⟩ : ByteArray)[j]'h).toNat ≤ 57 ∧ V j ≤ 1000000000000000 ∧ V (j + 1) = V j * 10 + (((⟨l.toArray⟩ : ByteArray)[j]'h).toNat - 48))) (he : k < l.length) (hp0 : k < (⟨l.toArray⟩ : ByteArray).size) (r : Nat) (hr : Hid (((l.drop (k + 1)).takeWhile isDig).length = r)) (hp1 : ((⟨l.toArray⟩ : ByteArray)[k]'hp0).toNat = 46) (hr0 : 1 ≤ r) (hr1 : r ≤ 4) (hrl : k + 1 + r ≤ l.length) (hrl2 : l.length ≤ k + 1 + r) (U : Nat → Nat) (hU0 : Hid (V k = U 0)) (hUb : Hid (∀ j, j < 4 → U j ≤ 1000000000000000000 ∧ U (j + 1) ≤ 18446744073709551615)) (hUs : Hid (∀ j (_ : j < r) (h : k + 1 + j < (⟨l.toArray⟩ : ByteArray).size), 48 ≤ ((⟨l.toArray⟩ : ByteArray)[k + 1 + j]'h).toNat ∧ ((⟨l.toArray⟩ : ByteArray)[k + 1 + j]'h).toNat ≤ 57 ∧ U (j + 1) = U j * 10 + (((⟨l.toArray⟩ : ByteArray)[k + 1 + j]'h).toNat - 48))) (hUz : Hid (∀ j, r ≤ j → j < 4 → U (j + 1) = U j * 10)) (hf : U 4 ≤ 9223372036854775807) (w : World) : Calls Tryz.prog 98 #[.string ⟨l.toArray⟩] w fun e w' => e = .returned (.tuple #[.int .i64 ((U 4 : Int)), .bool true]) ∧ w = w' := by
  rcases ht1 with ⟨ht1, ht2⟩ | ht1
  all_goals
    go_enter Tryz.func98, Tryz.ntmps98
    go_wp2_with (go_at_call 167; refine (rdigits_as l _ 0 k rfl hl (by omega) hk.out _).mono ?_; rintro e w1 ⟨rfl, rfl⟩)
    go_loop [7, 8] (fun n i => ∃ j : Nat, j ≤ k ∧ i = .int .i64 ((j : Int)) ∧ n = .int .u64 (V j : Int)) (fun _ i => k + 1 - (intOf i).toNat)
    case atStart => exact ⟨0, by omega, rfl, by rw [hV0.out]; rfl⟩
    case round =>
      obtain ⟨j, hj, rfl, rfl⟩ := hrel
      by_cases hlt : j < k
      · have hb : j < (⟨l.toArray⟩ : ByteArray).size := by show j < l.toArray.size; simp; omega
        obtain ⟨b1, b2, b3, b4⟩ := hVs.out j hlt hb
        have hc : ((j : Int)).toNat = j := by omega
        have b5 := Lib.hid b4
        clear b4
        go_wp2
        go_round
        case rel => exact ⟨j + 1, by omega, by go_num, by rw [b5.out]; go_num⟩
        case measure => simp [intOf]; omega
      · obtain rfl : j = k := by omega
        have hc : ((j : Int)).toNat = j := by omega
        go_wp2_with (go_at_call 167; refine (rdigits_as l _ (j + 1) r (by omega) hl (by omega) hr.out _).mono ?_; rintro e w1 ⟨rfl, rfl⟩)
        go_loop [7, 10] (fun n i => ∃ q : Nat, q ≤ 4 ∧ i = .int .i64 (q : Int) ∧ n = .int .u64 (U q : Int)) (fun _ i => 4 - (intOf i).toNat)
        case atStart => exact ⟨0, by omega, rfl, by rw [hU0.out]⟩
        case round =>
          obtain ⟨q, hq, rfl, rfl⟩ := hrel
          by_cases hlt4 : q < 4
          · obtain ⟨u1, u2⟩ := hUb.out q hlt4
            by_cases hqr : q < r
            · have hb : j + 1 + q < (⟨l.toArray⟩ : ByteArray).size := by show j + 1 + q < l.toArray.size; simp; omega
              have hc2 : ((j : Int) + 1 + (q : Int)).toNat = j + 1 + q := by omega
              obtain ⟨b1, b2, b4⟩ := hUs.out q hqr hb
              have b5 := Lib.hid b4
              clear b4
              go_wp2
              go_round
              case rel => exact ⟨q + 1, by omega, by go_num, by rw [b5.out]; go_num⟩
              case measure => simp [intOf]; omega
            · have b5 := Lib.hid (hUz.out q (by omega) hlt4)
              go_wp2
              go_round
              case rel => exact ⟨q + 1, by omega, by go_num, by rw [b5.out]; go_num⟩
              case measure => simp [intOf]; omega
          · obtain rfl : q = 4 := by omega
            have hex : exV ((U 4 : Int)) = (U 4 : Int) := by unfold exV; rw [if_pos (by omega)]
            have hex' := Lib.hid hex
            clear hex
            go_wp2_with (go_at_call 168; refine (rsigned_any (U 4 : Int) (by omega) false _).mono ?_; rintro e w1 ⟨rfl, rfl⟩)
            go_ret2
            exact ⟨ret_ib hex'.out rfl, rfl⟩
end Go.Proofs.YtgmhifafbebjfaaGreatDoor
