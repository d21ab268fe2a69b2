/-
  The document's quotient, by cases.
-/
import Derived.Test.YtjnjklcnccfgaaaDoorDDvA
import Derived.WalkSpells
import Derived.WalkLawsBesides
import Derived.StillTactics
import Derived.Laws.Pointers
import Derived.Deep.RegionHeld3
import Derived.Deep.QuietTactic
import Derived.BigQuiet
import Derived.RowKit3
import Derived.Lib.Hide
import Derived.Lib.OthersKept
import Derived.OwnWalk
import Derived.Lib.IndexLaws
import Derived.Lib.ItoaMem
namespace Go.Proofs.YtjnjklcnccfgaaaDoor
open Go.RowKit

set_option maxHeartbeats 400000 in
theorem rdiv_a (a b : Int) (ha : -9223372036854775808 ≤ a ∧ a ≤ 9223372036854775807) (hb : -9223372036854775808 ≤ b ∧ b ≤ 9223372036854775807) (h : a = -9223372036854775808) (w : World) : Calls Tryd.prog 64 #[.int .i64 a, .int .i64 b] w fun e w' => e = .returned (.tuple #[.int .i64 0, .int .i64 2]) ∧ w = w' := by
  have m1 := may_no h
  clear h
  go_enter Tryd.func64, Tryd.ntmps64
  go_wp2_with (go_at_call 51; refine (drmay_any _ (by first | assumption | (constructor <;> omega)) _).mono ?_; rintro e w1 ⟨rfl, rfl⟩)
  go_ret2
  exact ⟨rfl, rfl⟩
set_option maxHeartbeats 400000 in
theorem rdiv_b (a b : Int) (ha : -9223372036854775808 ≤ a ∧ a ≤ 9223372036854775807) (hb : -9223372036854775808 ≤ b ∧ b ≤ 9223372036854775807) (h : a ≠ -9223372036854775808) (h2 : b = -9223372036854775808) (w : World) : Calls Tryd.prog 64 #[.int .i64 a, .int .i64 b] w fun e w' => e = .returned (.tuple #[.int .i64 0, .int .i64 2]) ∧ w = w' := by
  have m1 := may_yes h
  have m2 := may_no h2
  clear h h2
  go_enter Tryd.func64, Tryd.ntmps64
  go_wp2_with (go_at_call 51; refine (drmay_any _ (by first | assumption | (constructor <;> omega)) _).mono ?_; rintro e w1 ⟨rfl, rfl⟩)
  go_ret2
  exact ⟨rfl, rfl⟩
set_option maxHeartbeats 400000 in
theorem rdiv_0 (a b : Int) (ha : -9223372036854775808 ≤ a ∧ a ≤ 9223372036854775807) (hb : -9223372036854775808 ≤ b ∧ b ≤ 9223372036854775807) (h : a ≠ -9223372036854775808) (h2 : b = 0) (w : World) : Calls Tryd.prog 64 #[.int .i64 a, .int .i64 b] w fun e w' => e = .returned (.tuple #[.int .i64 0, .int .i64 3]) ∧ w = w' := by
  subst h2
  have m1 := may_yes h
  have m2 : decMay 0 = true := by decide
  clear h
  go_enter Tryd.func64, Tryd.ntmps64
  go_wp2_with (go_at_call 51; refine (drmay_any _ (by first | assumption | (constructor <;> omega)) _).mono ?_; rintro e w1 ⟨rfl, rfl⟩)
  go_ret2
  exact ⟨rfl, rfl⟩
set_option maxRecDepth 100000 in
set_option maxHeartbeats 4000000 in
theorem rdiv_big (a b : Int) (ha : -9223372036854775808 ≤ a ∧ a ≤ 9223372036854775807) (hb : -9223372036854775808 ≤ b ∧ b ≤ 9223372036854775807) (h : a ≠ -9223372036854775808) (h2 : b ≠ -9223372036854775808) (h3 : b ≠ 0) (m n : Nat) (hm : a.natAbs = m) (hn : b.natAbs = n) (hmb : m ≤ 9223372036854775807 ∧ 0 ≤ m) (hnb : n ≤ 9223372036854775807 ∧ 1 ≤ n) (Q R : Nat → Nat) (c t : Nat → Nat → Nat) (T1 : IntKind.u64.wrap ((m : Int).tdiv n) = (Q 0 : Int)) (T1b : (m : Int) / n = (Q 0 : Int)) (T0 : IntKind.u64.wrap (Q 0 : Int) = (Q 0 : Int)) (T2 : (m : Int).tmod n = (R 0 : Int)) (T2b : (m : Int) % n = (R 0 : Int)) (st : Nat) (hst : st ≤ 4 ∧ 0 ≤ st) (hQ : Hid (∀ i, i < st → Q i ≤ 922337203685477580)) (hR : Hid (∀ i, i ≤ 4 → R i < n)) (hc0 : Hid (∀ i, c i 0 = 0 ∧ t i 0 = 0)) (hc : Hid (∀ i j, i < 4 → j < 10 → t i j < n ∧ c i j ≤ 9 ∧ (t i j + R i < n → t i (j + 1) = t i j + R i ∧ c i (j + 1) = c i j) ∧ (n ≤ t i j + R i → t i (j + 1) + n = t i j + R i ∧ c i (j + 1) = c i j + 1))) (hc10 : Hid (∀ i, i < 4 → Q (i + 1) = 10 * Q i + c i 10 ∧ R (i + 1) = t i 10)) (hst4 : st < 4) (hf : 922337203685477580 < Q st) (w : World) : Calls Tryd.prog 64 #[.int .i64 a, .int .i64 b] w fun e w' => e = .returned (.tuple #[.int .i64 0, .int .i64 2]) ∧ w = w' := by
  have y1 := may_yes h
  have y2 := may_yes h2
  have n3 : (b == 0) = false := by simpa using h3
  have hm' := Lib.hid hm
  have hn' := Lib.hid hn
  clear h h2 h3 hm hn
  go_enter Tryd.func64, Tryd.ntmps64
  go_wp2_with (go_at_call 51; refine (drmay_any _ (by first | assumption | (constructor <;> omega)) _).mono ?_; rintro e w1 ⟨rfl, rfl⟩)
  refine (rsize_nat a m ha hm'.out _).mono ?_
  rintro e w' ⟨rfl, rfl⟩
  go_wp2_with fail
  refine (rsize_nat b n hb hn'.out _).mono ?_
  rintro e w' ⟨rfl, rfl⟩
  go_wp2
  go_loop [10, 11, 12] (fun qv rv iv => ∃ i : Nat, i ≤ st ∧ iv = .int .i64 (i : Int) ∧ qv = .int .u64 (Q i : Int) ∧ rv = .int .u64 (R i : Int)) (fun _ _ iv => 4 - (intOf iv).toNat)
  case atStart => exact ⟨0, by omega, rfl, rfl, rfl⟩
  case round =>
    obtain ⟨i, hi, rfl, rfl, rfl⟩ := hrel
    by_cases hlt : i < st
    · have hi4 : i < 4 ∧ 0 ≤ i := by omega
      have hq1 := hQ.out i hlt
      have hq2 : Q i ≤ 922337203685477580 ∧ 0 ≤ Q i := ⟨hq1, Nat.zero_le _⟩
      have hr1 : R i < n ∧ 0 ≤ R i := ⟨hR.out i (by omega), Nat.zero_le _⟩
      have hqB : decide ((922337203685477580 : Int) < (Q i : Int)) = false := decide_eq_false (by omega)
      clear hq1
      have z0 := Lib.hid (hc0.out i)
      go_wp2
      go_loop [10, 13, 14] (fun qv tv jv => ∃ j : Nat, j ≤ 10 ∧ jv = .int .i64 (j : Int) ∧ qv = .int .u64 (10 * (Q i : Int) + (c i j : Int)) ∧ tv = .int .u64 (t i j : Int)) (fun _ _ jv => 10 - (intOf jv).toNat)
      case atStart => exact ⟨0, by omega, rfl, by rw [z0.out.1]; go_num, by rw [z0.out.2]; rfl⟩
      case round =>
        obtain ⟨j, hj, rfl, rfl, rfl⟩ := hrel
        by_cases hj10 : j < 10
        · obtain ⟨k1, k2, k3, k4⟩ := hc.out i j (by omega) hj10
          have kk : t i j < n ∧ c i j ≤ 9 := ⟨k1, k2⟩
          clear k1 k2
          by_cases hlt2 : t i j + R i < n
          · obtain ⟨g1, g2⟩ := k3 hlt2
            have g1' := Lib.hid g1
            have g2' := Lib.hid g2
            have hB : decide ((n : Int) ≤ (t i j : Int) + (R i : Int)) = false := decide_eq_false (by omega)
            clear k3 k4 g1 g2 hlt2
            go_wp2
            go_round
            case rel => exact ⟨j + 1, by omega, by go_num, by rw [g2'.out], by rw [g1'.out]; go_num⟩
            case measure => simp [intOf]; omega
          · obtain ⟨g1, g2⟩ := k4 (by omega)
            have g1' := Lib.hid g1
            have g2' := Lib.hid g2
            have hB : decide ((n : Int) ≤ (t i j : Int) + (R i : Int)) = true := decide_eq_true (by omega)
            have hB2 : (n : Int) ≤ (t i j : Int) + (R i : Int) ∧ 0 ≤ (n : Int) := by omega
            clear k3 k4 g1 g2 hlt2
            go_wp2
            go_round
            case rel => exact ⟨j + 1, by omega, by go_num, by rw [g2'.out]; go_num, congrArg (Value.int IntKind.u64) (by have := g1'.out; omega)⟩
            case measure => simp [intOf]; omega
        · obtain rfl : j = 10 := by omega
          have g := Lib.hid (hc10.out i (by omega))
          go_wp2
          go_round
          case rel => exact ⟨i + 1, by omega, by go_num, by rw [g.out.1]; go_num, by rw [g.out.2]⟩
          case measure => simp [intOf]; omega
    · obtain rfl : i = st := by omega
      go_wp2
      go_ret2
      exact ⟨rfl, rfl⟩
set_option maxRecDepth 100000 in
set_option maxHeartbeats 4000000 in
theorem rdiv_dn (a b : Int) (ha : -9223372036854775808 ≤ a ∧ a ≤ 9223372036854775807) (hb : -9223372036854775808 ≤ b ∧ b ≤ 9223372036854775807) (h : a ≠ -9223372036854775808) (h2 : b ≠ -9223372036854775808) (h3 : b ≠ 0) (m n : Nat) (hm : a.natAbs = m) (hn : b.natAbs = n) (hmb : m ≤ 9223372036854775807 ∧ 0 ≤ m) (hnb : n ≤ 9223372036854775807 ∧ 1 ≤ n) (Q R : Nat → Nat) (c t : Nat → Nat → Nat) (T1 : IntKind.u64.wrap ((m : Int).tdiv n) = (Q 0 : Int)) (T1b : (m : Int) / n = (Q 0 : Int)) (T0 : IntKind.u64.wrap (Q 0 : Int) = (Q 0 : Int)) (T2 : (m : Int).tmod n = (R 0 : Int)) (T2b : (m : Int) % n = (R 0 : Int)) (st : Nat) (hst : st ≤ 4 ∧ 0 ≤ st) (hQ : Hid (∀ i, i < st → Q i ≤ 922337203685477580)) (hR : Hid (∀ i, i ≤ 4 → R i < n)) (hc0 : Hid (∀ i, c i 0 = 0 ∧ t i 0 = 0)) (hc : Hid (∀ i j, i < 4 → j < 10 → t i j < n ∧ c i j ≤ 9 ∧ (t i j + R i < n → t i (j + 1) = t i j + R i ∧ c i (j + 1) = c i j) ∧ (n ≤ t i j + R i → t i (j + 1) + n = t i j + R i ∧ c i (j + 1) = c i j + 1))) (hc10 : Hid (∀ i, i < 4 → Q (i + 1) = 10 * Q i + c i 10 ∧ R (i + 1) = t i 10)) (hst4 : Hid (st = 4)) (hQ4 : Q 4 ≤ 9223372036854775809 ∧ 0 ≤ Q 4) (hR4 : R 4 < n ∧ 0 ≤ R 4) (low : Bool) (hlow : (decide (a < 0) != decide (b < 0)) = low) (hu : decide ((n : Int) - (R 4 : Int) ≤ (R 4 : Int)) = false) (w : World) : Calls Tryd.prog 64 #[.int .i64 a, .int .i64 b] w fun e w' => e = .returned (.tuple #[.int .i64 (exV (if low then -(Q 4 : Int) else (Q 4 : Int))), .int .i64 (exC (if low then -(Q 4 : Int) else (Q 4 : Int)))]) ∧ w = w' := by
  have y1 := may_yes h
  have y2 := may_yes h2
  have n3 : (b == 0) = false := by simpa using h3
  have hm' := Lib.hid hm
  have hn' := Lib.hid hn
  clear h h2 h3 hm hn
  have hl2 : (!(decide (a < 0) == decide (b < 0))) = low := hlow
  clear hlow
  go_enter Tryd.func64, Tryd.ntmps64
  go_wp2_with (go_at_call 51; refine (drmay_any _ (by first | assumption | (constructor <;> omega)) _).mono ?_; rintro e w1 ⟨rfl, rfl⟩)
  refine (rsize_nat a m ha hm'.out _).mono ?_
  rintro e w' ⟨rfl, rfl⟩
  go_wp2_with fail
  refine (rsize_nat b n hb hn'.out _).mono ?_
  rintro e w' ⟨rfl, rfl⟩
  go_wp2
  go_loop [10, 11, 12] (fun qv rv iv => ∃ i : Nat, i ≤ st ∧ iv = .int .i64 (i : Int) ∧ qv = .int .u64 (Q i : Int) ∧ rv = .int .u64 (R i : Int)) (fun _ _ iv => 4 - (intOf iv).toNat)
  case atStart => exact ⟨0, by omega, rfl, rfl, rfl⟩
  case round =>
    obtain ⟨i, hi, rfl, rfl, rfl⟩ := hrel
    by_cases hlt : i < st
    · have hi4 : i < 4 ∧ 0 ≤ i := by omega
      have hq1 := hQ.out i hlt
      have hq2 : Q i ≤ 922337203685477580 ∧ 0 ≤ Q i := ⟨hq1, Nat.zero_le _⟩
      have hr1 : R i < n ∧ 0 ≤ R i := ⟨hR.out i (by omega), Nat.zero_le _⟩
      have hqB : decide ((922337203685477580 : Int) < (Q i : Int)) = false := decide_eq_false (by omega)
      clear hq1
      have z0 := Lib.hid (hc0.out i)
      go_wp2
      go_loop [10, 13, 14] (fun qv tv jv => ∃ j : Nat, j ≤ 10 ∧ jv = .int .i64 (j : Int) ∧ qv = .int .u64 (10 * (Q i : Int) + (c i j : Int)) ∧ tv = .int .u64 (t i j : Int)) (fun _ _ jv => 10 - (intOf jv).toNat)
      case atStart => exact ⟨0, by omega, rfl, by rw [z0.out.1]; go_num, by rw [z0.out.2]; rfl⟩
      case round =>
        obtain ⟨j, hj, rfl, rfl, rfl⟩ := hrel
        by_cases hj10 : j < 10
        · obtain ⟨k1, k2, k3, k4⟩ := hc.out i j (by omega) hj10
          have kk : t i j < n ∧ c i j ≤ 9 := ⟨k1, k2⟩
          clear k1 k2
          by_cases hlt2 : t i j + R i < n
          · obtain ⟨g1, g2⟩ := k3 hlt2
            have g1' := Lib.hid g1
            have g2' := Lib.hid g2
            have hB : decide ((n : Int) ≤ (t i j : Int) + (R i : Int)) = false := decide_eq_false (by omega)
            clear k3 k4 g1 g2 hlt2
            go_wp2
            go_round
            case rel => exact ⟨j + 1, by omega, by go_num, by rw [g2'.out], by rw [g1'.out]; go_num⟩
            case measure => simp [intOf]; omega
          · obtain ⟨g1, g2⟩ := k4 (by omega)
            have g1' := Lib.hid g1
            have g2' := Lib.hid g2
            have hB : decide ((n : Int) ≤ (t i j : Int) + (R i : Int)) = true := decide_eq_true (by omega)
            have hB2 : (n : Int) ≤ (t i j : Int) + (R i : Int) ∧ 0 ≤ (n : Int) := by omega
            clear k3 k4 g1 g2 hlt2
            go_wp2
            go_round
            case rel => exact ⟨j + 1, by omega, by go_num, by rw [g2'.out]; go_num, congrArg (Value.int IntKind.u64) (by have := g1'.out; omega)⟩
            case measure => simp [intOf]; omega
        · obtain rfl : j = 10 := by omega
          have g := Lib.hid (hc10.out i (by omega))
          go_wp2
          go_round
          case rel => exact ⟨i + 1, by omega, by go_num, by rw [g.out.1]; go_num, by rw [g.out.2]⟩
          case measure => simp [intOf]; omega
    · have e4 : i = 4 := by have := hst4.out; omega
      subst e4
      go_wp2_with fail
      have hsg := rsigned_any (Q 4 : Int) (by omega) low w
      with_reducible refine hsg.mono ?_
      clear hsg
      rintro e w' ⟨rfl, rfl⟩
      go_wp2
      all_goals go_ret2
      all_goals exact ⟨rfl, rfl⟩
set_option maxRecDepth 100000 in
set_option maxHeartbeats 4000000 in
theorem rdiv_up (a b : Int) (ha : -9223372036854775808 ≤ a ∧ a ≤ 9223372036854775807) (hb : -9223372036854775808 ≤ b ∧ b ≤ 9223372036854775807) (h : a ≠ -9223372036854775808) (h2 : b ≠ -9223372036854775808) (h3 : b ≠ 0) (m n : Nat) (hm : a.natAbs = m) (hn : b.natAbs = n) (hmb : m ≤ 9223372036854775807 ∧ 0 ≤ m) (hnb : n ≤ 9223372036854775807 ∧ 1 ≤ n) (Q R : Nat → Nat) (c t : Nat → Nat → Nat) (T1 : IntKind.u64.wrap ((m : Int).tdiv n) = (Q 0 : Int)) (T1b : (m : Int) / n = (Q 0 : Int)) (T0 : IntKind.u64.wrap (Q 0 : Int) = (Q 0 : Int)) (T2 : (m : Int).tmod n = (R 0 : Int)) (T2b : (m : Int) % n = (R 0 : Int)) (st : Nat) (hst : st ≤ 4 ∧ 0 ≤ st) (hQ : Hid (∀ i, i < st → Q i ≤ 922337203685477580)) (hR : Hid (∀ i, i ≤ 4 → R i < n)) (hc0 : Hid (∀ i, c i 0 = 0 ∧ t i 0 = 0)) (hc : Hid (∀ i j, i < 4 → j < 10 → t i j < n ∧ c i j ≤ 9 ∧ (t i j + R i < n → t i (j + 1) = t i j + R i ∧ c i (j + 1) = c i j) ∧ (n ≤ t i j + R i → t i (j + 1) + n = t i j + R i ∧ c i (j + 1) = c i j + 1))) (hc10 : Hid (∀ i, i < 4 → Q (i + 1) = 10 * Q i + c i 10 ∧ R (i + 1) = t i 10)) (hst4 : Hid (st = 4)) (hQ4 : Q 4 ≤ 9223372036854775809 ∧ 0 ≤ Q 4) (hR4 : R 4 < n ∧ 0 ≤ R 4) (low : Bool) (hlow : (decide (a < 0) != decide (b < 0)) = low) (hu : decide ((n : Int) - (R 4 : Int) ≤ (R 4 : Int)) = true) (w : World) : Calls Tryd.prog 64 #[.int .i64 a, .int .i64 b] w fun e w' => e = .returned (.tuple #[.int .i64 (exV (if low then -((Q 4 : Int) + 1) else ((Q 4 : Int) + 1))), .int .i64 (exC (if low then -((Q 4 : Int) + 1) else ((Q 4 : Int) + 1)))]) ∧ w = w' := by
  have y1 := may_yes h
  have y2 := may_yes h2
  have n3 : (b == 0) = false := by simpa using h3
  have hm' := Lib.hid hm
  have hn' := Lib.hid hn
  clear h h2 h3 hm hn
  have hl2 : (!(decide (a < 0) == decide (b < 0))) = low := hlow
  clear hlow
  go_enter Tryd.func64, Tryd.ntmps64
  go_wp2_with (go_at_call 51; refine (drmay_any _ (by first | assumption | (constructor <;> omega)) _).mono ?_; rintro e w1 ⟨rfl, rfl⟩)
  refine (rsize_nat a m ha hm'.out _).mono ?_
  rintro e w' ⟨rfl, rfl⟩
  go_wp2_with fail
  refine (rsize_nat b n hb hn'.out _).mono ?_
  rintro e w' ⟨rfl, rfl⟩
  go_wp2
  go_loop [10, 11, 12] (fun qv rv iv => ∃ i : Nat, i ≤ st ∧ iv = .int .i64 (i : Int) ∧ qv = .int .u64 (Q i : Int) ∧ rv = .int .u64 (R i : Int)) (fun _ _ iv => 4 - (intOf iv).toNat)
  case atStart => exact ⟨0, by omega, rfl, rfl, rfl⟩
  case round =>
    obtain ⟨i, hi, rfl, rfl, rfl⟩ := hrel
    by_cases hlt : i < st
    · have hi4 : i < 4 ∧ 0 ≤ i := by omega
      have hq1 := hQ.out i hlt
      have hq2 : Q i ≤ 922337203685477580 ∧ 0 ≤ Q i := ⟨hq1, Nat.zero_le _⟩
      have hr1 : R i < n ∧ 0 ≤ R i := ⟨hR.out i (by omega), Nat.zero_le _⟩
      have hqB : decide ((922337203685477580 : Int) < (Q i : Int)) = false := decide_eq_false (by omega)
      clear hq1
      have z0 := Lib.hid (hc0.out i)
      go_wp2
      go_loop [10, 13, 14] (fun qv tv jv => ∃ j : Nat, j ≤ 10 ∧ jv = .int .i64 (j : Int) ∧ qv = .int .u64 (10 * (Q i : Int) + (c i j : Int)) ∧ tv = .int .u64 (t i j : Int)) (fun _ _ jv => 10 - (intOf jv).toNat)
      case atStart => exact ⟨0, by omega, rfl, by rw [z0.out.1]; go_num, by rw [z0.out.2]; rfl⟩
      case round =>
        obtain ⟨j, hj, rfl, rfl, rfl⟩ := hrel
        by_cases hj10 : j < 10
        · obtain ⟨k1, k2, k3, k4⟩ := hc.out i j (by omega) hj10
          have kk : t i j < n ∧ c i j ≤ 9 := ⟨k1, k2⟩
          clear k1 k2
          by_cases hlt2 : t i j + R i < n
          · obtain ⟨g1, g2⟩ := k3 hlt2
            have g1' := Lib.hid g1
            have g2' := Lib.hid g2
            have hB : decide ((n : Int) ≤ (t i j : Int) + (R i : Int)) = false := decide_eq_false (by omega)
            clear k3 k4 g1 g2 hlt2
            go_wp2
            go_round
            case rel => exact ⟨j + 1, by omega, by go_num, by rw [g2'.out], by rw [g1'.out]; go_num⟩
            case measure => simp [intOf]; omega
          · obtain ⟨g1, g2⟩ := k4 (by omega)
            have g1' := Lib.hid g1
            have g2' := Lib.hid g2
            have hB : decide ((n : Int) ≤ (t i j : Int) + (R i : Int)) = true := decide_eq_true (by omega)
            have hB2 : (n : Int) ≤ (t i j : Int) + (R i : Int) ∧ 0 ≤ (n : Int) := by omega
            clear k3 k4 g1 g2 hlt2
            go_wp2
            go_round
            case rel => exact ⟨j + 1, by omega, by go_num, by rw [g2'.out]; go_num, congrArg (Value.int IntKind.u64) (by have := g1'.out; omega)⟩
            case measure => simp [intOf]; omega
        · obtain rfl : j = 10 := by omega
          have g := Lib.hid (hc10.out i (by omega))
          go_wp2
          go_round
          case rel => exact ⟨i + 1, by omega, by go_num, by rw [g.out.1]; go_num, by rw [g.out.2]⟩
          case measure => simp [intOf]; omega
    · have e4 : i = 4 := by have := hst4.out; omega
      subst e4
      go_wp2_with fail
      have hsg := rsigned_any ((Q 4 : Int) + 1) (by omega) low w
      with_reducible refine hsg.mono ?_
      clear hsg
      rintro e w' ⟨rfl, rfl⟩
      go_wp2
      all_goals go_ret2
      all_goals exact ⟨rfl, rfl⟩
end Go.Proofs.YtjnjklcnccfgaaaDoor
