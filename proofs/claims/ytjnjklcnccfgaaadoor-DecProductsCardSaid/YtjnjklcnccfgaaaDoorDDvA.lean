/-
  Package dec: Div.
-/
import Derived.Test.YtjnjklcnccfgaaaDoorDMulA
import Derived.WalkSpells
import Derived.WalkLawsBesides
import Derived.StillTactics
import Derived.Laws.Pointers
import Derived.Deep.RegionHeld3
import Derived.Deep.QuietTactic
import Derived.BigQuiet
import Derived.RowKit3
import Derived.Lib.Hide
import Derived.Lib.OthersKept
import Derived.OwnWalk
import Derived.Lib.IndexLaws
import Derived.Lib.ItoaMem
namespace Go.Proofs.YtjnjklcnccfgaaaDoor
open Go.RowKit

/-- a quotient's size: parts of one, the half up -/
def divN (m n : Nat) : Nat := m * 10000 / n + if n ≤ 2 * (m * 10000 % n) then 1 else 0
def divV (a b : Int) : Int := if a = -9223372036854775808 ∨ b = -9223372036854775808 ∨ b = 0 then 0 else exV (sgn2 a b (divN a.natAbs b.natAbs))
def divC (a b : Int) : Int := if a = -9223372036854775808 ∨ b = -9223372036854775808 then 2 else if b = 0 then 3 else exC (sgn2 a b (divN a.natAbs b.natAbs))
set_option maxHeartbeats 400000 in
theorem ddiv_a (a b : Int) (ha : -9223372036854775808 ≤ a ∧ a ≤ 9223372036854775807) (hb : -9223372036854775808 ≤ b ∧ b ≤ 9223372036854775807) (h : a = -9223372036854775808) (w : World) : Calls Tryd.prog 63 #[.int .i64 a, .int .i64 b] w fun e w' => e = .returned (.tuple #[.int .i64 0, .int .i64 2]) ∧ w = w' := by
  have m1 := may_no h
  clear h
  go_enter Tryd.func63, Tryd.ntmps63
  go_wp2_with (go_at_call 59; refine (dmay_any _ (by first | assumption | (constructor <;> omega)) _).mono ?_; rintro e w1 ⟨rfl, rfl⟩)
  go_ret2
  exact ⟨rfl, rfl⟩
set_option maxHeartbeats 400000 in
theorem ddiv_b (a b : Int) (ha : -9223372036854775808 ≤ a ∧ a ≤ 9223372036854775807) (hb : -9223372036854775808 ≤ b ∧ b ≤ 9223372036854775807) (h : a ≠ -9223372036854775808) (h2 : b = -9223372036854775808) (w : World) : Calls Tryd.prog 63 #[.int .i64 a, .int .i64 b] w fun e w' => e = .returned (.tuple #[.int .i64 0, .int .i64 2]) ∧ w = w' := by
  have m1 := may_yes h
  have m2 := may_no h2
  clear h h2
  go_enter Tryd.func63, Tryd.ntmps63
  go_wp2_with (go_at_call 59; refine (dmay_any _ (by first | assumption | (constructor <;> omega)) _).mono ?_; rintro e w1 ⟨rfl, rfl⟩)
  go_ret2
  exact ⟨rfl, rfl⟩
set_option maxHeartbeats 400000 in
theorem ddiv_0 (a b : Int) (ha : -9223372036854775808 ≤ a ∧ a ≤ 9223372036854775807) (hb : -9223372036854775808 ≤ b ∧ b ≤ 9223372036854775807) (h : a ≠ -9223372036854775808) (h2 : b = 0) (w : World) : Calls Tryd.prog 63 #[.int .i64 a, .int .i64 b] w fun e w' => e = .returned (.tuple #[.int .i64 0, .int .i64 3]) ∧ w = w' := by
  subst h2
  have m1 := may_yes h
  have m2 : decMay 0 = true := by decide
  clear h
  go_enter Tryd.func63, Tryd.ntmps63
  go_wp2_with (go_at_call 59; refine (dmay_any _ (by first | assumption | (constructor <;> omega)) _).mono ?_; rintro e w1 ⟨rfl, rfl⟩)
  go_ret2
  exact ⟨rfl, rfl⟩
set_option maxRecDepth 100000 in
set_option maxHeartbeats 2000000 in
theorem ddiv_big (a b : Int) (ha : -9223372036854775808 ≤ a ∧ a ≤ 9223372036854775807) (hb : -9223372036854775808 ≤ b ∧ b ≤ 9223372036854775807) (h : a ≠ -9223372036854775808) (h2 : b ≠ -9223372036854775808) (h3 : b ≠ 0) (m n gh gl : Nat) (hm : a.natAbs = m) (hn : b.natAbs = n) (hm1 : m ≤ 9223372036854775807 ∧ 0 ≤ m) (hn1 : n ≤ 9223372036854775807 ∧ 1 ≤ n) (hgh : Hid (m * 10000 / 18446744073709551616 = gh)) (hgl : Hid (m * 10000 % 18446744073709551616 = gl)) (hgb : gl < 18446744073709551616 ∧ 0 ≤ gl) (hgb2 : gh < 18446744073709551616 ∧ 0 ≤ gh) (hc : decide ((n : Int) ≤ (gh : Int)) = true) (hc2 : decide (n ≤ gh) = true) (w : World) : Calls Tryd.prog 63 #[.int .i64 a, .int .i64 b] w fun e w' => e = .returned (.tuple #[.int .i64 0, .int .i64 2]) ∧ w = w' := by
  have m1 := may_yes h
  have m2 := may_yes h2
  have n3 : (b == 0) = false := by simpa using h3
  have hm' := Lib.hid hm
  have hn' := Lib.hid hn
  clear h h2 h3 hm hn
  go_enter Tryd.func63, Tryd.ntmps63
  go_wp2_with (go_at_call 59; refine (dmay_any _ (by first | assumption | (constructor <;> omega)) _).mono ?_; rintro e w1 ⟨rfl, rfl⟩)
  refine (size_nat a m ha hm'.out _).mono ?_
  rintro e w' ⟨rfl, rfl⟩
  go_wp2_with fail
  refine (size_nat b n hb hn'.out _).mono ?_
  rintro e w' ⟨rfl, rfl⟩
  go_wp2_with fail
  refine (mul64_r _ m 10000 gh gl rfl (by omega) (by omega) hgh.out hgl.out _).mono ?_
  rintro e w' ⟨rfl, rfl⟩
  go_wp2
  go_ret2
  exact ⟨rfl, rfl⟩
set_option maxRecDepth 100000 in
set_option maxHeartbeats 2000000 in
theorem ddiv_dn (a b : Int) (ha : -9223372036854775808 ≤ a ∧ a ≤ 9223372036854775807) (hb : -9223372036854775808 ≤ b ∧ b ≤ 9223372036854775807) (h : a ≠ -9223372036854775808) (h2 : b ≠ -9223372036854775808) (h3 : b ≠ 0) (m n gh gl : Nat) (hm : a.natAbs = m) (hn : b.natAbs = n) (hm1 : m ≤ 9223372036854775807 ∧ 0 ≤ m) (hn1 : n ≤ 9223372036854775807 ∧ 1 ≤ n) (hgh : Hid (m * 10000 / 18446744073709551616 = gh)) (hgl : Hid (m * 10000 % 18446744073709551616 = gl)) (hgb : gl < 18446744073709551616 ∧ 0 ≤ gl) (hgb2 : gh < 18446744073709551616 ∧ 0 ≤ gh) (hc : decide ((n : Int) ≤ (gh : Int)) = false) (hc2 : decide (n ≤ gh) = false) (q r : Nat) (hq : Hid ((gh * 18446744073709551616 + gl) / n = q)) (hr : Hid ((gh * 18446744073709551616 + gl) % n = r)) (hqb : q < 18446744073709551616 ∧ 0 ≤ q) (hrn : r < n ∧ 0 ≤ r) (low : Bool) (hlow : (decide (a < 0) != decide (b < 0)) = low) (hu : decide ((n : Int) - (r : Int) ≤ (r : Int)) = false) (w : World) : Calls Tryd.prog 63 #[.int .i64 a, .int .i64 b] w fun e w' => e = .returned (.tuple #[.int .i64 (exV (if low then -(q : Int) else (q : Int))), .int .i64 (exC (if low then -(q : Int) else (q : Int)))]) ∧ Below w.heap.size w w' := by
  have m1 := may_yes h
  have m2 := may_yes h2
  have n3 : (b == 0) = false := by simpa using h3
  have hm' := Lib.hid hm
  have hn' := Lib.hid hn
  clear h h2 h3 hm hn
  go_enter Tryd.func63, Tryd.ntmps63
  go_wp2_with (go_at_call 59; refine (dmay_any _ (by first | assumption | (constructor <;> omega)) _).mono ?_; rintro e w1 ⟨rfl, rfl⟩)
  refine (size_nat a m ha hm'.out _).mono ?_
  rintro e w' ⟨rfl, rfl⟩
  go_wp2_with fail
  refine (size_nat b n hb hn'.out _).mono ?_
  rintro e w' ⟨rfl, rfl⟩
  go_wp2_with fail
  refine (mul64_r _ m 10000 gh gl rfl (by omega) (by omega) hgh.out hgl.out _).mono ?_
  rintro e w' ⟨rfl, rfl⟩
  have hl2 : (!(decide (a < 0) == decide (b < 0))) = low := hlow
  clear hlow
  go_wp2_with fail
  have hghc : gh < n := by have := of_decide_eq_false hc; omega
  refine (div64_r _ _ _ gh gl n q r rfl rfl rfl (by omega) (by omega) hghc hq.out hr.out _).mono ?_
  rintro e w1 ⟨rfl, hb1⟩
  clear hghc
  go_wp2_with fail
  have hsg := signed_any (q : Int) (by omega) low w1
  with_reducible refine hsg.mono ?_
  clear hsg
  rintro e w' ⟨rfl, rfl⟩
  go_wp2
  all_goals go_ret2
  all_goals exact ⟨rfl, hb1⟩
set_option maxRecDepth 100000 in
set_option maxHeartbeats 2000000 in
theorem ddiv_up (a b : Int) (ha : -9223372036854775808 ≤ a ∧ a ≤ 9223372036854775807) (hb : -9223372036854775808 ≤ b ∧ b ≤ 9223372036854775807) (h : a ≠ -9223372036854775808) (h2 : b ≠ -9223372036854775808) (h3 : b ≠ 0) (m n gh gl : Nat) (hm : a.natAbs = m) (hn : b.natAbs = n) (hm1 : m ≤ 9223372036854775807 ∧ 0 ≤ m) (hn1 : n ≤ 9223372036854775807 ∧ 1 ≤ n) (hgh : Hid (m * 10000 / 18446744073709551616 = gh)) (hgl : Hid (m * 10000 % 18446744073709551616 = gl)) (hgb : gl < 18446744073709551616 ∧ 0 ≤ gl) (hgb2 : gh < 18446744073709551616 ∧ 0 ≤ gh) (hc : decide ((n : Int) ≤ (gh : Int)) = false) (hc2 : decide (n ≤ gh) = false) (q r : Nat) (hq : Hid ((gh * 18446744073709551616 + gl) / n = q)) (hr : Hid ((gh * 18446744073709551616 + gl) % n = r)) (hqb : q < 18446744073709551616 ∧ 0 ≤ q) (hrn : r < n ∧ 0 ≤ r) (low : Bool) (hlow : (decide (a < 0) != decide (b < 0)) = low) (hu : decide ((n : Int) - (r : Int) ≤ (r : Int)) = true) (hk : decide ((q : Int) ≤ 9223372036854775807) = true) (w : World) : Calls Tryd.prog 63 #[.int .i64 a, .int .i64 b] w fun e w' => e = .returned (.tuple #[.int .i64 (exV (if low then -((q : Int) + 1) else ((q : Int) + 1))), .int .i64 (exC (if low then -((q : Int) + 1) else ((q : Int) + 1)))]) ∧ Below w.heap.size w w' := by
  have m1 := may_yes h
  have m2 := may_yes h2
  have n3 : (b == 0) = false := by simpa using h3
  have hm' := Lib.hid hm
  have hn' := Lib.hid hn
  clear h h2 h3 hm hn
  go_enter Tryd.func63, Tryd.ntmps63
  go_wp2_with (go_at_call 59; refine (dmay_any _ (by first | assumption | (constructor <;> omega)) _).mono ?_; rintro e w1 ⟨rfl, rfl⟩)
  refine (size_nat a m ha hm'.out _).mono ?_
  rintro e w' ⟨rfl, rfl⟩
  go_wp2_with fail
  refine (size_nat b n hb hn'.out _).mono ?_
  rintro e w' ⟨rfl, rfl⟩
  go_wp2_with fail
  refine (mul64_r _ m 10000 gh gl rfl (by omega) (by omega) hgh.out hgl.out _).mono ?_
  rintro e w' ⟨rfl, rfl⟩
  have hk2 : q ≤ 9223372036854775807 ∧ 0 ≤ q := by have := of_decide_eq_true hk; omega
  have hl2 : (!(decide (a < 0) == decide (b < 0))) = low := hlow
  clear hlow
  go_wp2_with fail
  have hghc : gh < n := by have := of_decide_eq_false hc; omega
  refine (div64_r _ _ _ gh gl n q r rfl rfl rfl (by omega) (by omega) hghc hq.out hr.out _).mono ?_
  rintro e w1 ⟨rfl, hb1⟩
  clear hghc
  go_wp2_with fail
  have hsg := signed_any ((q : Int) + 1) (by have := of_decide_eq_true hk; omega) low w1
  with_reducible refine hsg.mono ?_
  clear hsg
  rintro e w' ⟨rfl, rfl⟩
  go_wp2
  all_goals go_ret2
  all_goals exact ⟨rfl, hb1⟩
set_option maxRecDepth 100000 in
set_option maxHeartbeats 2000000 in
theorem ddiv_cap (a b : Int) (ha : -9223372036854775808 ≤ a ∧ a ≤ 9223372036854775807) (hb : -9223372036854775808 ≤ b ∧ b ≤ 9223372036854775807) (h : a ≠ -9223372036854775808) (h2 : b ≠ -9223372036854775808) (h3 : b ≠ 0) (m n gh gl : Nat) (hm : a.natAbs = m) (hn : b.natAbs = n) (hm1 : m ≤ 9223372036854775807 ∧ 0 ≤ m) (hn1 : n ≤ 9223372036854775807 ∧ 1 ≤ n) (hgh : Hid (m * 10000 / 18446744073709551616 = gh)) (hgl : Hid (m * 10000 % 18446744073709551616 = gl)) (hgb : gl < 18446744073709551616 ∧ 0 ≤ gl) (hgb2 : gh < 18446744073709551616 ∧ 0 ≤ gh) (hc : decide ((n : Int) ≤ (gh : Int)) = false) (hc2 : decide (n ≤ gh) = false) (q r : Nat) (hq : Hid ((gh * 18446744073709551616 + gl) / n = q)) (hr : Hid ((gh * 18446744073709551616 + gl) % n = r)) (hqb : q < 18446744073709551616 ∧ 0 ≤ q) (hrn : r < n ∧ 0 ≤ r) (low : Bool) (hlow : (decide (a < 0) != decide (b < 0)) = low) (hu : decide ((n : Int) - (r : Int) ≤ (r : Int)) = true) (hk : decide ((q : Int) ≤ 9223372036854775807) = false) (w : World) : Calls Tryd.prog 63 #[.int .i64 a, .int .i64 b] w fun e w' => e = .returned (.tuple #[.int .i64 (exV (if low then -(q : Int) else (q : Int))), .int .i64 (exC (if low then -(q : Int) else (q : Int)))]) ∧ Below w.heap.size w w' := by
  have m1 := may_yes h
  have m2 := may_yes h2
  have n3 : (b == 0) = false := by simpa using h3
  have hm' := Lib.hid hm
  have hn' := Lib.hid hn
  clear h h2 h3 hm hn
  go_enter Tryd.func63, Tryd.ntmps63
  go_wp2_with (go_at_call 59; refine (dmay_any _ (by first | assumption | (constructor <;> omega)) _).mono ?_; rintro e w1 ⟨rfl, rfl⟩)
  refine (size_nat a m ha hm'.out _).mono ?_
  rintro e w' ⟨rfl, rfl⟩
  go_wp2_with fail
  refine (size_nat b n hb hn'.out _).mono ?_
  rintro e w' ⟨rfl, rfl⟩
  go_wp2_with fail
  refine (mul64_r _ m 10000 gh gl rfl (by omega) (by omega) hgh.out hgl.out _).mono ?_
  rintro e w' ⟨rfl, rfl⟩
  have hl2 : (!(decide (a < 0) == decide (b < 0))) = low := hlow
  clear hlow
  go_wp2_with fail
  have hghc : gh < n := by have := of_decide_eq_false hc; omega
  refine (div64_r _ _ _ gh gl n q r rfl rfl rfl (by omega) (by omega) hghc hq.out hr.out _).mono ?_
  rintro e w1 ⟨rfl, hb1⟩
  clear hghc
  go_wp2_with fail
  have hsg := signed_any (q : Int) (by omega) low w1
  with_reducible refine hsg.mono ?_
  clear hsg
  rintro e w' ⟨rfl, rfl⟩
  go_wp2
  all_goals go_ret2
  all_goals exact ⟨rfl, hb1⟩
theorem ddiv_any (a b : Int) (ha : -9223372036854775808 ≤ a ∧ a ≤ 9223372036854775807) (hb : -9223372036854775808 ≤ b ∧ b ≤ 9223372036854775807) (w : World) : Calls Tryd.prog 63 #[.int .i64 a, .int .i64 b] w fun e w' => e = .returned (.tuple #[.int .i64 (divV a b), .int .i64 (divC a b)]) ∧ Below w.heap.size w w' := by
  have lift : ∀ {P : Ending → Prop}, Calls Tryd.prog 63 #[.int .i64 a, .int .i64 b] w (fun e w' => P e ∧ w = w') → Calls Tryd.prog 63 #[.int .i64 a, .int .i64 b] w (fun e w' => P e ∧ Below w.heap.size w w') :=
    fun c => c.mono fun _ _ ⟨he, hw⟩ => ⟨he, by rw [← hw]; exact Below.refl _ _⟩
  by_cases h : a = -9223372036854775808
  · rw [show divV a b = 0 from if_pos (.inl h), show divC a b = 2 from if_pos (.inl h)]; exact lift (ddiv_a a b ha hb h w)
  by_cases h2 : b = -9223372036854775808
  · rw [show divV a b = 0 from if_pos (.inr (.inl h2)), show divC a b = 2 from if_pos (.inr h2)]; exact lift (ddiv_b a b ha hb h h2 w)
  by_cases h3 : b = 0
  · rw [show divV a b = 0 from if_pos (.inr (.inr h3)), show divC a b = 3 by unfold divC; rw [if_neg (by omega), if_pos h3]]; exact lift (ddiv_0 a b ha hb h h3 w)
  rw [show divV a b = exV (sgn2 a b (divN a.natAbs b.natAbs)) from if_neg (by omega), show divC a b = exC (sgn2 a b (divN a.natAbs b.natAbs)) by unfold divC; rw [if_neg (by omega), if_neg h3]]
  obtain ⟨m, hm⟩ : ∃ m, a.natAbs = m := ⟨_, rfl⟩
  obtain ⟨n, hn⟩ : ∃ n, b.natAbs = n := ⟨_, rfl⟩
  rw [hm, hn]
  have hn0 : 0 < n := by omega
  obtain ⟨p, hp⟩ : ∃ p, m * 10000 = p := ⟨_, rfl⟩
  have e1 : (p / 18446744073709551616 * 18446744073709551616 + p % 18446744073709551616) / n = p / n := by rw [Nat.div_add_mod']
  have e2 : (p / 18446744073709551616 * 18446744073709551616 + p % 18446744073709551616) % n = p % n := by rw [Nat.div_add_mod']
  by_cases hc : n ≤ p / 18446744073709551616
  · have hb1 : 9223372036854775807 < divN m n := by
      unfold divN
      rw [hp]
      have : 18446744073709551616 ≤ p / n := by
        rw [Nat.le_div_iff_mul_le hn0]
        have := Nat.div_mul_le_self p 18446744073709551616
        omega
      omega
    obtain ⟨b1, b2⟩ := sgn2_big a b (divN m n) hb1
    rw [b1, b2]
    exact lift (ddiv_big a b ha hb h h2 h3 m n _ _ hm hn (by omega) (by omega) (Lib.hid (by rw [hp])) (Lib.hid (by rw [hp])) (by omega) (by omega) (decide_eq_true (by omega)) (decide_eq_true hc) w)
  have hqb : p / n < 18446744073709551616 := by
    rw [Nat.div_lt_iff_lt_mul hn0]
    have := Nat.div_add_mod p 18446744073709551616
    have h6 : (p / 18446744073709551616 + 1) * 18446744073709551616 ≤ n * 18446744073709551616 := Nat.mul_le_mul_right _ (by omega)
    rw [Nat.mul_comm n] at h6
    omega
  have hrn : p % n < n := Nat.mod_lt _ hn0
  obtain ⟨q, hq⟩ : ∃ q, p / n = q := ⟨_, rfl⟩
  obtain ⟨r, hr⟩ : ∃ r, p % n = r := ⟨_, rfl⟩
  rw [hq] at e1 hqb
  rw [hr] at e2 hrn
  by_cases hu : n ≤ 2 * r
  · have hN : divN m n = q + 1 := by unfold divN; rw [hp, hq, hr, if_pos hu]
    rw [hN]
    by_cases hk : q ≤ 9223372036854775807
    · have := ddiv_up a b ha hb h h2 h3 m n _ _ hm hn (by omega) (by omega) (Lib.hid (by rw [hp])) (Lib.hid (by rw [hp])) (by omega) (by omega) (decide_eq_false (by omega)) (decide_eq_false hc) q r (Lib.hid e1) (Lib.hid e2) (by omega) (by omega) _ rfl (decide_eq_true (by omega)) (decide_eq_true (by omega)) w
      unfold sgn2
      rw [show ((q + 1 : Nat) : Int) = (q : Int) + 1 from rfl]
      exact this
    · have := ddiv_cap a b ha hb h h2 h3 m n _ _ hm hn (by omega) (by omega) (Lib.hid (by rw [hp])) (Lib.hid (by rw [hp])) (by omega) (by omega) (decide_eq_false (by omega)) (decide_eq_false hc) q r (Lib.hid e1) (Lib.hid e2) (by omega) (by omega) _ rfl (decide_eq_true (by omega)) (decide_eq_false (by omega)) w
      obtain ⟨b1, b2⟩ := sgn2_big a b (q + 1) (by omega)
      obtain ⟨b3, b4⟩ := big_q (decide (a < 0) != decide (b < 0)) q (by omega)
      rw [b1, b2]
      rw [b3, b4] at this
      exact this
  · have hN : divN m n = q := by unfold divN; rw [hp, hq, hr, if_neg hu]; rfl
    rw [hN]
    exact ddiv_dn a b ha hb h h2 h3 m n _ _ hm hn (by omega) (by omega) (Lib.hid (by rw [hp])) (Lib.hid (by rw [hp])) (by omega) (by omega) (decide_eq_false (by omega)) (decide_eq_false hc) q r (Lib.hid e1) (Lib.hid e2) (by omega) (by omega) _ rfl (decide_eq_false (by omega)) w
end Go.Proofs.YtjnjklcnccfgaaaDoor
