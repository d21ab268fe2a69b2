/-
  Package dec: Mul.
-/
import Derived.Test.YtjnjklcnccfgaaaDoorDDivA
import Derived.Test.YtjnjklcnccfgaaaDoorDRnd
import Derived.WalkSpells
import Derived.WalkLawsBesides
import Derived.StillTactics
import Derived.Laws.Pointers
import Derived.Deep.RegionHeld3
import Derived.Deep.QuietTactic
import Derived.BigQuiet
import Derived.RowKit3
import Derived.Lib.Hide
import Derived.Lib.OthersKept
import Derived.OwnWalk
import Derived.Lib.IndexLaws
import Derived.Lib.ItoaMem
namespace Go.Proofs.YtjnjklcnccfgaaaDoor
open Go.RowKit

/-- a product's size: parts of one, the half up -/
def mulN (m n : Nat) : Nat := m * n / 10000 + if 5000 ≤ m * n % 10000 then 1 else 0
def sgn2 (a b : Int) (n : Nat) : Int := if (decide (a < 0) != decide (b < 0)) = true then -(n : Int) else (n : Int)
def mulV (a b : Int) : Int := if a = -9223372036854775808 ∨ b = -9223372036854775808 then 0 else exV (sgn2 a b (mulN a.natAbs b.natAbs))
def mulC (a b : Int) : Int := if a = -9223372036854775808 ∨ b = -9223372036854775808 then 2 else exC (sgn2 a b (mulN a.natAbs b.natAbs))
set_option maxHeartbeats 400000 in
theorem mul_a (a b : Int) (ha : -9223372036854775808 ≤ a ∧ a ≤ 9223372036854775807) (hb : -9223372036854775808 ≤ b ∧ b ≤ 9223372036854775807) (h : a = -9223372036854775808) (w : World) : Calls Tryd.prog 60 #[.int .i64 a, .int .i64 b] w fun e w' => e = .returned (.tuple #[.int .i64 0, .int .i64 2]) ∧ w = w' := by
  have m1 := may_no h
  clear h
  go_enter Tryd.func60, Tryd.ntmps60
  go_wp2_with (go_at_call 59; refine (dmay_any _ (by first | assumption | (constructor <;> omega)) _).mono ?_; rintro e w1 ⟨rfl, rfl⟩)
  go_ret2
  exact ⟨rfl, rfl⟩
set_option maxHeartbeats 400000 in
theorem mul_b (a b : Int) (ha : -9223372036854775808 ≤ a ∧ a ≤ 9223372036854775807) (hb : -9223372036854775808 ≤ b ∧ b ≤ 9223372036854775807) (h : a ≠ -9223372036854775808) (h2 : b = -9223372036854775808) (w : World) : Calls Tryd.prog 60 #[.int .i64 a, .int .i64 b] w fun e w' => e = .returned (.tuple #[.int .i64 0, .int .i64 2]) ∧ w = w' := by
  have m1 := may_yes h
  have m2 := may_no h2
  clear h h2
  go_enter Tryd.func60, Tryd.ntmps60
  go_wp2_with (go_at_call 59; refine (dmay_any _ (by first | assumption | (constructor <;> omega)) _).mono ?_; rintro e w1 ⟨rfl, rfl⟩)
  go_ret2
  exact ⟨rfl, rfl⟩
theorem div64_r (z z2 z3 : Int) (hi lo y q r : Nat) (hz : z = (hi : Int)) (hz2 : z2 = (lo : Int)) (hz3 : z3 = (y : Int)) (hlo : lo < 18446744073709551616) (hy : y < 18446744073709551616) (hhy : hi < y) (hq : (hi * 18446744073709551616 + lo) / y = q) (hr : (hi * 18446744073709551616 + lo) % y = r) (w : World) : Calls Tryd.prog 98 #[.int .u64 z, .int .u64 z2, .int .u64 z3] w fun e w' => e = .returned (.tuple #[.int .u64 (q : Int), .int .u64 (r : Int)]) ∧ Below w.heap.size w w' := by
  subst hz
  subst hz2
  subst hz3
  subst hq
  subst hr
  exact div64_any hi lo y hlo hy hhy w
set_option maxRecDepth 100000 in
set_option maxHeartbeats 2000000 in
theorem mul_big (a b : Int) (ha : -9223372036854775808 ≤ a ∧ a ≤ 9223372036854775807) (hb : -9223372036854775808 ≤ b ∧ b ≤ 9223372036854775807) (h : a ≠ -9223372036854775808) (h2 : b ≠ -9223372036854775808) (m n gh gl : Nat) (hm : a.natAbs = m) (hn : b.natAbs = n) (hm1 : m ≤ 9223372036854775807 ∧ 0 ≤ m) (hn1 : n ≤ 9223372036854775807 ∧ 0 ≤ n) (hgh : Hid (m * n / 18446744073709551616 = gh)) (hgl : Hid (m * n % 18446744073709551616 = gl)) (hgb : gl < 18446744073709551616 ∧ 0 ≤ gl) (hgb2 : gh < 18446744073709551616 ∧ 0 ≤ gh) (hc : decide ((10000 : Int) ≤ (gh : Int)) = true) (w : World) : Calls Tryd.prog 60 #[.int .i64 a, .int .i64 b] w fun e w' => e = .returned (.tuple #[.int .i64 0, .int .i64 2]) ∧ w = w' := by
  have m1 := may_yes h
  have m2 := may_yes h2
  have hm' := Lib.hid hm
  have hn' := Lib.hid hn
  clear h h2 hm hn
  go_enter Tryd.func60, Tryd.ntmps60
  go_wp2_with (go_at_call 59; refine (dmay_any _ (by first | assumption | (constructor <;> omega)) _).mono ?_; rintro e w1 ⟨rfl, rfl⟩)
  refine (size_nat a m ha hm'.out _).mono ?_
  rintro e w' ⟨rfl, rfl⟩
  go_wp2_with fail
  refine (size_nat b n hb hn'.out _).mono ?_
  rintro e w' ⟨rfl, rfl⟩
  go_wp2_with fail
  refine (mul64_r _ m n gh gl rfl (by omega) (by omega) hgh.out hgl.out _).mono ?_
  rintro e w' ⟨rfl, rfl⟩
  go_wp2
  go_ret2
  exact ⟨rfl, rfl⟩
set_option maxRecDepth 100000 in
set_option maxHeartbeats 2000000 in
theorem mul_dn (a b : Int) (ha : -9223372036854775808 ≤ a ∧ a ≤ 9223372036854775807) (hb : -9223372036854775808 ≤ b ∧ b ≤ 9223372036854775807) (h : a ≠ -9223372036854775808) (h2 : b ≠ -9223372036854775808) (m n gh gl : Nat) (hm : a.natAbs = m) (hn : b.natAbs = n) (hm1 : m ≤ 9223372036854775807 ∧ 0 ≤ m) (hn1 : n ≤ 9223372036854775807 ∧ 0 ≤ n) (hgh : Hid (m * n / 18446744073709551616 = gh)) (hgl : Hid (m * n % 18446744073709551616 = gl)) (hgb : gl < 18446744073709551616 ∧ 0 ≤ gl) (hgb2 : gh < 18446744073709551616 ∧ 0 ≤ gh) (hc : decide ((10000 : Int) ≤ (gh : Int)) = false) (q r : Nat) (hq : Hid ((gh * 18446744073709551616 + gl) / 10000 = q)) (hr : Hid ((gh * 18446744073709551616 + gl) % 10000 = r)) (hqb : q < 18446744073709551616 ∧ 0 ≤ q) (low : Bool) (hlow : (decide (a < 0) != decide (b < 0)) = low) (hu : decide ((5000 : Int) ≤ (r : Int)) = false) (w : World) : Calls Tryd.prog 60 #[.int .i64 a, .int .i64 b] w fun e w' => e = .returned (.tuple #[.int .i64 (exV (if low then -(q : Int) else (q : Int))), .int .i64 (exC (if low then -(q : Int) else (q : Int)))]) ∧ Below w.heap.size w w' := by
  have m1 := may_yes h
  have m2 := may_yes h2
  have hm' := Lib.hid hm
  have hn' := Lib.hid hn
  clear h h2 hm hn
  go_enter Tryd.func60, Tryd.ntmps60
  go_wp2_with (go_at_call 59; refine (dmay_any _ (by first | assumption | (constructor <;> omega)) _).mono ?_; rintro e w1 ⟨rfl, rfl⟩)
  refine (size_nat a m ha hm'.out _).mono ?_
  rintro e w' ⟨rfl, rfl⟩
  go_wp2_with fail
  refine (size_nat b n hb hn'.out _).mono ?_
  rintro e w' ⟨rfl, rfl⟩
  go_wp2_with fail
  refine (mul64_r _ m n gh gl rfl (by omega) (by omega) hgh.out hgl.out _).mono ?_
  rintro e w' ⟨rfl, rfl⟩
  have hl2 : (!(decide (a < 0) == decide (b < 0))) = low := hlow
  clear hlow
  go_wp2_with fail
  have hghc : gh < 10000 := by have := of_decide_eq_false hc; omega
  refine (div64_r _ _ _ gh gl 10000 q r rfl rfl rfl (by omega) (by omega) hghc hq.out hr.out _).mono ?_
  rintro e w1 ⟨rfl, hb1⟩
  go_wp2_with fail
  have hsg := signed_any (q : Int) (by omega) low w1
  with_reducible refine hsg.mono ?_
  clear hsg
  rintro e w' ⟨rfl, rfl⟩
  go_wp2
  all_goals go_ret2
  all_goals exact ⟨rfl, hb1⟩
set_option maxRecDepth 100000 in
set_option maxHeartbeats 2000000 in
theorem mul_up (a b : Int) (ha : -9223372036854775808 ≤ a ∧ a ≤ 9223372036854775807) (hb : -9223372036854775808 ≤ b ∧ b ≤ 9223372036854775807) (h : a ≠ -9223372036854775808) (h2 : b ≠ -9223372036854775808) (m n gh gl : Nat) (hm : a.natAbs = m) (hn : b.natAbs = n) (hm1 : m ≤ 9223372036854775807 ∧ 0 ≤ m) (hn1 : n ≤ 9223372036854775807 ∧ 0 ≤ n) (hgh : Hid (m * n / 18446744073709551616 = gh)) (hgl : Hid (m * n % 18446744073709551616 = gl)) (hgb : gl < 18446744073709551616 ∧ 0 ≤ gl) (hgb2 : gh < 18446744073709551616 ∧ 0 ≤ gh) (hc : decide ((10000 : Int) ≤ (gh : Int)) = false) (q r : Nat) (hq : Hid ((gh * 18446744073709551616 + gl) / 10000 = q)) (hr : Hid ((gh * 18446744073709551616 + gl) % 10000 = r)) (hqb : q < 18446744073709551616 ∧ 0 ≤ q) (low : Bool) (hlow : (decide (a < 0) != decide (b < 0)) = low) (hu : decide ((5000 : Int) ≤ (r : Int)) = true) (hk : decide ((q : Int) ≤ 9223372036854775807) = true) (w : World) : Calls Tryd.prog 60 #[.int .i64 a, .int .i64 b] w fun e w' => e = .returned (.tuple #[.int .i64 (exV (if low then -((q : Int) + 1) else ((q : Int) + 1))), .int .i64 (exC (if low then -((q : Int) + 1) else ((q : Int) + 1)))]) ∧ Below w.heap.size w w' := by
  have m1 := may_yes h
  have m2 := may_yes h2
  have hm' := Lib.hid hm
  have hn' := Lib.hid hn
  clear h h2 hm hn
  go_enter Tryd.func60, Tryd.ntmps60
  go_wp2_with (go_at_call 59; refine (dmay_any _ (by first | assumption | (constructor <;> omega)) _).mono ?_; rintro e w1 ⟨rfl, rfl⟩)
  refine (size_nat a m ha hm'.out _).mono ?_
  rintro e w' ⟨rfl, rfl⟩
  go_wp2_with fail
  refine (size_nat b n hb hn'.out _).mono ?_
  rintro e w' ⟨rfl, rfl⟩
  go_wp2_with fail
  refine (mul64_r _ m n gh gl rfl (by omega) (by omega) hgh.out hgl.out _).mono ?_
  rintro e w' ⟨rfl, rfl⟩
  have hk2 : q ≤ 9223372036854775807 ∧ 0 ≤ q := by have := of_decide_eq_true hk; omega
  have hl2 : (!(decide (a < 0) == decide (b < 0))) = low := hlow
  clear hlow
  go_wp2_with fail
  have hghc : gh < 10000 := by have := of_decide_eq_false hc; omega
  refine (div64_r _ _ _ gh gl 10000 q r rfl rfl rfl (by omega) (by omega) hghc hq.out hr.out _).mono ?_
  rintro e w1 ⟨rfl, hb1⟩
  go_wp2_with fail
  have hsg := signed_any ((q : Int) + 1) (by have := of_decide_eq_true hk; omega) low w1
  with_reducible refine hsg.mono ?_
  clear hsg
  rintro e w' ⟨rfl, rfl⟩
  go_wp2
  all_goals go_ret2
  all_goals exact ⟨rfl, hb1⟩
set_option maxRecDepth 100000 in
set_option maxHeartbeats 2000000 in
theorem mul_cap (a b : Int) (ha : -9223372036854775808 ≤ a ∧ a ≤ 9223372036854775807) (hb : -9223372036854775808 ≤ b ∧ b ≤ 9223372036854775807) (h : a ≠ -9223372036854775808) (h2 : b ≠ -9223372036854775808) (m n gh gl : Nat) (hm : a.natAbs = m) (hn : b.natAbs = n) (hm1 : m ≤ 9223372036854775807 ∧ 0 ≤ m) (hn1 : n ≤ 9223372036854775807 ∧ 0 ≤ n) (hgh : Hid (m * n / 18446744073709551616 = gh)) (hgl : Hid (m * n % 18446744073709551616 = gl)) (hgb : gl < 18446744073709551616 ∧ 0 ≤ gl) (hgb2 : gh < 18446744073709551616 ∧ 0 ≤ gh) (hc : decide ((10000 : Int) ≤ (gh : Int)) = false) (q r : Nat) (hq : Hid ((gh * 18446744073709551616 + gl) / 10000 = q)) (hr : Hid ((gh * 18446744073709551616 + gl) % 10000 = r)) (hqb : q < 18446744073709551616 ∧ 0 ≤ q) (low : Bool) (hlow : (decide (a < 0) != decide (b < 0)) = low) (hu : decide ((5000 : Int) ≤ (r : Int)) = true) (hk : decide ((q : Int) ≤ 9223372036854775807) = false) (w : World) : Calls Tryd.prog 60 #[.int .i64 a, .int .i64 b] w fun e w' => e = .returned (.tuple #[.int .i64 (exV (if low then -(q : Int) else (q : Int))), .int .i64 (exC (if low then -(q : Int) else (q : Int)))]) ∧ Below w.heap.size w w' := by
  have m1 := may_yes h
  have m2 := may_yes h2
  have hm' := Lib.hid hm
  have hn' := Lib.hid hn
  clear h h2 hm hn
  go_enter Tryd.func60, Tryd.ntmps60
  go_wp2_with (go_at_call 59; refine (dmay_any _ (by first | assumption | (constructor <;> omega)) _).mono ?_; rintro e w1 ⟨rfl, rfl⟩)
  refine (size_nat a m ha hm'.out _).mono ?_
  rintro e w' ⟨rfl, rfl⟩
  go_wp2_with fail
  refine (size_nat b n hb hn'.out _).mono ?_
  rintro e w' ⟨rfl, rfl⟩
  go_wp2_with fail
  refine (mul64_r _ m n gh gl rfl (by omega) (by omega) hgh.out hgl.out _).mono ?_
  rintro e w' ⟨rfl, rfl⟩
  have hl2 : (!(decide (a < 0) == decide (b < 0))) = low := hlow
  clear hlow
  go_wp2_with fail
  have hghc : gh < 10000 := by have := of_decide_eq_false hc; omega
  refine (div64_r _ _ _ gh gl 10000 q r rfl rfl rfl (by omega) (by omega) hghc hq.out hr.out _).mono ?_
  rintro e w1 ⟨rfl, hb1⟩
  go_wp2_with fail
  have hsg := signed_any (q : Int) (by omega) low w1
  with_reducible refine hsg.mono ?_
  clear hsg
  rintro e w' ⟨rfl, rfl⟩
  go_wp2
  all_goals go_ret2
  all_goals exact ⟨rfl, hb1⟩
end Go.Proofs.YtjnjklcnccfgaaaDoor
