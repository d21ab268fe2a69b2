/-
  Package dec and the document's own: May, size, signed; Neg, Add, Sub of package dec, and the document's own; Package dec: Mod of both; Package dec: Floor, Whole of both.
-/
import Derived.Test.YtgmhifafbebjfaaGreatDoorMg0
import Derived.Lib.ItoaMem
import Derived.Laws.BitsAllLaws
namespace Go.Proofs.YtgmhifafbebjfaaGreatDoor
open Go.RowKit

/-- may a number be? -/
def decMay (x : Int) : Bool := !(decide (x = -9223372036854775808))
/-- a number out of its exact value: too great ones have none -/
def exV (n : Int) : Int := if -9223372036854775807 ≤ n ∧ n ≤ 9223372036854775807 then n else 0
def exC (n : Int) : Int := if -9223372036854775807 ≤ n ∧ n ≤ 9223372036854775807 then 0 else 2
/-- a number's size -/
def absI (x : Int) : Int := if x < 0 then -x else x

theorem ret_ub {a a' : Int} {b b' : Bool} (h : a = a') (k : b = b') : Ending.returned (.tuple #[.int .u64 a, .bool b]) = Ending.returned (.tuple #[.int .u64 a', .bool b']) := by rw [h, k]
theorem ret_ii {a a' b b' : Int} (h : a = a') (k : b = b') : Ending.returned (.tuple #[.int .i64 a, .int .i64 b]) = Ending.returned (.tuple #[.int .i64 a', .int .i64 b']) := by rw [h, k]
theorem ret_ib {a a' : Int} {b b' : Bool} (h : a = a') (k : b = b') : Ending.returned (.tuple #[.int .i64 a, .bool b]) = Ending.returned (.tuple #[.int .i64 a', .bool b']) := by rw [h, k]
theorem ret_b {b b' : Bool} (k : b = b') : Ending.returned (.bool b) = Ending.returned (.bool b') := by rw [k]

set_option maxHeartbeats 400000 in
theorem dmay_any (x : Int) (hx : -9223372036854775808 ≤ x ∧ x ≤ 9223372036854775807) (w : World) : Calls Tryz.prog 87 #[.int .i64 x] w fun e w' => e = .returned (.bool (decMay x)) ∧ w = w' := by
  obtain ⟨x0, x1⟩ := hx
  go_enter Tryz.func87, Tryz.ntmps87
  go_wp2
  all_goals go_ret
  all_goals refine ⟨ret_b (Bool.eq_iff_iff.2 ?_), rfl⟩
  all_goals simp [decMay]
  all_goals try omega
set_option maxHeartbeats 400000 in
theorem drmay_any (x : Int) (hx : -9223372036854775808 ≤ x ∧ x ≤ 9223372036854775807) (w : World) : Calls Tryz.prog 164 #[.int .i64 x] w fun e w' => e = .returned (.bool (decMay x)) ∧ w = w' := by
  obtain ⟨x0, x1⟩ := hx
  go_enter Tryz.func164, Tryz.ntmps164
  go_wp2
  all_goals go_ret
  all_goals refine ⟨ret_b (Bool.eq_iff_iff.2 ?_), rfl⟩
  all_goals simp [decMay]
  all_goals try omega
set_option maxHeartbeats 400000 in
theorem size_any (x : Int) (hx : -9223372036854775808 ≤ x ∧ x ≤ 9223372036854775807) (w : World) : Calls Tryz.prog 157 #[.int .i64 x] w fun e w' => e = .returned (.tuple #[.int .u64 (absI x), .bool (decide (x < 0))]) ∧ w = w' := by
  obtain ⟨x0, x1⟩ := hx
  go_enter Tryz.func157, Tryz.ntmps157
  go_wp2
  all_goals go_ret2
  all_goals refine ⟨ret_ub ?_ (Bool.eq_iff_iff.2 ?_), rfl⟩
  all_goals simp [absI, IntKind.wrap_u64]
  all_goals repeat' split
  all_goals omega
set_option maxHeartbeats 400000 in
theorem rsize_any (x : Int) (hx : -9223372036854775808 ≤ x ∧ x ≤ 9223372036854775807) (w : World) : Calls Tryz.prog 165 #[.int .i64 x] w fun e w' => e = .returned (.tuple #[.int .u64 (absI x), .bool (decide (x < 0))]) ∧ w = w' := by
  obtain ⟨x0, x1⟩ := hx
  go_enter Tryz.func165, Tryz.ntmps165
  go_wp2
  all_goals go_ret2
  all_goals refine ⟨ret_ub ?_ (Bool.eq_iff_iff.2 ?_), rfl⟩
  all_goals simp [absI, IntKind.wrap_u64, wrap64]
  all_goals repeat' split
  all_goals omega
set_option maxHeartbeats 400000 in
theorem signed_any (n : Int) (hn : 0 ≤ n ∧ n ≤ 18446744073709551615) (low : Bool) (w : World) : Calls Tryz.prog 198 #[.int .u64 n, .bool low] w fun e w' => e = .returned (.tuple #[.int .i64 (exV (if low then -n else n)), .int .i64 (exC (if low then -n else n))]) ∧ w = w' := by
  obtain ⟨n0, n1⟩ := hn
  cases low
  all_goals
    go_enter Tryz.func198, Tryz.ntmps198
    go_wp2
  all_goals go_ret2
  all_goals refine ⟨ret_ii ?_ ?_, rfl⟩
  all_goals simp [exV, exC]
  all_goals repeat' split
  all_goals omega
set_option maxHeartbeats 400000 in
theorem rsigned_any (n : Int) (hn : 0 ≤ n ∧ n ≤ 18446744073709551615) (low : Bool) (w : World) : Calls Tryz.prog 168 #[.int .u64 n, .bool low] w fun e w' => e = .returned (.tuple #[.int .i64 (exV (if low then -n else n)), .int .i64 (exC (if low then -n else n))]) ∧ w = w' := by
  obtain ⟨n0, n1⟩ := hn
  cases low
  all_goals
    go_enter Tryz.func168, Tryz.ntmps168
    go_wp2
  all_goals go_ret2
  all_goals refine ⟨ret_ii ?_ ?_, rfl⟩
  all_goals simp [exV, exC]
  all_goals repeat' split
  all_goals omega
end Go.Proofs.YtgmhifafbebjfaaGreatDoor
namespace Go.Proofs.YtgmhifafbebjfaaGreatDoor
open Go.RowKit

theorem may_no {x : Int} (h : x = -9223372036854775808) : decMay x = false := by subst h; decide
theorem may_yes {x : Int} (h : x ≠ -9223372036854775808) : decMay x = true := by simp [decMay, h]
end Go.Proofs.YtgmhifafbebjfaaGreatDoor
namespace Go.Proofs.YtgmhifafbebjfaaGreatDoor
open Go.RowKit

theorem tmod_lt (a b : Int) (h : b ≠ 0) : -(b.natAbs : Int) < a.tmod b ∧ a.tmod b < b.natAbs := by
  have h1 : (a.tmod b).natAbs = a.natAbs % b.natAbs := Int.natAbs_tmod a b
  have h2 := Nat.mod_lt a.natAbs (show 0 < b.natAbs by omega)
  omega
end Go.Proofs.YtgmhifafbebjfaaGreatDoor
namespace Go.Proofs.YtgmhifafbebjfaaGreatDoor
open Go.RowKit

/-- Whole -/
def wholeV (x : Int) : Int := if x ≠ -9223372036854775808 ∧ x.tmod 10000 = 0 then x.tdiv 10000 else 0
def wholeB (x : Int) : Bool := decide (x ≠ -9223372036854775808) && decide (x.tmod 10000 = 0)
set_option maxHeartbeats 1000000 in
theorem whole_no (x : Int) (hx : -9223372036854775808 ≤ x ∧ x ≤ 9223372036854775807) (h : x = -9223372036854775808) (w : World) : Calls Tryz.prog 17 #[.int .i64 x] w fun e w' => e = .returned (.tuple #[.int .i64 0, .bool false]) ∧ w = w' := by
  have m1 := may_no h
  clear h
  go_enter Tryz.func17, Tryz.ntmps17
  go_wp2_with (go_at_call 87; refine (dmay_any _ (by first | assumption | (constructor <;> omega)) _).mono ?_; rintro e w1 ⟨rfl, rfl⟩)
  go_ret2
  exact ⟨rfl, rfl⟩
set_option maxHeartbeats 1000000 in
theorem whole_part (x : Int) (hx : -9223372036854775808 ≤ x ∧ x ≤ 9223372036854775807) (h : x ≠ -9223372036854775808) (m : Int) (hm : x.tmod 10000 = m) (h4 : (m != 0) = true) (w : World) : Calls Tryz.prog 17 #[.int .i64 x] w fun e w' => e = .returned (.tuple #[.int .i64 0, .bool false]) ∧ w = w' := by
  have m1 := may_yes h
  have hr := tmod_lt x 10000 (by omega)
  rw [hm] at hr
  have hr1 : -10000 < m ∧ m < 10000 := by omega
  clear hr h
  go_enter Tryz.func17, Tryz.ntmps17
  go_wp2_with (go_at_call 87; refine (dmay_any _ (by first | assumption | (constructor <;> omega)) _).mono ?_; rintro e w1 ⟨rfl, rfl⟩)
  go_ret2
  exact ⟨rfl, rfl⟩
set_option maxHeartbeats 1000000 in
theorem whole_yes (x : Int) (hx : -9223372036854775808 ≤ x ∧ x ≤ 9223372036854775807) (h : x ≠ -9223372036854775808) (hm : x.tmod 10000 = 0) (w : World) : Calls Tryz.prog 17 #[.int .i64 x] w fun e w' => e = .returned (.tuple #[.int .i64 (x.tdiv 10000), .bool true]) ∧ w = w' := by
  have m1 := may_yes h
  have hd : -9223372036854775808 ≤ x.tdiv 10000 ∧ x.tdiv 10000 ≤ 9223372036854775807 := by
    have h1 := Int.mul_tdiv_add_tmod x 10000
    omega
  clear h
  go_enter Tryz.func17, Tryz.ntmps17
  go_wp2_with (go_at_call 87; refine (dmay_any _ (by first | assumption | (constructor <;> omega)) _).mono ?_; rintro e w1 ⟨rfl, rfl⟩)
  go_ret2
  first | exact ⟨rfl, rfl⟩ | (refine ⟨ret_ib ?_ rfl, rfl⟩; first | exact IntWalk.i64_in _ hd | (unfold wrap64; omega))
theorem whole_any (x : Int) (hx : -9223372036854775808 ≤ x ∧ x ≤ 9223372036854775807) (w : World) : Calls Tryz.prog 17 #[.int .i64 x] w fun e w' => e = .returned (.tuple #[.int .i64 (wholeV x), .bool (wholeB x)]) ∧ w = w' := by
  by_cases h : x = -9223372036854775808
  · rw [show wholeV x = 0 from if_neg (by simp [h]), show wholeB x = false by simp [wholeB, h]]
    exact whole_no x hx h w
  by_cases hm : x.tmod 10000 = 0
  · rw [show wholeV x = x.tdiv 10000 from if_pos ⟨h, hm⟩, show wholeB x = true by simp [wholeB, h, hm]]
    exact whole_yes x hx h hm w
  · rw [show wholeV x = 0 from if_neg (by simp [hm]), show wholeB x = false by simp [wholeB, hm]]
    exact whole_part x hx h _ rfl (by simpa using hm) w
end Go.Proofs.YtgmhifafbebjfaaGreatDoor
