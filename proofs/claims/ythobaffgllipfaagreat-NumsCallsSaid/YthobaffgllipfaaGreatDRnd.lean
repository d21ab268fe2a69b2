/-
  Package dec: Round of both.
-/
import Derived.Test.YthobaffgllipfaaGreatRows
import Derived.Test.YthobaffgllipfaaGreatBase
import Derived.Test.YthobaffgllipfaaGreatMg3
import Derived.Test.YthobaffgllipfaaGreatDecS
import Derived.Test.YthobaffgllipfaaGreatDMod
import Derived.Test.YthobaffgllipfaaGreatDFlo
import Derived.Test.YthobaffgllipfaaGreatProg
import Derived.Test.YthobaffgllipfaaGreatMg12
import Derived.WalkSpells
import Derived.WalkLawsBesides
import Derived.StillTactics
import Derived.Laws.Pointers
import Derived.Deep.RegionHeld3
import Derived.Deep.QuietTactic
import Derived.BigQuiet
import Derived.RowKit3
import Derived.Lib.Hide
import Derived.Lib.OthersKept
import Derived.OwnWalk
import Derived.Lib.IndexLaws
import Derived.Lib.ItoaMem
import Derived.WalkKit
import Derived.ProofKit
import Derived.OpenShut
import Derived.Carry
import Derived.ChangeSame
import Derived.Deep.Draws
import Derived.Laws.BitsAllLaws
import Derived.Shelf.Small.Bits
import Derived.Shelf.Strconv.Itoa0
import Derived.Shelf.Bits.Mul64
import Derived.Lib.TrimByte
namespace Go.Proofs.YthobaffgllipfaaGreat
open Go.RowKit

/-- a size with so many places: u is the unit -/
def rndN (n u : Nat) : Nat := (n / u + if u ≤ 2 * (n % u) then 1 else 0) * u
def sgn (x : Int) (n : Nat) : Int := if x < 0 then -(n : Int) else (n : Int)
def roundV (x p : Int) : Int := if x = -9223372036854775808 then 0 else if 4 ≤ p then x else if p < -15 then 0 else exV (sgn x (rndN x.natAbs (10 ^ (4 - p).toNat)))
def roundC (x p : Int) : Int := if x = -9223372036854775808 then 2 else if 4 ≤ p then 0 else if p < -15 then 0 else exC (sgn x (rndN x.natAbs (10 ^ (4 - p).toNat)))
theorem pow_ok (j : Nat) (h : j < 19) : 10 ^ j ≤ 1000000000000000000 ∧ 10 ^ (j + 1) = 10 ^ j * 10 := by
  refine ⟨?_, Nat.pow_succ 10 j⟩
  exact Nat.pow_le_pow_right (n := 10) (by omega) (show j ≤ 18 by omega)
theorem pow_e (e : Nat) (h1 : 1 ≤ e) (h2 : e ≤ 19) : 10 ≤ 10 ^ e ∧ 10 ^ e ≤ 10000000000000000000 ∧ 10 ^ e % 2 = 0 := by
  obtain ⟨j, rfl⟩ : ∃ j, e = j + 1 := ⟨e - 1, by omega⟩
  obtain ⟨a, b⟩ := pow_ok j (by omega)
  have : 1 ≤ 10 ^ j := Nat.one_le_pow _ _ (by omega)
  omega
theorem mul64_r (z : Int) (x y q m : Nat) (hz : z = (x : Int)) (hx : x < 18446744073709551616) (hy : y < 18446744073709551616) (hq : x * y / 18446744073709551616 = q) (hm : x * y % 18446744073709551616 = m) (w : World) : Calls Tryz.prog 83 #[.int .u64 z, .int .u64 (y : Int)] w fun e w' => e = .returned (.tuple #[.int .u64 (q : Int), .int .u64 (m : Int)]) ∧ w = w' := by
  subst hz
  subst hq
  subst hm
  exact (Tryz.bits_Mul64 x y hx hy w).mono fun _ _ ⟨he, hw⟩ => ⟨he, hw.symm⟩
set_option maxHeartbeats 1000000 in
theorem round_no (x : Int) (hx : -9223372036854775808 ≤ x ∧ x ≤ 9223372036854775807) (p : Int) (_hp : -9223372036854775808 ≤ p ∧ p ≤ 9223372036854775807) (h : x = -9223372036854775808) (w : World) : Calls Tryz.prog 39 #[.int .i64 x, .int .i64 p] w fun e w' => e = .returned (.tuple #[.int .i64 0, .int .i64 2]) ∧ w = w' := by
  have m1 := may_no h
  clear h
  go_enter Tryz.func39, Tryz.ntmps39
  go_wp2_with (go_at_call 73; refine (dmay_any _ (by first | assumption | (constructor <;> omega)) _).mono ?_; rintro e w1 ⟨rfl, rfl⟩)
  go_ret2
  exact ⟨rfl, rfl⟩
set_option maxHeartbeats 1000000 in
theorem round_same (x : Int) (hx : -9223372036854775808 ≤ x ∧ x ≤ 9223372036854775807) (p : Int) (_hp : -9223372036854775808 ≤ p ∧ p ≤ 9223372036854775807) (h : x ≠ -9223372036854775808) (h4 : 4 ≤ p) (w : World) : Calls Tryz.prog 39 #[.int .i64 x, .int .i64 p] w fun e w' => e = .returned (.tuple #[.int .i64 x, .int .i64 0]) ∧ w = w' := by
  have m1 := may_yes h
  clear h
  go_enter Tryz.func39, Tryz.ntmps39
  go_wp2_with (go_at_call 73; refine (dmay_any _ (by first | assumption | (constructor <;> omega)) _).mono ?_; rintro e w1 ⟨rfl, rfl⟩)
  go_ret2
  exact ⟨rfl, rfl⟩
set_option maxHeartbeats 1000000 in
theorem round_far (x : Int) (hx : -9223372036854775808 ≤ x ∧ x ≤ 9223372036854775807) (p : Int) (hp : -9223372036854775808 ≤ p ∧ p ≤ 9223372036854775807) (h : x ≠ -9223372036854775808) (h4 : p < -15) (w : World) : Calls Tryz.prog 39 #[.int .i64 x, .int .i64 p] w fun e w' => e = .returned (.tuple #[.int .i64 0, .int .i64 0]) ∧ w = w' := by
  have m1 := may_yes h
  clear h
  go_enter Tryz.func39, Tryz.ntmps39
  go_wp2_with (go_at_call 73; refine (dmay_any _ (by first | assumption | (constructor <;> omega)) _).mono ?_; rintro e w1 ⟨rfl, rfl⟩)
  go_ret2
  exact ⟨rfl, rfl⟩
set_option maxHeartbeats 1000000 in
theorem rround_no (x : Int) (hx : -9223372036854775808 ≤ x ∧ x ≤ 9223372036854775807) (p : Int) (_hp : -9223372036854775808 ≤ p ∧ p ≤ 9223372036854775807) (h : x = -9223372036854775808) (w : World) : Calls Tryz.prog 67 #[.int .i64 x, .int .i64 p] w fun e w' => e = .returned (.tuple #[.int .i64 0, .int .i64 2]) ∧ w = w' := by
  have m1 := may_no h
  clear h
  go_enter Tryz.func67, Tryz.ntmps67
  go_wp2_with (go_at_call 60; refine (drmay_any _ (by first | assumption | (constructor <;> omega)) _).mono ?_; rintro e w1 ⟨rfl, rfl⟩)
  go_ret2
  exact ⟨rfl, rfl⟩
set_option maxHeartbeats 1000000 in
theorem rround_same (x : Int) (hx : -9223372036854775808 ≤ x ∧ x ≤ 9223372036854775807) (p : Int) (hp : -9223372036854775808 ≤ p ∧ p ≤ 9223372036854775807) (h : x ≠ -9223372036854775808) (h4 : 4 ≤ p) (w : World) : Calls Tryz.prog 67 #[.int .i64 x, .int .i64 p] w fun e w' => e = .returned (.tuple #[.int .i64 x, .int .i64 0]) ∧ w = w' := by
  have m1 := may_yes h
  clear h
  go_enter Tryz.func67, Tryz.ntmps67
  go_wp2_with (go_at_call 60; refine (drmay_any _ (by first | assumption | (constructor <;> omega)) _).mono ?_; rintro e w1 ⟨rfl, rfl⟩)
  go_ret2
  exact ⟨rfl, rfl⟩
set_option maxHeartbeats 1000000 in
theorem rround_far (x : Int) (hx : -9223372036854775808 ≤ x ∧ x ≤ 9223372036854775807) (p : Int) (hp : -9223372036854775808 ≤ p ∧ p ≤ 9223372036854775807) (h : x ≠ -9223372036854775808) (h4 : p < -15) (w : World) : Calls Tryz.prog 67 #[.int .i64 x, .int .i64 p] w fun e w' => e = .returned (.tuple #[.int .i64 0, .int .i64 0]) ∧ w = w' := by
  have m1 := may_yes h
  clear h
  go_enter Tryz.func67, Tryz.ntmps67
  go_wp2_with (go_at_call 60; refine (drmay_any _ (by first | assumption | (constructor <;> omega)) _).mono ?_; rintro e w1 ⟨rfl, rfl⟩)
  go_ret2
  exact ⟨rfl, rfl⟩
set_option maxRecDepth 100000 in
set_option maxHeartbeats 4000000 in
theorem round_g00 (x : Int) (hx : -9223372036854775808 ≤ x ∧ x ≤ 9223372036854775807) (p : Int) (hp : -9223372036854775808 ≤ p ∧ p ≤ 9223372036854775807) (h : x ≠ -9223372036854775808) (hp1 : -15 ≤ p) (hp2 : p ≤ 3) (e : Nat) (he1 : (e : Int) ≤ 4 - p) (he2 : 4 - p ≤ (e : Int)) (N : Nat) (hN : x.natAbs = N) (hN1 : N ≤ 9223372036854775807) (P : Nat → Nat) (hP0 : P 0 = 1) (hPs : Hid (∀ j, j < e → P j ≤ 1000000000000000000 ∧ P (j + 1) = P j * 10)) (u : Nat) (hu : Hid (P e = u)) (hu1 : 10 ≤ u) (hu2 : u ≤ 10000000000000000000) (k r : Nat) (hk : Hid (N / u = k)) (hr : Hid (N % u = r)) (hkN : k ≤ N) (hru : r < u) (low : Bool) (hlow : decide (x < 0) = low) (hup : 2 * r < u) (q m : Nat) (hq : Hid (k * u / 18446744073709551616 = q)) (hm : Hid (k * u % 18446744073709551616 = m)) (hmb : m < 18446744073709551616) (ho : q < 1) (w : World) : Calls Tryz.prog 39 #[.int .i64 x, .int .i64 p] w fun e w' => e = .returned (.tuple #[.int .i64 (exV (if low then -(m : Int) else (m : Int))), .int .i64 (exC (if low then -(m : Int) else (m : Int)))]) ∧ Below w.heap.size w w' := by
  have m1 := may_yes h
  clear h
  have T1 : IntKind.u64.wrap ((N : Int).tdiv u) = (k : Int) := by rw [IntWalk.u64_quo _ _ (by omega), ← hk.out]; simp
  have T2 : (N : Int).tmod u = (r : Int) := by rw [Int.tmod_eq_emod_of_nonneg (by omega), ← hr.out]; simp
  have T3 : (N : Int) / u = (k : Int) := by rw [← hk.out]; simp
  have T4 : (N : Int) % u = (r : Int) := by rw [← hr.out]; simp
  go_enter Tryz.func39, Tryz.ntmps39
  go_wp2_with (go_at_call 73; refine (dmay_any _ (by first | assumption | (constructor <;> omega)) _).mono ?_; rintro e w1 ⟨rfl, rfl⟩)
  go_loop [6, 25] (fun n i => ∃ j : Nat, j ≤ e ∧ i = .int .i64 (j : Int) ∧ n = .int .u64 (P j : Int)) (fun _ i => e - (intOf i).toNat)
  case atStart => exact ⟨0, by omega, rfl, by rw [hP0]; rfl⟩
  case round =>
    obtain ⟨j, hj, rfl, rfl⟩ := hrel
    by_cases hlt : j < e
    · obtain ⟨b1, b2⟩ := hPs.out j hlt
      have b3 := Lib.hid b2
      clear b2
      go_wp2
      go_round
      case rel => exact ⟨j + 1, by omega, by go_num, by rw [b3.out]; go_num⟩
      case measure => simp [intOf]; omega
    · obtain rfl : j = e := by omega
      rw [hu.out]
      go_wp2_with fail
      refine (size_nat x N hx hN _).mono ?_
      rintro e w' ⟨rfl, rfl⟩
      rw [hlow]
      go_wp2
      go_quiet (fail)
      go_wp2_with fail
      refine (mul64_r _ k u q m (by omega) (by omega) (by omega) hq.out hm.out _).mono ?_
      rintro e w' ⟨rfl, rfl⟩
      go_wp2_with fail
      refine (signed_any (m : Int) (by omega) low _).mono ?_
      rintro e w' ⟨rfl, rfl⟩
      go_wp2
      all_goals go_ret2
      all_goals exact ⟨rfl, below_drewN (Below.refl _ _) _⟩
set_option maxRecDepth 100000 in
set_option maxHeartbeats 4000000 in
theorem round_g01 (x : Int) (hx : -9223372036854775808 ≤ x ∧ x ≤ 9223372036854775807) (p : Int) (hp : -9223372036854775808 ≤ p ∧ p ≤ 9223372036854775807) (h : x ≠ -9223372036854775808) (hp1 : -15 ≤ p) (hp2 : p ≤ 3) (e : Nat) (he1 : (e : Int) ≤ 4 - p) (he2 : 4 - p ≤ (e : Int)) (N : Nat) (hN : x.natAbs = N) (hN1 : N ≤ 9223372036854775807) (P : Nat → Nat) (hP0 : P 0 = 1) (hPs : Hid (∀ j, j < e → P j ≤ 1000000000000000000 ∧ P (j + 1) = P j * 10)) (u : Nat) (hu : Hid (P e = u)) (hu1 : 10 ≤ u) (hu2 : u ≤ 10000000000000000000) (k r : Nat) (hk : Hid (N / u = k)) (hr : Hid (N % u = r)) (hkN : k ≤ N) (hru : r < u) (low : Bool) (hlow : decide (x < 0) = low) (hup : 2 * r < u) (q m : Nat) (hq : Hid (k * u / 18446744073709551616 = q)) (hm : Hid (k * u % 18446744073709551616 = m)) (_hmb : m < 18446744073709551616) (ho : 0 < q) (w : World) : Calls Tryz.prog 39 #[.int .i64 x, .int .i64 p] w fun e w' => e = .returned (.tuple #[.int .i64 0, .int .i64 2]) ∧ Below w.heap.size w w' := by
  have m1 := may_yes h
  clear h
  have T1 : IntKind.u64.wrap ((N : Int).tdiv u) = (k : Int) := by rw [IntWalk.u64_quo _ _ (by omega), ← hk.out]; simp
  have T2 : (N : Int).tmod u = (r : Int) := by rw [Int.tmod_eq_emod_of_nonneg (by omega), ← hr.out]; simp
  have T3 : (N : Int) / u = (k : Int) := by rw [← hk.out]; simp
  have T4 : (N : Int) % u = (r : Int) := by rw [← hr.out]; simp
  go_enter Tryz.func39, Tryz.ntmps39
  go_wp2_with (go_at_call 73; refine (dmay_any _ (by first | assumption | (constructor <;> omega)) _).mono ?_; rintro e w1 ⟨rfl, rfl⟩)
  go_loop [6, 25] (fun n i => ∃ j : Nat, j ≤ e ∧ i = .int .i64 (j : Int) ∧ n = .int .u64 (P j : Int)) (fun _ i => e - (intOf i).toNat)
  case atStart => exact ⟨0, by omega, rfl, by rw [hP0]; rfl⟩
  case round =>
    obtain ⟨j, hj, rfl, rfl⟩ := hrel
    by_cases hlt : j < e
    · obtain ⟨b1, b2⟩ := hPs.out j hlt
      have b3 := Lib.hid b2
      clear b2
      go_wp2
      go_round
      case rel => exact ⟨j + 1, by omega, by go_num, by rw [b3.out]; go_num⟩
      case measure => simp [intOf]; omega
    · obtain rfl : j = e := by omega
      rw [hu.out]
      go_wp2_with fail
      refine (size_nat x N hx hN _).mono ?_
      rintro e w' ⟨rfl, rfl⟩
      rw [hlow]
      go_wp2
      go_quiet (fail)
      go_wp2_with fail
      refine (mul64_r _ k u q m (by omega) (by omega) (by omega) hq.out hm.out _).mono ?_
      rintro e w' ⟨rfl, rfl⟩
      go_wp2
      all_goals go_ret2
      all_goals exact ⟨rfl, below_drewN (Below.refl _ _) _⟩
set_option maxRecDepth 100000 in
set_option maxHeartbeats 4000000 in
theorem round_g10 (x : Int) (hx : -9223372036854775808 ≤ x ∧ x ≤ 9223372036854775807) (p : Int) (hp : -9223372036854775808 ≤ p ∧ p ≤ 9223372036854775807) (h : x ≠ -9223372036854775808) (hp1 : -15 ≤ p) (hp2 : p ≤ 3) (e : Nat) (he1 : (e : Int) ≤ 4 - p) (he2 : 4 - p ≤ (e : Int)) (N : Nat) (hN : x.natAbs = N) (hN1 : N ≤ 9223372036854775807) (P : Nat → Nat) (hP0 : P 0 = 1) (hPs : Hid (∀ j, j < e → P j ≤ 1000000000000000000 ∧ P (j + 1) = P j * 10)) (u : Nat) (hu : Hid (P e = u)) (hu1 : 10 ≤ u) (hu2 : u ≤ 10000000000000000000) (k r : Nat) (hk : Hid (N / u = k)) (hr : Hid (N % u = r)) (hkN : k ≤ N) (hru : r < u) (low : Bool) (hlow : decide (x < 0) = low) (hup : u ≤ 2 * r) (q m : Nat) (hq : Hid ((k + 1) * u / 18446744073709551616 = q)) (hm : Hid ((k + 1) * u % 18446744073709551616 = m)) (hmb : m < 18446744073709551616) (ho : q < 1) (w : World) : Calls Tryz.prog 39 #[.int .i64 x, .int .i64 p] w fun e w' => e = .returned (.tuple #[.int .i64 (exV (if low then -(m : Int) else (m : Int))), .int .i64 (exC (if low then -(m : Int) else (m : Int)))]) ∧ Below w.heap.size w w' := by
  have m1 := may_yes h
  clear h
  have T1 : IntKind.u64.wrap ((N : Int).tdiv u) = (k : Int) := by rw [IntWalk.u64_quo _ _ (by omega), ← hk.out]; simp
  have T2 : (N : Int).tmod u = (r : Int) := by rw [Int.tmod_eq_emod_of_nonneg (by omega), ← hr.out]; simp
  have T3 : (N : Int) / u = (k : Int) := by rw [← hk.out]; simp
  have T4 : (N : Int) % u = (r : Int) := by rw [← hr.out]; simp
  go_enter Tryz.func39, Tryz.ntmps39
  go_wp2_with (go_at_call 73; refine (dmay_any _ (by first | assumption | (constructor <;> omega)) _).mono ?_; rintro e w1 ⟨rfl, rfl⟩)
  go_loop [6, 25] (fun n i => ∃ j : Nat, j ≤ e ∧ i = .int .i64 (j : Int) ∧ n = .int .u64 (P j : Int)) (fun _ i => e - (intOf i).toNat)
  case atStart => exact ⟨0, by omega, rfl, by rw [hP0]; rfl⟩
  case round =>
    obtain ⟨j, hj, rfl, rfl⟩ := hrel
    by_cases hlt : j < e
    · obtain ⟨b1, b2⟩ := hPs.out j hlt
      have b3 := Lib.hid b2
      clear b2
      go_wp2
      go_round
      case rel => exact ⟨j + 1, by omega, by go_num, by rw [b3.out]; go_num⟩
      case measure => simp [intOf]; omega
    · obtain rfl : j = e := by omega
      rw [hu.out]
      go_wp2_with fail
      refine (size_nat x N hx hN _).mono ?_
      rintro e w' ⟨rfl, rfl⟩
      rw [hlow]
      go_wp2
      go_quiet (fail)
      go_wp2_with fail
      refine (mul64_r _ (k + 1) u q m (by omega) (by omega) (by omega) hq.out hm.out _).mono ?_
      rintro e w' ⟨rfl, rfl⟩
      go_wp2_with fail
      refine (signed_any (m : Int) (by omega) low _).mono ?_
      rintro e w' ⟨rfl, rfl⟩
      go_wp2
      all_goals go_ret2
      all_goals exact ⟨rfl, below_drewN (Below.refl _ _) _⟩
set_option maxRecDepth 100000 in
set_option maxHeartbeats 4000000 in
theorem round_g11 (x : Int) (hx : -9223372036854775808 ≤ x ∧ x ≤ 9223372036854775807) (p : Int) (hp : -9223372036854775808 ≤ p ∧ p ≤ 9223372036854775807) (h : x ≠ -9223372036854775808) (hp1 : -15 ≤ p) (hp2 : p ≤ 3) (e : Nat) (he1 : (e : Int) ≤ 4 - p) (he2 : 4 - p ≤ (e : Int)) (N : Nat) (hN : x.natAbs = N) (hN1 : N ≤ 9223372036854775807) (P : Nat → Nat) (hP0 : P 0 = 1) (hPs : Hid (∀ j, j < e → P j ≤ 1000000000000000000 ∧ P (j + 1) = P j * 10)) (u : Nat) (hu : Hid (P e = u)) (hu1 : 10 ≤ u) (hu2 : u ≤ 10000000000000000000) (k r : Nat) (hk : Hid (N / u = k)) (hr : Hid (N % u = r)) (hkN : k ≤ N) (hru : r < u) (low : Bool) (hlow : decide (x < 0) = low) (hup : u ≤ 2 * r) (q m : Nat) (hq : Hid ((k + 1) * u / 18446744073709551616 = q)) (hm : Hid ((k + 1) * u % 18446744073709551616 = m)) (_hmb : m < 18446744073709551616) (ho : 0 < q) (w : World) : Calls Tryz.prog 39 #[.int .i64 x, .int .i64 p] w fun e w' => e = .returned (.tuple #[.int .i64 0, .int .i64 2]) ∧ Below w.heap.size w w' := by
  have m1 := may_yes h
  clear h
  have T1 : IntKind.u64.wrap ((N : Int).tdiv u) = (k : Int) := by rw [IntWalk.u64_quo _ _ (by omega), ← hk.out]; simp
  have T2 : (N : Int).tmod u = (r : Int) := by rw [Int.tmod_eq_emod_of_nonneg (by omega), ← hr.out]; simp
  have T3 : (N : Int) / u = (k : Int) := by rw [← hk.out]; simp
  have T4 : (N : Int) % u = (r : Int) := by rw [← hr.out]; simp
  go_enter Tryz.func39, Tryz.ntmps39
  go_wp2_with (go_at_call 73; refine (dmay_any _ (by first | assumption | (constructor <;> omega)) _).mono ?_; rintro e w1 ⟨rfl, rfl⟩)
  go_loop [6, 25] (fun n i => ∃ j : Nat, j ≤ e ∧ i = .int .i64 (j : Int) ∧ n = .int .u64 (P j : Int)) (fun _ i => e - (intOf i).toNat)
  case atStart => exact ⟨0, by omega, rfl, by rw [hP0]; rfl⟩
  case round =>
    obtain ⟨j, hj, rfl, rfl⟩ := hrel
    by_cases hlt : j < e
    · obtain ⟨b1, b2⟩ := hPs.out j hlt
      have b3 := Lib.hid b2
      clear b2
      go_wp2
      go_round
      case rel => exact ⟨j + 1, by omega, by go_num, by rw [b3.out]; go_num⟩
      case measure => simp [intOf]; omega
    · obtain rfl : j = e := by omega
      rw [hu.out]
      go_wp2_with fail
      refine (size_nat x N hx hN _).mono ?_
      rintro e w' ⟨rfl, rfl⟩
      rw [hlow]
      go_wp2
      go_quiet (fail)
      go_wp2_with fail
      refine (mul64_r _ (k + 1) u q m (by omega) (by omega) (by omega) hq.out hm.out _).mono ?_
      rintro e w' ⟨rfl, rfl⟩
      go_wp2
      all_goals go_ret2
      all_goals exact ⟨rfl, below_drewN (Below.refl _ _) _⟩
set_option maxRecDepth 100000 in
set_option maxHeartbeats 4000000 in
theorem rround_g00 (x : Int) (hx : -9223372036854775808 ≤ x ∧ x ≤ 9223372036854775807) (p : Int) (hp : -9223372036854775808 ≤ p ∧ p ≤ 9223372036854775807) (h : x ≠ -9223372036854775808) (hp1 : -15 ≤ p) (hp2 : p ≤ 3) (e : Nat) (he1 : (e : Int) ≤ 4 - p) (he2 : 4 - p ≤ (e : Int)) (N : Nat) (hN : x.natAbs = N) (hN1 : N ≤ 9223372036854775807) (P : Nat → Nat) (hP0 : P 0 = 1) (hPs : Hid (∀ j, j < e → P j ≤ 1000000000000000000 ∧ P (j + 1) = P j * 10)) (u : Nat) (hu : Hid (P e = u)) (hu1 : 10 ≤ u) (hu2 : u ≤ 10000000000000000000) (k r : Nat) (hk : Hid (N / u = k)) (hr : Hid (N % u = r)) (hkN : k ≤ N) (_hru : r < u) (low : Bool) (hlow : decide (x < 0) = low) (hup : 2 * r < u) (hue : Hid (u % 2 = 0)) (M : Nat) (hM : Hid (9223372036854775807 / u = M)) (hMb : M ≤ 9223372036854775807) (K : Nat) (hK : Hid (k * u = K)) (ho : k ≤ M) (ho2 : K ≤ 9223372036854775807) (w : World) : Calls Tryz.prog 67 #[.int .i64 x, .int .i64 p] w fun e w' => e = .returned (.tuple #[.int .i64 (exV (if low then -(K : Int) else (K : Int))), .int .i64 (exC (if low then -(K : Int) else (K : Int)))]) ∧ Below w.heap.size w w' := by
  have m1 := may_yes h
  clear h
  have T1 : IntKind.u64.wrap ((N : Int).tdiv u) = (k : Int) := by rw [IntWalk.u64_quo _ _ (by omega), ← hk.out]; simp
  have T2 : (N : Int).tmod u = (r : Int) := by rw [Int.tmod_eq_emod_of_nonneg (by omega), ← hr.out]; simp
  have T3 : (N : Int) / u = (k : Int) := by rw [← hk.out]; simp
  have T4 : (N : Int) % u = (r : Int) := by rw [← hr.out]; simp
  have T5 : IntKind.u64.wrap ((9223372036854775807 : Int).tdiv u) = (M : Int) := by rw [IntWalk.u64_quo _ _ (by omega), ← hM.out]; simp
  have T6 : (9223372036854775807 : Int) / u = (M : Int) := by rw [← hM.out]; simp
  have T7 : IntKind.u64.wrap ((M : Int)) = (M : Int) := IntWalk.u64_in _ (by omega)
  have U1 : (r : Int) < (u : Int) / 2 := by have := hue.out; omega
  have T8 : ↑k * (u : Int) = (K : Int) := by rw [← hK.out]; simp
  go_enter Tryz.func67, Tryz.ntmps67
  go_wp2_with (go_at_call 60; refine (drmay_any _ (by first | assumption | (constructor <;> omega)) _).mono ?_; rintro e w1 ⟨rfl, rfl⟩)
  go_loop [6, 7] (fun n i => ∃ j : Nat, j ≤ e ∧ i = .int .i64 (4 - (j : Int)) ∧ n = .int .u64 (P j : Int)) (fun _ i => ((intOf i) - p).toNat)
  case atStart => exact ⟨0, by omega, rfl, by rw [hP0]; rfl⟩
  case round =>
    obtain ⟨j, hj, rfl, rfl⟩ := hrel
    by_cases hlt : j < e
    · obtain ⟨b1, b2⟩ := hPs.out j hlt
      have b3 := Lib.hid b2
      clear b2
      go_wp2
      go_round
      case rel => exact ⟨j + 1, by omega, by go_num, by rw [b3.out]; go_num⟩
      case measure => simp [intOf]; omega
    · obtain rfl : j = e := by omega
      rw [hu.out]
      go_wp2_with fail
      refine (rsize_nat x N hx hN _).mono ?_
      rintro e w' ⟨rfl, rfl⟩
      rw [hlow]
      go_wp2_with fail
      refine (rsigned_any (K : Int) (by omega) low _).mono ?_
      rintro e w' ⟨rfl, rfl⟩
      go_wp2
      all_goals go_ret2
      all_goals exact ⟨rfl, Below.refl _ _⟩
set_option maxRecDepth 100000 in
set_option maxHeartbeats 4000000 in
theorem rround_g01 (x : Int) (hx : -9223372036854775808 ≤ x ∧ x ≤ 9223372036854775807) (p : Int) (hp : -9223372036854775808 ≤ p ∧ p ≤ 9223372036854775807) (h : x ≠ -9223372036854775808) (hp1 : -15 ≤ p) (hp2 : p ≤ 3) (e : Nat) (he1 : (e : Int) ≤ 4 - p) (he2 : 4 - p ≤ (e : Int)) (N : Nat) (hN : x.natAbs = N) (hN1 : N ≤ 9223372036854775807) (P : Nat → Nat) (hP0 : P 0 = 1) (hPs : Hid (∀ j, j < e → P j ≤ 1000000000000000000 ∧ P (j + 1) = P j * 10)) (u : Nat) (hu : Hid (P e = u)) (hu1 : 10 ≤ u) (hu2 : u ≤ 10000000000000000000) (k r : Nat) (hk : Hid (N / u = k)) (hr : Hid (N % u = r)) (hkN : k ≤ N) (_hru : r < u) (low : Bool) (hlow : decide (x < 0) = low) (hup : 2 * r < u) (hue : Hid (u % 2 = 0)) (M : Nat) (hM : Hid (9223372036854775807 / u = M)) (hMb : M ≤ 9223372036854775807) (K : Nat) (_hK : Hid (k * u = K)) (ho : M < k) (w : World) : Calls Tryz.prog 67 #[.int .i64 x, .int .i64 p] w fun e w' => e = .returned (.tuple #[.int .i64 0, .int .i64 2]) ∧ Below w.heap.size w w' := by
  have m1 := may_yes h
  clear h
  have T1 : IntKind.u64.wrap ((N : Int).tdiv u) = (k : Int) := by rw [IntWalk.u64_quo _ _ (by omega), ← hk.out]; simp
  have T2 : (N : Int).tmod u = (r : Int) := by rw [Int.tmod_eq_emod_of_nonneg (by omega), ← hr.out]; simp
  have T3 : (N : Int) / u = (k : Int) := by rw [← hk.out]; simp
  have T4 : (N : Int) % u = (r : Int) := by rw [← hr.out]; simp
  have T5 : IntKind.u64.wrap ((9223372036854775807 : Int).tdiv u) = (M : Int) := by rw [IntWalk.u64_quo _ _ (by omega), ← hM.out]; simp
  have T6 : (9223372036854775807 : Int) / u = (M : Int) := by rw [← hM.out]; simp
  have T7 : IntKind.u64.wrap ((M : Int)) = (M : Int) := IntWalk.u64_in _ (by omega)
  have U1 : (r : Int) < (u : Int) / 2 := by have := hue.out; omega
  go_enter Tryz.func67, Tryz.ntmps67
  go_wp2_with (go_at_call 60; refine (drmay_any _ (by first | assumption | (constructor <;> omega)) _).mono ?_; rintro e w1 ⟨rfl, rfl⟩)
  go_loop [6, 7] (fun n i => ∃ j : Nat, j ≤ e ∧ i = .int .i64 (4 - (j : Int)) ∧ n = .int .u64 (P j : Int)) (fun _ i => ((intOf i) - p).toNat)
  case atStart => exact ⟨0, by omega, rfl, by rw [hP0]; rfl⟩
  case round =>
    obtain ⟨j, hj, rfl, rfl⟩ := hrel
    by_cases hlt : j < e
    · obtain ⟨b1, b2⟩ := hPs.out j hlt
      have b3 := Lib.hid b2
      clear b2
      go_wp2
      go_round
      case rel => exact ⟨j + 1, by omega, by go_num, by rw [b3.out]; go_num⟩
      case measure => simp [intOf]; omega
    · obtain rfl : j = e := by omega
      rw [hu.out]
      go_wp2_with fail
      refine (rsize_nat x N hx hN _).mono ?_
      rintro e w' ⟨rfl, rfl⟩
      rw [hlow]
      go_wp2
      all_goals go_ret2
      all_goals exact ⟨rfl, Below.refl _ _⟩
set_option maxRecDepth 100000 in
set_option maxHeartbeats 4000000 in
theorem rround_g10 (x : Int) (hx : -9223372036854775808 ≤ x ∧ x ≤ 9223372036854775807) (p : Int) (hp : -9223372036854775808 ≤ p ∧ p ≤ 9223372036854775807) (h : x ≠ -9223372036854775808) (hp1 : -15 ≤ p) (hp2 : p ≤ 3) (e : Nat) (he1 : (e : Int) ≤ 4 - p) (he2 : 4 - p ≤ (e : Int)) (N : Nat) (hN : x.natAbs = N) (hN1 : N ≤ 9223372036854775807) (P : Nat → Nat) (hP0 : P 0 = 1) (hPs : Hid (∀ j, j < e → P j ≤ 1000000000000000000 ∧ P (j + 1) = P j * 10)) (u : Nat) (hu : Hid (P e = u)) (hu1 : 10 ≤ u) (hu2 : u ≤ 10000000000000000000) (k r : Nat) (hk : Hid (N / u = k)) (hr : Hid (N % u = r)) (hkN : k ≤ N) (hru : r < u) (low : Bool) (hlow : decide (x < 0) = low) (hup : u ≤ 2 * r) (hue : Hid (u % 2 = 0)) (M : Nat) (hM : Hid (9223372036854775807 / u = M)) (hMb : M ≤ 9223372036854775807) (K : Nat) (hK : Hid ((k + 1) * u = K)) (ho : (k + 1) ≤ M) (ho2 : K ≤ 9223372036854775807) (w : World) : Calls Tryz.prog 67 #[.int .i64 x, .int .i64 p] w fun e w' => e = .returned (.tuple #[.int .i64 (exV (if low then -(K : Int) else (K : Int))), .int .i64 (exC (if low then -(K : Int) else (K : Int)))]) ∧ Below w.heap.size w w' := by
  have m1 := may_yes h
  clear h
  have T1 : IntKind.u64.wrap ((N : Int).tdiv u) = (k : Int) := by rw [IntWalk.u64_quo _ _ (by omega), ← hk.out]; simp
  have T2 : (N : Int).tmod u = (r : Int) := by rw [Int.tmod_eq_emod_of_nonneg (by omega), ← hr.out]; simp
  have T3 : (N : Int) / u = (k : Int) := by rw [← hk.out]; simp
  have T4 : (N : Int) % u = (r : Int) := by rw [← hr.out]; simp
  have T5 : IntKind.u64.wrap ((9223372036854775807 : Int).tdiv u) = (M : Int) := by rw [IntWalk.u64_quo _ _ (by omega), ← hM.out]; simp
  have T6 : (9223372036854775807 : Int) / u = (M : Int) := by rw [← hM.out]; simp
  have T7 : IntKind.u64.wrap ((M : Int)) = (M : Int) := IntWalk.u64_in _ (by omega)
  have U1 : (u : Int) / 2 ≤ (r : Int) := by have := hue.out; omega
  have T8 : (↑k + 1) * (u : Int) = (K : Int) := by rw [← hK.out]; simp
  go_enter Tryz.func67, Tryz.ntmps67
  go_wp2_with (go_at_call 60; refine (drmay_any _ (by first | assumption | (constructor <;> omega)) _).mono ?_; rintro e w1 ⟨rfl, rfl⟩)
  go_loop [6, 7] (fun n i => ∃ j : Nat, j ≤ e ∧ i = .int .i64 (4 - (j : Int)) ∧ n = .int .u64 (P j : Int)) (fun _ i => ((intOf i) - p).toNat)
  case atStart => exact ⟨0, by omega, rfl, by rw [hP0]; rfl⟩
  case round =>
    obtain ⟨j, hj, rfl, rfl⟩ := hrel
    by_cases hlt : j < e
    · obtain ⟨b1, b2⟩ := hPs.out j hlt
      have b3 := Lib.hid b2
      clear b2
      go_wp2
      go_round
      case rel => exact ⟨j + 1, by omega, by go_num, by rw [b3.out]; go_num⟩
      case measure => simp [intOf]; omega
    · obtain rfl : j = e := by omega
      rw [hu.out]
      go_wp2_with fail
      refine (rsize_nat x N hx hN _).mono ?_
      rintro e w' ⟨rfl, rfl⟩
      rw [hlow]
      go_wp2_with fail
      refine (rsigned_any (K : Int) (by omega) low _).mono ?_
      rintro e w' ⟨rfl, rfl⟩
      go_wp2
      all_goals go_ret2
      all_goals exact ⟨rfl, Below.refl _ _⟩
set_option maxRecDepth 100000 in
set_option maxHeartbeats 4000000 in
theorem rround_g11 (x : Int) (hx : -9223372036854775808 ≤ x ∧ x ≤ 9223372036854775807) (p : Int) (hp : -9223372036854775808 ≤ p ∧ p ≤ 9223372036854775807) (h : x ≠ -9223372036854775808) (hp1 : -15 ≤ p) (hp2 : p ≤ 3) (e : Nat) (he1 : (e : Int) ≤ 4 - p) (he2 : 4 - p ≤ (e : Int)) (N : Nat) (hN : x.natAbs = N) (hN1 : N ≤ 9223372036854775807) (P : Nat → Nat) (hP0 : P 0 = 1) (hPs : Hid (∀ j, j < e → P j ≤ 1000000000000000000 ∧ P (j + 1) = P j * 10)) (u : Nat) (hu : Hid (P e = u)) (hu1 : 10 ≤ u) (hu2 : u ≤ 10000000000000000000) (k r : Nat) (hk : Hid (N / u = k)) (hr : Hid (N % u = r)) (hkN : k ≤ N) (_hru : r < u) (low : Bool) (hlow : decide (x < 0) = low) (hup : u ≤ 2 * r) (hue : Hid (u % 2 = 0)) (M : Nat) (hM : Hid (9223372036854775807 / u = M)) (hMb : M ≤ 9223372036854775807) (K : Nat) (_hK : Hid ((k + 1) * u = K)) (ho : M < (k + 1)) (w : World) : Calls Tryz.prog 67 #[.int .i64 x, .int .i64 p] w fun e w' => e = .returned (.tuple #[.int .i64 0, .int .i64 2]) ∧ Below w.heap.size w w' := by
  have m1 := may_yes h
  clear h
  have T1 : IntKind.u64.wrap ((N : Int).tdiv u) = (k : Int) := by rw [IntWalk.u64_quo _ _ (by omega), ← hk.out]; simp
  have T2 : (N : Int).tmod u = (r : Int) := by rw [Int.tmod_eq_emod_of_nonneg (by omega), ← hr.out]; simp
  have T3 : (N : Int) / u = (k : Int) := by rw [← hk.out]; simp
  have T4 : (N : Int) % u = (r : Int) := by rw [← hr.out]; simp
  have T5 : IntKind.u64.wrap ((9223372036854775807 : Int).tdiv u) = (M : Int) := by rw [IntWalk.u64_quo _ _ (by omega), ← hM.out]; simp
  have T6 : (9223372036854775807 : Int) / u = (M : Int) := by rw [← hM.out]; simp
  have T7 : IntKind.u64.wrap ((M : Int)) = (M : Int) := IntWalk.u64_in _ (by omega)
  have U1 : (u : Int) / 2 ≤ (r : Int) := by have := hue.out; omega
  go_enter Tryz.func67, Tryz.ntmps67
  go_wp2_with (go_at_call 60; refine (drmay_any _ (by first | assumption | (constructor <;> omega)) _).mono ?_; rintro e w1 ⟨rfl, rfl⟩)
  go_loop [6, 7] (fun n i => ∃ j : Nat, j ≤ e ∧ i = .int .i64 (4 - (j : Int)) ∧ n = .int .u64 (P j : Int)) (fun _ i => ((intOf i) - p).toNat)
  case atStart => exact ⟨0, by omega, rfl, by rw [hP0]; rfl⟩
  case round =>
    obtain ⟨j, hj, rfl, rfl⟩ := hrel
    by_cases hlt : j < e
    · obtain ⟨b1, b2⟩ := hPs.out j hlt
      have b3 := Lib.hid b2
      clear b2
      go_wp2
      go_round
      case rel => exact ⟨j + 1, by omega, by go_num, by rw [b3.out]; go_num⟩
      case measure => simp [intOf]; omega
    · obtain rfl : j = e := by omega
      rw [hu.out]
      go_wp2_with fail
      refine (rsize_nat x N hx hN _).mono ?_
      rintro e w' ⟨rfl, rfl⟩
      rw [hlow]
      go_wp2
      all_goals go_ret2
      all_goals exact ⟨rfl, Below.refl _ _⟩
theorem rnd_at (N u k r : Nat) (hk : N / u = k) (hr : N % u = r) : (u ≤ 2 * r → rndN N u = (k + 1) * u) ∧ (2 * r < u → rndN N u = k * u) := by
  unfold rndN
  rw [hk, hr]
  exact ⟨fun h => by rw [if_pos h], fun h => by rw [if_neg (by omega)]; rfl⟩
theorem sgn_at (x : Int) (n : Nat) (low : Bool) (h : decide (x < 0) = low) : sgn x n = if low then -(n : Int) else (n : Int) := by
  subst h
  unfold sgn
  by_cases h : x < 0 <;> simp [h]
theorem ex_big (x : Int) (n : Nat) (h : 9223372036854775807 < n) : exV (sgn x n) = 0 ∧ exC (sgn x n) = 2 := by
  refine sum_out ?_
  unfold sgn
  split <;> omega
theorem le_div (k u M : Nat) (h0 : 0 < u) (hM : 9223372036854775807 / u = M) : k ≤ M ↔ k * u ≤ 9223372036854775807 := by
  rw [← hM]; exact Nat.le_div_iff_mul_le h0
theorem round_any (x : Int) (hx : -9223372036854775808 ≤ x ∧ x ≤ 9223372036854775807) (p : Int) (hp : -9223372036854775808 ≤ p ∧ p ≤ 9223372036854775807) (w : World) : Calls Tryz.prog 39 #[.int .i64 x, .int .i64 p] w fun e w' => e = .returned (.tuple #[.int .i64 (roundV x p), .int .i64 (roundC x p)]) ∧ Below w.heap.size w w' := by
  have lift : ∀ {P : Ending → Prop}, Calls Tryz.prog 39 #[.int .i64 x, .int .i64 p] w (fun e w' => P e ∧ w = w') → Calls Tryz.prog 39 #[.int .i64 x, .int .i64 p] w (fun e w' => P e ∧ Below w.heap.size w w') :=
    fun c => c.mono fun _ _ ⟨he, hw⟩ => ⟨he, by rw [← hw]; exact Below.refl _ _⟩
  unfold roundV roundC
  by_cases h : x = -9223372036854775808
  · rw [if_pos h, if_pos h]; exact lift (round_no x hx p hp h w)
  rw [if_neg h, if_neg h]
  by_cases h4 : 4 ≤ p
  · rw [if_pos h4, if_pos h4]; exact lift (round_same x hx p hp h h4 w)
  rw [if_neg h4, if_neg h4]
  by_cases h5 : p < -15
  · rw [if_pos h5, if_pos h5]; exact lift (round_far x hx p hp h h5 w)
  rw [if_neg h5, if_neg h5]
  clear lift
  obtain ⟨e, he⟩ : ∃ e, (4 - p).toNat = e := ⟨_, rfl⟩
  rw [he]
  obtain ⟨N, hN⟩ : ∃ N, x.natAbs = N := ⟨_, rfl⟩
  rw [hN]
  have hN1 : N ≤ 9223372036854775807 := by omega
  obtain ⟨P, hP⟩ : ∃ P : Nat → Nat, P = fun j => 10 ^ j := ⟨_, rfl⟩
  have hP0 : P 0 = 1 := by rw [hP]
  have hPs := Lib.hid (show ∀ j, j < e → P j ≤ 1000000000000000000 ∧ P (j + 1) = P j * 10 by
    intro j hj; rw [hP]; exact pow_ok j (by omega))
  obtain ⟨u, hu⟩ : ∃ u, 10 ^ e = u := ⟨_, rfl⟩
  have hu' := pow_e e (by omega) (by omega)
  rw [hu] at hu'
  obtain ⟨hu1, hu2, hue⟩ := hu'
  rw [hu]
  have hu := Lib.hid (show P e = u by rw [hP]; exact hu)
  clear hP
  obtain ⟨k, hk⟩ : ∃ k, N / u = k := ⟨_, rfl⟩
  obtain ⟨r, hr⟩ : ∃ r, N % u = r := ⟨_, rfl⟩
  have hkN : k ≤ N := by rw [← hk]; exact Nat.div_le_self _ _
  have hru : r < u := by rw [← hr]; exact Nat.mod_lt _ (by omega)
  obtain ⟨e1, e2⟩ := rnd_at N u k r hk hr
  have hk := Lib.hid hk
  have hr := Lib.hid hr
  by_cases hup : u ≤ 2 * r
  · rw [e1 hup]
    by_cases ho : (k + 1) * u / 18446744073709551616 < 1
    · have hm : (k + 1) * u % 18446744073709551616 = (k + 1) * u := Nat.mod_eq_of_lt (by omega)
      rw [sgn_at x _ _ rfl]
      exact round_g10 x hx p hp h (by omega) (by omega) e (by omega) (by omega) N hN hN1 P hP0 hPs u hu hu1 hu2 k r hk hr hkN hru _ rfl hup _ ((k + 1) * u) (Lib.hid rfl) (Lib.hid hm) (by omega) ho w
    · obtain ⟨b1, b2⟩ := ex_big x ((k + 1) * u) (by omega)
      rw [b1, b2]
      exact round_g11 x hx p hp h (by omega) (by omega) e (by omega) (by omega) N hN hN1 P hP0 hPs u hu hu1 hu2 k r hk hr hkN hru _ rfl hup _ _ (Lib.hid rfl) (Lib.hid rfl) (Nat.mod_lt _ (by omega)) (by omega) w
  · rw [e2 (by omega)]
    by_cases ho : k * u / 18446744073709551616 < 1
    · have hm : k * u % 18446744073709551616 = k * u := Nat.mod_eq_of_lt (by omega)
      rw [sgn_at x _ _ rfl]
      exact round_g00 x hx p hp h (by omega) (by omega) e (by omega) (by omega) N hN hN1 P hP0 hPs u hu hu1 hu2 k r hk hr hkN hru _ rfl (by omega) _ (k * u) (Lib.hid rfl) (Lib.hid hm) (by omega) ho w
    · obtain ⟨b1, b2⟩ := ex_big x (k * u) (by omega)
      rw [b1, b2]
      exact round_g01 x hx p hp h (by omega) (by omega) e (by omega) (by omega) N hN hN1 P hP0 hPs u hu hu1 hu2 k r hk hr hkN hru _ rfl (by omega) _ _ (Lib.hid rfl) (Lib.hid rfl) (Nat.mod_lt _ (by omega)) (by omega) w
theorem rround_any (x : Int) (hx : -9223372036854775808 ≤ x ∧ x ≤ 9223372036854775807) (p : Int) (hp : -9223372036854775808 ≤ p ∧ p ≤ 9223372036854775807) (w : World) : Calls Tryz.prog 67 #[.int .i64 x, .int .i64 p] w fun e w' => e = .returned (.tuple #[.int .i64 (roundV x p), .int .i64 (roundC x p)]) ∧ Below w.heap.size w w' := by
  have lift : ∀ {P : Ending → Prop}, Calls Tryz.prog 67 #[.int .i64 x, .int .i64 p] w (fun e w' => P e ∧ w = w') → Calls Tryz.prog 67 #[.int .i64 x, .int .i64 p] w (fun e w' => P e ∧ Below w.heap.size w w') :=
    fun c => c.mono fun _ _ ⟨he, hw⟩ => ⟨he, by rw [← hw]; exact Below.refl _ _⟩
  unfold roundV roundC
  by_cases h : x = -9223372036854775808
  · rw [if_pos h, if_pos h]; exact lift (rround_no x hx p hp h w)
  rw [if_neg h, if_neg h]
  by_cases h4 : 4 ≤ p
  · rw [if_pos h4, if_pos h4]; exact lift (rround_same x hx p hp h h4 w)
  rw [if_neg h4, if_neg h4]
  by_cases h5 : p < -15
  · rw [if_pos h5, if_pos h5]; exact lift (rround_far x hx p hp h h5 w)
  rw [if_neg h5, if_neg h5]
  clear lift
  obtain ⟨e, he⟩ : ∃ e, (4 - p).toNat = e := ⟨_, rfl⟩
  rw [he]
  obtain ⟨N, hN⟩ : ∃ N, x.natAbs = N := ⟨_, rfl⟩
  rw [hN]
  have hN1 : N ≤ 9223372036854775807 := by omega
  obtain ⟨P, hP⟩ : ∃ P : Nat → Nat, P = fun j => 10 ^ j := ⟨_, rfl⟩
  have hP0 : P 0 = 1 := by rw [hP]
  have hPs := Lib.hid (show ∀ j, j < e → P j ≤ 1000000000000000000 ∧ P (j + 1) = P j * 10 by
    intro j hj; rw [hP]; exact pow_ok j (by omega))
  obtain ⟨u, hu⟩ : ∃ u, 10 ^ e = u := ⟨_, rfl⟩
  have hu' := pow_e e (by omega) (by omega)
  rw [hu] at hu'
  obtain ⟨hu1, hu2, hue⟩ := hu'
  rw [hu]
  have hu := Lib.hid (show P e = u by rw [hP]; exact hu)
  clear hP
  obtain ⟨k, hk⟩ : ∃ k, N / u = k := ⟨_, rfl⟩
  obtain ⟨r, hr⟩ : ∃ r, N % u = r := ⟨_, rfl⟩
  have hkN : k ≤ N := by rw [← hk]; exact Nat.div_le_self _ _
  have hru : r < u := by rw [← hr]; exact Nat.mod_lt _ (by omega)
  obtain ⟨e1, e2⟩ := rnd_at N u k r hk hr
  have hk := Lib.hid hk
  have hr := Lib.hid hr
  by_cases hup : u ≤ 2 * r
  · rw [e1 hup]
    have hd := le_div (k + 1) u _ (by omega) rfl
    have hMb : 9223372036854775807 / u ≤ 9223372036854775807 := Nat.div_le_self _ _
    by_cases ho : (k + 1) ≤ 9223372036854775807 / u
    · rw [sgn_at x _ _ rfl]
      exact rround_g10 x hx p hp h (by omega) (by omega) e (by omega) (by omega) N hN hN1 P hP0 hPs u hu hu1 hu2 k r hk hr hkN hru _ rfl hup (Lib.hid hue) _ (Lib.hid rfl) hMb ((k + 1) * u) (Lib.hid rfl) ho (hd.1 ho) w
    · have hb : 9223372036854775807 < (k + 1) * u := by
        rcases Nat.lt_or_ge 9223372036854775807 ((k + 1) * u) with h6 | h6
        · exact h6
        · exact absurd (hd.2 h6) ho
      obtain ⟨b1, b2⟩ := ex_big x ((k + 1) * u) hb
      rw [b1, b2]
      exact rround_g11 x hx p hp h (by omega) (by omega) e (by omega) (by omega) N hN hN1 P hP0 hPs u hu hu1 hu2 k r hk hr hkN hru _ rfl hup (Lib.hid hue) _ (Lib.hid rfl) hMb ((k + 1) * u) (Lib.hid rfl) (by omega) w
  · rw [e2 (by omega)]
    have hd := le_div k u _ (by omega) rfl
    have hMb : 9223372036854775807 / u ≤ 9223372036854775807 := Nat.div_le_self _ _
    by_cases ho : k ≤ 9223372036854775807 / u
    · rw [sgn_at x _ _ rfl]
      exact rround_g00 x hx p hp h (by omega) (by omega) e (by omega) (by omega) N hN hN1 P hP0 hPs u hu hu1 hu2 k r hk hr hkN hru _ rfl (by omega) (Lib.hid hue) _ (Lib.hid rfl) hMb (k * u) (Lib.hid rfl) ho (hd.1 ho) w
    · have hb : 9223372036854775807 < k * u := by
        rcases Nat.lt_or_ge 9223372036854775807 (k * u) with h6 | h6
        · exact h6
        · exact absurd (hd.2 h6) ho
      obtain ⟨b1, b2⟩ := ex_big x (k * u) hb
      rw [b1, b2]
      exact rround_g01 x hx p hp h (by omega) (by omega) e (by omega) (by omega) N hN hN1 P hP0 hPs u hu hu1 hu2 k r hk hr hkN hru _ rfl (by omega) (Lib.hid hue) _ (Lib.hid rfl) hMb (k * u) (Lib.hid rfl) (by omega) w
end Go.Proofs.YthobaffgllipfaaGreat
