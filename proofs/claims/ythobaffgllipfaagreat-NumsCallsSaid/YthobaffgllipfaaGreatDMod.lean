/-
  Package dec: Mod of both.
-/
import Derived.Test.YthobaffgllipfaaGreatRows
import Derived.Test.YthobaffgllipfaaGreatBase
import Derived.Test.YthobaffgllipfaaGreatMg3
import Derived.Test.YthobaffgllipfaaGreatDecS
import Derived.Laws.BitsAllLaws
import Derived.WalkSpells
import Derived.WalkLawsBesides
import Derived.StillTactics
import Derived.Laws.Pointers
import Derived.Deep.RegionHeld3
import Derived.Deep.QuietTactic
import Derived.BigQuiet
import Derived.RowKit3
import Derived.Lib.Hide
import Derived.Lib.OthersKept
import Derived.OwnWalk
import Derived.Lib.IndexLaws
import Derived.Lib.ItoaMem
import Derived.WalkKit
import Derived.ProofKit
import Derived.OpenShut
import Derived.Carry
import Derived.ChangeSame
import Derived.Deep.Draws
namespace Go.Proofs.YthobaffgllipfaaGreat
open Go.RowKit

theorem ofInt_msb (a : Int) (h1 : -9223372036854775808 ≤ a) (h2 : a ≤ 9223372036854775807) : (BitVec.ofInt 64 a).msb = decide (a < 0) := by
  rw [BitVec.msb_eq_toInt, BitVec.toInt_ofInt_eq_self (by omega) (by simpa using h1) (by simp; omega)]
theorem xor_sign (a b : Int) (ha : -9223372036854775808 ≤ a ∧ a ≤ 9223372036854775807) (hb : -9223372036854775808 ≤ b ∧ b ≤ 9223372036854775807) : decide (bits .xor .i64 a b < 0) = (decide (a < 0) != decide (b < 0)) := by
  have e : bits .xor .i64 a b = (BitVec.ofInt 64 a ^^^ BitVec.ofInt 64 b).toInt := by
    unfold bits
    show IntKind.i64.wrap ((BitVec.ofInt 64 a ^^^ BitVec.ofInt 64 b).toNat : Int) = _
    rw [BitVec.toInt_eq_toNat_bmod]
    have h := (BitVec.ofInt 64 a ^^^ BitVec.ofInt 64 b).isLt
    generalize (BitVec.ofInt 64 a ^^^ BitVec.ofInt 64 b).toNat = n at *
    rw [IntKind.wrap_i64, Int.bmod_def]
    omega
  rw [e, ← BitVec.msb_eq_toInt, BitVec.msb_xor, ofInt_msb a ha.1 ha.2, ofInt_msb b hb.1 hb.2]
/-- what is left, with the divisor's sign -/
def modM (a b : Int) : Int := if a.tmod b ≠ 0 ∧ (decide (a.tmod b < 0) != decide (b < 0)) = true then a.tmod b + b else a.tmod b
def modV (a b : Int) : Int := if a = -9223372036854775808 ∨ b = -9223372036854775808 ∨ b = 0 then 0 else modM a b
def modC (a b : Int) : Int := if a = -9223372036854775808 ∨ b = -9223372036854775808 then 2 else if b = 0 then 3 else 0
theorem tmod_lt (a b : Int) (h : b ≠ 0) : -(b.natAbs : Int) < a.tmod b ∧ a.tmod b < b.natAbs := by
  have h1 : (a.tmod b).natAbs = a.natAbs % b.natAbs := Int.natAbs_tmod a b
  have h2 := Nat.mod_lt a.natAbs (show 0 < b.natAbs by omega)
  omega
set_option maxHeartbeats 1000000 in
theorem mod_a (a b : Int) (ha : -9223372036854775808 ≤ a ∧ a ≤ 9223372036854775807) (_hb : -9223372036854775808 ≤ b ∧ b ≤ 9223372036854775807) (h : a = -9223372036854775808) (w : World) : Calls Tryz.prog 44 #[.int .i64 a, .int .i64 b] w fun e w' => e = .returned (.tuple #[.int .i64 0, .int .i64 2]) ∧ w = w' := by
  have m1 := may_no h
  clear h
  go_enter Tryz.func44, Tryz.ntmps44
  go_wp2_with (go_at_call 73; refine (dmay_any _ (by first | assumption | (constructor <;> omega)) _).mono ?_; rintro e w1 ⟨rfl, rfl⟩)
  all_goals go_ret2
  all_goals first | exact ⟨rfl, rfl⟩ | (refine ⟨ret_ii ?_ rfl, rfl⟩; first | assumption | omega)
set_option maxHeartbeats 1000000 in
theorem mod_b (a b : Int) (ha : -9223372036854775808 ≤ a ∧ a ≤ 9223372036854775807) (hb : -9223372036854775808 ≤ b ∧ b ≤ 9223372036854775807) (h : a ≠ -9223372036854775808) (h2 : b = -9223372036854775808) (w : World) : Calls Tryz.prog 44 #[.int .i64 a, .int .i64 b] w fun e w' => e = .returned (.tuple #[.int .i64 0, .int .i64 2]) ∧ w = w' := by
  have m1 := may_yes h
  have m2 := may_no h2
  clear h h2
  go_enter Tryz.func44, Tryz.ntmps44
  go_wp2_with (go_at_call 73; refine (dmay_any _ (by first | assumption | (constructor <;> omega)) _).mono ?_; rintro e w1 ⟨rfl, rfl⟩)
  all_goals go_ret2
  all_goals first | exact ⟨rfl, rfl⟩ | (refine ⟨ret_ii ?_ rfl, rfl⟩; first | assumption | omega)
set_option maxHeartbeats 1000000 in
theorem mod_0 (a b : Int) (ha : -9223372036854775808 ≤ a ∧ a ≤ 9223372036854775807) (hb : -9223372036854775808 ≤ b ∧ b ≤ 9223372036854775807) (h : a ≠ -9223372036854775808) (h2 : b = 0) (w : World) : Calls Tryz.prog 44 #[.int .i64 a, .int .i64 b] w fun e w' => e = .returned (.tuple #[.int .i64 0, .int .i64 3]) ∧ w = w' := by
  subst h2
  have m1 := may_yes h
  have m2 : decMay 0 = true := by decide
  clear h
  go_enter Tryz.func44, Tryz.ntmps44
  go_wp2_with (go_at_call 73; refine (dmay_any _ (by first | assumption | (constructor <;> omega)) _).mono ?_; rintro e w1 ⟨rfl, rfl⟩)
  all_goals go_ret2
  all_goals first | exact ⟨rfl, rfl⟩ | (refine ⟨ret_ii ?_ rfl, rfl⟩; first | assumption | omega)
set_option maxHeartbeats 1000000 in
theorem mod_z (a b : Int) (ha : -9223372036854775808 ≤ a ∧ a ≤ 9223372036854775807) (hb : -9223372036854775808 ≤ b ∧ b ≤ 9223372036854775807) (h : a ≠ -9223372036854775808) (h2 : b ≠ -9223372036854775808) (h3 : b ≠ 0) (m : Int) (hm : a.tmod b = m) (h4 : m = 0) (w : World) : Calls Tryz.prog 44 #[.int .i64 a, .int .i64 b] w fun e w' => e = .returned (.tuple #[.int .i64 0, .int .i64 0]) ∧ w = w' := by
  subst h4
  have m1 := may_yes h
  have m2 := may_yes h2
  have hm' := Lib.hid hm
  have hr := tmod_lt a b h3
  rw [hm] at hr
  obtain ⟨hr1, hr2⟩ := hr
  have hw : IntKind.i64.wrap 0 = 0 := by decide
  have hmb : -9223372036854775808 ≤ (0 : Int) ∧ (0 : Int) ≤ 9223372036854775807 := by omega
  go_enter Tryz.func44, Tryz.ntmps44
  go_wp2_with (go_at_call 73; refine (dmay_any _ (by first | assumption | (constructor <;> omega)) _).mono ?_; rintro e w1 ⟨rfl, rfl⟩)
  all_goals go_ret2
  all_goals first | exact ⟨rfl, rfl⟩ | (refine ⟨ret_ii ?_ rfl, rfl⟩; first | assumption | omega)
set_option maxHeartbeats 1000000 in
theorem mod_s00 (a b : Int) (ha : -9223372036854775808 ≤ a ∧ a ≤ 9223372036854775807) (hb : -9223372036854775808 ≤ b ∧ b ≤ 9223372036854775807) (h : a ≠ -9223372036854775808) (h2 : b ≠ -9223372036854775808) (h3 : b ≠ 0) (m : Int) (hm : a.tmod b = m) (h4 : 0 < m) (h5 : 0 < b) (w : World) : Calls Tryz.prog 44 #[.int .i64 a, .int .i64 b] w fun e w' => e = .returned (.tuple #[.int .i64 m, .int .i64 0]) ∧ w = w' := by
  have m1 := may_yes h
  have m2 := may_yes h2
  have hm' := Lib.hid hm
  have hr := tmod_lt a b h3
  rw [hm] at hr
  obtain ⟨hr1, hr2⟩ := hr
  have hw : IntKind.i64.wrap m = m := IntWalk.i64_in _ (by omega)
  have hmb : -9223372036854775808 ≤ m ∧ m ≤ 9223372036854775807 := by omega
  have e1 : decide (m < 0) = false := by simp; omega
  have e2 : decide (b < 0) = false := by simp; omega
  have hx := xor_sign m b hmb hb
  rw [e1, e2] at hx
  have hx2 : ¬ bits .xor .i64 m b < 0 := by simpa using hx
  clear hx e1 e2
  go_enter Tryz.func44, Tryz.ntmps44
  go_wp2_with (go_at_call 73; refine (dmay_any _ (by first | assumption | (constructor <;> omega)) _).mono ?_; rintro e w1 ⟨rfl, rfl⟩)
  all_goals go_ret2
  all_goals first | exact ⟨rfl, rfl⟩ | (refine ⟨ret_ii ?_ rfl, rfl⟩; first | assumption | omega)
set_option maxHeartbeats 1000000 in
theorem mod_s11 (a b : Int) (ha : -9223372036854775808 ≤ a ∧ a ≤ 9223372036854775807) (hb : -9223372036854775808 ≤ b ∧ b ≤ 9223372036854775807) (h : a ≠ -9223372036854775808) (h2 : b ≠ -9223372036854775808) (h3 : b ≠ 0) (m : Int) (hm : a.tmod b = m) (h4 : m < 0) (h5 : b < 0) (w : World) : Calls Tryz.prog 44 #[.int .i64 a, .int .i64 b] w fun e w' => e = .returned (.tuple #[.int .i64 m, .int .i64 0]) ∧ w = w' := by
  have m1 := may_yes h
  have m2 := may_yes h2
  have hm' := Lib.hid hm
  have hr := tmod_lt a b h3
  rw [hm] at hr
  obtain ⟨hr1, hr2⟩ := hr
  have hw : IntKind.i64.wrap m = m := IntWalk.i64_in _ (by omega)
  have hmb : -9223372036854775808 ≤ m ∧ m ≤ 9223372036854775807 := by omega
  have e1 : decide (m < 0) = true := by simp; omega
  have e2 : decide (b < 0) = true := by simp; omega
  have hx := xor_sign m b hmb hb
  rw [e1, e2] at hx
  have hx2 : ¬ bits .xor .i64 m b < 0 := by simpa using hx
  clear hx e1 e2
  go_enter Tryz.func44, Tryz.ntmps44
  go_wp2_with (go_at_call 73; refine (dmay_any _ (by first | assumption | (constructor <;> omega)) _).mono ?_; rintro e w1 ⟨rfl, rfl⟩)
  all_goals go_ret2
  all_goals first | exact ⟨rfl, rfl⟩ | (refine ⟨ret_ii ?_ rfl, rfl⟩; first | assumption | omega)
set_option maxHeartbeats 1000000 in
theorem mod_s01 (a b : Int) (ha : -9223372036854775808 ≤ a ∧ a ≤ 9223372036854775807) (hb : -9223372036854775808 ≤ b ∧ b ≤ 9223372036854775807) (h : a ≠ -9223372036854775808) (h2 : b ≠ -9223372036854775808) (h3 : b ≠ 0) (m : Int) (hm : a.tmod b = m) (h4 : 0 < m) (h5 : b < 0) (w : World) : Calls Tryz.prog 44 #[.int .i64 a, .int .i64 b] w fun e w' => e = .returned (.tuple #[.int .i64 (m + b), .int .i64 0]) ∧ w = w' := by
  have m1 := may_yes h
  have m2 := may_yes h2
  have hm' := Lib.hid hm
  have hr := tmod_lt a b h3
  rw [hm] at hr
  obtain ⟨hr1, hr2⟩ := hr
  have hw : IntKind.i64.wrap m = m := IntWalk.i64_in _ (by omega)
  have hmb : -9223372036854775808 ≤ m ∧ m ≤ 9223372036854775807 := by omega
  have e1 : decide (m < 0) = false := by simp; omega
  have e2 : decide (b < 0) = true := by simp; omega
  have hx := xor_sign m b hmb hb
  rw [e1, e2] at hx
  have hx2 : bits .xor .i64 m b < 0 := by simpa using hx
  clear hx e1 e2
  have hs : IntKind.i64.wrap (m + b) = m + b := IntWalk.i64_in _ (by omega)
  have hs2 : wrap64 (m + b) = m + b := by unfold wrap64; omega
  go_enter Tryz.func44, Tryz.ntmps44
  go_wp2_with (go_at_call 73; refine (dmay_any _ (by first | assumption | (constructor <;> omega)) _).mono ?_; rintro e w1 ⟨rfl, rfl⟩)
  all_goals go_ret2
  all_goals first | exact ⟨rfl, rfl⟩ | (refine ⟨ret_ii ?_ rfl, rfl⟩; first | assumption | omega)
set_option maxHeartbeats 1000000 in
theorem mod_s10 (a b : Int) (ha : -9223372036854775808 ≤ a ∧ a ≤ 9223372036854775807) (hb : -9223372036854775808 ≤ b ∧ b ≤ 9223372036854775807) (h : a ≠ -9223372036854775808) (h2 : b ≠ -9223372036854775808) (h3 : b ≠ 0) (m : Int) (hm : a.tmod b = m) (h4 : m < 0) (h5 : 0 < b) (w : World) : Calls Tryz.prog 44 #[.int .i64 a, .int .i64 b] w fun e w' => e = .returned (.tuple #[.int .i64 (m + b), .int .i64 0]) ∧ w = w' := by
  have m1 := may_yes h
  have m2 := may_yes h2
  have hm' := Lib.hid hm
  have hr := tmod_lt a b h3
  rw [hm] at hr
  obtain ⟨hr1, hr2⟩ := hr
  have hw : IntKind.i64.wrap m = m := IntWalk.i64_in _ (by omega)
  have hmb : -9223372036854775808 ≤ m ∧ m ≤ 9223372036854775807 := by omega
  have e1 : decide (m < 0) = true := by simp; omega
  have e2 : decide (b < 0) = false := by simp; omega
  have hx := xor_sign m b hmb hb
  rw [e1, e2] at hx
  have hx2 : bits .xor .i64 m b < 0 := by simpa using hx
  clear hx e1 e2
  have hs : IntKind.i64.wrap (m + b) = m + b := IntWalk.i64_in _ (by omega)
  have hs2 : wrap64 (m + b) = m + b := by unfold wrap64; omega
  go_enter Tryz.func44, Tryz.ntmps44
  go_wp2_with (go_at_call 73; refine (dmay_any _ (by first | assumption | (constructor <;> omega)) _).mono ?_; rintro e w1 ⟨rfl, rfl⟩)
  all_goals go_ret2
  all_goals first | exact ⟨rfl, rfl⟩ | (refine ⟨ret_ii ?_ rfl, rfl⟩; first | assumption | omega)
theorem mod_any (a b : Int) (ha : -9223372036854775808 ≤ a ∧ a ≤ 9223372036854775807) (hb : -9223372036854775808 ≤ b ∧ b ≤ 9223372036854775807) (w : World) : Calls Tryz.prog 44 #[.int .i64 a, .int .i64 b] w fun e w' => e = .returned (.tuple #[.int .i64 (modV a b), .int .i64 (modC a b)]) ∧ w = w' := by
  by_cases h : a = -9223372036854775808
  · rw [show modV a b = 0 from if_pos (.inl h), show modC a b = 2 from if_pos (.inl h)]
    exact mod_a a b ha hb h w
  by_cases h2 : b = -9223372036854775808
  · rw [show modV a b = 0 from if_pos (.inr (.inl h2)), show modC a b = 2 from if_pos (.inr h2)]
    exact mod_b a b ha hb h h2 w
  by_cases h3 : b = 0
  · rw [show modV a b = 0 from if_pos (.inr (.inr h3)), show modC a b = 3 by unfold modC; rw [if_neg (by omega), if_pos h3]]
    exact mod_0 a b ha hb h h3 w
  rw [show modV a b = modM a b from if_neg (by omega), show modC a b = 0 by unfold modC; rw [if_neg (by omega), if_neg h3]]
  obtain ⟨m, hm⟩ : ∃ m, a.tmod b = m := ⟨_, rfl⟩
  unfold modM
  rw [hm]
  by_cases h4 : m = 0
  · rw [if_neg (by intro hh; exact hh.1 h4), h4]
    exact mod_z a b ha hb h h2 h3 m hm h4 w
  by_cases h5 : m < 0 <;> by_cases h6 : b < 0
  · rw [if_neg (by simp [h5, h6])]
    exact mod_s11 a b ha hb h h2 h3 m hm h5 h6 w
  · rw [if_pos (by simp [h4, h5, h6])]
    exact mod_s10 a b ha hb h h2 h3 m hm h5 (by omega) w
  · rw [if_pos (by simp [h4, h5, h6])]
    exact mod_s01 a b ha hb h h2 h3 m hm (by omega) h6 w
  · rw [if_neg (by simp [h5, h6])]
    exact mod_s00 a b ha hb h h2 h3 m hm (by omega) (by omega) w
set_option maxHeartbeats 1000000 in
theorem rmod_a (a b : Int) (ha : -9223372036854775808 ≤ a ∧ a ≤ 9223372036854775807) (_hb : -9223372036854775808 ≤ b ∧ b ≤ 9223372036854775807) (h : a = -9223372036854775808) (w : World) : Calls Tryz.prog 70 #[.int .i64 a, .int .i64 b] w fun e w' => e = .returned (.tuple #[.int .i64 0, .int .i64 2]) ∧ w = w' := by
  have m1 := may_no h
  clear h
  go_enter Tryz.func70, Tryz.ntmps70
  go_wp2_with (go_at_call 60; refine (drmay_any _ (by first | assumption | (constructor <;> omega)) _).mono ?_; rintro e w1 ⟨rfl, rfl⟩)
  all_goals go_ret2
  all_goals first | exact ⟨rfl, rfl⟩ | (refine ⟨ret_ii ?_ rfl, rfl⟩; first | assumption | omega)
set_option maxHeartbeats 1000000 in
theorem rmod_b (a b : Int) (ha : -9223372036854775808 ≤ a ∧ a ≤ 9223372036854775807) (hb : -9223372036854775808 ≤ b ∧ b ≤ 9223372036854775807) (h : a ≠ -9223372036854775808) (h2 : b = -9223372036854775808) (w : World) : Calls Tryz.prog 70 #[.int .i64 a, .int .i64 b] w fun e w' => e = .returned (.tuple #[.int .i64 0, .int .i64 2]) ∧ w = w' := by
  have m1 := may_yes h
  have m2 := may_no h2
  clear h h2
  go_enter Tryz.func70, Tryz.ntmps70
  go_wp2_with (go_at_call 60; refine (drmay_any _ (by first | assumption | (constructor <;> omega)) _).mono ?_; rintro e w1 ⟨rfl, rfl⟩)
  all_goals go_ret2
  all_goals first | exact ⟨rfl, rfl⟩ | (refine ⟨ret_ii ?_ rfl, rfl⟩; first | assumption | omega)
set_option maxHeartbeats 1000000 in
theorem rmod_0 (a b : Int) (ha : -9223372036854775808 ≤ a ∧ a ≤ 9223372036854775807) (hb : -9223372036854775808 ≤ b ∧ b ≤ 9223372036854775807) (h : a ≠ -9223372036854775808) (h2 : b = 0) (w : World) : Calls Tryz.prog 70 #[.int .i64 a, .int .i64 b] w fun e w' => e = .returned (.tuple #[.int .i64 0, .int .i64 3]) ∧ w = w' := by
  subst h2
  have m1 := may_yes h
  have m2 : decMay 0 = true := by decide
  clear h
  go_enter Tryz.func70, Tryz.ntmps70
  go_wp2_with (go_at_call 60; refine (drmay_any _ (by first | assumption | (constructor <;> omega)) _).mono ?_; rintro e w1 ⟨rfl, rfl⟩)
  all_goals go_ret2
  all_goals first | exact ⟨rfl, rfl⟩ | (refine ⟨ret_ii ?_ rfl, rfl⟩; first | assumption | omega)
set_option maxHeartbeats 1000000 in
theorem rmod_z (a b : Int) (ha : -9223372036854775808 ≤ a ∧ a ≤ 9223372036854775807) (hb : -9223372036854775808 ≤ b ∧ b ≤ 9223372036854775807) (h : a ≠ -9223372036854775808) (h2 : b ≠ -9223372036854775808) (h3 : b ≠ 0) (m : Int) (hm : a.tmod b = m) (h4 : m = 0) (w : World) : Calls Tryz.prog 70 #[.int .i64 a, .int .i64 b] w fun e w' => e = .returned (.tuple #[.int .i64 0, .int .i64 0]) ∧ w = w' := by
  subst h4
  have m1 := may_yes h
  have m2 := may_yes h2
  have hm' := Lib.hid hm
  have hr := tmod_lt a b h3
  rw [hm] at hr
  obtain ⟨hr1, hr2⟩ := hr
  have hw : IntKind.i64.wrap 0 = 0 := by decide
  have hmb : -9223372036854775808 ≤ (0 : Int) ∧ (0 : Int) ≤ 9223372036854775807 := by omega
  go_enter Tryz.func70, Tryz.ntmps70
  go_wp2_with (go_at_call 60; refine (drmay_any _ (by first | assumption | (constructor <;> omega)) _).mono ?_; rintro e w1 ⟨rfl, rfl⟩)
  all_goals go_ret2
  all_goals first | exact ⟨rfl, rfl⟩ | (refine ⟨ret_ii ?_ rfl, rfl⟩; first | assumption | omega)
set_option maxHeartbeats 1000000 in
theorem rmod_s00 (a b : Int) (ha : -9223372036854775808 ≤ a ∧ a ≤ 9223372036854775807) (hb : -9223372036854775808 ≤ b ∧ b ≤ 9223372036854775807) (h : a ≠ -9223372036854775808) (h2 : b ≠ -9223372036854775808) (h3 : b ≠ 0) (m : Int) (hm : a.tmod b = m) (h4 : 0 < m) (h5 : 0 < b) (w : World) : Calls Tryz.prog 70 #[.int .i64 a, .int .i64 b] w fun e w' => e = .returned (.tuple #[.int .i64 m, .int .i64 0]) ∧ w = w' := by
  have m1 := may_yes h
  have m2 := may_yes h2
  have hm' := Lib.hid hm
  have hr := tmod_lt a b h3
  rw [hm] at hr
  obtain ⟨hr1, hr2⟩ := hr
  have hw : IntKind.i64.wrap m = m := IntWalk.i64_in _ (by omega)
  have hmb : -9223372036854775808 ≤ m ∧ m ≤ 9223372036854775807 := by omega
  have e1 : decide (m < 0) = false := by simp; omega
  have e2 : decide (b < 0) = false := by simp; omega
  go_enter Tryz.func70, Tryz.ntmps70
  go_wp2_with (go_at_call 60; refine (drmay_any _ (by first | assumption | (constructor <;> omega)) _).mono ?_; rintro e w1 ⟨rfl, rfl⟩)
  all_goals go_ret2
  all_goals first | exact ⟨rfl, rfl⟩ | (refine ⟨ret_ii ?_ rfl, rfl⟩; first | assumption | omega)
set_option maxHeartbeats 1000000 in
theorem rmod_s11 (a b : Int) (ha : -9223372036854775808 ≤ a ∧ a ≤ 9223372036854775807) (hb : -9223372036854775808 ≤ b ∧ b ≤ 9223372036854775807) (h : a ≠ -9223372036854775808) (h2 : b ≠ -9223372036854775808) (h3 : b ≠ 0) (m : Int) (hm : a.tmod b = m) (h4 : m < 0) (h5 : b < 0) (w : World) : Calls Tryz.prog 70 #[.int .i64 a, .int .i64 b] w fun e w' => e = .returned (.tuple #[.int .i64 m, .int .i64 0]) ∧ w = w' := by
  have m1 := may_yes h
  have m2 := may_yes h2
  have hm' := Lib.hid hm
  have hr := tmod_lt a b h3
  rw [hm] at hr
  obtain ⟨hr1, hr2⟩ := hr
  have hw : IntKind.i64.wrap m = m := IntWalk.i64_in _ (by omega)
  have hmb : -9223372036854775808 ≤ m ∧ m ≤ 9223372036854775807 := by omega
  have e1 : decide (m < 0) = true := by simp; omega
  have e2 : decide (b < 0) = true := by simp; omega
  go_enter Tryz.func70, Tryz.ntmps70
  go_wp2_with (go_at_call 60; refine (drmay_any _ (by first | assumption | (constructor <;> omega)) _).mono ?_; rintro e w1 ⟨rfl, rfl⟩)
  all_goals go_ret2
  all_goals first | exact ⟨rfl, rfl⟩ | (refine ⟨ret_ii ?_ rfl, rfl⟩; first | assumption | omega)
set_option maxHeartbeats 1000000 in
theorem rmod_s01 (a b : Int) (ha : -9223372036854775808 ≤ a ∧ a ≤ 9223372036854775807) (hb : -9223372036854775808 ≤ b ∧ b ≤ 9223372036854775807) (h : a ≠ -9223372036854775808) (h2 : b ≠ -9223372036854775808) (h3 : b ≠ 0) (m : Int) (hm : a.tmod b = m) (h4 : 0 < m) (h5 : b < 0) (w : World) : Calls Tryz.prog 70 #[.int .i64 a, .int .i64 b] w fun e w' => e = .returned (.tuple #[.int .i64 (m + b), .int .i64 0]) ∧ w = w' := by
  have m1 := may_yes h
  have m2 := may_yes h2
  have hm' := Lib.hid hm
  have hr := tmod_lt a b h3
  rw [hm] at hr
  obtain ⟨hr1, hr2⟩ := hr
  have hw : IntKind.i64.wrap m = m := IntWalk.i64_in _ (by omega)
  have hmb : -9223372036854775808 ≤ m ∧ m ≤ 9223372036854775807 := by omega
  have e1 : decide (m < 0) = false := by simp; omega
  have e2 : decide (b < 0) = true := by simp; omega
  have hs : IntKind.i64.wrap (m + b) = m + b := IntWalk.i64_in _ (by omega)
  have hs2 : wrap64 (m + b) = m + b := by unfold wrap64; omega
  go_enter Tryz.func70, Tryz.ntmps70
  go_wp2_with (go_at_call 60; refine (drmay_any _ (by first | assumption | (constructor <;> omega)) _).mono ?_; rintro e w1 ⟨rfl, rfl⟩)
  all_goals go_ret2
  all_goals first | exact ⟨rfl, rfl⟩ | (refine ⟨ret_ii ?_ rfl, rfl⟩; first | assumption | omega)
set_option maxHeartbeats 1000000 in
theorem rmod_s10 (a b : Int) (ha : -9223372036854775808 ≤ a ∧ a ≤ 9223372036854775807) (hb : -9223372036854775808 ≤ b ∧ b ≤ 9223372036854775807) (h : a ≠ -9223372036854775808) (h2 : b ≠ -9223372036854775808) (h3 : b ≠ 0) (m : Int) (hm : a.tmod b = m) (h4 : m < 0) (h5 : 0 < b) (w : World) : Calls Tryz.prog 70 #[.int .i64 a, .int .i64 b] w fun e w' => e = .returned (.tuple #[.int .i64 (m + b), .int .i64 0]) ∧ w = w' := by
  have m1 := may_yes h
  have m2 := may_yes h2
  have hm' := Lib.hid hm
  have hr := tmod_lt a b h3
  rw [hm] at hr
  obtain ⟨hr1, hr2⟩ := hr
  have hw : IntKind.i64.wrap m = m := IntWalk.i64_in _ (by omega)
  have hmb : -9223372036854775808 ≤ m ∧ m ≤ 9223372036854775807 := by omega
  have e1 : decide (m < 0) = true := by simp; omega
  have e2 : decide (b < 0) = false := by simp; omega
  have hs : IntKind.i64.wrap (m + b) = m + b := IntWalk.i64_in _ (by omega)
  have hs2 : wrap64 (m + b) = m + b := by unfold wrap64; omega
  go_enter Tryz.func70, Tryz.ntmps70
  go_wp2_with (go_at_call 60; refine (drmay_any _ (by first | assumption | (constructor <;> omega)) _).mono ?_; rintro e w1 ⟨rfl, rfl⟩)
  all_goals go_ret2
  all_goals first | exact ⟨rfl, rfl⟩ | (refine ⟨ret_ii ?_ rfl, rfl⟩; first | assumption | omega)
theorem rmod_any (a b : Int) (ha : -9223372036854775808 ≤ a ∧ a ≤ 9223372036854775807) (hb : -9223372036854775808 ≤ b ∧ b ≤ 9223372036854775807) (w : World) : Calls Tryz.prog 70 #[.int .i64 a, .int .i64 b] w fun e w' => e = .returned (.tuple #[.int .i64 (modV a b), .int .i64 (modC a b)]) ∧ w = w' := by
  by_cases h : a = -9223372036854775808
  · rw [show modV a b = 0 from if_pos (.inl h), show modC a b = 2 from if_pos (.inl h)]
    exact rmod_a a b ha hb h w
  by_cases h2 : b = -9223372036854775808
  · rw [show modV a b = 0 from if_pos (.inr (.inl h2)), show modC a b = 2 from if_pos (.inr h2)]
    exact rmod_b a b ha hb h h2 w
  by_cases h3 : b = 0
  · rw [show modV a b = 0 from if_pos (.inr (.inr h3)), show modC a b = 3 by unfold modC; rw [if_neg (by omega), if_pos h3]]
    exact rmod_0 a b ha hb h h3 w
  rw [show modV a b = modM a b from if_neg (by omega), show modC a b = 0 by unfold modC; rw [if_neg (by omega), if_neg h3]]
  obtain ⟨m, hm⟩ : ∃ m, a.tmod b = m := ⟨_, rfl⟩
  unfold modM
  rw [hm]
  by_cases h4 : m = 0
  · rw [if_neg (by intro hh; exact hh.1 h4), h4]
    exact rmod_z a b ha hb h h2 h3 m hm h4 w
  by_cases h5 : m < 0 <;> by_cases h6 : b < 0
  · rw [if_neg (by simp [h5, h6])]
    exact rmod_s11 a b ha hb h h2 h3 m hm h5 h6 w
  · rw [if_pos (by simp [h4, h5, h6])]
    exact rmod_s10 a b ha hb h h2 h3 m hm h5 (by omega) w
  · rw [if_pos (by simp [h4, h5, h6])]
    exact rmod_s01 a b ha hb h h2 h3 m hm (by omega) h6 w
  · rw [if_neg (by simp [h5, h6])]
    exact rmod_s00 a b ha hb h h2 h3 m hm (by omega) (by omega) w
end Go.Proofs.YthobaffgllipfaaGreat
