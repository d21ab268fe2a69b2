/-
  Neg, Add, Sub of package dec, and the document's own.
-/
import Derived.Test.YthobaffgllipfaaGreatRows
import Derived.Test.YthobaffgllipfaaGreatBase
import Derived.Test.YthobaffgllipfaaGreatMg3
import Derived.WalkSpells
import Derived.WalkLawsBesides
import Derived.StillTactics
import Derived.Laws.Pointers
import Derived.Deep.RegionHeld3
import Derived.Deep.QuietTactic
import Derived.BigQuiet
import Derived.RowKit3
import Derived.Lib.Hide
import Derived.Lib.OthersKept
import Derived.OwnWalk
import Derived.Lib.IndexLaws
import Derived.Lib.ItoaMem
import Derived.WalkKit
import Derived.ProofKit
import Derived.OpenShut
import Derived.Carry
import Derived.ChangeSame
import Derived.Deep.Draws
namespace Go.Proofs.YthobaffgllipfaaGreat
open Go.RowKit

theorem may_no {x : Int} (h : x = -9223372036854775808) : decMay x = false := by subst h; decide
theorem may_yes {x : Int} (h : x ≠ -9223372036854775808) : decMay x = true := by simp [decMay, h]
/-- the wrapped sum, by name -/
theorem sum_in {a b : Int} (h0 : -9223372036854775807 ≤ a + b) (h1 : a + b ≤ 9223372036854775807) : exV (a + b) = a + b ∧ exC (a + b) = 0 := by simp [exV, exC]; omega
theorem sum_out {n : Int} (h : n < -9223372036854775807 ∨ 9223372036854775807 < n) : exV n = 0 ∧ exC n = 2 := by simp [exV, exC]; omega

set_option maxHeartbeats 600000 in
theorem add0 (a b : Int) (ha : -9223372036854775808 ≤ a ∧ a ≤ 9223372036854775807) (_hb : -9223372036854775808 ≤ b ∧ b ≤ 9223372036854775807) (h : a = -9223372036854775808) (w : World) : Calls Tryz.prog 107 #[.int .i64 a, .int .i64 b] w fun e w' => e = .returned (.tuple #[.int .i64 (addV a b), .int .i64 (addC a b)]) ∧ w = w' := by
  have m1 := may_no h
  have hr := Lib.hid (show addV a b = 0 ∧ addC a b = 2 by simp [addV, addC, h])
  obtain ⟨s, hs⟩ : ∃ s, wrap64 (a + b) = s := ⟨_, rfl⟩
  have hs0 : -9223372036854775808 ≤ s ∧ s ≤ 9223372036854775807 := by subst hs; unfold wrap64; omega
  clear h
  go_enter Tryz.func107, Tryz.ntmps107
  go_wp2_with (go_at_call 73; refine (dmay_any _ (by first | assumption | (constructor <;> omega)) _).mono ?_; rintro e w1 ⟨rfl, rfl⟩)
  all_goals go_ret2
  all_goals exact ⟨by rw [hr.out.1, hr.out.2]; rfl, rfl⟩
set_option maxHeartbeats 600000 in
theorem add1 (a b : Int) (ha : -9223372036854775808 ≤ a ∧ a ≤ 9223372036854775807) (hb : -9223372036854775808 ≤ b ∧ b ≤ 9223372036854775807) (h1 : a ≠ -9223372036854775808) (h : b = -9223372036854775808) (w : World) : Calls Tryz.prog 107 #[.int .i64 a, .int .i64 b] w fun e w' => e = .returned (.tuple #[.int .i64 (addV a b), .int .i64 (addC a b)]) ∧ w = w' := by
  have m1 := may_yes h1
  have m2 := may_no h
  have hr := Lib.hid (show addV a b = 0 ∧ addC a b = 2 by simp [addV, addC, h])
  obtain ⟨s, hs⟩ : ∃ s, wrap64 (a + b) = s := ⟨_, rfl⟩
  have hs0 : -9223372036854775808 ≤ s ∧ s ≤ 9223372036854775807 := by subst hs; unfold wrap64; omega
  clear h h1
  go_enter Tryz.func107, Tryz.ntmps107
  go_wp2_with (go_at_call 73; refine (dmay_any _ (by first | assumption | (constructor <;> omega)) _).mono ?_; rintro e w1 ⟨rfl, rfl⟩)
  all_goals go_ret2
  all_goals exact ⟨by rw [hr.out.1, hr.out.2]; rfl, rfl⟩
set_option maxHeartbeats 600000 in
theorem add2 (a b : Int) (ha : -9223372036854775808 ≤ a ∧ a ≤ 9223372036854775807) (hb : -9223372036854775808 ≤ b ∧ b ≤ 9223372036854775807) (h1 : a ≠ -9223372036854775808) (h2 : b ≠ -9223372036854775808) (h3 : -9223372036854775807 ≤ a + b) (h4 : a + b ≤ 9223372036854775807) (h5 : 0 < b) (w : World) : Calls Tryz.prog 107 #[.int .i64 a, .int .i64 b] w fun e w' => e = .returned (.tuple #[.int .i64 (addV a b), .int .i64 (addC a b)]) ∧ w = w' := by
  have m1 := may_yes h1
  have m2 := may_yes h2
  have m3 := may_yes (x := a + b) (by omega)
  have h6 : a < a + b := by omega
  have hr := Lib.hid (show addV a b = a + b ∧ addC a b = 0 by have := sum_in h3 h4; simp [addV, addC, h1, h2, this])
  clear h1 h2
  go_enter Tryz.func107, Tryz.ntmps107
  go_wp2_with (go_at_call 73; refine (dmay_any _ (by first | assumption | (constructor <;> omega)) _).mono ?_; rintro e w1 ⟨rfl, rfl⟩)
  all_goals go_ret2
  all_goals exact ⟨by rw [hr.out.1, hr.out.2]; rfl, rfl⟩
set_option maxHeartbeats 600000 in
theorem add3 (a b : Int) (ha : -9223372036854775808 ≤ a ∧ a ≤ 9223372036854775807) (hb : -9223372036854775808 ≤ b ∧ b ≤ 9223372036854775807) (h1 : a ≠ -9223372036854775808) (h2 : b ≠ -9223372036854775808) (h3 : -9223372036854775807 ≤ a + b) (h4 : a + b ≤ 9223372036854775807) (h5 : b ≤ 0) (w : World) : Calls Tryz.prog 107 #[.int .i64 a, .int .i64 b] w fun e w' => e = .returned (.tuple #[.int .i64 (addV a b), .int .i64 (addC a b)]) ∧ w = w' := by
  have m1 := may_yes h1
  have m2 := may_yes h2
  have m3 := may_yes (x := a + b) (by omega)
  have h6 : ¬ a < a + b := by omega
  have hr := Lib.hid (show addV a b = a + b ∧ addC a b = 0 by have := sum_in h3 h4; simp [addV, addC, h1, h2, this])
  clear h1 h2
  go_enter Tryz.func107, Tryz.ntmps107
  go_wp2_with (go_at_call 73; refine (dmay_any _ (by first | assumption | (constructor <;> omega)) _).mono ?_; rintro e w1 ⟨rfl, rfl⟩)
  all_goals go_ret2
  all_goals exact ⟨by rw [hr.out.1, hr.out.2]; rfl, rfl⟩
set_option maxHeartbeats 600000 in
theorem add4 (a b : Int) (ha : -9223372036854775808 ≤ a ∧ a ≤ 9223372036854775807) (hb : -9223372036854775808 ≤ b ∧ b ≤ 9223372036854775807) (h1 : a ≠ -9223372036854775808) (h2 : b ≠ -9223372036854775808) (h3 : 9223372036854775807 < a + b) (w : World) : Calls Tryz.prog 107 #[.int .i64 a, .int .i64 b] w fun e w' => e = .returned (.tuple #[.int .i64 (addV a b), .int .i64 (addC a b)]) ∧ w = w' := by
  have m1 := may_yes h1
  have m2 := may_yes h2
  obtain ⟨s, hs⟩ : ∃ s, wrap64 (a + b) = s := ⟨_, rfl⟩
  have hs0 : -9223372036854775808 ≤ s ∧ s ≤ 9223372036854775807 := by subst hs; unfold wrap64; omega
  have h6 : decide (a < s) = false := by subst hs; simp; unfold wrap64; omega
  have h7 : 0 < b := by omega
  have h8 : (b != 0) = true := by simp; omega
  have hr := Lib.hid (show addV a b = 0 ∧ addC a b = 2 by have := sum_out (n := a + b) (.inr h3); simp [addV, addC, this])
  have hs' := Lib.hid h3
  clear h1 h2 h3
  cases m3 : decMay s
  all_goals
    go_enter Tryz.func107, Tryz.ntmps107
    go_wp2_with (go_at_call 73; refine (dmay_any _ (by first | assumption | (constructor <;> omega)) _).mono ?_; rintro e w1 ⟨rfl, rfl⟩)
  all_goals go_ret2
  all_goals exact ⟨by rw [hr.out.1, hr.out.2]; rfl, rfl⟩
set_option maxHeartbeats 600000 in
theorem add5 (a b : Int) (ha : -9223372036854775808 ≤ a ∧ a ≤ 9223372036854775807) (hb : -9223372036854775808 ≤ b ∧ b ≤ 9223372036854775807) (h1 : a ≠ -9223372036854775808) (h2 : b ≠ -9223372036854775808) (h3 : a + b < -9223372036854775807) (w : World) : Calls Tryz.prog 107 #[.int .i64 a, .int .i64 b] w fun e w' => e = .returned (.tuple #[.int .i64 (addV a b), .int .i64 (addC a b)]) ∧ w = w' := by
  have m1 := may_yes h1
  have m2 := may_yes h2
  obtain ⟨s, hs⟩ : ∃ s, wrap64 (a + b) = s := ⟨_, rfl⟩
  have hs0 : -9223372036854775808 ≤ s ∧ s ≤ 9223372036854775807 := by subst hs; unfold wrap64; omega
  have h6 : decMay s = false ∨ a < s := by
    by_cases he : a + b = -9223372036854775808
    · exact .inl (may_no (by subst hs; unfold wrap64; omega))
    · exact .inr (by subst hs; unfold wrap64; omega)
  have h7 : decide (0 < b) = false := by simp; omega
  have h8 : (b != 0) = true := by simp; omega
  have hr := Lib.hid (show addV a b = 0 ∧ addC a b = 2 by have := sum_out (n := a + b) (.inl h3); simp [addV, addC, this])
  clear h1 h2 h3
  cases m3 : decMay s
  all_goals
    try (rw [m3] at h6; have h9 := h6.resolve_left (by decide); clear h6)
    go_enter Tryz.func107, Tryz.ntmps107
    go_wp2_with (go_at_call 73; refine (dmay_any _ (by first | assumption | (constructor <;> omega)) _).mono ?_; rintro e w1 ⟨rfl, rfl⟩)
  all_goals go_ret2
  all_goals exact ⟨by rw [hr.out.1, hr.out.2]; rfl, rfl⟩
theorem add_any (a b : Int) (ha : -9223372036854775808 ≤ a ∧ a ≤ 9223372036854775807) (hb : -9223372036854775808 ≤ b ∧ b ≤ 9223372036854775807) (w : World) : Calls Tryz.prog 107 #[.int .i64 a, .int .i64 b] w fun e w' => e = .returned (.tuple #[.int .i64 (addV a b), .int .i64 (addC a b)]) ∧ w = w' := by
  by_cases h1 : a = -9223372036854775808
  · exact add0 a b ha hb h1 w
  by_cases h2 : b = -9223372036854775808
  · exact add1 a b ha hb h1 h2 w
  by_cases h3 : 9223372036854775807 < a + b
  · exact add4 a b ha hb h1 h2 h3 w
  by_cases h4 : a + b < -9223372036854775807
  · exact add5 a b ha hb h1 h2 h4 w
  by_cases h5 : 0 < b
  · exact add2 a b ha hb h1 h2 (by omega) (by omega) h5 w
  · exact add3 a b ha hb h1 h2 (by omega) (by omega) (by omega) w
theorem sub_eq {a b : Int} (hb : b ≤ 9223372036854775807) (h : b ≠ -9223372036854775808) : subV a b = addV a (-b) ∧ subC a b = addC a (-b) := by
  have h4 : ¬ (-b = -9223372036854775808) := by omega
  simp [subV, subC, addV, addC, h, h4, Int.sub_eq_add_neg]
set_option maxHeartbeats 600000 in
theorem sub0 (a b : Int) (_ha : -9223372036854775808 ≤ a ∧ a ≤ 9223372036854775807) (hb : -9223372036854775808 ≤ b ∧ b ≤ 9223372036854775807) (h : b = -9223372036854775808) (w : World) : Calls Tryz.prog 79 #[.int .i64 a, .int .i64 b] w fun e w' => e = .returned (.tuple #[.int .i64 (subV a b), .int .i64 (subC a b)]) ∧ w = w' := by
  have m2 := may_no h
  have hr := Lib.hid (show subV a b = 0 ∧ subC a b = 2 by simp [subV, subC, h])
  clear h
  go_enter Tryz.func79, Tryz.ntmps79
  go_wp2_with (first | (go_at_call 73; refine (dmay_any _ (by first | assumption | (constructor <;> omega)) _).mono ?_; rintro e w1 ⟨rfl, rfl⟩) | (go_at_call 107; refine (add_any _ _ (by constructor <;> omega) (by constructor <;> omega) _).mono ?_; rintro e w1 ⟨rfl, rfl⟩))
  all_goals go_ret2
  all_goals exact ⟨by rw [hr.out.1, hr.out.2]; rfl, rfl⟩
set_option maxHeartbeats 600000 in
theorem sub1 (a b : Int) (ha : -9223372036854775808 ≤ a ∧ a ≤ 9223372036854775807) (hb : -9223372036854775808 ≤ b ∧ b ≤ 9223372036854775807) (h : b ≠ -9223372036854775808) (w : World) : Calls Tryz.prog 79 #[.int .i64 a, .int .i64 b] w fun e w' => e = .returned (.tuple #[.int .i64 (subV a b), .int .i64 (subC a b)]) ∧ w = w' := by
  obtain ⟨a0, a1⟩ := ha
  obtain ⟨b0, b1⟩ := hb
  have m2 := may_yes h
  have hr := Lib.hid (sub_eq (a := a) b1 h)
  have h' : -9223372036854775807 ≤ b := by omega
  clear h
  go_enter Tryz.func79, Tryz.ntmps79
  go_wp2_with (first | (go_at_call 73; refine (dmay_any _ (by first | assumption | (constructor <;> omega)) _).mono ?_; rintro e w1 ⟨rfl, rfl⟩) | (go_at_call 107; refine (add_any _ _ (by constructor <;> omega) (by constructor <;> omega) _).mono ?_; rintro e w1 ⟨rfl, rfl⟩))
  all_goals go_ret2
  all_goals exact ⟨by rw [hr.out.1, hr.out.2]; rfl, rfl⟩
theorem sub_any (a b : Int) (ha : -9223372036854775808 ≤ a ∧ a ≤ 9223372036854775807) (hb : -9223372036854775808 ≤ b ∧ b ≤ 9223372036854775807) (w : World) : Calls Tryz.prog 79 #[.int .i64 a, .int .i64 b] w fun e w' => e = .returned (.tuple #[.int .i64 (subV a b), .int .i64 (subC a b)]) ∧ w = w' := by
  by_cases h : b = -9223372036854775808
  · exact sub0 a b ha hb h w
  · exact sub1 a b ha hb h w
set_option maxHeartbeats 600000 in
theorem radd0 (a b : Int) (ha : -9223372036854775808 ≤ a ∧ a ≤ 9223372036854775807) (_hb : -9223372036854775808 ≤ b ∧ b ≤ 9223372036854775807) (h : a = -9223372036854775808) (w : World) : Calls Tryz.prog 113 #[.int .i64 a, .int .i64 b] w fun e w' => e = .returned (.tuple #[.int .i64 (addV a b), .int .i64 (addC a b)]) ∧ w = w' := by
  have m1 := may_no h
  have hr := Lib.hid (show addV a b = 0 ∧ addC a b = 2 by simp [addV, addC, h])
  clear h
  go_enter Tryz.func113, Tryz.ntmps113
  go_wp2_with (first | (go_at_call 60; refine (drmay_any _ (by first | assumption | (constructor <;> omega)) _).mono ?_; rintro e w1 ⟨rfl, rfl⟩) | (go_at_call 101; refine (rsize_any _ (by first | assumption | (constructor <;> omega)) _).mono ?_; rintro e w1 ⟨rfl, rfl⟩) | (go_at_call 102; refine (rsigned_any _ (by constructor <;> omega) _ _).mono ?_; rintro e w1 ⟨rfl, rfl⟩))
  all_goals go_ret2
  all_goals exact ⟨by rw [hr.out.1, hr.out.2]; rfl, rfl⟩
set_option maxHeartbeats 600000 in
theorem radd1 (a b : Int) (ha : -9223372036854775808 ≤ a ∧ a ≤ 9223372036854775807) (hb : -9223372036854775808 ≤ b ∧ b ≤ 9223372036854775807) (h1 : a ≠ -9223372036854775808) (h : b = -9223372036854775808) (w : World) : Calls Tryz.prog 113 #[.int .i64 a, .int .i64 b] w fun e w' => e = .returned (.tuple #[.int .i64 (addV a b), .int .i64 (addC a b)]) ∧ w = w' := by
  have m1 := may_yes h1
  have m2 := may_no h
  have hr := Lib.hid (show addV a b = 0 ∧ addC a b = 2 by simp [addV, addC, h])
  clear h h1
  go_enter Tryz.func113, Tryz.ntmps113
  go_wp2_with (first | (go_at_call 60; refine (drmay_any _ (by first | assumption | (constructor <;> omega)) _).mono ?_; rintro e w1 ⟨rfl, rfl⟩) | (go_at_call 101; refine (rsize_any _ (by first | assumption | (constructor <;> omega)) _).mono ?_; rintro e w1 ⟨rfl, rfl⟩) | (go_at_call 102; refine (rsigned_any _ (by constructor <;> omega) _ _).mono ?_; rintro e w1 ⟨rfl, rfl⟩))
  all_goals go_ret2
  all_goals exact ⟨by rw [hr.out.1, hr.out.2]; rfl, rfl⟩
set_option maxHeartbeats 600000 in
theorem radd2 (a b : Int) (ha : -9223372036854775808 ≤ a ∧ a ≤ 9223372036854775807) (hb : -9223372036854775808 ≤ b ∧ b ≤ 9223372036854775807) (h1 : a ≠ -9223372036854775808) (h2 : b ≠ -9223372036854775808) (p : 0 ≤ a) (q : 0 ≤ b) (w : World) : Calls Tryz.prog 113 #[.int .i64 a, .int .i64 b] w fun e w' => e = .returned (.tuple #[.int .i64 (addV a b), .int .i64 (addC a b)]) ∧ w = w' := by
  have m1 := may_yes h1
  have m2 := may_yes h2
  have hr := Lib.hid (show addV a b = exV (a + b) ∧ addC a b = exC (a + b) by rw [show a + b = a + b from by omega]; simp [addV, addC, h1, h2])
  have n1 : absI a = a := by unfold absI; split <;> omega
  have n2 : absI b = b := by unfold absI; split <;> omega
  have d1 : decide (a < 0) = false := by simp; omega
  have d2 : decide (b < 0) = false := by simp; omega
  have b1 := ha.1
  have b2 := ha.2
  have b3 := hb.1
  have b4 := hb.2
  have b5 : -9223372036854775807 ≤ a := by omega
  have b6 : -9223372036854775807 ≤ b := by omega
  clear h1 h2
  go_enter Tryz.func113, Tryz.ntmps113
  go_wp2_with (first | (go_at_call 60; refine (drmay_any _ (by first | assumption | (constructor <;> omega)) _).mono ?_; rintro e w1 ⟨rfl, rfl⟩) | (go_at_call 101; refine (rsize_any _ (by first | assumption | (constructor <;> omega)) _).mono ?_; rintro e w1 ⟨rfl, rfl⟩) | (go_at_call 102; refine (rsigned_any _ (by constructor <;> omega) _ _).mono ?_; rintro e w1 ⟨rfl, rfl⟩))
  all_goals go_ret2
  all_goals exact ⟨by rw [hr.out.1, hr.out.2]; rfl, rfl⟩
set_option maxHeartbeats 600000 in
theorem radd3 (a b : Int) (ha : -9223372036854775808 ≤ a ∧ a ≤ 9223372036854775807) (hb : -9223372036854775808 ≤ b ∧ b ≤ 9223372036854775807) (h1 : a ≠ -9223372036854775808) (h2 : b ≠ -9223372036854775808) (p : a < 0) (q : b < 0) (w : World) : Calls Tryz.prog 113 #[.int .i64 a, .int .i64 b] w fun e w' => e = .returned (.tuple #[.int .i64 (addV a b), .int .i64 (addC a b)]) ∧ w = w' := by
  have m1 := may_yes h1
  have m2 := may_yes h2
  have hr := Lib.hid (show addV a b = exV (-(-a + -b)) ∧ addC a b = exC (-(-a + -b)) by rw [show -(-a + -b) = a + b from by omega]; simp [addV, addC, h1, h2])
  have n1 : absI a = -a := by unfold absI; split <;> omega
  have n2 : absI b = -b := by unfold absI; split <;> omega
  have d1 : decide (a < 0) = true := by simp; omega
  have d2 : decide (b < 0) = true := by simp; omega
  have b1 := ha.1
  have b2 := ha.2
  have b3 := hb.1
  have b4 := hb.2
  have b5 : -9223372036854775807 ≤ a := by omega
  have b6 : -9223372036854775807 ≤ b := by omega
  clear h1 h2
  go_enter Tryz.func113, Tryz.ntmps113
  go_wp2_with (first | (go_at_call 60; refine (drmay_any _ (by first | assumption | (constructor <;> omega)) _).mono ?_; rintro e w1 ⟨rfl, rfl⟩) | (go_at_call 101; refine (rsize_any _ (by first | assumption | (constructor <;> omega)) _).mono ?_; rintro e w1 ⟨rfl, rfl⟩) | (go_at_call 102; refine (rsigned_any _ (by constructor <;> omega) _ _).mono ?_; rintro e w1 ⟨rfl, rfl⟩))
  all_goals go_ret2
  all_goals exact ⟨by rw [hr.out.1, hr.out.2]; rfl, rfl⟩
set_option maxHeartbeats 600000 in
theorem radd4 (a b : Int) (ha : -9223372036854775808 ≤ a ∧ a ≤ 9223372036854775807) (hb : -9223372036854775808 ≤ b ∧ b ≤ 9223372036854775807) (h1 : a ≠ -9223372036854775808) (h2 : b ≠ -9223372036854775808) (p : 0 ≤ a) (q : b < 0) (r : -b ≤ a) (w : World) : Calls Tryz.prog 113 #[.int .i64 a, .int .i64 b] w fun e w' => e = .returned (.tuple #[.int .i64 (addV a b), .int .i64 (addC a b)]) ∧ w = w' := by
  have m1 := may_yes h1
  have m2 := may_yes h2
  have hr := Lib.hid (show addV a b = exV (a + b) ∧ addC a b = exC (a + b) by rw [show a + b = a + b from by omega]; simp [addV, addC, h1, h2])
  have n1 : absI a = a := by unfold absI; split <;> omega
  have n2 : absI b = -b := by unfold absI; split <;> omega
  have d1 : decide (a < 0) = false := by simp; omega
  have d2 : decide (b < 0) = true := by simp; omega
  have b1 := ha.1
  have b2 := ha.2
  have b3 := hb.1
  have b4 := hb.2
  have b5 : -9223372036854775807 ≤ a := by omega
  have b6 : -9223372036854775807 ≤ b := by omega
  clear h1 h2
  go_enter Tryz.func113, Tryz.ntmps113
  go_wp2_with (first | (go_at_call 60; refine (drmay_any _ (by first | assumption | (constructor <;> omega)) _).mono ?_; rintro e w1 ⟨rfl, rfl⟩) | (go_at_call 101; refine (rsize_any _ (by first | assumption | (constructor <;> omega)) _).mono ?_; rintro e w1 ⟨rfl, rfl⟩) | (go_at_call 102; refine (rsigned_any _ (by constructor <;> omega) _ _).mono ?_; rintro e w1 ⟨rfl, rfl⟩))
  all_goals go_ret2
  all_goals exact ⟨by rw [hr.out.1, hr.out.2]; rfl, rfl⟩
set_option maxHeartbeats 600000 in
theorem radd5 (a b : Int) (ha : -9223372036854775808 ≤ a ∧ a ≤ 9223372036854775807) (hb : -9223372036854775808 ≤ b ∧ b ≤ 9223372036854775807) (h1 : a ≠ -9223372036854775808) (h2 : b ≠ -9223372036854775808) (p : 0 ≤ a) (q : b < 0) (r : a < -b) (w : World) : Calls Tryz.prog 113 #[.int .i64 a, .int .i64 b] w fun e w' => e = .returned (.tuple #[.int .i64 (addV a b), .int .i64 (addC a b)]) ∧ w = w' := by
  have m1 := may_yes h1
  have m2 := may_yes h2
  have hr := Lib.hid (show addV a b = exV (-(-b - a)) ∧ addC a b = exC (-(-b - a)) by rw [show -(-b - a) = a + b from by omega]; simp [addV, addC, h1, h2])
  have n1 : absI a = a := by unfold absI; split <;> omega
  have n2 : absI b = -b := by unfold absI; split <;> omega
  have d1 : decide (a < 0) = false := by simp; omega
  have d2 : decide (b < 0) = true := by simp; omega
  have b1 := ha.1
  have b2 := ha.2
  have b3 := hb.1
  have b4 := hb.2
  have b5 : -9223372036854775807 ≤ a := by omega
  have b6 : -9223372036854775807 ≤ b := by omega
  clear h1 h2
  go_enter Tryz.func113, Tryz.ntmps113
  go_wp2_with (first | (go_at_call 60; refine (drmay_any _ (by first | assumption | (constructor <;> omega)) _).mono ?_; rintro e w1 ⟨rfl, rfl⟩) | (go_at_call 101; refine (rsize_any _ (by first | assumption | (constructor <;> omega)) _).mono ?_; rintro e w1 ⟨rfl, rfl⟩) | (go_at_call 102; refine (rsigned_any _ (by constructor <;> omega) _ _).mono ?_; rintro e w1 ⟨rfl, rfl⟩))
  all_goals go_ret2
  all_goals exact ⟨by rw [hr.out.1, hr.out.2]; rfl, rfl⟩
set_option maxHeartbeats 600000 in
theorem radd6 (a b : Int) (ha : -9223372036854775808 ≤ a ∧ a ≤ 9223372036854775807) (hb : -9223372036854775808 ≤ b ∧ b ≤ 9223372036854775807) (h1 : a ≠ -9223372036854775808) (h2 : b ≠ -9223372036854775808) (p : a < 0) (q : 0 ≤ b) (r : b ≤ -a) (w : World) : Calls Tryz.prog 113 #[.int .i64 a, .int .i64 b] w fun e w' => e = .returned (.tuple #[.int .i64 (addV a b), .int .i64 (addC a b)]) ∧ w = w' := by
  have m1 := may_yes h1
  have m2 := may_yes h2
  have hr := Lib.hid (show addV a b = exV (-(-a - b)) ∧ addC a b = exC (-(-a - b)) by rw [show -(-a - b) = a + b from by omega]; simp [addV, addC, h1, h2])
  have n1 : absI a = -a := by unfold absI; split <;> omega
  have n2 : absI b = b := by unfold absI; split <;> omega
  have d1 : decide (a < 0) = true := by simp; omega
  have d2 : decide (b < 0) = false := by simp; omega
  have b1 := ha.1
  have b2 := ha.2
  have b3 := hb.1
  have b4 := hb.2
  have b5 : -9223372036854775807 ≤ a := by omega
  have b6 : -9223372036854775807 ≤ b := by omega
  clear h1 h2
  go_enter Tryz.func113, Tryz.ntmps113
  go_wp2_with (first | (go_at_call 60; refine (drmay_any _ (by first | assumption | (constructor <;> omega)) _).mono ?_; rintro e w1 ⟨rfl, rfl⟩) | (go_at_call 101; refine (rsize_any _ (by first | assumption | (constructor <;> omega)) _).mono ?_; rintro e w1 ⟨rfl, rfl⟩) | (go_at_call 102; refine (rsigned_any _ (by constructor <;> omega) _ _).mono ?_; rintro e w1 ⟨rfl, rfl⟩))
  all_goals go_ret2
  all_goals exact ⟨by rw [hr.out.1, hr.out.2]; rfl, rfl⟩
set_option maxHeartbeats 600000 in
theorem radd7 (a b : Int) (ha : -9223372036854775808 ≤ a ∧ a ≤ 9223372036854775807) (hb : -9223372036854775808 ≤ b ∧ b ≤ 9223372036854775807) (h1 : a ≠ -9223372036854775808) (h2 : b ≠ -9223372036854775808) (p : a < 0) (q : 0 ≤ b) (r : -a < b) (w : World) : Calls Tryz.prog 113 #[.int .i64 a, .int .i64 b] w fun e w' => e = .returned (.tuple #[.int .i64 (addV a b), .int .i64 (addC a b)]) ∧ w = w' := by
  have m1 := may_yes h1
  have m2 := may_yes h2
  have hr := Lib.hid (show addV a b = exV (b + a) ∧ addC a b = exC (b + a) by rw [show b + a = a + b from by omega]; simp [addV, addC, h1, h2])
  have n1 : absI a = -a := by unfold absI; split <;> omega
  have n2 : absI b = b := by unfold absI; split <;> omega
  have d1 : decide (a < 0) = true := by simp; omega
  have d2 : decide (b < 0) = false := by simp; omega
  have b1 := ha.1
  have b2 := ha.2
  have b3 := hb.1
  have b4 := hb.2
  have b5 : -9223372036854775807 ≤ a := by omega
  have b6 : -9223372036854775807 ≤ b := by omega
  clear h1 h2
  go_enter Tryz.func113, Tryz.ntmps113
  go_wp2_with (first | (go_at_call 60; refine (drmay_any _ (by first | assumption | (constructor <;> omega)) _).mono ?_; rintro e w1 ⟨rfl, rfl⟩) | (go_at_call 101; refine (rsize_any _ (by first | assumption | (constructor <;> omega)) _).mono ?_; rintro e w1 ⟨rfl, rfl⟩) | (go_at_call 102; refine (rsigned_any _ (by constructor <;> omega) _ _).mono ?_; rintro e w1 ⟨rfl, rfl⟩))
  all_goals go_ret2
  all_goals exact ⟨by rw [hr.out.1, hr.out.2]; rfl, rfl⟩
theorem radd_any (a b : Int) (ha : -9223372036854775808 ≤ a ∧ a ≤ 9223372036854775807) (hb : -9223372036854775808 ≤ b ∧ b ≤ 9223372036854775807) (w : World) : Calls Tryz.prog 113 #[.int .i64 a, .int .i64 b] w fun e w' => e = .returned (.tuple #[.int .i64 (addV a b), .int .i64 (addC a b)]) ∧ w = w' := by
  by_cases h1 : a = -9223372036854775808
  · exact radd0 a b ha hb h1 w
  by_cases h2 : b = -9223372036854775808
  · exact radd1 a b ha hb h1 h2 w
  by_cases p : 0 ≤ a <;> by_cases q : 0 ≤ b
  · exact radd2 a b ha hb h1 h2 p q w
  · by_cases r : -b ≤ a
    · exact radd4 a b ha hb h1 h2 p (by omega) r w
    · exact radd5 a b ha hb h1 h2 p (by omega) (by omega) w
  · by_cases r : b ≤ -a
    · exact radd6 a b ha hb h1 h2 (by omega) q r w
    · exact radd7 a b ha hb h1 h2 (by omega) q (by omega) w
  · exact radd3 a b ha hb h1 h2 (by omega) (by omega) w
set_option maxHeartbeats 600000 in
theorem rsub0 (a b : Int) (ha : -9223372036854775808 ≤ a ∧ a ≤ 9223372036854775807) (_hb : -9223372036854775808 ≤ b ∧ b ≤ 9223372036854775807) (h : a = -9223372036854775808) (w : World) : Calls Tryz.prog 97 #[.int .i64 a, .int .i64 b] w fun e w' => e = .returned (.tuple #[.int .i64 (subV a b), .int .i64 (subC a b)]) ∧ w = w' := by
  have m1 := may_no h
  have hr := Lib.hid (show subV a b = 0 ∧ subC a b = 2 by simp [subV, subC, h])
  clear h
  go_enter Tryz.func97, Tryz.ntmps97
  go_wp2_with (first | (go_at_call 60; refine (drmay_any _ (by first | assumption | (constructor <;> omega)) _).mono ?_; rintro e w1 ⟨rfl, rfl⟩) | (go_at_call 113; refine (radd_any _ _ (by constructor <;> omega) (by constructor <;> omega) _).mono ?_; rintro e w1 ⟨rfl, rfl⟩))
  all_goals go_ret2
  all_goals exact ⟨by rw [hr.out.1, hr.out.2]; rfl, rfl⟩
set_option maxHeartbeats 600000 in
theorem rsub1 (a b : Int) (ha : -9223372036854775808 ≤ a ∧ a ≤ 9223372036854775807) (hb : -9223372036854775808 ≤ b ∧ b ≤ 9223372036854775807) (h1 : a ≠ -9223372036854775808) (h : b = -9223372036854775808) (w : World) : Calls Tryz.prog 97 #[.int .i64 a, .int .i64 b] w fun e w' => e = .returned (.tuple #[.int .i64 (subV a b), .int .i64 (subC a b)]) ∧ w = w' := by
  have m1 := may_yes h1
  have m2 := may_no h
  have hr := Lib.hid (show subV a b = 0 ∧ subC a b = 2 by simp [subV, subC, h])
  clear h h1
  go_enter Tryz.func97, Tryz.ntmps97
  go_wp2_with (first | (go_at_call 60; refine (drmay_any _ (by first | assumption | (constructor <;> omega)) _).mono ?_; rintro e w1 ⟨rfl, rfl⟩) | (go_at_call 113; refine (radd_any _ _ (by constructor <;> omega) (by constructor <;> omega) _).mono ?_; rintro e w1 ⟨rfl, rfl⟩))
  all_goals go_ret2
  all_goals exact ⟨by rw [hr.out.1, hr.out.2]; rfl, rfl⟩
set_option maxHeartbeats 600000 in
theorem rsub2 (a b : Int) (ha : -9223372036854775808 ≤ a ∧ a ≤ 9223372036854775807) (hb : -9223372036854775808 ≤ b ∧ b ≤ 9223372036854775807) (h1 : a ≠ -9223372036854775808) (h : b ≠ -9223372036854775808) (w : World) : Calls Tryz.prog 97 #[.int .i64 a, .int .i64 b] w fun e w' => e = .returned (.tuple #[.int .i64 (subV a b), .int .i64 (subC a b)]) ∧ w = w' := by
  obtain ⟨a0, a1⟩ := ha
  obtain ⟨b0, b1⟩ := hb
  have m1 := may_yes h1
  have m2 := may_yes h
  have hr := Lib.hid (sub_eq (a := a) b1 h)
  have h' : -9223372036854775807 ≤ b := by omega
  clear h h1
  go_enter Tryz.func97, Tryz.ntmps97
  go_wp2_with (first | (go_at_call 60; refine (drmay_any _ (by first | assumption | (constructor <;> omega)) _).mono ?_; rintro e w1 ⟨rfl, rfl⟩) | (go_at_call 113; refine (radd_any _ _ (by constructor <;> omega) (by constructor <;> omega) _).mono ?_; rintro e w1 ⟨rfl, rfl⟩))
  all_goals go_ret2
  all_goals exact ⟨by rw [hr.out.1, hr.out.2]; rfl, rfl⟩
theorem rsub_any (a b : Int) (ha : -9223372036854775808 ≤ a ∧ a ≤ 9223372036854775807) (hb : -9223372036854775808 ≤ b ∧ b ≤ 9223372036854775807) (w : World) : Calls Tryz.prog 97 #[.int .i64 a, .int .i64 b] w fun e w' => e = .returned (.tuple #[.int .i64 (subV a b), .int .i64 (subC a b)]) ∧ w = w' := by
  by_cases h1 : a = -9223372036854775808
  · exact rsub0 a b ha hb h1 w
  by_cases h : b = -9223372036854775808
  · exact rsub1 a b ha hb h1 h w
  · exact rsub2 a b ha hb h1 h w
end Go.Proofs.YthobaffgllipfaaGreat
