/-
  Package dec: Floor, Whole of both.
-/
import Derived.Test.YthobaffgllipfaaGreatRows
import Derived.Test.YthobaffgllipfaaGreatBase
import Derived.Test.YthobaffgllipfaaGreatMg3
import Derived.Test.YthobaffgllipfaaGreatDecS
import Derived.Test.YthobaffgllipfaaGreatDMod
import Derived.WalkSpells
import Derived.WalkLawsBesides
import Derived.StillTactics
import Derived.Laws.Pointers
import Derived.Deep.RegionHeld3
import Derived.Deep.QuietTactic
import Derived.BigQuiet
import Derived.RowKit3
import Derived.Lib.Hide
import Derived.Lib.OthersKept
import Derived.OwnWalk
import Derived.Lib.IndexLaws
import Derived.Lib.ItoaMem
import Derived.WalkKit
import Derived.ProofKit
import Derived.OpenShut
import Derived.Carry
import Derived.ChangeSame
import Derived.Deep.Draws
import Derived.Laws.BitsAllLaws
namespace Go.Proofs.YthobaffgllipfaaGreat
open Go.RowKit

/-- Floor -/
def floorV (x : Int) : Int := if x = -9223372036854775808 then 0 else subV x (modM x 10000)
def floorC (x : Int) : Int := if x = -9223372036854775808 then 2 else subC x (modM x 10000)
/-- Whole -/
def wholeV (x : Int) : Int := if x ≠ -9223372036854775808 ∧ x.tmod 10000 = 0 then x.tdiv 10000 else 0
def wholeB (x : Int) : Bool := decide (x ≠ -9223372036854775808) && decide (x.tmod 10000 = 0)
theorem modM_pos (a : Int) : 0 ≤ modM a 10000 ∧ modM a 10000 < 10000 := by
  have hr := tmod_lt a 10000 (by omega)
  unfold modM
  by_cases h4 : a.tmod 10000 = 0
  · rw [if_neg (by intro hh; exact hh.1 h4), h4]; omega
  by_cases h5 : a.tmod 10000 < 0
  · rw [if_pos (by simp [h4, h5])]; omega
  · rw [if_neg (by simp [h5])]; omega
set_option maxHeartbeats 1000000 in
theorem floor_no (x : Int) (hx : -9223372036854775808 ≤ x ∧ x ≤ 9223372036854775807) (h : x = -9223372036854775808) (w : World) : Calls Tryz.prog 36 #[.int .i64 x] w fun e w' => e = .returned (.tuple #[.int .i64 0, .int .i64 2]) ∧ w = w' := by
  have C := mod_any x 10000 hx (by omega) w
  rw [show modV x 10000 = 0 from if_pos (.inl h), show modC x 10000 = 2 from if_pos (.inl h)] at C
  have C' := Lib.hid C
  clear C h
  go_enter Tryz.func36, Tryz.ntmps36
  go_wp2_with fail
  refine C'.out.mono ?_
  rintro e w' ⟨rfl, rfl⟩
  go_wp2
  go_ret2
  exact ⟨rfl, rfl⟩
set_option maxHeartbeats 1000000 in
theorem floor_yes (x : Int) (hx : -9223372036854775808 ≤ x ∧ x ≤ 9223372036854775807) (h : x ≠ -9223372036854775808) (w : World) : Calls Tryz.prog 36 #[.int .i64 x] w fun e w' => e = .returned (.tuple #[.int .i64 (subV x (modM x 10000)), .int .i64 (subC x (modM x 10000))]) ∧ w = w' := by
  have C := mod_any x 10000 hx (by omega) w
  rw [show modV x 10000 = modM x 10000 from if_neg (by omega), show modC x 10000 = 0 by unfold modC; rw [if_neg (by omega), if_neg (by omega)]] at C
  have hm := modM_pos x
  generalize modM x 10000 = m at *
  have C' := Lib.hid C
  clear C h
  go_enter Tryz.func36, Tryz.ntmps36
  go_wp2_with fail
  refine C'.out.mono ?_
  rintro e w' ⟨rfl, rfl⟩
  go_wp2_with fail
  refine (sub_any x m hx (by omega) _).mono ?_
  rintro e w' ⟨rfl, rfl⟩
  go_wp2
  go_ret2
  exact ⟨rfl, rfl⟩
set_option maxHeartbeats 1000000 in
theorem rfloor_no (x : Int) (hx : -9223372036854775808 ≤ x ∧ x ≤ 9223372036854775807) (h : x = -9223372036854775808) (w : World) : Calls Tryz.prog 62 #[.int .i64 x] w fun e w' => e = .returned (.tuple #[.int .i64 0, .int .i64 2]) ∧ w = w' := by
  have m1 := may_no h
  clear h
  go_enter Tryz.func62, Tryz.ntmps62
  go_wp2_with (go_at_call 60; refine (drmay_any _ (by first | assumption | (constructor <;> omega)) _).mono ?_; rintro e w1 ⟨rfl, rfl⟩)
  go_ret2
  exact ⟨rfl, rfl⟩
set_option maxHeartbeats 1000000 in
theorem rfloor_a (x : Int) (hx : -9223372036854775808 ≤ x ∧ x ≤ 9223372036854775807) (h : x ≠ -9223372036854775808) (m : Int) (hm : x.tmod 10000 = m) (h4 : m < 0) (w : World) : Calls Tryz.prog 62 #[.int .i64 x] w fun e w' => e = .returned (.tuple #[.int .i64 (subV x (m + 10000)), .int .i64 (subC x (m + 10000))]) ∧ w = w' := by
  have m1 := may_yes h
  have hr := tmod_lt x 10000 (by omega)
  rw [hm] at hr
  have hr1 : -10000 < m ∧ m < 10000 := by omega
  clear hr h
  go_enter Tryz.func62, Tryz.ntmps62
  go_wp2_with (go_at_call 60; refine (drmay_any _ (by first | assumption | (constructor <;> omega)) _).mono ?_; rintro e w1 ⟨rfl, rfl⟩)
  refine (rsub_any x (m + 10000) hx (by omega) _).mono ?_
  rintro e w' ⟨rfl, rfl⟩
  go_wp2
  go_ret2
  exact ⟨rfl, rfl⟩
set_option maxHeartbeats 1000000 in
theorem rfloor_b (x : Int) (hx : -9223372036854775808 ≤ x ∧ x ≤ 9223372036854775807) (h : x ≠ -9223372036854775808) (m : Int) (hm : x.tmod 10000 = m) (h4 : 0 ≤ m) (w : World) : Calls Tryz.prog 62 #[.int .i64 x] w fun e w' => e = .returned (.tuple #[.int .i64 (subV x (m)), .int .i64 (subC x (m))]) ∧ w = w' := by
  have m1 := may_yes h
  have hr := tmod_lt x 10000 (by omega)
  rw [hm] at hr
  have hr1 : -10000 < m ∧ m < 10000 := by omega
  clear hr h
  go_enter Tryz.func62, Tryz.ntmps62
  go_wp2_with (go_at_call 60; refine (drmay_any _ (by first | assumption | (constructor <;> omega)) _).mono ?_; rintro e w1 ⟨rfl, rfl⟩)
  refine (rsub_any x (m) hx (by omega) _).mono ?_
  rintro e w' ⟨rfl, rfl⟩
  go_wp2
  go_ret2
  exact ⟨rfl, rfl⟩
theorem floor_any (x : Int) (hx : -9223372036854775808 ≤ x ∧ x ≤ 9223372036854775807) (w : World) : Calls Tryz.prog 36 #[.int .i64 x] w fun e w' => e = .returned (.tuple #[.int .i64 (floorV x), .int .i64 (floorC x)]) ∧ w = w' := by
  unfold floorV floorC
  by_cases h : x = -9223372036854775808
  · rw [if_pos h, if_pos h]; exact floor_no x hx h w
  · rw [if_neg h, if_neg h]; exact floor_yes x hx h w
theorem rfloor_any (x : Int) (hx : -9223372036854775808 ≤ x ∧ x ≤ 9223372036854775807) (w : World) : Calls Tryz.prog 62 #[.int .i64 x] w fun e w' => e = .returned (.tuple #[.int .i64 (floorV x), .int .i64 (floorC x)]) ∧ w = w' := by
  unfold floorV floorC
  by_cases h : x = -9223372036854775808
  · rw [if_pos h, if_pos h]; exact rfloor_no x hx h w
  · rw [if_neg h, if_neg h]
    by_cases h4 : x.tmod 10000 < 0
    · rw [show modM x 10000 = x.tmod 10000 + 10000 by unfold modM; rw [if_pos (by simp [h4]; omega)]]
      exact rfloor_a x hx h _ rfl h4 w
    · rw [show modM x 10000 = x.tmod 10000 by unfold modM; rw [if_neg (by simp [h4])]]
      exact rfloor_b x hx h _ rfl (by omega) w
set_option maxHeartbeats 1000000 in
theorem whole_no (x : Int) (hx : -9223372036854775808 ≤ x ∧ x ≤ 9223372036854775807) (h : x = -9223372036854775808) (w : World) : Calls Tryz.prog 81 #[.int .i64 x] w fun e w' => e = .returned (.tuple #[.int .i64 0, .bool false]) ∧ w = w' := by
  have m1 := may_no h
  clear h
  go_enter Tryz.func81, Tryz.ntmps81
  go_wp2_with (go_at_call 73; refine (dmay_any _ (by first | assumption | (constructor <;> omega)) _).mono ?_; rintro e w1 ⟨rfl, rfl⟩)
  go_ret2
  exact ⟨rfl, rfl⟩
set_option maxHeartbeats 1000000 in
theorem whole_part (x : Int) (hx : -9223372036854775808 ≤ x ∧ x ≤ 9223372036854775807) (h : x ≠ -9223372036854775808) (m : Int) (hm : x.tmod 10000 = m) (h4 : (m != 0) = true) (w : World) : Calls Tryz.prog 81 #[.int .i64 x] w fun e w' => e = .returned (.tuple #[.int .i64 0, .bool false]) ∧ w = w' := by
  have m1 := may_yes h
  have hr := tmod_lt x 10000 (by omega)
  rw [hm] at hr
  have hr1 : -10000 < m ∧ m < 10000 := by omega
  clear hr h
  go_enter Tryz.func81, Tryz.ntmps81
  go_wp2_with (go_at_call 73; refine (dmay_any _ (by first | assumption | (constructor <;> omega)) _).mono ?_; rintro e w1 ⟨rfl, rfl⟩)
  go_ret2
  exact ⟨rfl, rfl⟩
set_option maxHeartbeats 1000000 in
theorem whole_yes (x : Int) (hx : -9223372036854775808 ≤ x ∧ x ≤ 9223372036854775807) (h : x ≠ -9223372036854775808) (hm : x.tmod 10000 = 0) (w : World) : Calls Tryz.prog 81 #[.int .i64 x] w fun e w' => e = .returned (.tuple #[.int .i64 (x.tdiv 10000), .bool true]) ∧ w = w' := by
  have m1 := may_yes h
  have hd : -9223372036854775808 ≤ x.tdiv 10000 ∧ x.tdiv 10000 ≤ 9223372036854775807 := by
    have h1 := Int.mul_tdiv_add_tmod x 10000
    omega
  clear h
  go_enter Tryz.func81, Tryz.ntmps81
  go_wp2_with (go_at_call 73; refine (dmay_any _ (by first | assumption | (constructor <;> omega)) _).mono ?_; rintro e w1 ⟨rfl, rfl⟩)
  go_ret2
  first | exact ⟨rfl, rfl⟩ | (refine ⟨ret_ib ?_ rfl, rfl⟩; first | exact IntWalk.i64_in _ hd | (unfold wrap64; omega))
theorem whole_any (x : Int) (hx : -9223372036854775808 ≤ x ∧ x ≤ 9223372036854775807) (w : World) : Calls Tryz.prog 81 #[.int .i64 x] w fun e w' => e = .returned (.tuple #[.int .i64 (wholeV x), .bool (wholeB x)]) ∧ w = w' := by
  by_cases h : x = -9223372036854775808
  · rw [show wholeV x = 0 from if_neg (by simp [h]), show wholeB x = false by simp [wholeB, h]]
    exact whole_no x hx h w
  by_cases hm : x.tmod 10000 = 0
  · rw [show wholeV x = x.tdiv 10000 from if_pos ⟨h, hm⟩, show wholeB x = true by simp [wholeB, h, hm]]
    exact whole_yes x hx h hm w
  · rw [show wholeV x = 0 from if_neg (by simp [hm]), show wholeB x = false by simp [wholeB, hm]]
    exact whole_part x hx h _ rfl (by simpa using hm) w
end Go.Proofs.YthobaffgllipfaaGreat
