/-
  Package dec and the document's own: May, size, signed; Neg, Add, Sub of package dec, and the document's own; Package dec: Mod of both; Package dec: Floor, Whole of both.
-/
import Derived.Test.YtaomlgpakbjegaaGreatDoorRows
import Derived.Test.YtaomlgpakbjegaaGreatDoorBase
import Derived.WalkSpells
import Derived.WalkLawsBesides
import Derived.StillTactics
import Derived.Laws.Pointers
import Derived.Deep.RegionHeld3
import Derived.Deep.QuietTactic
import Derived.BigQuiet
import Derived.RowKit3
import Derived.Lib.Hide
import Derived.Lib.OthersKept
import Derived.OwnWalk
import Derived.Lib.IndexLaws
import Derived.Lib.ItoaMem
import Derived.WalkKit
import Derived.ProofKit
import Derived.OpenShut
import Derived.Carry
import Derived.ChangeSame
import Derived.Deep.Draws
import Derived.Laws.BitsAllLaws
namespace Go.Proofs.YtaomlgpakbjegaaGreatDoor
open Go.RowKit

/-- may a number be? -/
def decMay (x : Int) : Bool := !(decide (x = -9223372036854775808))
/-- a number out of its exact value: too great ones have none -/
def exV (n : Int) : Int := if -9223372036854775807 ≤ n ∧ n ≤ 9223372036854775807 then n else 0
def exC (n : Int) : Int := if -9223372036854775807 ≤ n ∧ n ≤ 9223372036854775807 then 0 else 2
/-- Neg, Add, Sub -/
def negV (x : Int) : Int := if x = -9223372036854775808 then 0 else -x
def negC (x : Int) : Int := if x = -9223372036854775808 then 2 else 0
def addV (a b : Int) : Int := if a = -9223372036854775808 ∨ b = -9223372036854775808 then 0 else exV (a + b)
def addC (a b : Int) : Int := if a = -9223372036854775808 ∨ b = -9223372036854775808 then 2 else exC (a + b)
def subV (a b : Int) : Int := if a = -9223372036854775808 ∨ b = -9223372036854775808 then 0 else exV (a - b)
def subC (a b : Int) : Int := if a = -9223372036854775808 ∨ b = -9223372036854775808 then 2 else exC (a - b)
/-- a number's size -/
def absI (x : Int) : Int := if x < 0 then -x else x

theorem ret_ub {a a' : Int} {b b' : Bool} (h : a = a') (k : b = b') : Ending.returned (.tuple #[.int .u64 a, .bool b]) = Ending.returned (.tuple #[.int .u64 a', .bool b']) := by rw [h, k]
theorem ret_ii {a a' b b' : Int} (h : a = a') (k : b = b') : Ending.returned (.tuple #[.int .i64 a, .int .i64 b]) = Ending.returned (.tuple #[.int .i64 a', .int .i64 b']) := by rw [h, k]
theorem ret_ib {a a' : Int} {b b' : Bool} (h : a = a') (k : b = b') : Ending.returned (.tuple #[.int .i64 a, .bool b]) = Ending.returned (.tuple #[.int .i64 a', .bool b']) := by rw [h, k]
theorem ret_b {b b' : Bool} (k : b = b') : Ending.returned (.bool b) = Ending.returned (.bool b') := by rw [k]

set_option maxHeartbeats 400000 in
theorem dmay_any (x : Int) (hx : -9223372036854775808 ≤ x ∧ x ≤ 9223372036854775807) (w : World) : Calls Tryz.prog 107 #[.int .i64 x] w fun e w' => e = .returned (.bool (decMay x)) ∧ w = w' := by
  obtain ⟨x0, x1⟩ := hx
  go_enter Tryz.func107, Tryz.ntmps107
  go_wp2
  all_goals go_ret
  all_goals refine ⟨ret_b (Bool.eq_iff_iff.2 ?_), rfl⟩
  all_goals simp [decMay]
  all_goals try omega
set_option maxHeartbeats 400000 in
theorem drmay_any (x : Int) (hx : -9223372036854775808 ≤ x ∧ x ≤ 9223372036854775807) (w : World) : Calls Tryz.prog 154 #[.int .i64 x] w fun e w' => e = .returned (.bool (decMay x)) ∧ w = w' := by
  obtain ⟨x0, x1⟩ := hx
  go_enter Tryz.func154, Tryz.ntmps154
  go_wp2
  all_goals go_ret
  all_goals refine ⟨ret_b (Bool.eq_iff_iff.2 ?_), rfl⟩
  all_goals simp [decMay]
  all_goals try omega
set_option maxHeartbeats 400000 in
theorem size_any (x : Int) (hx : -9223372036854775808 ≤ x ∧ x ≤ 9223372036854775807) (w : World) : Calls Tryz.prog 178 #[.int .i64 x] w fun e w' => e = .returned (.tuple #[.int .u64 (absI x), .bool (decide (x < 0))]) ∧ w = w' := by
  obtain ⟨x0, x1⟩ := hx
  go_enter Tryz.func178, Tryz.ntmps178
  go_wp2
  all_goals go_ret2
  all_goals refine ⟨ret_ub ?_ (Bool.eq_iff_iff.2 ?_), rfl⟩
  all_goals simp [absI, IntKind.wrap_u64]
  all_goals repeat' split
  all_goals omega
set_option maxHeartbeats 400000 in
theorem rsize_any (x : Int) (hx : -9223372036854775808 ≤ x ∧ x ≤ 9223372036854775807) (w : World) : Calls Tryz.prog 181 #[.int .i64 x] w fun e w' => e = .returned (.tuple #[.int .u64 (absI x), .bool (decide (x < 0))]) ∧ w = w' := by
  obtain ⟨x0, x1⟩ := hx
  go_enter Tryz.func181, Tryz.ntmps181
  go_wp2
  all_goals go_ret2
  all_goals refine ⟨ret_ub ?_ (Bool.eq_iff_iff.2 ?_), rfl⟩
  all_goals simp [absI, IntKind.wrap_u64, wrap64]
  all_goals repeat' split
  all_goals omega
set_option maxHeartbeats 400000 in
theorem signed_any (n : Int) (hn : 0 ≤ n ∧ n ≤ 18446744073709551615) (low : Bool) (w : World) : Calls Tryz.prog 214 #[.int .u64 n, .bool low] w fun e w' => e = .returned (.tuple #[.int .i64 (exV (if low then -n else n)), .int .i64 (exC (if low then -n else n))]) ∧ w = w' := by
  obtain ⟨n0, n1⟩ := hn
  cases low
  all_goals
    go_enter Tryz.func214, Tryz.ntmps214
    go_wp2
  all_goals go_ret2
  all_goals refine ⟨ret_ii ?_ ?_, rfl⟩
  all_goals simp [exV, exC]
  all_goals repeat' split
  all_goals omega
set_option maxHeartbeats 400000 in
theorem rsigned_any (n : Int) (hn : 0 ≤ n ∧ n ≤ 18446744073709551615) (low : Bool) (w : World) : Calls Tryz.prog 184 #[.int .u64 n, .bool low] w fun e w' => e = .returned (.tuple #[.int .i64 (exV (if low then -n else n)), .int .i64 (exC (if low then -n else n))]) ∧ w = w' := by
  obtain ⟨n0, n1⟩ := hn
  cases low
  all_goals
    go_enter Tryz.func184, Tryz.ntmps184
    go_wp2
  all_goals go_ret2
  all_goals refine ⟨ret_ii ?_ ?_, rfl⟩
  all_goals simp [exV, exC]
  all_goals repeat' split
  all_goals omega
end Go.Proofs.YtaomlgpakbjegaaGreatDoor
namespace Go.Proofs.YtaomlgpakbjegaaGreatDoor
open Go.RowKit

theorem may_no {x : Int} (h : x = -9223372036854775808) : decMay x = false := by subst h; decide
theorem may_yes {x : Int} (h : x ≠ -9223372036854775808) : decMay x = true := by simp [decMay, h]
/-- the wrapped sum, by name -/
theorem sum_in {a b : Int} (h0 : -9223372036854775807 ≤ a + b) (h1 : a + b ≤ 9223372036854775807) : exV (a + b) = a + b ∧ exC (a + b) = 0 := by simp [exV, exC]; omega
theorem sum_out {n : Int} (h : n < -9223372036854775807 ∨ 9223372036854775807 < n) : exV n = 0 ∧ exC n = 2 := by simp [exV, exC]; omega

theorem sub_eq {a b : Int} (hb : b ≤ 9223372036854775807) (h : b ≠ -9223372036854775808) : subV a b = addV a (-b) ∧ subC a b = addC a (-b) := by
  have h4 : ¬ (-b = -9223372036854775808) := by omega
  simp [subV, subC, addV, addC, h, h4, Int.sub_eq_add_neg]
end Go.Proofs.YtaomlgpakbjegaaGreatDoor
namespace Go.Proofs.YtaomlgpakbjegaaGreatDoor
open Go.RowKit

theorem ofInt_msb (a : Int) (h1 : -9223372036854775808 ≤ a) (h2 : a ≤ 9223372036854775807) : (BitVec.ofInt 64 a).msb = decide (a < 0) := by
  rw [BitVec.msb_eq_toInt, BitVec.toInt_ofInt_eq_self (by omega) (by simpa using h1) (by simp; omega)]
theorem xor_sign (a b : Int) (ha : -9223372036854775808 ≤ a ∧ a ≤ 9223372036854775807) (hb : -9223372036854775808 ≤ b ∧ b ≤ 9223372036854775807) : decide (bits .xor .i64 a b < 0) = (decide (a < 0) != decide (b < 0)) := by
  have e : bits .xor .i64 a b = (BitVec.ofInt 64 a ^^^ BitVec.ofInt 64 b).toInt := by
    unfold bits
    show IntKind.i64.wrap ((BitVec.ofInt 64 a ^^^ BitVec.ofInt 64 b).toNat : Int) = _
    rw [BitVec.toInt_eq_toNat_bmod]
    have h := (BitVec.ofInt 64 a ^^^ BitVec.ofInt 64 b).isLt
    generalize (BitVec.ofInt 64 a ^^^ BitVec.ofInt 64 b).toNat = n at *
    rw [IntKind.wrap_i64, Int.bmod_def]
    omega
  rw [e, ← BitVec.msb_eq_toInt, BitVec.msb_xor, ofInt_msb a ha.1 ha.2, ofInt_msb b hb.1 hb.2]
/-- what is left, with the divisor's sign -/
def modM (a b : Int) : Int := if a.tmod b ≠ 0 ∧ (decide (a.tmod b < 0) != decide (b < 0)) = true then a.tmod b + b else a.tmod b
def modV (a b : Int) : Int := if a = -9223372036854775808 ∨ b = -9223372036854775808 ∨ b = 0 then 0 else modM a b
def modC (a b : Int) : Int := if a = -9223372036854775808 ∨ b = -9223372036854775808 then 2 else if b = 0 then 3 else 0
theorem tmod_lt (a b : Int) (h : b ≠ 0) : -(b.natAbs : Int) < a.tmod b ∧ a.tmod b < b.natAbs := by
  have h1 : (a.tmod b).natAbs = a.natAbs % b.natAbs := Int.natAbs_tmod a b
  have h2 := Nat.mod_lt a.natAbs (show 0 < b.natAbs by omega)
  omega
end Go.Proofs.YtaomlgpakbjegaaGreatDoor
namespace Go.Proofs.YtaomlgpakbjegaaGreatDoor
open Go.RowKit

/-- Floor -/
def floorV (x : Int) : Int := if x = -9223372036854775808 then 0 else subV x (modM x 10000)
def floorC (x : Int) : Int := if x = -9223372036854775808 then 2 else subC x (modM x 10000)
/-- Whole -/
def wholeV (x : Int) : Int := if x ≠ -9223372036854775808 ∧ x.tmod 10000 = 0 then x.tdiv 10000 else 0
def wholeB (x : Int) : Bool := decide (x ≠ -9223372036854775808) && decide (x.tmod 10000 = 0)
theorem modM_pos (a : Int) : 0 ≤ modM a 10000 ∧ modM a 10000 < 10000 := by
  have hr := tmod_lt a 10000 (by omega)
  unfold modM
  by_cases h4 : a.tmod 10000 = 0
  · rw [if_neg (by intro hh; exact hh.1 h4), h4]; omega
  by_cases h5 : a.tmod 10000 < 0
  · rw [if_pos (by simp [h4, h5])]; omega
  · rw [if_neg (by simp [h5])]; omega
set_option maxHeartbeats 1000000 in
theorem whole_no (x : Int) (hx : -9223372036854775808 ≤ x ∧ x ≤ 9223372036854775807) (h : x = -9223372036854775808) (w : World) : Calls Tryz.prog 45 #[.int .i64 x] w fun e w' => e = .returned (.tuple #[.int .i64 0, .bool false]) ∧ w = w' := by
  have m1 := may_no h
  clear h
  go_enter Tryz.func45, Tryz.ntmps45
  go_wp2_with (go_at_call 107; refine (dmay_any _ (by first | assumption | (constructor <;> omega)) _).mono ?_; rintro e w1 ⟨rfl, rfl⟩)
  go_ret2
  exact ⟨rfl, rfl⟩
set_option maxHeartbeats 1000000 in
theorem whole_part (x : Int) (hx : -9223372036854775808 ≤ x ∧ x ≤ 9223372036854775807) (h : x ≠ -9223372036854775808) (m : Int) (hm : x.tmod 10000 = m) (h4 : (m != 0) = true) (w : World) : Calls Tryz.prog 45 #[.int .i64 x] w fun e w' => e = .returned (.tuple #[.int .i64 0, .bool false]) ∧ w = w' := by
  have m1 := may_yes h
  have hr := tmod_lt x 10000 (by omega)
  rw [hm] at hr
  have hr1 : -10000 < m ∧ m < 10000 := by omega
  clear hr h
  go_enter Tryz.func45, Tryz.ntmps45
  go_wp2_with (go_at_call 107; refine (dmay_any _ (by first | assumption | (constructor <;> omega)) _).mono ?_; rintro e w1 ⟨rfl, rfl⟩)
  go_ret2
  exact ⟨rfl, rfl⟩
set_option maxHeartbeats 1000000 in
theorem whole_yes (x : Int) (hx : -9223372036854775808 ≤ x ∧ x ≤ 9223372036854775807) (h : x ≠ -9223372036854775808) (hm : x.tmod 10000 = 0) (w : World) : Calls Tryz.prog 45 #[.int .i64 x] w fun e w' => e = .returned (.tuple #[.int .i64 (x.tdiv 10000), .bool true]) ∧ w = w' := by
  have m1 := may_yes h
  have hd : -9223372036854775808 ≤ x.tdiv 10000 ∧ x.tdiv 10000 ≤ 9223372036854775807 := by
    have h1 := Int.mul_tdiv_add_tmod x 10000
    omega
  clear h
  go_enter Tryz.func45, Tryz.ntmps45
  go_wp2_with (go_at_call 107; refine (dmay_any _ (by first | assumption | (constructor <;> omega)) _).mono ?_; rintro e w1 ⟨rfl, rfl⟩)
  go_ret2
  first | exact ⟨rfl, rfl⟩ | (refine ⟨ret_ib ?_ rfl, rfl⟩; first | exact IntWalk.i64_in _ hd | (unfold wrap64; omega))
theorem whole_any (x : Int) (hx : -9223372036854775808 ≤ x ∧ x ≤ 9223372036854775807) (w : World) : Calls Tryz.prog 45 #[.int .i64 x] w fun e w' => e = .returned (.tuple #[.int .i64 (wholeV x), .bool (wholeB x)]) ∧ w = w' := by
  by_cases h : x = -9223372036854775808
  · rw [show wholeV x = 0 from if_neg (by simp [h]), show wholeB x = false by simp [wholeB, h]]
    exact whole_no x hx h w
  by_cases hm : x.tmod 10000 = 0
  · rw [show wholeV x = x.tdiv 10000 from if_pos ⟨h, hm⟩, show wholeB x = true by simp [wholeB, h, hm]]
    exact whole_yes x hx h hm w
  · rw [show wholeV x = 0 from if_neg (by simp [hm]), show wholeB x = false by simp [wholeB, hm]]
    exact whole_part x hx h _ rfl (by simpa using hm) w
end Go.Proofs.YtaomlgpakbjegaaGreatDoor
