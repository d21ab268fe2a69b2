/-
  Package dec: Mul; the plain law of the ring.
-/
import Derived.Test.YtjnjklcnccfgaaaDoorDMul
import Derived.WalkSpells
import Derived.WalkLawsBesides
import Derived.StillTactics
import Derived.Laws.Pointers
import Derived.Deep.RegionHeld3
import Derived.Deep.QuietTactic
import Derived.BigQuiet
import Derived.RowKit3
import Derived.Lib.Hide
import Derived.Lib.OthersKept
import Derived.OwnWalk
import Derived.Lib.IndexLaws
import Derived.Lib.ItoaMem
namespace Go.Proofs.YtjnjklcnccfgaaaDoor
open Go.RowKit

theorem sgn2_big (a b : Int) (n : Nat) (h : 9223372036854775807 < n) : exV (sgn2 a b n) = 0 ∧ exC (sgn2 a b n) = 2 := by
  refine sum_out ?_
  unfold sgn2
  split <;> omega
theorem big_q (low : Bool) (n : Nat) (h : 9223372036854775807 < n) : exV (if low = true then -(n : Int) else (n : Int)) = 0 ∧ exC (if low = true then -(n : Int) else (n : Int)) = 2 := by
  refine sum_out ?_
  split <;> omega
theorem mul_any (a b : Int) (ha : -9223372036854775808 ≤ a ∧ a ≤ 9223372036854775807) (hb : -9223372036854775808 ≤ b ∧ b ≤ 9223372036854775807) (w : World) : Calls Tryd.prog 60 #[.int .i64 a, .int .i64 b] w fun e w' => e = .returned (.tuple #[.int .i64 (mulV a b), .int .i64 (mulC a b)]) ∧ Below w.heap.size w w' := by
  have lift : ∀ {P : Ending → Prop}, Calls Tryd.prog 60 #[.int .i64 a, .int .i64 b] w (fun e w' => P e ∧ w = w') → Calls Tryd.prog 60 #[.int .i64 a, .int .i64 b] w (fun e w' => P e ∧ Below w.heap.size w w') :=
    fun c => c.mono fun _ _ ⟨he, hw⟩ => ⟨he, by rw [← hw]; exact Below.refl _ _⟩
  unfold mulV mulC
  by_cases h : a = -9223372036854775808
  · rw [if_pos (.inl h), if_pos (.inl h)]; exact lift (mul_a a b ha hb h w)
  by_cases h2 : b = -9223372036854775808
  · rw [if_pos (.inr h2), if_pos (.inr h2)]; exact lift (mul_b a b ha hb h h2 w)
  rw [if_neg (by omega), if_neg (by omega)]
  obtain ⟨m, hm⟩ : ∃ m, a.natAbs = m := ⟨_, rfl⟩
  obtain ⟨n, hn⟩ : ∃ n, b.natAbs = n := ⟨_, rfl⟩
  rw [hm, hn]
  obtain ⟨p, hp⟩ : ∃ p, m * n = p := ⟨_, rfl⟩
  have hpb : p < 340282366920938463463374607431768211456 := by
    rw [← hp]
    have : m * n ≤ 9223372036854775807 * 9223372036854775807 := Nat.mul_le_mul (by omega) (by omega)
    omega
  by_cases hc : 10000 ≤ p / 18446744073709551616
  · obtain ⟨b1, b2⟩ := sgn2_big a b (mulN m n) (by unfold mulN; rw [hp]; omega)
    rw [b1, b2]
    exact lift (mul_big a b ha hb h h2 m n _ _ hm hn (by omega) (by omega) (Lib.hid (by rw [hp])) (Lib.hid (by rw [hp])) (by omega) (by omega) (decide_eq_true (by omega)) w)
  have e1 : (p / 18446744073709551616 * 18446744073709551616 + p % 18446744073709551616) / 10000 = p / 10000 := by rw [Nat.div_add_mod']
  have e2 : (p / 18446744073709551616 * 18446744073709551616 + p % 18446744073709551616) % 10000 = p % 10000 := by rw [Nat.div_add_mod']
  by_cases hu : 5000 ≤ p % 10000
  · have hN : mulN m n = p / 10000 + 1 := by unfold mulN; rw [hp, if_pos hu]
    rw [hN]
    by_cases hk : p / 10000 ≤ 9223372036854775807
    · have := mul_up a b ha hb h h2 m n _ _ hm hn (by omega) (by omega) (Lib.hid (by rw [hp])) (Lib.hid (by rw [hp])) (by omega) (by omega) (decide_eq_false (by omega)) (p / 10000) (p % 10000) (Lib.hid e1) (Lib.hid e2) (by omega) _ rfl (decide_eq_true (by omega)) (decide_eq_true (by omega)) w
      unfold sgn2
      rw [show ((p / 10000 + 1 : Nat) : Int) = ((p / 10000 : Nat) : Int) + 1 from rfl]
      exact this
    · have := mul_cap a b ha hb h h2 m n _ _ hm hn (by omega) (by omega) (Lib.hid (by rw [hp])) (Lib.hid (by rw [hp])) (by omega) (by omega) (decide_eq_false (by omega)) (p / 10000) (p % 10000) (Lib.hid e1) (Lib.hid e2) (by omega) _ rfl (decide_eq_true (by omega)) (decide_eq_false (by omega)) w
      obtain ⟨b1, b2⟩ := sgn2_big a b (p / 10000 + 1) (by omega)
      obtain ⟨b3, b4⟩ := big_q (decide (a < 0) != decide (b < 0)) (p / 10000) (by omega)
      rw [b1, b2]
      rw [b3, b4] at this
      exact this
  · have hN : mulN m n = p / 10000 := by unfold mulN; rw [hp, if_neg hu]; rfl
    rw [hN]
    exact mul_dn a b ha hb h h2 m n _ _ hm hn (by omega) (by omega) (Lib.hid (by rw [hp])) (Lib.hid (by rw [hp])) (by omega) (by omega) (decide_eq_false (by omega)) (p / 10000) (p % 10000) (Lib.hid e1) (Lib.hid e2) (by omega) _ rfl (decide_eq_false (by omega)) w
theorem mul_comm' (a b : Int) : mulV b a = mulV a b ∧ mulC b a = mulC a b := by
  have e : sgn2 b a (mulN b.natAbs a.natAbs) = sgn2 a b (mulN a.natAbs b.natAbs) := by
    unfold sgn2 mulN
    rw [Nat.mul_comm b.natAbs a.natAbs]
    cases decide (a < 0) <;> cases decide (b < 0) <;> rfl
  unfold mulV mulC
  rw [e]
  by_cases h : a = -9223372036854775808 ∨ b = -9223372036854775808
  · rw [if_pos h, if_pos h, if_pos h.symm, if_pos h.symm]; exact ⟨rfl, rfl⟩
  · rw [if_neg h, if_neg h, if_neg (fun k => h k.symm), if_neg (fun k => h k.symm)]; exact ⟨rfl, rfl⟩
theorem mul_one' (a : Int) (ha : -9223372036854775808 ≤ a ∧ a ≤ 9223372036854775807) (h : a ≠ -9223372036854775808) : mulV a 10000 = a ∧ mulC a 10000 = 0 := by
  have e : sgn2 a 10000 (mulN a.natAbs (10000 : Int).natAbs) = a := by
    have : mulN a.natAbs (10000 : Int).natAbs = a.natAbs := by
      show mulN a.natAbs 10000 = a.natAbs
      unfold mulN
      rw [Nat.mul_mod_left, Nat.mul_div_cancel _ (by omega), if_neg (by omega)]
      rfl
    rw [this]
    unfold sgn2
    by_cases h1 : a < 0
    · rw [if_pos (by simp [h1])]; omega
    · rw [if_neg (by simp [h1])]; omega
  unfold mulV mulC
  rw [e, if_neg (by omega), if_neg (by omega)]
  refine ⟨?_, ?_⟩
  · unfold exV; rw [if_pos (by omega)]
  · unfold exC; rw [if_pos (by omega)]
theorem add_comm' (a b : Int) : addV b a = addV a b ∧ addC b a = addC a b := by
  unfold addV addC
  rw [Int.add_comm b a]
  by_cases h : a = -9223372036854775808 ∨ b = -9223372036854775808
  · rw [if_pos h, if_pos h, if_pos h.symm, if_pos h.symm]; exact ⟨rfl, rfl⟩
  · rw [if_neg h, if_neg h, if_neg (fun k => h k.symm), if_neg (fun k => h k.symm)]; exact ⟨rfl, rfl⟩
theorem add_ok {a b : Int} (h : addC a b = 0) : a ≠ -9223372036854775808 ∧ b ≠ -9223372036854775808 ∧ addV a b = a + b ∧ -9223372036854775807 ≤ a + b ∧ a + b ≤ 9223372036854775807 := by
  unfold addC at h
  by_cases k : a = -9223372036854775808 ∨ b = -9223372036854775808
  · rw [if_pos k] at h; omega
  · rw [if_neg k] at h
    unfold exC at h
    split at h
    · rename_i r
      refine ⟨by omega, by omega, ?_, r.1, r.2⟩
      unfold addV exV; rw [if_neg k, if_pos r]
    · omega
theorem add_assoc' {a b c : Int} (h1 : addC a b = 0) (h2 : addC b c = 0) : addV a (addV b c) = addV (addV a b) c ∧ addC a (addV b c) = addC (addV a b) c := by
  obtain ⟨p1, p2, p3, p4, p5⟩ := add_ok h1
  obtain ⟨q1, q2, q3, q4, q5⟩ := add_ok h2
  rw [p3, q3]
  unfold addV addC
  rw [if_neg (by omega), if_neg (by omega), if_neg (by omega), if_neg (by omega), Int.add_assoc]
  exact ⟨rfl, rfl⟩
theorem add_range (a b : Int) : -9223372036854775808 ≤ addV a b ∧ addV a b ≤ 9223372036854775807 := by
  have : ∀ n, -9223372036854775808 ≤ exV n ∧ exV n ≤ 9223372036854775807 := by intro n; unfold exV; split <;> omega
  unfold addV
  split
  · omega
  · exact this _
end Go.Proofs.YtjnjklcnccfgaaaDoor
