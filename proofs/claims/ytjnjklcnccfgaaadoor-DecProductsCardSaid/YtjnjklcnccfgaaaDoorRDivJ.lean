/-
  The document's quotient of any two numbers.
-/
import Derived.Test.YtjnjklcnccfgaaaDoorRDiv
import Derived.WalkSpells
import Derived.WalkLawsBesides
import Derived.StillTactics
import Derived.Laws.Pointers
import Derived.Deep.RegionHeld3
import Derived.Deep.QuietTactic
import Derived.BigQuiet
import Derived.RowKit3
import Derived.Lib.Hide
import Derived.Lib.OthersKept
import Derived.OwnWalk
import Derived.Lib.IndexLaws
import Derived.Lib.ItoaMem
namespace Go.Proofs.YtjnjklcnccfgaaaDoor
open Go.RowKit

theorem dig_step (n r j : Nat) (hn : 0 < n) (hr : r < n) : (j * r % n + r < n → (j + 1) * r % n = j * r % n + r ∧ (j + 1) * r / n = j * r / n) ∧ (n ≤ j * r % n + r → (j + 1) * r % n + n = j * r % n + r ∧ (j + 1) * r / n = j * r / n + 1) := by
  have e := Nat.div_add_mod (j * r) n
  have hm := Nat.mod_lt (j * r) hn
  rw [Nat.add_mul, Nat.one_mul]
  generalize j * r / n = x at *
  generalize j * r % n = y at *
  rw [← e]
  constructor
  · intro h
    have e2 : n * x + y + r = (y + r) + n * x := by omega
    rw [e2, Nat.add_mul_mod_self_left, Nat.add_mul_div_left _ _ hn, Nat.mod_eq_of_lt h, Nat.div_eq_of_lt h]
    omega
  · intro h
    have e2 : n * x + y + r = (y + r - n) + n * (x + 1) := by rw [Nat.mul_add]; omega
    rw [e2, Nat.add_mul_mod_self_left, Nat.add_mul_div_left _ _ hn, Nat.mod_eq_of_lt (by omega), Nat.div_eq_of_lt (by omega)]
    omega
theorem dig_ten (m n i : Nat) (hn : 0 < n) : m * 10 ^ (i + 1) / n = 10 * (m * 10 ^ i / n) + 10 * (m * 10 ^ i % n) / n ∧ m * 10 ^ (i + 1) % n = 10 * (m * 10 ^ i % n) % n := by
  have e := Nat.div_add_mod (m * 10 ^ i) n
  have e3 : m * 10 ^ (i + 1) = 10 * (m * 10 ^ i) := by rw [Nat.pow_succ, ← Nat.mul_assoc, Nat.mul_comm]
  rw [e3]
  generalize m * 10 ^ i / n = x at *
  generalize m * 10 ^ i % n = y at *
  rw [← e]
  have e2 : 10 * (n * x + y) = 10 * y + n * (10 * x) := by rw [Nat.mul_add, Nat.mul_left_comm]; omega
  rw [e2, Nat.add_mul_mod_self_left, Nat.add_mul_div_left _ _ hn]
  omega
theorem rdiv_any (a b : Int) (ha : -9223372036854775808 ≤ a ∧ a ≤ 9223372036854775807) (hb : -9223372036854775808 ≤ b ∧ b ≤ 9223372036854775807) (w : World) : Calls Tryd.prog 64 #[.int .i64 a, .int .i64 b] w fun e w' => e = .returned (.tuple #[.int .i64 (divV a b), .int .i64 (divC a b)]) ∧ w = w' := by
  by_cases h : a = -9223372036854775808
  · rw [show divV a b = 0 from if_pos (.inl h), show divC a b = 2 from if_pos (.inl h)]; exact rdiv_a a b ha hb h w
  by_cases h2 : b = -9223372036854775808
  · rw [show divV a b = 0 from if_pos (.inr (.inl h2)), show divC a b = 2 from if_pos (.inr h2)]; exact rdiv_b a b ha hb h h2 w
  by_cases h3 : b = 0
  · rw [show divV a b = 0 from if_pos (.inr (.inr h3)), show divC a b = 3 by unfold divC; rw [if_neg (by omega), if_pos h3]]; exact rdiv_0 a b ha hb h h3 w
  rw [show divV a b = exV (sgn2 a b (divN a.natAbs b.natAbs)) from if_neg (by omega), show divC a b = exC (sgn2 a b (divN a.natAbs b.natAbs)) by unfold divC; rw [if_neg (by omega), if_neg h3]]
  obtain ⟨m, hm⟩ : ∃ m, a.natAbs = m := ⟨_, rfl⟩
  obtain ⟨n, hn⟩ : ∃ n, b.natAbs = n := ⟨_, rfl⟩
  rw [hm, hn]
  have hn0 : 0 < n := by omega
  obtain ⟨Q, hQ⟩ : ∃ Q : Nat → Nat, ∀ i, Q i = m * 10 ^ i / n := ⟨_, fun _ => rfl⟩
  obtain ⟨R, hR⟩ : ∃ R : Nat → Nat, ∀ i, R i = m * 10 ^ i % n := ⟨_, fun _ => rfl⟩
  obtain ⟨c, hc⟩ : ∃ c : Nat → Nat → Nat, ∀ i j, c i j = j * R i / n := ⟨_, fun _ _ => rfl⟩
  obtain ⟨t, ht⟩ : ∃ t : Nat → Nat → Nat, ∀ i j, t i j = j * R i % n := ⟨_, fun _ _ => rfl⟩
  have hRn : ∀ i, R i < n := fun i => by rw [hR]; exact Nat.mod_lt _ hn0
  have q0 : Q 0 = m / n := by rw [hQ]; simp
  have r0 : R 0 = m % n := by rw [hR]; simp
  have q0b : Q 0 ≤ m := by rw [q0]; exact Nat.div_le_self _ _
  have T1b : (m : Int) / n = (Q 0 : Int) := by rw [q0]; simp
  have T1 : IntKind.u64.wrap ((m : Int).tdiv n) = (Q 0 : Int) := by rw [IntWalk.u64_quo _ _ (by omega)]; exact T1b
  have T2b : (m : Int) % n = (R 0 : Int) := by rw [r0]; simp
  have T2 : (m : Int).tmod n = (R 0 : Int) := by rw [Int.tmod_eq_emod_of_nonneg (by omega)]; exact T2b
  have T0 : IntKind.u64.wrap (Q 0 : Int) = (Q 0 : Int) := IntWalk.u64_in _ (by omega)
  have C0 := Lib.hid (show ∀ i, c i 0 = 0 ∧ t i 0 = 0 by intro i; rw [hc, ht]; simp)
  have C1 := Lib.hid (show ∀ i j, i < 4 → j < 10 → t i j < n ∧ c i j ≤ 9 ∧ (t i j + R i < n → t i (j + 1) = t i j + R i ∧ c i (j + 1) = c i j) ∧ (n ≤ t i j + R i → t i (j + 1) + n = t i j + R i ∧ c i (j + 1) = c i j + 1) by
    intro i j _ hj
    obtain ⟨d1, d2⟩ := dig_step n (R i) j hn0 (hRn i)
    rw [hc, hc, ht, ht]
    refine ⟨Nat.mod_lt _ hn0, ?_, d1, d2⟩
    have : j * R i / n < 10 := by
      rw [Nat.div_lt_iff_lt_mul hn0]
      have := Nat.mul_le_mul (show j ≤ 9 by omega) (Nat.le_of_lt (hRn i))
      omega
    omega)
  have C10 := Lib.hid (show ∀ i, i < 4 → Q (i + 1) = 10 * Q i + c i 10 ∧ R (i + 1) = t i 10 by
    intro i _
    obtain ⟨d1, d2⟩ := dig_ten m n i hn0
    rw [hc, ht, hQ, hQ, hR, hR]
    exact ⟨d1, d2⟩)
  have mono : ∀ i, Q i * 10 ≤ Q (i + 1) := by
    intro i
    have := (dig_ten m n i hn0).1
    rw [hQ, hQ, this, Nat.mul_comm (m * 10 ^ i / n) 10]
    exact Nat.le_add_right _ _
  have hD : divN m n = Q 4 + if n ≤ 2 * R 4 then 1 else 0 := by unfold divN; rw [hQ, hR]
  have CR := Lib.hid (show ∀ i, i ≤ 4 → R i < n from fun i _ => hRn i)
  have big : ∀ st, st < 4 → 922337203685477580 < Q st → 9223372036854775807 < divN m n := by
    intro st h4 hb
    have g0 : Q 0 * 10 ≤ Q 1 := mono 0
    have g1 : Q 1 * 10 ≤ Q 2 := mono 1
    have g2 : Q 2 * 10 ≤ Q 3 := mono 2
    have g3 : Q 3 * 10 ≤ Q 4 := mono 3
    have : st = 0 ∨ st = 1 ∨ st = 2 ∨ st = 3 := by omega
    rw [hD]
    rcases this with rfl | rfl | rfl | rfl <;> omega
  have fail : ∀ st, st < 4 → (∀ i, i < st → Q i ≤ 922337203685477580) → 922337203685477580 < Q st → Calls Tryd.prog 64 #[.int .i64 a, .int .i64 b] w fun e w' => e = .returned (.tuple #[.int .i64 (exV (sgn2 a b (divN m n))), .int .i64 (exC (sgn2 a b (divN m n)))]) ∧ w = w' := by
    intro st h4 hl hb'
    obtain ⟨b1, b2⟩ := sgn2_big a b (divN m n) (big st h4 hb')
    rw [b1, b2]
    exact rdiv_big a b ha hb h h2 h3 m n hm hn (by omega) (by omega) Q R c t T1 T1b T0 T2 T2b st (by omega) (Lib.hid hl) CR C0 C1 C10 h4 hb' w
  by_cases f0 : 922337203685477580 < Q 0
  · exact fail 0 (by omega) (fun i hi => by omega) f0
  by_cases f1 : 922337203685477580 < Q 1
  · exact fail 1 (by omega) (fun i hi => by obtain rfl : i = 0 := (by omega); omega) f1
  by_cases f2 : 922337203685477580 < Q 2
  · exact fail 2 (by omega) (fun i hi => by have : i = 0 ∨ i = 1 := (by omega); rcases this with rfl | rfl <;> omega) f2
  by_cases f3 : 922337203685477580 < Q 3
  · exact fail 3 (by omega) (fun i hi => by have : i = 0 ∨ i = 1 ∨ i = 2 := (by omega); rcases this with rfl | rfl | rfl <;> omega) f3
  have hl := Lib.hid (show ∀ i, i < 4 → Q i ≤ 922337203685477580 by
    intro i hi
    have : i = 0 ∨ i = 1 ∨ i = 2 ∨ i = 3 := by omega
    rcases this with rfl | rfl | rfl | rfl <;> omega)
  have hQ4 : Q 4 ≤ 9223372036854775809 := by
    have d1 : Q 4 = 10 * Q 3 + c 3 10 := (C10.out 3 (by omega)).1
    obtain ⟨k1, k2, k3, k4⟩ := C1.out 3 9 (by omega) (by omega)
    have : c 3 10 ≤ 9 := by
      rw [hc]
      have : 10 * R 3 / n < 10 := by
        rw [Nat.div_lt_iff_lt_mul hn0]
        have := hRn 3
        omega
      omega
    omega
  have hR4 := hRn 4
  rw [hD]
  by_cases hu : n ≤ 2 * R 4
  · rw [if_pos hu]
    have := rdiv_up a b ha hb h h2 h3 m n hm hn (by omega) (by omega) Q R c t T1 T1b T0 T2 T2b 4 (by omega) hl CR C0 C1 C10 (Lib.hid rfl) (by omega) (by omega) _ rfl (decide_eq_true (by omega)) w
    unfold sgn2
    rw [show ((Q 4 + 1 : Nat) : Int) = (Q 4 : Int) + 1 from rfl]
    exact this
  · rw [if_neg hu]
    exact rdiv_dn a b ha hb h h2 h3 m n hm hn (by omega) (by omega) Q R c t T1 T1b T0 T2 T2b 4 (by omega) hl CR C0 C1 C10 (Lib.hid rfl) (by omega) (by omega) _ rfl (decide_eq_false (by omega)) w
end Go.Proofs.YtjnjklcnccfgaaaDoor
