/-
  The document's product of any two numbers.
-/
import Derived.Test.YtjnjklcnccfgaaaDoorRMul
import Derived.WalkSpells
import Derived.WalkLawsBesides
import Derived.StillTactics
import Derived.Laws.Pointers
import Derived.Deep.RegionHeld3
import Derived.Deep.QuietTactic
import Derived.BigQuiet
import Derived.RowKit3
import Derived.Lib.Hide
import Derived.Lib.OthersKept
import Derived.OwnWalk
import Derived.Lib.IndexLaws
import Derived.Lib.ItoaMem
namespace Go.Proofs.YtjnjklcnccfgaaaDoor
open Go.RowKit

theorem mul_parts (m n p q m1 n1 pq L1 L2 t : Nat) (hm : m = p * 10000 + m1) (hn : n = q * 10000 + n1) (g1 : p * q = pq) (g2 : p * n1 = L1) (g3 : q * m1 = L2) (g4 : m1 * n1 = t) : mulN m n = pq * 10000 + L1 + L2 + (t + 5000) / 10000 := by
  have e : m * n = pq * 100000000 + L1 * 10000 + L2 * 10000 + t := by
    rw [hm, hn, Nat.add_mul, Nat.mul_add, Nat.mul_add, ← g1, ← g2, ← g3, ← g4]
    have a1 : p * 10000 * (q * 10000) = p * q * 100000000 := by rw [Nat.mul_mul_mul_comm]
    have a2 : p * 10000 * n1 = p * n1 * 10000 := by rw [Nat.mul_right_comm]
    have a3 : m1 * (q * 10000) = q * m1 * 10000 := by rw [← Nat.mul_assoc, Nat.mul_comm m1 q]
    omega
  unfold mulN
  rw [e]
  split <;> omega
theorem rmul_any (a b : Int) (ha : -9223372036854775808 ≤ a ∧ a ≤ 9223372036854775807) (hb : -9223372036854775808 ≤ b ∧ b ≤ 9223372036854775807) (w : World) : Calls Tryd.prog 62 #[.int .i64 a, .int .i64 b] w fun e w' => e = .returned (.tuple #[.int .i64 (mulV a b), .int .i64 (mulC a b)]) ∧ Below w.heap.size w w' := by
  unfold mulV mulC
  by_cases h : a = -9223372036854775808
  · rw [if_pos (.inl h), if_pos (.inl h)]; exact rmul_a a b ha hb h w
  by_cases h2 : b = -9223372036854775808
  · rw [if_pos (.inr h2), if_pos (.inr h2)]; exact rmul_b a b ha hb h h2 w
  rw [if_neg (by omega), if_neg (by omega)]
  obtain ⟨m, hm⟩ : ∃ m, a.natAbs = m := ⟨_, rfl⟩
  obtain ⟨n, hn⟩ : ∃ n, b.natAbs = n := ⟨_, rfl⟩
  rw [hm, hn]
  obtain ⟨p, hp⟩ : ∃ p, m / 10000 = p := ⟨_, rfl⟩
  obtain ⟨q, hq⟩ : ∃ q, n / 10000 = q := ⟨_, rfl⟩
  obtain ⟨m1, hm1⟩ : ∃ m1, m % 10000 = m1 := ⟨_, rfl⟩
  obtain ⟨n1, hn1⟩ : ∃ n1, n % 10000 = n1 := ⟨_, rfl⟩
  have E1 : (m : Int) / 10000 = (p : Int) := by omega
  have E2 : (n : Int) / 10000 = (q : Int) := by omega
  have E3 : (m : Int) % 10000 = (m1 : Int) := by omega
  have E4 : (n : Int) % 10000 = (n1 : Int) := by omega
  obtain ⟨pq, hpq⟩ : ∃ x, p * q = x := ⟨_, rfl⟩
  obtain ⟨L1, hL1⟩ : ∃ x, p * n1 = x := ⟨_, rfl⟩
  obtain ⟨L2, hL2⟩ : ∃ x, q * m1 = x := ⟨_, rfl⟩
  obtain ⟨t, ht⟩ : ∃ x, m1 * n1 = x := ⟨_, rfl⟩
  have hN := mul_parts m n p q m1 n1 pq L1 L2 t (by omega) (by omega) hpq hL1 hL2 ht
  have l1 : L1 ≤ 922337203685477 * 9999 := by rw [← hL1]; exact Nat.mul_le_mul (by omega) (by omega)
  have l2 : L2 ≤ 922337203685477 * 9999 := by rw [← hL2]; exact Nat.mul_le_mul (by omega) (by omega)
  have l3 : t ≤ 9999 * 9999 := by rw [← ht]; exact Nat.mul_le_mul (by omega) (by omega)
  have G3 := wrapM p n1 L1 hL1
  have G4 := wrapM q m1 L2 hL2
  have G5 := wrapM m1 n1 t ht
  rw [Nat.mod_eq_of_lt (by omega)] at G3 G4 G5
  have G6 : IntKind.u64.wrap ((t : Int) + 5000) = (t : Int) + 5000 := IntWalk.u64_in _ (by omega)
  have G7 : ((t : Int) + 5000) / 10000 = (((t + 5000) / 10000 : Nat) : Int) := by omega
  have G8 : IntKind.u64.wrap (((t : Int) + 5000).tdiv 10000) = (((t + 5000) / 10000 : Nat) : Int) := by rw [IntWalk.u64_quo _ _ (by omega)]; exact G7
  have G1' := wrapM p q pq hpq
  by_cases hp0 : 0 < p
  · obtain ⟨cp, hcp⟩ : ∃ x, 922337203685477 / p = x := ⟨_, rfl⟩
    have hcpb : cp ≤ 922337203685477 := by rw [← hcp]; exact Nat.div_le_self _ _
    have T2 : (922337203685477 : Int) / p = (cp : Int) := by rw [← hcp]; simp
    have T1 : IntKind.u64.wrap ((922337203685477 : Int).tdiv p) = (cp : Int) := by rw [IntWalk.u64_quo _ _ (by omega)]; exact T2
    by_cases ho : cp < q
    · have hB : 922337203685477 < pq := by
        rw [← hpq, Nat.mul_comm]
        exact (Nat.div_lt_iff_lt_mul hp0).1 (by rw [hcp]; exact ho)
      obtain ⟨b1, b2⟩ := sgn2_big a b (mulN m n) (by omega)
      rw [b1, b2]
      exact rmul_over a b ha hb h h2 m n p q m1 n1 hm hn (by omega) (by omega) E1 E2 E3 E4 (by omega) (by omega) (by omega) (by omega) cp T1 T2 (decide_eq_true (by omega)) (decide_eq_true hp0) (decide_eq_true (by omega)) (decide_eq_true ho) w
    have hB : pq ≤ 922337203685477 := by
      rw [← hpq, Nat.mul_comm]
      exact (Nat.le_div_iff_mul_le hp0).1 (by rw [hcp]; omega)
    have G1 := G1'
    rw [Nat.mod_eq_of_lt (by omega)] at G1
    have G2 : IntKind.u64.wrap ((pq : Int) * 10000) = ((pq * 10000 : Nat) : Int) := IntWalk.u64_in _ (by omega)
    by_cases c1 : 9223372036854775807 < (pq * 10000) + L1
    · obtain ⟨b1, b2⟩ := sgn2_big a b (mulN m n) (by omega)
      rw [b1, b2]
      exact rmul_y1 a b ha hb h h2 m n p q m1 n1 hm hn (by omega) (by omega) E1 E2 E3 E4 (by omega) (by omega) (by omega) (by omega) pq (pq * 10000) L1 L2 t ((t + 5000) / 10000) G1 G2 G3 G4 G5 G6 G7 G8 (pq * 10000 + L1) (pq * 10000 + L1 + L2) (pq * 10000 + L1 + L2 + (t + 5000) / 10000) (by omega) cp T1 T2 (decide_eq_true (by omega)) (decide_eq_true (by omega)) (decide_eq_false (by omega)) (decide_eq_false (by omega))  (by omega) w
    by_cases c2 : 9223372036854775807 < (pq * 10000 + L1) + L2
    · obtain ⟨b1, b2⟩ := sgn2_big a b (mulN m n) (by omega)
      rw [b1, b2]
      exact rmul_y2 a b ha hb h h2 m n p q m1 n1 hm hn (by omega) (by omega) E1 E2 E3 E4 (by omega) (by omega) (by omega) (by omega) pq (pq * 10000) L1 L2 t ((t + 5000) / 10000) G1 G2 G3 G4 G5 G6 G7 G8 (pq * 10000 + L1) (pq * 10000 + L1 + L2) (pq * 10000 + L1 + L2 + (t + 5000) / 10000) (by omega) cp T1 T2 (decide_eq_true (by omega)) (decide_eq_true (by omega)) (decide_eq_false (by omega)) (decide_eq_false (by omega)) (by omega) (by omega) (by omega) w
    by_cases c3 : 9223372036854775807 < (pq * 10000 + L1 + L2) + ((t + 5000) / 10000)
    · obtain ⟨b1, b2⟩ := sgn2_big a b (mulN m n) (by omega)
      rw [b1, b2]
      exact rmul_y3 a b ha hb h h2 m n p q m1 n1 hm hn (by omega) (by omega) E1 E2 E3 E4 (by omega) (by omega) (by omega) (by omega) pq (pq * 10000) L1 L2 t ((t + 5000) / 10000) G1 G2 G3 G4 G5 G6 G7 G8 (pq * 10000 + L1) (pq * 10000 + L1 + L2) (pq * 10000 + L1 + L2 + (t + 5000) / 10000) (by omega) cp T1 T2 (decide_eq_true (by omega)) (decide_eq_true (by omega)) (decide_eq_false (by omega)) (decide_eq_false (by omega)) (by omega) (by omega) (by omega) (by omega) (by omega) w
    rw [hN]
    exact rmul_y4 a b ha hb h h2 m n p q m1 n1 hm hn (by omega) (by omega) E1 E2 E3 E4 (by omega) (by omega) (by omega) (by omega) pq (pq * 10000) L1 L2 t ((t + 5000) / 10000) G1 G2 G3 G4 G5 G6 G7 G8 (pq * 10000 + L1) (pq * 10000 + L1 + L2) (pq * 10000 + L1 + L2 + (t + 5000) / 10000) (by omega) cp T1 T2 (decide_eq_true (by omega)) (decide_eq_true (by omega)) (decide_eq_false (by omega)) (decide_eq_false (by omega)) (by omega) (by omega) (by omega) (by omega) (by omega) (by omega) _ rfl w
  · have hB : pq = 0 := by rw [← hpq, show p = 0 by omega, Nat.zero_mul]
    have G1 := G1'
    rw [Nat.mod_eq_of_lt (by omega)] at G1
    have G2 : IntKind.u64.wrap ((pq : Int) * 10000) = ((pq * 10000 : Nat) : Int) := IntWalk.u64_in _ (by omega)
    by_cases c1 : 9223372036854775807 < (pq * 10000) + L1
    · obtain ⟨b1, b2⟩ := sgn2_big a b (mulN m n) (by omega)
      rw [b1, b2]
      exact rmul_z1 a b ha hb h h2 m n p q m1 n1 hm hn (by omega) (by omega) E1 E2 E3 E4 (by omega) (by omega) (by omega) (by omega) pq (pq * 10000) L1 L2 t ((t + 5000) / 10000) G1 G2 G3 G4 G5 G6 G7 G8 (pq * 10000 + L1) (pq * 10000 + L1 + L2) (pq * 10000 + L1 + L2 + (t + 5000) / 10000) (by omega) (decide_eq_false (by omega)) (decide_eq_false (by omega))  (by omega) w
    by_cases c2 : 9223372036854775807 < (pq * 10000 + L1) + L2
    · obtain ⟨b1, b2⟩ := sgn2_big a b (mulN m n) (by omega)
      rw [b1, b2]
      exact rmul_z2 a b ha hb h h2 m n p q m1 n1 hm hn (by omega) (by omega) E1 E2 E3 E4 (by omega) (by omega) (by omega) (by omega) pq (pq * 10000) L1 L2 t ((t + 5000) / 10000) G1 G2 G3 G4 G5 G6 G7 G8 (pq * 10000 + L1) (pq * 10000 + L1 + L2) (pq * 10000 + L1 + L2 + (t + 5000) / 10000) (by omega) (decide_eq_false (by omega)) (decide_eq_false (by omega)) (by omega) (by omega) (by omega) w
    by_cases c3 : 9223372036854775807 < (pq * 10000 + L1 + L2) + ((t + 5000) / 10000)
    · obtain ⟨b1, b2⟩ := sgn2_big a b (mulN m n) (by omega)
      rw [b1, b2]
      exact rmul_z3 a b ha hb h h2 m n p q m1 n1 hm hn (by omega) (by omega) E1 E2 E3 E4 (by omega) (by omega) (by omega) (by omega) pq (pq * 10000) L1 L2 t ((t + 5000) / 10000) G1 G2 G3 G4 G5 G6 G7 G8 (pq * 10000 + L1) (pq * 10000 + L1 + L2) (pq * 10000 + L1 + L2 + (t + 5000) / 10000) (by omega) (decide_eq_false (by omega)) (decide_eq_false (by omega)) (by omega) (by omega) (by omega) (by omega) (by omega) w
    rw [hN]
    exact rmul_z4 a b ha hb h h2 m n p q m1 n1 hm hn (by omega) (by omega) E1 E2 E3 E4 (by omega) (by omega) (by omega) (by omega) pq (pq * 10000) L1 L2 t ((t + 5000) / 10000) G1 G2 G3 G4 G5 G6 G7 G8 (pq * 10000 + L1) (pq * 10000 + L1 + L2) (pq * 10000 + L1 + L2 + (t + 5000) / 10000) (by omega) (decide_eq_false (by omega)) (decide_eq_false (by omega)) (by omega) (by omega) (by omega) (by omega) (by omega) (by omega) _ rfl w
end Go.Proofs.YtjnjklcnccfgaaaDoor
