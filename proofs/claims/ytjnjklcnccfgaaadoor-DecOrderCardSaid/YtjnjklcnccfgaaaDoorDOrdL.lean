/-
  Package dec: the plain law of order: Round, Floor, Sqrt keep it.
-/
import Derived.Test.YtjnjklcnccfgaaaDoorDSqr
import Derived.WalkSpells
import Derived.WalkLawsBesides
import Derived.StillTactics
import Derived.Laws.Pointers
import Derived.Deep.RegionHeld3
import Derived.Deep.QuietTactic
import Derived.BigQuiet
import Derived.RowKit3
import Derived.Lib.Hide
import Derived.Lib.OthersKept
import Derived.OwnWalk
import Derived.Lib.IndexLaws
import Derived.Lib.ItoaMem
namespace Go.Proofs.YtjnjklcnccfgaaaDoor
open Go.RowKit

theorem modM_less' (a b : Int) : ∃ k : Int, a - modM a b = b * k := by
  have := Int.mul_tdiv_add_tmod a b
  unfold modM
  split
  · exact ⟨a.tdiv b - 1, by rw [Int.mul_sub]; omega⟩
  · exact ⟨a.tdiv b, by omega⟩
theorem rnd_eq (n u : Nat) (hu : 0 < u) : rndN n u = ((2 * n + u) / (2 * u)) * u := by
  unfold rndN
  congr 1
  have h1 := Nat.div_add_mod n u
  have h2 := Nat.mod_lt n hu
  generalize n / u = k at *
  generalize n % u = r at *
  have h3 : u * k = k * u := Nat.mul_comm _ _
  split
  · refine (Nat.div_eq_of_lt_le ?_ ?_).symm
    · have e : (k + 1) * (2 * u) = 2 * (k * u) + 2 * u := by rw [Nat.add_mul, Nat.mul_left_comm]; omega
      omega
    · have e : (k + 1 + 1) * (2 * u) = 2 * (k * u) + 4 * u := by rw [Nat.add_mul, Nat.add_mul, Nat.mul_left_comm]; omega
      omega
  · refine (Nat.div_eq_of_lt_le ?_ ?_).symm
    · have e : (k + 0) * (2 * u) = 2 * (k * u) := by rw [Nat.add_zero, Nat.mul_left_comm]
      omega
    · have e : (k + 0 + 1) * (2 * u) = 2 * (k * u) + 2 * u := by rw [Nat.add_zero, Nat.add_mul, Nat.mul_left_comm]; omega
      omega
theorem rnd_mono (n m u : Nat) (hu : 0 < u) (h : n ≤ m) : rndN n u ≤ rndN m u := by
  rw [rnd_eq n u hu, rnd_eq m u hu]
  exact Nat.mul_le_mul_right _ (Nat.div_le_div_right (by omega))
theorem rnd_again (n u : Nat) (hu : 0 < u) : rndN (rndN n u) u = rndN n u := by
  have : ∀ k, rndN (k * u) u = k * u := by
    intro k
    unfold rndN
    rw [Nat.mul_mod_left, Nat.mul_div_cancel _ hu, if_neg (by omega)]
    rfl
  conv => lhs; arg 1; unfold rndN
  rw [this]
  rfl
theorem ex_zero {n : Int} (h : exC n = 0) : -9223372036854775807 ≤ n ∧ n ≤ 9223372036854775807 ∧ exV n = n := by
  unfold exC at h
  split at h
  · rename_i h1
    exact ⟨h1.1, h1.2, by unfold exV; rw [if_pos h1]⟩
  · omega
theorem sgn_mono (a b : Int) (u : Nat) (hu : 0 < u) (h : a ≤ b) : sgn a (rndN a.natAbs u) ≤ sgn b (rndN b.natAbs u) := by
  unfold sgn
  by_cases ha : a < 0 <;> by_cases hb : b < 0
  · rw [if_pos ha, if_pos hb]
    have := rnd_mono b.natAbs a.natAbs u hu (by omega)
    omega
  · rw [if_pos ha, if_neg hb]; omega
  · omega
  · rw [if_neg ha, if_neg hb]
    have := rnd_mono a.natAbs b.natAbs u hu (by omega)
    omega
theorem round_mono (a b p : Int) (h : a ≤ b) (h1 : roundC a p = 0) (h2 : roundC b p = 0) : roundV a p ≤ roundV b p := by
  unfold roundV roundC at *
  by_cases ha : a = -9223372036854775808
  · rw [if_pos ha] at h1; omega
  by_cases hb : b = -9223372036854775808
  · rw [if_pos hb] at h2; omega
  rw [if_neg ha] at h1 ⊢
  rw [if_neg hb] at h2 ⊢
  by_cases h4 : 4 ≤ p
  · rw [if_pos h4, if_pos h4]; exact h
  rw [if_neg h4] at h1 h2 ⊢
  rw [if_neg h4]
  by_cases h5 : p < -15
  · rw [if_pos h5, if_pos h5]; omega
  rw [if_neg h5] at h1 h2 ⊢
  rw [if_neg h5, (ex_zero h1).2.2, (ex_zero h2).2.2]
  exact sgn_mono a b _ (Nat.pow_pos (by omega)) h
theorem round_again (a p : Int) (h1 : roundC a p = 0) : roundV (roundV a p) p = roundV a p ∧ roundC (roundV a p) p = 0 := by
  obtain ⟨x, hx⟩ : ∃ x, roundV a p = x := ⟨_, rfl⟩
  rw [hx]
  unfold roundV roundC at *
  by_cases ha : a = -9223372036854775808
  · rw [if_pos ha] at h1; omega
  rw [if_neg ha] at h1 hx
  by_cases h4 : 4 ≤ p
  · rw [if_pos h4] at hx
    subst hx
    rw [if_neg ha, if_neg ha, if_pos h4, if_pos h4]
    exact ⟨rfl, rfl⟩
  rw [if_neg h4] at h1 hx
  by_cases h5 : p < -15
  · rw [if_pos h5] at hx
    subst hx
    simp [h4, h5]
  rw [if_neg h5] at h1 hx
  obtain ⟨z1, z2, z3⟩ := ex_zero h1
  rw [z3] at hx
  have hxn : x ≠ -9223372036854775808 := by omega
  rw [if_neg hxn, if_neg hxn, if_neg h4, if_neg h4, if_neg h5, if_neg h5]
  obtain ⟨u, hu⟩ : ∃ u, 10 ^ (4 - p).toNat = u := ⟨_, rfl⟩
  have hu0 : 0 < u := by rw [← hu]; exact Nat.pow_pos (by omega)
  rw [hu] at hx z1 z2 ⊢
  have hab : x.natAbs = rndN a.natAbs u := by rw [← hx]; unfold sgn; generalize rndN a.natAbs u = K; split <;> omega
  have hfix : sgn x (rndN x.natAbs u) = x := by
    rw [hab, rnd_again _ _ hu0]
    have hxs := hx
    unfold sgn at hxs ⊢
    generalize rndN a.natAbs u = K at *
    by_cases c1 : a < 0
    · rw [if_pos c1] at hxs
      by_cases c2 : x < 0
      · rw [if_pos c2]; exact hxs
      · rw [if_neg c2]; omega
    · rw [if_neg c1] at hxs
      by_cases c2 : x < 0
      · omega
      · rw [if_neg c2]; exact hxs
  rw [hfix]
  refine ⟨?_, ?_⟩
  · unfold exV; rw [if_pos (by omega)]
  · unfold exC; rw [if_pos (by omega)]
theorem round_range (a p : Int) (hr : -9223372036854775808 ≤ a ∧ a ≤ 9223372036854775807) : -9223372036854775808 ≤ roundV a p ∧ roundV a p ≤ 9223372036854775807 := by
  have : ∀ n, -9223372036854775808 ≤ exV n ∧ exV n ≤ 9223372036854775807 := by intro n; unfold exV; split <;> omega
  unfold roundV
  repeat' split
  · omega
  · exact hr
  · omega
  · exact this _
theorem modM_emod (a : Int) : modM a 10000 = a % 10000 := by
  have h1 := modM_pos a
  obtain ⟨k, hk⟩ := modM_less' a 10000
  omega
theorem floor_zero (a : Int) (h : floorC a = 0) : floorV a = a - a % 10000 := by
  unfold floorC at h
  unfold floorV
  by_cases ha : a = -9223372036854775808
  · rw [if_pos ha] at h; omega
  rw [if_neg ha] at h ⊢
  rw [modM_emod] at *
  unfold subC at h
  unfold subV
  rw [if_neg (by omega)] at h ⊢
  exact (ex_zero h).2.2
theorem sqrt_zero (a b : Int) (ha : -9223372036854775808 ≤ a ∧ a ≤ 9223372036854775807) (hb : -9223372036854775808 ≤ b ∧ b ≤ 9223372036854775807) (h : a ≤ b) (h1 : sqrtC a = 0) : sqrtC b = 0 ∧ sqrtV a ≤ sqrtV b ∧ 0 ≤ sqrtV a := by
  have h0 : 0 ≤ a := by
    unfold sqrtC at h1
    split at h1
    · omega
    · split at h1
      · omega
      · omega
  refine ⟨?_, ?_, ?_⟩
  · unfold sqrtC; rw [if_neg (by omega), if_neg (by omega)]
  · unfold sqrtV; rw [if_neg (by omega), if_neg (by omega)]
    have := sqN_mono a.toNat b.toNat (by omega) (by omega) (by omega)
    omega
  · unfold sqrtV; rw [if_neg (by omega)]; omega
end Go.Proofs.YtjnjklcnccfgaaaDoor
