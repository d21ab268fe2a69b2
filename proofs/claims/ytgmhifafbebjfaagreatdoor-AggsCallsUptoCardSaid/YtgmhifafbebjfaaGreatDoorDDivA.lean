/-
 math/bits.Div64: the quotient and what is left, of any two words by a greater one.
-/
import Derived.Test.YtgmhifafbebjfaaGreatDoorDDiv
namespace Go.Proofs.YtgmhifafbebjfaaGreatDoor
open Go.RowKit

theorem wrapN (n : Nat) : IntKind.u64.wrap (n : Int) = ((n % 18446744073709551616 : Nat) : Int) := by rw [IntKind.wrap_u64]; omega
theorem wrapM (a b n : Nat) (h : a * b = n) : IntKind.u64.wrap ((a : Int) * (b : Int)) = ((n % 18446744073709551616 : Nat) : Int) := by rw [← Int.natCast_mul, h]; exact wrapN n
theorem wrapP (a s n : Nat) (h : a * 2 ^ s = n) : IntKind.u64.wrap ((a : Int) * 2 ^ s) = ((n % 18446744073709551616 : Nat) : Int) := by
 have : ((a * 2 ^ s : Nat) : Int) = (a : Int) * 2 ^ s := by simp
 rw [← this, h]; exact wrapN n
theorem divP (a t : Nat) : (a : Int) / 2 ^ t = ((a / 2 ^ t : Nat) : Int) := by simp
theorem andMask (Y : Nat) (h : Y < 18446744073709551616) : bits .and .u64 (Y : Int) 4294967295 = ((Y % 4294967296 : Nat) : Int) := by
 have := u64_and_nat Y 4294967295 h (by omega)
 rw [show Y &&& 4294967295 = Y % 4294967296 from Nat.and_two_pow_sub_one_eq_mod Y 32] at this
 exact this
theorem orJoin (A Bq s : Nat) (hA : A < 18446744073709551616) (hB : Bq < 18446744073709551616) (h1 : A % 2 ^ s = 0) (h2 : Bq < 2 ^ s) : bits .or .u64 (A : Int) (Bq : Int) = ((A + Bq : Nat) : Int) := by
 have := u64_or_nat A Bq hA hB
 rw [nat_join s A Bq h1 h2] at this
 exact this
theorem subW (N p R a2 a3 : Nat) (h : p + R = N) (hR : R < 18446744073709551616) (h2 : a2 = N % 18446744073709551616) (h3 : a3 = p % 18446744073709551616) : IntKind.u64.wrap ((a2 : Int) - (a3 : Int)) = (R : Int) := by
 rw [IntKind.wrap_u64]; omega
theorem shift_at (hi lo y s k : Nat) (hk : k ≤ 63) (hs : s = 63 - k) (h1 : 2 ^ k ≤ y) (h2 : y < 2 ^ (k + 1)) (hhy : hi < y) (hlo : lo < 18446744073709551616) :
  9223372036854775808 ≤ y * 2 ^ s ∧ y * 2 ^ s < 18446744073709551616 ∧ hi * 2 ^ s < 18446744073709551616 ∧ lo / 2 ^ (64 - s) < 2 ^ s ∧ lo / 2 ^ (64 - s) < 18446744073709551616 ∧ hi * 2 ^ s + lo / 2 ^ (64 - s) < y * 2 ^ s ∧
  (hi * 18446744073709551616 + lo) * 2 ^ s = (hi * 2 ^ s + lo / 2 ^ (64 - s)) * 18446744073709551616 + lo * 2 ^ s % 18446744073709551616 := by
 have e1 : 2 ^ k * 2 ^ s = 9223372036854775808 := by rw [← Nat.pow_add, show k + s = 63 by omega]
 have e2 : 2 ^ (k + 1) * 2 ^ s = 18446744073709551616 := by rw [← Nat.pow_add, show k + 1 + s = 64 by omega]
 have e3 : 2 ^ (64 - s) * 2 ^ s = 18446744073709551616 := by rw [← Nat.pow_add, show 64 - s + s = 64 by omega]
 have p0 : 0 < 2 ^ s := Nat.pow_pos (by omega)
 have p1 : 0 < 2 ^ (64 - s) := Nat.pow_pos (by omega)
 have a1 : 9223372036854775808 ≤ y * 2 ^ s := by rw [← e1]; exact Nat.mul_le_mul_right _ h1
 have a2 : y * 2 ^ s < 18446744073709551616 := by rw [← e2]; exact Nat.mul_lt_mul_of_pos_right h2 p0
 have a3 : (hi + 1) * 2 ^ s ≤ y * 2 ^ s := Nat.mul_le_mul_right _ hhy
 rw [Nat.add_mul, Nat.one_mul] at a3
 have a4 : lo / 2 ^ (64 - s) < 2 ^ s := by rw [Nat.div_lt_iff_lt_mul p1, Nat.mul_comm, e3]; exact hlo
 have a5 : lo * 2 ^ s / 18446744073709551616 = lo / 2 ^ (64 - s) := by rw [← e3]; exact Nat.mul_div_mul_right lo (2 ^ (64 - s)) p0
 have a6 := Nat.div_add_mod (lo * 2 ^ s) 18446744073709551616
 rw [a5] at a6
 refine ⟨a1, a2, by omega, a4, by omega, by omega, ?_⟩
 rw [Nat.add_mul, Nat.add_mul, Nat.mul_right_comm]
 omega
theorem div64_any (hi lo y : Nat) (hlo : lo < 18446744073709551616) (hy : y < 18446744073709551616) (hhy : hi < y) (w : World) : Calls Tryz.prog 176 #[.int .u64 (hi : Int), .int .u64 (lo : Int), .int .u64 (y : Int)] w fun e w' => e = .returned (.tuple #[.int .u64 (((hi * 18446744073709551616 + lo) / y : Nat) : Int), .int .u64 (((hi * 18446744073709551616 + lo) % y : Nat) : Int)]) ∧ Below w.heap.size w w' := by
 by_cases hhi : hi = 0
 ·subst hhi
  rw [Nat.zero_mul, Nat.zero_add]
  exact div64_small lo y hlo hy (by omega) w
 obtain ⟨k, hk, hbl, hk1, hk2⟩ := bitLen_spec y y (Nat.le_refl _) (by omega) hy
 obtain ⟨s, hs⟩ : ∃ s, s = 63 - k := ⟨_, rfl⟩
 obtain ⟨c1, c2, c3, c4, c5, c6, c7⟩ := shift_at hi lo y s k hk hs hk1 hk2 hhy hlo
 have p0 : 0 < 2 ^ s := Nat.pow_pos (by omega)
 have hA0 : hi * 2 ^ s % 2 ^ s = 0 := Nat.mul_mod_left _ _
 have hfin1 := Nat.mul_div_mul_right (hi * 18446744073709551616 + lo) y p0
 have hfin2 := Nat.mul_mod_mul_right (2 ^ s) (hi * 18446744073709551616 + lo) y
 rw [c7] at hfin1 hfin2
 obtain ⟨Y, hY⟩ : ∃ Y, y * 2 ^ s = Y := ⟨_, rfl⟩
 obtain ⟨A, hA⟩ : ∃ A, hi * 2 ^ s = A := ⟨_, rfl⟩
 obtain ⟨Bq, hBq⟩ : ∃ Bq, lo / 2 ^ (64 - s) = Bq := ⟨_, rfl⟩
 obtain ⟨L, hL⟩ : ∃ L, lo * 2 ^ s = L := ⟨_, rfl⟩
 rw [hY] at c1 c2 c6 hfin1 hfin2
 rw [hA, hBq] at c6 hfin1 hfin2
 rw [hA] at c3 hA0
 rw [hBq] at c4 c5
 rw [hL] at hfin1 hfin2
 clear c7
 obtain ⟨U, hU⟩ : ∃ U, A + Bq = U := ⟨_, rfl⟩
 obtain ⟨D, hD⟩ : ∃ D, L % 18446744073709551616 = D := ⟨_, rfl⟩
 rw [hU] at c6 hfin1 hfin2
 rw [hD] at hfin1 hfin2
 have hDM : D < 18446744073709551616 := by rw [← hD]; exact Nat.mod_lt _ (by omega)
 obtain ⟨y1, hy1⟩ : ∃ y1, Y / 4294967296 = y1 := ⟨_, rfl⟩
 obtain ⟨y0, hy0⟩ : ∃ y0, Y % 4294967296 = y0 := ⟨_, rfl⟩
 obtain ⟨d1, hd1⟩ : ∃ d1, D / 4294967296 = d1 := ⟨_, rfl⟩
 obtain ⟨d0, hd0⟩ : ∃ d0, D % 4294967296 = d0 := ⟨_, rfl⟩
 have hYy : Y = y1 * 4294967296 + y0 := by omega
 have hDd : D = d1 * 4294967296 + d0 := by omega
 have b1 : 2147483648 ≤ y1 := by omega
 have b2 : y1 < 4294967296 := by omega
 have b3 : y0 < 4294967296 := by omega
 have b4 : d1 < 4294967296 := by omega
 have b5 : d0 < 4294967296 := by omega
 have two := kn_two U d1 d0 Y (by omega)
 rw [← hDd, hfin1, hfin2] at two
 have F1 := wrapP y s Y hY
 rw [Nat.mod_eq_of_lt c2] at F1
 have F2 : (Y : Int) / 4294967296 = (y1 : Int) := by omega
 have F3 := andMask Y c2
 rw [hy0] at F3
 have F4 := wrapP hi s A hA
 rw [Nat.mod_eq_of_lt c3] at F4
 have F4b := divP lo (64 - s)
 rw [hBq] at F4b
 have F4c := orJoin A Bq s c3 c5 hA0 c4
 rw [hU] at F4c
 have F5 := wrapP lo s L hL
 rw [hD] at F5
 have F6 : (D : Int) / 4294967296 = (d1 : Int) := by omega
 have F7 := andMask D hDM
 rw [hd0] at F7
 have hUY : U < y1 * 4294967296 + y0 := by omega
 have K0 := kn_start U y1 y0 d1 b1 b2 b3 hUY b4
 have T1b : (U * 4294967296 + d1) / (y1 * 4294967296 + y0) < 4294967296 := by rw [Nat.div_lt_iff_lt_mul (by omega)]; rw [Nat.mul_comm]; have := kn_T hUY b4; omega
 have step : ∀ V : Nat, V < 18446744073709551616 → V < y1 * 4294967296 + y0 → ∀ d, d < 4294967296 → ∃ q p r : Nat, IntKind.u64.wrap ((V : Int).tdiv y1) = (q : Int) ∧ (V : Int) / y1 = (q : Int) ∧ V / y1 = q ∧ IntKind.u64.wrap (q : Int) = (q : Int) ∧ IntKind.u64.wrap ((q : Int) * (y1 : Int)) = (p : Int) ∧ IntKind.u64.wrap ((V : Int) - (p : Int)) = (r : Int) ∧ q ≤ 4294967297 ∧ r < 4294967296 ∧ KInv V y1 ((V * 4294967296 + d) / (y1 * 4294967296 + y0)) q r := by
  intro V hVM hV d hd
  have K := kn_start V y1 y0 d b1 b2 b3 hV hd
  have e := Nat.div_add_mod V y1
  have hm := Nat.mod_lt V (show 0 < y1 by omega)
  have hq : (V : Int) / y1 = ((V / y1 : Nat) : Int) := by simp
  refine ⟨V / y1, V / y1 * y1, V % y1, ?_, hq, rfl, IntWalk.u64_in _ (by have h := K.2.2; generalize V / y1 = z at h ⊢; omega), ?_, ?_, K.2.2, by omega, K⟩
  ·rw [IntWalk.u64_quo _ _ (by omega)]; exact hq
  ·rw [wrapM _ _ _ rfl, Nat.mod_eq_of_lt (Nat.lt_of_le_of_lt (Nat.div_mul_le_self V y1) hVM)]
  ·rw [Nat.mul_comm] at e
   generalize V / y1 * y1 = p at *
   rw [show (V : Int) - (p : Int) = ((V % y1 : Nat) : Int) by omega]
   exact IntWalk.u64_in _ (by omega)
 have half : ∀ V d : Nat, V < y1 * 4294967296 + y0 → d < 4294967296 → ∃ Q a1 a2 a3 R : Nat, (V * 4294967296 + d) / (y1 * 4294967296 + y0) = Q ∧ (V * 4294967296 + d) % Y = R ∧ Q < 4294967296 ∧ IntKind.u64.wrap ((V : Int) * 4294967296) = (a1 : Int) ∧ IntKind.u64.wrap ((a1 : Int) + (d : Int)) = (a2 : Int) ∧ IntKind.u64.wrap ((Q : Int) * (Y : Int)) = (a3 : Int) ∧ IntKind.u64.wrap ((a2 : Int) - (a3 : Int)) = (R : Int) ∧ R < y1 * 4294967296 + y0 ∧ R < 18446744073709551616 := by
  intro V d hV hd
  have e := Nat.div_add_mod (V * 4294967296 + d) Y
  have hm := Nat.mod_lt (V * 4294967296 + d) (show 0 < Y by omega)
  have hQ : (V * 4294967296 + d) / (y1 * 4294967296 + y0) < 4294967296 := by rw [Nat.div_lt_iff_lt_mul (by omega)]; rw [Nat.mul_comm]; have := kn_T hV hd; omega
  rw [← hYy] at hQ
  refine ⟨(V * 4294967296 + d) / (y1 * 4294967296 + y0), V * 4294967296 % 18446744073709551616, (V * 4294967296 + d) % 18446744073709551616, ((V * 4294967296 + d) / Y * Y) % 18446744073709551616, (V * 4294967296 + d) % Y, rfl, rfl, by rw [← hYy]; exact hQ, ?_, ?_, ?_, ?_, by omega, by omega⟩
  ·rw [IntKind.wrap_u64]; omega
  ·rw [IntKind.wrap_u64]; omega
  ·rw [← hYy]; exact wrapM _ _ _ rfl
  ·refine subW (V * 4294967296 + d) ((V * 4294967296 + d) / Y * Y) _ _ _ ?_ (by omega) rfl rfl
   rw [Nat.mul_comm]; exact e
 obtain ⟨q0, p0', r0, F8, F8b, F8c, F9, F10, F11, hq0, hr0, K0⟩ := step U (by omega) hUY d1 b4
 obtain ⟨Q1, a1, a2, a3, R1, hQ1, hR1, hQ1b, W1, W2, W3, W4, hRY, hRM⟩ := half U d1 hUY b4
 obtain ⟨q1, p1, r1, H8, H8b, _, H9, H10, H11, hq1, hr1, K1⟩ := step R1 hRM hRY d0 b5
 obtain ⟨Q0, e1, e2, e3, R0, hQ0, hR0, hQ0b, V1, V2, V3, V4, hR0Y, hR0M⟩ := half R1 d0 hRY b5
 have C := div64_walk hi lo y s (by omega) hhy hy hlo (by omega) (Lib.hid (by omega)) (Lib.hid (by omega)) Y y1 y0 A Bq U D d1 d0 q0 c2 b1 b2 b3 (Lib.hid hYy) (by omega) (Lib.hid hUY) b4 b5
  F1 F2 F3 F4 F4b F4c F5 F6 F7 F8 F8b (Lib.hid F8c) p0' r0 F9 F10 F11 hq0 hr0 (Lib.hid K0) Q1 (Lib.hid hQ1) hQ1b a1 a2 a3 R1 W1 W2 W3 W4 (Lib.hid hRY) hRM
  q1 p1 r1 H8 H8b H9 H10 H11 hq1 hr1 (Lib.hid K1) Q0 (Lib.hid hQ0) hQ0b e1 e2 e3 R0 (R0 / 2 ^ s) V1 V2 V3 V4 (divP R0 s) w
 have g1 : (hi * 18446744073709551616 + lo) / y = Q1 * 4294967296 + Q0 := by rw [two.1, hYy, hQ1, ← hYy, hR1, hYy, hQ0]
 have g2 : R0 / 2 ^ s = (hi * 18446744073709551616 + lo) % y := by
  have : (hi * 18446744073709551616 + lo) % y * 2 ^ s = R0 := by rw [two.2, hR1, hR0]
  rw [← this]; exact Nat.mul_div_cancel _ p0
 rw [g2] at C
 refine C.mono fun _ _ ⟨he, hw⟩ => ⟨?_, by rw [← hw]; exact Below.refl _ _⟩
 rw [he, g1]
 rfl
end Go.Proofs.YtgmhifafbebjfaaGreatDoor
