/-
 The plain law of a long division by half words. No program in sight.
-/
import Derived.Lib.Bytealg
namespace Go.Proofs.YtgmhifafbebjfaaGreatDoor
open Go

def KInv (U y1 : Nat) (T q r : Nat) : Prop := q * y1 + r = U ∧ T ≤ q ∧ q ≤ 4294967297
theorem kn_T {U y1 y0 d : Nat} (hU : U < y1 * 4294967296 + y0) (hd : d < 4294967296) : U * 4294967296 + d < (y1 * 4294967296 + y0) * 4294967296 := by omega
theorem kn_start (U y1 y0 d : Nat) (h1 : 2147483648 ≤ y1) (h1b : y1 < 4294967296) (h0 : y0 < 4294967296) (hU : U < y1 * 4294967296 + y0) (hd : d < 4294967296) :
  KInv U y1 ((U * 4294967296 + d) / (y1 * 4294967296 + y0)) (U / y1) (U % y1) := by
 have e := Nat.div_add_mod U y1
 have hm := Nat.mod_lt U (show 0 < y1 by omega)
 refine ⟨by rw [Nat.mul_comm]; exact e, ?_, ?_⟩
 ·have : (U * 4294967296 + d) / (y1 * 4294967296 + y0) < U / y1 + 1 := by
   rw [Nat.div_lt_iff_lt_mul (by omega)]
   generalize U / y1 = q at *
   generalize U % y1 = r at *
   have e2 : (q + 1) * (y1 * 4294967296 + y0) = (y1 * q) * 4294967296 + q * y0 + y1 * 4294967296 + y0 := by
    rw [Nat.add_mul, Nat.mul_add, ← Nat.mul_assoc, Nat.mul_comm q y1]; omega
   rw [e2]
   omega
  omega
 ·have : U / y1 < 4294967298 := by
   rw [Nat.div_lt_iff_lt_mul (by omega)]
   omega
  omega
theorem kn_mul (q y1 y0 : Nat) : q * (y1 * 4294967296 + y0) = q * y1 * 4294967296 + q * y0 := by rw [Nat.mul_add, Nat.mul_assoc]
theorem kn_down {U y1 y0 d q r : Nat} (hU : U < y1 * 4294967296 + y0) (hd : d < 4294967296) (h : KInv U y1 ((U * 4294967296 + d) / (y1 * 4294967296 + y0)) q r)
  (hc : 4294967296 ≤ q ∨ 4294967296 * r + d < q * y0) : KInv U y1 ((U * 4294967296 + d) / (y1 * 4294967296 + y0)) (q - 1) (r + y1) ∧ 1 ≤ q ∧ q - 1 ≤ 4294967296 := by
 obtain ⟨a, b, c⟩ := h
 have hY : 0 < y1 * 4294967296 + y0 := by omega
 have hq : (U * 4294967296 + d) / (y1 * 4294967296 + y0) < q := by
  rw [Nat.div_lt_iff_lt_mul hY]
  rcases hc with hc | hc
  ·have := Nat.mul_le_mul_right (y1 * 4294967296 + y0) hc
   have := kn_T hU hd
   rw [Nat.mul_comm] at this
   omega
  ·rw [kn_mul]; omega
 have h1 : 1 ≤ q := Nat.lt_of_le_of_lt (Nat.zero_le _) hq
 refine ⟨⟨?_, Nat.le_sub_one_of_lt hq, by omega⟩, h1, by omega⟩
 obtain ⟨p, rfl⟩ : ∃ p, q = p + 1 := ⟨q - 1, by omega⟩
 rw [Nat.add_mul] at a
 simp
 omega
theorem kn_end {U y1 y0 d q r : Nat} (hU : U < y1 * 4294967296 + y0) (h : KInv U y1 ((U * 4294967296 + d) / (y1 * 4294967296 + y0)) q r) (hc : q * y0 ≤ 4294967296 * r + d) : q = (U * 4294967296 + d) / (y1 * 4294967296 + y0) := by
 obtain ⟨a, b, c⟩ := h
 refine Nat.le_antisymm ?_ b
 rw [Nat.le_div_iff_mul_le (by omega), kn_mul]
 omega
theorem kn_break {U y1 y0 d q r : Nat} (h0 : y0 < 4294967296) (hU : U < y1 * 4294967296 + y0) (h : KInv U y1 ((U * 4294967296 + d) / (y1 * 4294967296 + y0)) q r) (hq : q ≤ 4294967296) (hr : 4294967296 ≤ r) : q = (U * 4294967296 + d) / (y1 * 4294967296 + y0) := by
 have h1 : q * y0 ≤ 18446744069414584320 := Nat.mul_le_mul hq (show y0 ≤ 4294967295 by omega)
 have h2 : q * y0 ≤ 4294967296 * r + d := by omega
 exact kn_end (d := d) (r := r) hU h h2
theorem kn_two (U d1 d0 Y : Nat) (hY : 0 < Y) :
  (U * 18446744073709551616 + (d1 * 4294967296 + d0)) / Y = (U * 4294967296 + d1) / Y * 4294967296 + ((U * 4294967296 + d1) % Y * 4294967296 + d0) / Y ∧
  (U * 18446744073709551616 + (d1 * 4294967296 + d0)) % Y = ((U * 4294967296 + d1) % Y * 4294967296 + d0) % Y := by
 have e := Nat.div_add_mod (U * 4294967296 + d1) Y
 obtain ⟨q, hq⟩ : ∃ q, (U * 4294967296 + d1) / Y = q := ⟨_, rfl⟩
 obtain ⟨r, hr⟩ : ∃ r, (U * 4294967296 + d1) % Y = r := ⟨_, rfl⟩
 rw [hq, hr] at e
 rw [hq, hr]
 clear hq hr
 have e2 : U * 18446744073709551616 + (d1 * 4294967296 + d0) = (r * 4294967296 + d0) + Y * (q * 4294967296) := by
  have : Y * (q * 4294967296) = Y * q * 4294967296 := by rw [Nat.mul_assoc]
  omega
 rw [e2, Nat.add_mul_div_left _ _ hY, Nat.add_mul_mod_self_left]
 exact ⟨by omega, rfl⟩
end Go.Proofs.YtgmhifafbebjfaaGreatDoor
