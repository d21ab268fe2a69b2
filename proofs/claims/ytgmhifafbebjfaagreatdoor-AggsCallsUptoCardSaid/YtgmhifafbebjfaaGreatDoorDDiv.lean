/-
 math/bits.Div64, any high half.
-/
import Derived.Test.YtgmhifafbebjfaaGreatDoorKnuth
import Derived.Test.YtgmhifafbebjfaaGreatDoorMg1
set_option maxRecDepth 100000
set_option maxHeartbeats 32000000
namespace Go.Proofs.YtgmhifafbebjfaaGreatDoor
open Go.RowKit

theorem bitLen_spec : ∀ (n x : Nat), x ≤ n → 0 < x → x < 18446744073709551616 → ∃ k, k ≤ 63 ∧ Lib.bitLen x = k + 1 ∧ 2 ^ k ≤ x ∧ x < 2 ^ (k + 1)
 | 0, x, h, h0, _ => by omega
 |
  n + 1, x, h, h0, hx => by
  by_cases h1 : x = 1
  ·subst h1; exact ⟨0, by omega, by decide, by omega, by omega⟩
  ·obtain ⟨k, a, b, c, d⟩ := bitLen_spec n (x / 2) (by omega) (by omega) (by omega)
   have e := Lib.bitLen_half x (by omega) (by omega)
   have e1 : 2 ^ (k + 1) = 2 * 2 ^ k := by rw [Nat.pow_succ]; omega
   have e2 : 2 ^ (k + 2) = 2 * 2 ^ (k + 1) := by rw [Nat.pow_succ]; omega
   refine ⟨k + 1, ?_, by omega, by omega, by omega⟩
   rcases Nat.lt_or_ge k 63 with h2 | h2
   ·omega
   ·exfalso
    have : k = 63 := by omega
    subst this
    omega
theorem lz64 (y s : Nat) (h0 : 0 < y) (hy : y < 18446744073709551616) (hs : 64 - Lib.bitLen y = s) (hb : Lib.bitLen y ≤ 64) (w : World) : Calls Tryz.prog 207 #[.int .u64 (y : Int)] w fun e w' => e = .returned (.int .i64 (s : Int)) ∧ w = w' :=
 (Tryz.bits_LeadingZeros64 (y : Int) w (by omega) (by omega)).mono fun _ _ ⟨he, hw⟩ => ⟨by rw [he]; congr 2; simp only [Int.toNat_natCast]; omega, hw.symm⟩
theorem div64_walk (hi lo y s : Nat) (hhi : 0 < hi) (hhy : hi < y) (hy : y < 18446744073709551616) (_hlo : lo < 18446744073709551616) (hs : s ≤ 63) (hlz : Hid (64 - Lib.bitLen y = s)) (hbl : Hid (Lib.bitLen y ≤ 64))
  (Y y1 y0 A Bq U D d1 d0 q0 : Nat) (_hY : Y < 18446744073709551616) (hy1 : 2147483648 ≤ y1) (hy1b : y1 < 4294967296) (hy0 : y0 < 4294967296) (_hYy : Hid (Y = y1 * 4294967296 + y0)) (_hU : U < 18446744073709551616) (hUY : Hid (U < y1 * 4294967296 + y0)) (hd1 : d1 < 4294967296) (hd0 : d0 < 4294967296)
  (F1 : IntKind.u64.wrap ((y : Int) * 2 ^ s) = (Y : Int)) (F2 : (Y : Int) / 4294967296 = (y1 : Int)) (F3 : bits .and .u64 (Y : Int) 4294967295 = (y0 : Int))
  (F4 : IntKind.u64.wrap ((hi : Int) * 2 ^ s) = (A : Int)) (F4b : (lo : Int) / 2 ^ (64 - s) = (Bq : Int)) (F4c : bits .or .u64 (A : Int) (Bq : Int) = (U : Int))
  (F5 : IntKind.u64.wrap ((lo : Int) * 2 ^ s) = (D : Int)) (F6 : (D : Int) / 4294967296 = (d1 : Int)) (F7 : bits .and .u64 (D : Int) 4294967295 = (d0 : Int))
  (_F8 : IntKind.u64.wrap ((U : Int).tdiv y1) = (q0 : Int)) (F8b : (U : Int) / y1 = (q0 : Int)) (_F8c : Hid (U / y1 = q0))
  (p0 r0 : Nat) (F9 : IntKind.u64.wrap (q0 : Int) = (q0 : Int)) (F10 : IntKind.u64.wrap ((q0 : Int) * (y1 : Int)) = (p0 : Int)) (F11 : IntKind.u64.wrap ((U : Int) - (p0 : Int)) = (r0 : Int)) (hq0 : q0 ≤ 4294967297) (hr0 : r0 < 4294967296)
  (K0 : Hid (KInv U y1 ((U * 4294967296 + d1) / (y1 * 4294967296 + y0)) q0 r0)) (Q1 : Nat) (hQ1 : Hid ((U * 4294967296 + d1) / (y1 * 4294967296 + y0) = Q1)) (hQ1b : Q1 < 4294967296)
  (a1 a2 a3 R1 : Nat) (W1 : IntKind.u64.wrap ((U : Int) * 4294967296) = (a1 : Int)) (W2 : IntKind.u64.wrap ((a1 : Int) + (d1 : Int)) = (a2 : Int)) (W3 : IntKind.u64.wrap ((Q1 : Int) * (Y : Int)) = (a3 : Int)) (W4 : IntKind.u64.wrap ((a2 : Int) - (a3 : Int)) = (R1 : Int)) (hRY : Hid (R1 < y1 * 4294967296 + y0)) (_hR1 : R1 < 18446744073709551616)
  (q1 p1 r1 : Nat) (_H8 : IntKind.u64.wrap ((R1 : Int).tdiv y1) = (q1 : Int)) (H8b : (R1 : Int) / y1 = (q1 : Int)) (H9 : IntKind.u64.wrap (q1 : Int) = (q1 : Int)) (H10 : IntKind.u64.wrap ((q1 : Int) * (y1 : Int)) = (p1 : Int)) (H11 : IntKind.u64.wrap ((R1 : Int) - (p1 : Int)) = (r1 : Int)) (hq1 : q1 ≤ 4294967297) (hr1 : r1 < 4294967296)
  (K1 : Hid (KInv R1 y1 ((R1 * 4294967296 + d0) / (y1 * 4294967296 + y0)) q1 r1)) (Q0 : Nat) (hQ0 : Hid ((R1 * 4294967296 + d0) / (y1 * 4294967296 + y0) = Q0)) (hQ0b : Q0 < 4294967296)
  (b1 b2 b3 R0 Rf : Nat) (V1 : IntKind.u64.wrap ((R1 : Int) * 4294967296) = (b1 : Int)) (V2 : IntKind.u64.wrap ((b1 : Int) + (d0 : Int)) = (b2 : Int)) (V3 : IntKind.u64.wrap ((Q0 : Int) * (Y : Int)) = (b3 : Int)) (V4 : IntKind.u64.wrap ((b2 : Int) - (b3 : Int)) = (R0 : Int)) (V5 : (R0 : Int) / 2 ^ s = (Rf : Int)) (w : World) : Calls Tryz.prog 176 #[.int .u64 (hi : Int), .int .u64 (lo : Int), .int .u64 (y : Int)] w fun e w' => e = .returned (.tuple #[.int .u64 ((Q1 : Int) * 4294967296 + (Q0 : Int)), .int .u64 (Rf : Int)]) ∧ w = w' := by
 have G1 : (64 - (s : Int)).toNat = 64 - s := by omega
 have G2 : IntKind.u64.wrap (64 - (s : Int)) = 64 - (s : Int) := IntWalk.u64_in _ (by omega)
 go_enter Tryz.func176, Tryz.ntmps176
 go_wp2_with (go_at_call 207; refine (lz64 y s (by omega) hy hlz.out hbl.out _).mono ?_; rintro e w' ⟨rfl, rfl⟩)
 go_loop [15, 16] (fun a b => ∃ q r : Nat, a = .int .u64 (q : Int) ∧ b = .int .u64 (r : Int) ∧ q ≤ 4294967297 ∧ r < 4294967296 ∧ Hid (KInv U y1 ((U * 4294967296 + d1) / (y1 * 4294967296 + y0)) q r)) (fun a _ => (intOf a).toNat)
 case atStart => exact ⟨q0, r0, rfl, rfl, hq0, hr0, K0⟩
 case round =>
  obtain ⟨q, r, rfl, rfl, hq, hr, hK⟩ := hrel
  by_cases c1 : 4294967296 ≤ q
  ·have c1I : (4294967296 : Int) ≤ (q : Int) ∧ (0 : Int) ≤ (r : Int) := (by omega); have c1B : decide ((4294967296 : Int) ≤ (q : Int)) = true := decide_eq_true (by omega)
   have c1' := Lib.hid c1
   clear c1
   obtain ⟨k1, k2, k3⟩ := kn_down hUY.out hd1 hK.out (.inl c1'.out)
   have k1' := Lib.hid k1
   clear k1
   by_cases br : 4294967296 ≤ r + y1
   ·have brI : (4294967296 : Int) ≤ (r : Int) + (y1 : Int) ∧ (0 : Int) ≤ (r : Int) := (by omega); have brB : decide ((4294967296 : Int) ≤ (r : Int) + (y1 : Int)) = true := decide_eq_true (by omega)
    have e0 := kn_break hy0 hUY.out k1'.out k3 br
    clear br
    rw [hQ1.out] at e0
    have e : (q : Int) - 1 = (Q1 : Int) := by omega
    clear e0 k2 k3
    go_wp2
    go_loop [18, 16] (fun a b => ∃ q r : Nat, a = .int .u64 (q : Int) ∧ b = .int .u64 (r : Int) ∧ q ≤ 4294967297 ∧ r < 4294967296 ∧ Hid (KInv R1 y1 ((R1 * 4294967296 + d0) / (y1 * 4294967296 + y0)) q r)) (fun a _ => (intOf a).toNat)
    case atStart => exact ⟨q1, r1, rfl, rfl, hq1, hr1, K1⟩
    case round =>
     obtain ⟨q, r, rfl, rfl, hq, hr, hK⟩ := hrel
     by_cases c1 : 4294967296 ≤ q
     ·have c1I : (4294967296 : Int) ≤ (q : Int) ∧ (0 : Int) ≤ (r : Int) := (by omega); have c1B : decide ((4294967296 : Int) ≤ (q : Int)) = true := decide_eq_true (by omega)
      have c1' := Lib.hid c1
      clear c1
      obtain ⟨k1, k2, k3⟩ := kn_down hRY.out hd0 hK.out (.inl c1'.out)
      have k1' := Lib.hid k1
      clear k1
      by_cases br : 4294967296 ≤ r + y1
      ·have brI : (4294967296 : Int) ≤ (r : Int) + (y1 : Int) ∧ (0 : Int) ≤ (r : Int) := (by omega); have brB : decide ((4294967296 : Int) ≤ (r : Int) + (y1 : Int)) = true := decide_eq_true (by omega)
       have e0 := kn_break hy0 hRY.out k1'.out k3 br
       clear br
       rw [hQ0.out] at e0
       have e : (q : Int) - 1 = (Q0 : Int) := by omega
       clear e0 k2 k3
       go_wp2
       go_ret2
       exact ⟨rfl, rfl⟩
      ·have brI : (r : Int) + (y1 : Int) < 4294967296 ∧ (0 : Int) ≤ (r : Int) := (by omega); have brB : decide ((4294967296 : Int) ≤ (r : Int) + (y1 : Int)) = false := decide_eq_false (by omega)
       have br' := Lib.hid br
       clear br k3
       go_wp2
       go_round
       case rel => exact ⟨q - 1, r + y1, by go_num, by go_num, by omega, by omega, k1'⟩
       case measure => simp [intOf]; omega
     ·have c1I : (q : Int) < 4294967296 ∧ (0 : Int) ≤ (r : Int) := (by omega); have c1B : decide ((4294967296 : Int) ≤ (q : Int)) = false := decide_eq_false (by omega)
      obtain ⟨p, hp⟩ : ∃ p, q * y0 = p := ⟨_, rfl⟩
      have hpb : p ≤ 18446744065119617025 := by rw [← hp]; exact Nat.mul_le_mul (show q ≤ 4294967295 by omega) (show y0 ≤ 4294967295 by omega)
      have P1 : IntKind.u64.wrap ((q : Int) * (y0 : Int)) = (p : Int) := by rw [← Int.natCast_mul, hp]; exact IntWalk.u64_in _ (by omega)
      have hpb' : p ≤ 18446744065119617025 ∧ 0 ≤ p := ⟨hpb, Nat.zero_le _⟩
      clear hpb
      by_cases c2 : 4294967296 * r + d0 < p
      ·have c2I : 4294967296 * (r : Int) + (d0 : Int) < (p : Int) ∧ (0 : Int) ≤ (r : Int) := (by omega); have c2B : decide (4294967296 * (r : Int) + (d0 : Int) < (p : Int)) = true := decide_eq_true (by omega)
       obtain ⟨k1, k2, k3⟩ := kn_down hRY.out hd0 hK.out (.inr (by rw [hp]; exact c2))
       have k1' := Lib.hid k1
       clear k1
       by_cases br : 4294967296 ≤ r + y1
       ·have brI : (4294967296 : Int) ≤ (r : Int) + (y1 : Int) ∧ (0 : Int) ≤ (r : Int) := (by omega); have brB : decide ((4294967296 : Int) ≤ (r : Int) + (y1 : Int)) = true := decide_eq_true (by omega)
        have e0 := kn_break hy0 hRY.out k1'.out k3 br
        clear br
        rw [hQ0.out] at e0
        have e : (q : Int) - 1 = (Q0 : Int) := by omega
        clear e0 k2 k3
        go_wp2
        go_ret2
        exact ⟨rfl, rfl⟩
       ·have brI : (r : Int) + (y1 : Int) < 4294967296 ∧ (0 : Int) ≤ (r : Int) := (by omega); have brB : decide ((4294967296 : Int) ≤ (r : Int) + (y1 : Int)) = false := decide_eq_false (by omega)
        have br' := Lib.hid br
        clear br k3
        go_wp2
        go_round
        case rel => exact ⟨q - 1, r + y1, by go_num, by go_num, by omega, by omega, k1'⟩
        case measure => simp [intOf]; omega
      ·have e0 := kn_end hRY.out hK.out (show q * y0 ≤ 4294967296 * r + d0 by rw [hp]; omega)
       rw [hQ0.out] at e0
       have c2I : (p : Int) ≤ 4294967296 * (r : Int) + (d0 : Int) ∧ (0 : Int) ≤ (r : Int) := (by omega); have c2B : decide (4294967296 * (r : Int) + (d0 : Int) < (p : Int)) = false := decide_eq_false (by omega)
       clear c1 c2
       subst e0
       go_wp2
       go_ret2
       exact ⟨rfl, rfl⟩
   ·have brI : (r : Int) + (y1 : Int) < 4294967296 ∧ (0 : Int) ≤ (r : Int) := (by omega); have brB : decide ((4294967296 : Int) ≤ (r : Int) + (y1 : Int)) = false := decide_eq_false (by omega)
    have br' := Lib.hid br
    clear br k3
    go_wp2
    go_round
    case rel => exact ⟨q - 1, r + y1, by go_num, by go_num, by omega, by omega, k1'⟩
    case measure => simp [intOf]; omega
  ·have c1I : (q : Int) < 4294967296 ∧ (0 : Int) ≤ (r : Int) := (by omega); have c1B : decide ((4294967296 : Int) ≤ (q : Int)) = false := decide_eq_false (by omega)
   obtain ⟨p, hp⟩ : ∃ p, q * y0 = p := ⟨_, rfl⟩
   have hpb : p ≤ 18446744065119617025 := by rw [← hp]; exact Nat.mul_le_mul (show q ≤ 4294967295 by omega) (show y0 ≤ 4294967295 by omega)
   have P1 : IntKind.u64.wrap ((q : Int) * (y0 : Int)) = (p : Int) := by rw [← Int.natCast_mul, hp]; exact IntWalk.u64_in _ (by omega)
   have hpb' : p ≤ 18446744065119617025 ∧ 0 ≤ p := ⟨hpb, Nat.zero_le _⟩
   clear hpb
   by_cases c2 : 4294967296 * r + d1 < p
   ·have c2I : 4294967296 * (r : Int) + (d1 : Int) < (p : Int) ∧ (0 : Int) ≤ (r : Int) := (by omega); have c2B : decide (4294967296 * (r : Int) + (d1 : Int) < (p : Int)) = true := decide_eq_true (by omega)
    obtain ⟨k1, k2, k3⟩ := kn_down hUY.out hd1 hK.out (.inr (by rw [hp]; exact c2))
    have k1' := Lib.hid k1
    clear k1
    by_cases br : 4294967296 ≤ r + y1
    ·have brI : (4294967296 : Int) ≤ (r : Int) + (y1 : Int) ∧ (0 : Int) ≤ (r : Int) := (by omega); have brB : decide ((4294967296 : Int) ≤ (r : Int) + (y1 : Int)) = true := decide_eq_true (by omega)
     have e0 := kn_break hy0 hUY.out k1'.out k3 br
     clear br
     rw [hQ1.out] at e0
     have e : (q : Int) - 1 = (Q1 : Int) := by omega
     clear e0 k2 k3
     go_wp2
     go_loop [18, 16] (fun a b => ∃ q r : Nat, a = .int .u64 (q : Int) ∧ b = .int .u64 (r : Int) ∧ q ≤ 4294967297 ∧ r < 4294967296 ∧ Hid (KInv R1 y1 ((R1 * 4294967296 + d0) / (y1 * 4294967296 + y0)) q r)) (fun a _ => (intOf a).toNat)
     case atStart => exact ⟨q1, r1, rfl, rfl, hq1, hr1, K1⟩
     case round =>
      obtain ⟨q, r, rfl, rfl, hq, hr, hK⟩ := hrel
      by_cases c1 : 4294967296 ≤ q
      ·have c1I : (4294967296 : Int) ≤ (q : Int) ∧ (0 : Int) ≤ (r : Int) := (by omega); have c1B : decide ((4294967296 : Int) ≤ (q : Int)) = true := decide_eq_true (by omega)
       have c1' := Lib.hid c1
       clear c1
       obtain ⟨k1, k2, k3⟩ := kn_down hRY.out hd0 hK.out (.inl c1'.out)
       have k1' := Lib.hid k1
       clear k1
       by_cases br : 4294967296 ≤ r + y1
       ·have brI : (4294967296 : Int) ≤ (r : Int) + (y1 : Int) ∧ (0 : Int) ≤ (r : Int) := (by omega); have brB : decide ((4294967296 : Int) ≤ (r : Int) + (y1 : Int)) = true := decide_eq_true (by omega)
        have e0 := kn_break hy0 hRY.out k1'.out k3 br
        clear br
        rw [hQ0.out] at e0
        have e : (q : Int) - 1 = (Q0 : Int) := by omega
        clear e0 k2 k3
        go_wp2
        go_ret2
        exact ⟨rfl, rfl⟩
       ·have brI : (r : Int) + (y1 : Int) < 4294967296 ∧ (0 : Int) ≤ (r : Int) := (by omega); have brB : decide ((4294967296 : Int) ≤ (r : Int) + (y1 : Int)) = false := decide_eq_false (by omega)
        have br' := Lib.hid br
        clear br k3
        go_wp2
        go_round
        case rel => exact ⟨q - 1, r + y1, by go_num, by go_num, by omega, by omega, k1'⟩
        case measure => simp [intOf]; omega
      ·have c1I : (q : Int) < 4294967296 ∧ (0 : Int) ≤ (r : Int) := (by omega); have c1B : decide ((4294967296 : Int) ≤ (q : Int)) = false := decide_eq_false (by omega)
       obtain ⟨p, hp⟩ : ∃ p, q * y0 = p := ⟨_, rfl⟩
       have hpb : p ≤ 18446744065119617025 := by rw [← hp]; exact Nat.mul_le_mul (show q ≤ 4294967295 by omega) (show y0 ≤ 4294967295 by omega)
       have P1 : IntKind.u64.wrap ((q : Int) * (y0 : Int)) = (p : Int) := by rw [← Int.natCast_mul, hp]; exact IntWalk.u64_in _ (by omega)
       have hpb' : p ≤ 18446744065119617025 ∧ 0 ≤ p := ⟨hpb, Nat.zero_le _⟩
       clear hpb
       by_cases c2 : 4294967296 * r + d0 < p
       ·have c2I : 4294967296 * (r : Int) + (d0 : Int) < (p : Int) ∧ (0 : Int) ≤ (r : Int) := (by omega); have c2B : decide (4294967296 * (r : Int) + (d0 : Int) < (p : Int)) = true := decide_eq_true (by omega)
        obtain ⟨k1, k2, k3⟩ := kn_down hRY.out hd0 hK.out (.inr (by rw [hp]; exact c2))
        have k1' := Lib.hid k1
        clear k1
        by_cases br : 4294967296 ≤ r + y1
        ·have brI : (4294967296 : Int) ≤ (r : Int) + (y1 : Int) ∧ (0 : Int) ≤ (r : Int) := (by omega); have brB : decide ((4294967296 : Int) ≤ (r : Int) + (y1 : Int)) = true := decide_eq_true (by omega)
         have e0 := kn_break hy0 hRY.out k1'.out k3 br
         clear br
         rw [hQ0.out] at e0
         have e : (q : Int) - 1 = (Q0 : Int) := by omega
         clear e0 k2 k3
         go_wp2
         go_ret2
         exact ⟨rfl, rfl⟩
        ·have brI : (r : Int) + (y1 : Int) < 4294967296 ∧ (0 : Int) ≤ (r : Int) := (by omega); have brB : decide ((4294967296 : Int) ≤ (r : Int) + (y1 : Int)) = false := decide_eq_false (by omega)
         have br' := Lib.hid br
         clear br k3
         go_wp2
         go_round
         case rel => exact ⟨q - 1, r + y1, by go_num, by go_num, by omega, by omega, k1'⟩
         case measure => simp [intOf]; omega
       ·have e0 := kn_end hRY.out hK.out (show q * y0 ≤ 4294967296 * r + d0 by rw [hp]; omega)
        rw [hQ0.out] at e0
        have c2I : (p : Int) ≤ 4294967296 * (r : Int) + (d0 : Int) ∧ (0 : Int) ≤ (r : Int) := (by omega); have c2B : decide (4294967296 * (r : Int) + (d0 : Int) < (p : Int)) = false := decide_eq_false (by omega)
        clear c1 c2
        subst e0
        go_wp2
        go_ret2
        exact ⟨rfl, rfl⟩
    ·have brI : (r : Int) + (y1 : Int) < 4294967296 ∧ (0 : Int) ≤ (r : Int) := (by omega); have brB : decide ((4294967296 : Int) ≤ (r : Int) + (y1 : Int)) = false := decide_eq_false (by omega)
     have br' := Lib.hid br
     clear br k3
     go_wp2
     go_round
     case rel => exact ⟨q - 1, r + y1, by go_num, by go_num, by omega, by omega, k1'⟩
     case measure => simp [intOf]; omega
   ·have e0 := kn_end hUY.out hK.out (show q * y0 ≤ 4294967296 * r + d1 by rw [hp]; omega)
    rw [hQ1.out] at e0
    have c2I : (p : Int) ≤ 4294967296 * (r : Int) + (d1 : Int) ∧ (0 : Int) ≤ (r : Int) := (by omega); have c2B : decide (4294967296 * (r : Int) + (d1 : Int) < (p : Int)) = false := decide_eq_false (by omega)
    clear c1 c2
    subst e0
    go_wp2
    go_loop [18, 16] (fun a b => ∃ q r : Nat, a = .int .u64 (q : Int) ∧ b = .int .u64 (r : Int) ∧ q ≤ 4294967297 ∧ r < 4294967296 ∧ Hid (KInv R1 y1 ((R1 * 4294967296 + d0) / (y1 * 4294967296 + y0)) q r)) (fun a _ => (intOf a).toNat)
    case atStart => exact ⟨q1, r1, rfl, rfl, hq1, hr1, K1⟩
    case round =>
     obtain ⟨q, r, rfl, rfl, hq, hr, hK⟩ := hrel
     by_cases c1 : 4294967296 ≤ q
     ·have c1I : (4294967296 : Int) ≤ (q : Int) ∧ (0 : Int) ≤ (r : Int) := (by omega); have c1B : decide ((4294967296 : Int) ≤ (q : Int)) = true := decide_eq_true (by omega)
      have c1' := Lib.hid c1
      clear c1
      obtain ⟨k1, k2, k3⟩ := kn_down hRY.out hd0 hK.out (.inl c1'.out)
      have k1' := Lib.hid k1
      clear k1
      by_cases br : 4294967296 ≤ r + y1
      ·have brI : (4294967296 : Int) ≤ (r : Int) + (y1 : Int) ∧ (0 : Int) ≤ (r : Int) := (by omega); have brB : decide ((4294967296 : Int) ≤ (r : Int) + (y1 : Int)) = true := decide_eq_true (by omega)
       have e0 := kn_break hy0 hRY.out k1'.out k3 br
       clear br
       rw [hQ0.out] at e0
       have e : (q : Int) - 1 = (Q0 : Int) := by omega
       clear e0 k2 k3
       go_wp2
       go_ret2
       exact ⟨rfl, rfl⟩
      ·have brI : (r : Int) + (y1 : Int) < 4294967296 ∧ (0 : Int) ≤ (r : Int) := (by omega); have brB : decide ((4294967296 : Int) ≤ (r : Int) + (y1 : Int)) = false := decide_eq_false (by omega)
       have br' := Lib.hid br
       clear br k3
       go_wp2
       go_round
       case rel => exact ⟨q - 1, r + y1, by go_num, by go_num, by omega, by omega, k1'⟩
       case measure => simp [intOf]; omega
     ·have c1I : (q : Int) < 4294967296 ∧ (0 : Int) ≤ (r : Int) := (by omega); have c1B : decide ((4294967296 : Int) ≤ (q : Int)) = false := decide_eq_false (by omega)
      obtain ⟨p, hp⟩ : ∃ p, q * y0 = p := ⟨_, rfl⟩
      have hpb : p ≤ 18446744065119617025 := by rw [← hp]; exact Nat.mul_le_mul (show q ≤ 4294967295 by omega) (show y0 ≤ 4294967295 by omega)
      have P1 : IntKind.u64.wrap ((q : Int) * (y0 : Int)) = (p : Int) := by rw [← Int.natCast_mul, hp]; exact IntWalk.u64_in _ (by omega)
      have hpb' : p ≤ 18446744065119617025 ∧ 0 ≤ p := ⟨hpb, Nat.zero_le _⟩
      clear hpb
      by_cases c2 : 4294967296 * r + d0 < p
      ·have c2I : 4294967296 * (r : Int) + (d0 : Int) < (p : Int) ∧ (0 : Int) ≤ (r : Int) := (by omega); have c2B : decide (4294967296 * (r : Int) + (d0 : Int) < (p : Int)) = true := decide_eq_true (by omega)
       obtain ⟨k1, k2, k3⟩ := kn_down hRY.out hd0 hK.out (.inr (by rw [hp]; exact c2))
       have k1' := Lib.hid k1
       clear k1
       by_cases br : 4294967296 ≤ r + y1
       ·have brI : (4294967296 : Int) ≤ (r : Int) + (y1 : Int) ∧ (0 : Int) ≤ (r : Int) := (by omega); have brB : decide ((4294967296 : Int) ≤ (r : Int) + (y1 : Int)) = true := decide_eq_true (by omega)
        have e0 := kn_break hy0 hRY.out k1'.out k3 br
        clear br
        rw [hQ0.out] at e0
        have e : (q : Int) - 1 = (Q0 : Int) := by omega
        clear e0 k2 k3
        go_wp2
        go_ret2
        exact ⟨rfl, rfl⟩
       ·have brI : (r : Int) + (y1 : Int) < 4294967296 ∧ (0 : Int) ≤ (r : Int) := (by omega); have brB : decide ((4294967296 : Int) ≤ (r : Int) + (y1 : Int)) = false := decide_eq_false (by omega)
        have br' := Lib.hid br
        clear br k3
        go_wp2
        go_round
        case rel => exact ⟨q - 1, r + y1, by go_num, by go_num, by omega, by omega, k1'⟩
        case measure => simp [intOf]; omega
      ·have e0 := kn_end hRY.out hK.out (show q * y0 ≤ 4294967296 * r + d0 by rw [hp]; omega)
       rw [hQ0.out] at e0
       have c2I : (p : Int) ≤ 4294967296 * (r : Int) + (d0 : Int) ∧ (0 : Int) ≤ (r : Int) := (by omega); have c2B : decide (4294967296 * (r : Int) + (d0 : Int) < (p : Int)) = false := decide_eq_false (by omega)
       clear c1 c2
       subst e0
       go_wp2
       go_ret2
       exact ⟨rfl, rfl⟩
end Go.Proofs.YtgmhifafbebjfaaGreatDoor
