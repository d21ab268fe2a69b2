/-
  Package dec: Sqrt.
-/
import Derived.Test.YthobaffgllipfaaRows
import Derived.Test.YthobaffgllipfaaBase
import Derived.Test.YthobaffgllipfaaDecA
import Derived.Test.YthobaffgllipfaaDecS
import Derived.Test.YthobaffgllipfaaDMod
import Derived.Test.YthobaffgllipfaaDFlo
import Derived.Test.YthobaffgllipfaaProg
import Derived.Test.YthobaffgllipfaaShelf
import Derived.Test.YthobaffgllipfaaPrintL
import Derived.Test.YthobaffgllipfaaDPrint
import Derived.Test.YthobaffgllipfaaDRnd
import Derived.WalkSpells
import Derived.WalkLawsBesides
import Derived.StillTactics
import Derived.Laws.Pointers
import Derived.Deep.RegionHeld3
import Derived.Deep.QuietTactic
import Derived.BigQuiet
import Derived.RowKit3
import Derived.Lib.Hide
import Derived.Lib.OthersKept
import Derived.OwnWalk
import Derived.Lib.IndexLaws
import Derived.Lib.ItoaMem
import Derived.WalkKit
import Derived.ProofKit
import Derived.OpenShut
import Derived.Carry
import Derived.ChangeSame
import Derived.Deep.Draws
import Derived.Laws.BitsAllLaws
import Derived.Shelf.Small.Bits
import Derived.Shelf.Strconv.Itoa0
import Derived.Shelf.Bits.Mul64
import Derived.Lib.TrimByte
namespace Go.Proofs.Ythobaffgllipfaa
open Go.RowKit

/-- the greatest size whose square is not above G, half a part more at a time -/
def sqL : Nat → Nat → Nat → Nat
  | 0, h, _ => h
  | j + 1, h, G => if (h + 2 ^ j) * (h + 2 ^ j) ≤ G then sqL j (h + 2 ^ j) G else sqL j h G
theorem sqL_spec : ∀ (j h G : Nat), h * h ≤ G → G < (h + 2 ^ j) * (h + 2 ^ j) → sqL j h G * sqL j h G ≤ G ∧ G < (sqL j h G + 1) * (sqL j h G + 1)
  | 0, h, G, h1, h2 => by simpa [sqL] using ⟨h1, h2⟩
  | j + 1, h, G, h1, h2 => by
    unfold sqL
    split
    · rename_i h3
      refine sqL_spec j _ G h3 ?_
      have e : h + 2 ^ j + 2 ^ j = h + 2 ^ (j + 1) := by rw [Nat.pow_succ]; omega
      rw [e]; exact h2
    · rename_i h3
      exact sqL_spec j _ G h1 (by omega)
def sqN (x : Nat) : Nat := sqL 41 0 (x * 40000)
theorem sqN_spec (x : Nat) (hx : x ≤ 9223372036854775807) : sqN x * sqN x ≤ x * 40000 ∧ x * 40000 < (sqN x + 1) * (sqN x + 1) :=
  sqL_spec 41 0 _ (by omega) (by omega)
theorem sq_lt {a b : Nat} (h : a * a < b * b) : a < b := by
  rcases Nat.lt_or_ge a b with h1 | h1
  · exact h1
  · have := Nat.mul_le_mul h1 h1; omega
theorem sqN_mono (x y : Nat) (hx : x ≤ 9223372036854775807) (hy : y ≤ 9223372036854775807) (h : x ≤ y) : sqN x ≤ sqN y := by
  have a := (sqN_spec x hx).1
  have b := (sqN_spec y hy).2
  have : sqN x < sqN y + 1 := sq_lt (by omega)
  omega
theorem sqN_small (x : Nat) (hx : x ≤ 9223372036854775807) : sqN x < 2199023255552 := by
  have a := (sqN_spec x hx).1
  exact sq_lt (by omega)
theorem mul64_y (z y' : Int) (x q m : Nat) (hz : z = (x : Int)) (hz2 : y' = (x : Int)) (hx : x < 18446744073709551616) (hq : x * x / 18446744073709551616 = q) (hm : x * x % 18446744073709551616 = m) (w : World) : Calls Try.prog 59 #[.int .u64 z, .int .u64 y'] w fun e w' => e = .returned (.tuple #[.int .u64 (q : Int), .int .u64 (m : Int)]) ∧ w = w' := by
  subst hz2
  exact mul64_r z x x q m hz hx hx hq hm w
def sqrtV (x : Int) : Int := if x < 0 then 0 else ((sqN x.toNat + 1) / 2 : Nat)
def sqrtC (x : Int) : Int := if x = -9223372036854775808 then 2 else if x < 0 then 8 else 0
set_option maxHeartbeats 1000000 in
theorem sqrt_no (x : Int) (hx : -9223372036854775808 ≤ x ∧ x ≤ 9223372036854775807) (h : x = -9223372036854775808) (w : World) : Calls Try.prog 41 #[.int .i64 x] w fun e w' => e = .returned (.tuple #[.int .i64 0, .int .i64 2]) ∧ w = w' := by
  have m1 := may_no h
  clear h
  go_enter Try.func41, Try.ntmps41
  go_wp2_with (go_at_call 54; refine (dmay_any _ (by first | assumption | (constructor <;> omega)) _).mono ?_; rintro e w1 ⟨rfl, rfl⟩)
  go_ret2
  exact ⟨rfl, rfl⟩
set_option maxHeartbeats 1000000 in
theorem sqrt_low (x : Int) (hx : -9223372036854775808 ≤ x ∧ x ≤ 9223372036854775807) (h : x ≠ -9223372036854775808) (h2 : x < 0) (w : World) : Calls Try.prog 41 #[.int .i64 x] w fun e w' => e = .returned (.tuple #[.int .i64 0, .int .i64 8]) ∧ w = w' := by
  have m1 := may_yes h
  clear h
  go_enter Try.func41, Try.ntmps41
  go_wp2_with (go_at_call 54; refine (dmay_any _ (by first | assumption | (constructor <;> omega)) _).mono ?_; rintro e w1 ⟨rfl, rfl⟩)
  go_ret2
  exact ⟨rfl, rfl⟩
set_option maxRecDepth 100000 in
set_option maxHeartbeats 4000000 in
theorem sqrt_yes (x : Nat) (hx : x ≤ 9223372036854775807) (G gh gl : Nat) (hG : Hid (x * 40000 = G)) (hgh : Hid (G / 18446744073709551616 = gh)) (hgl : Hid (G % 18446744073709551616 = gl)) (hgb : gh < 18446744073709551616) (hgb2 : gl < 18446744073709551616) (H : Nat) (hH : Hid (sqL 41 0 G = H)) (hH2 : H < 2199023255552) (w : World) : Calls Try.prog 41 #[.int .i64 (x : Int)] w fun e w' => e = .returned (.tuple #[.int .i64 (((H + 1) / 2 : Nat) : Int), .int .i64 0]) ∧ w = w' := by
  have m1 : decMay (x : Int) = true := may_yes (by omega)
  have hfin : Hid ((((H + 1) / 2 : Nat) : Int) = ((H : Int) + 1) / 2) := Lib.hid (by simp)
  go_enter Try.func41, Try.ntmps41
  go_wp2_with (go_at_call 54; refine (dmay_any _ (by first | assumption | (constructor <;> omega)) _).mono ?_; rintro e w1 ⟨rfl, rfl⟩)
  refine (mul64_r _ x 40000 gh gl (by omega) (by omega) (by omega) (by rw [hG.out, hgh.out]) (by rw [hG.out, hgl.out]) _).mono ?_
  rintro e w' ⟨rfl, rfl⟩
  go_wp2
  go_loop [6, 7] (fun h b => ∃ (j m B : Nat), j ≤ 41 ∧ h = .int .u64 (m : Int) ∧ b = .int .u64 (B : Int) ∧ Hid (2 ^ j / 2 = B) ∧ Hid (sqL j m G = H) ∧ m + B ≤ 2199023255552 ∧ Hid (m + 2 ^ j ≤ 2199023255552)) (fun _ b => (intOf b).toNat)
  case atStart => exact ⟨41, 0, 1099511627776, by omega, rfl, rfl, Lib.hid (by decide), hH, by omega, Lib.hid (by decide)⟩
  case round =>
    obtain ⟨j, m, B, hj, rfl, rfl, hB, hs, hb, hb2⟩ := hrel
    by_cases h0 : 0 < B
    · obtain ⟨i, rfl⟩ : ∃ i, j = i + 1 := ⟨j - 1, by
        rcases j with _ | j
        · have := hB.out; simp at this; omega
        · omega⟩
      have hBi : 2 ^ i = B := by have := hB.out; rw [Nat.pow_succ] at this; omega
      have hb3 := hb2.out
      rw [Nat.pow_succ, hBi] at hb3
      have hst : sqL (i + 1) m G = if (m + B) * (m + B) ≤ G then sqL i (m + B) G else sqL i m G := by rw [← hBi]; rfl
      have hs2 := hs.out
      rw [hst] at hs2
      clear hst hs hB hb2
      obtain ⟨q, hq⟩ : ∃ q, (m + B) * (m + B) / 18446744073709551616 = q := ⟨_, rfl⟩
      obtain ⟨r, hr⟩ : ∃ r, (m + B) * (m + B) % 18446744073709551616 = r := ⟨_, rfl⟩
      have hrb : r < 18446744073709551616 := by rw [← hr]; exact Nat.mod_lt _ (by omega)
      have hqb : q < 18446744073709551616 := by
        rw [← hq]
        have : (m + B) * (m + B) ≤ 2199023255552 * 2199023255552 := Nat.mul_le_mul (by omega) (by omega)
        omega
      have hle : ((m + B) * (m + B) ≤ G) ↔ (q < gh ∨ q = gh ∧ r ≤ gl) := by
        have := hgh.out
        have := hgl.out
        omega
      have hBn := Lib.hid (show 2 ^ i / 2 = B / 2 by rw [hBi])
      have hq := Lib.hid hq
      have hr := Lib.hid hr
      by_cases c1 : q < gh
      · rw [if_pos (hle.2 (.inl c1))] at hs2
        have hs3 := Lib.hid hs2
        have hb4 := Lib.hid (show m + B + 2 ^ i ≤ 2199023255552 by rw [hBi]; omega)
        clear hle hs2 hBi
        go_wp2_with (go_at_call 59; refine (mul64_y _ _ (m + B) q r (by omega) (by omega) (by omega) hq.out hr.out _).mono ?_; rintro e w' ⟨rfl, rfl⟩)
        go_round
        case rel => exact ⟨i, m + B, B / 2, by omega, by go_num, by go_num, hBn, hs3, by omega, hb4⟩
        case measure => simp [intOf]; omega
      · by_cases c2 : gh < q
        · rw [if_neg (by rw [hle]; omega)] at hs2
          have hs3 := Lib.hid hs2
          have hb4 := Lib.hid (show m + 2 ^ i ≤ 2199023255552 by rw [hBi]; omega)
          clear hle hs2 hBi
          go_wp2_with (go_at_call 59; refine (mul64_y _ _ (m + B) q r (by omega) (by omega) (by omega) hq.out hr.out _).mono ?_; rintro e w' ⟨rfl, rfl⟩)
          go_round
          case rel => exact ⟨i, m, B / 2, by omega, by go_num, by go_num, hBn, hs3, by omega, hb4⟩
          case measure => simp [intOf]; omega
        · obtain rfl : q = gh := by omega
          by_cases c3 : r ≤ gl
          · rw [if_pos (hle.2 (.inr ⟨rfl, c3⟩))] at hs2
            have hs3 := Lib.hid hs2
            have hb4 := Lib.hid (show m + B + 2 ^ i ≤ 2199023255552 by rw [hBi]; omega)
            clear hle hs2 hBi
            go_wp2_with (go_at_call 59; refine (mul64_y _ _ (m + B) q r (by omega) (by omega) (by omega) hq.out hr.out _).mono ?_; rintro e w' ⟨rfl, rfl⟩)
            go_round
            case rel => exact ⟨i, m + B, B / 2, by omega, by go_num, by go_num, hBn, hs3, by omega, hb4⟩
            case measure => simp [intOf]; omega
          · rw [if_neg (by rw [hle]; omega)] at hs2
            have hs3 := Lib.hid hs2
            have hb4 := Lib.hid (show m + 2 ^ i ≤ 2199023255552 by rw [hBi]; omega)
            clear hle hs2 hBi
            go_wp2_with (go_at_call 59; refine (mul64_y _ _ (m + B) q r (by omega) (by omega) (by omega) hq.out hr.out _).mono ?_; rintro e w' ⟨rfl, rfl⟩)
            go_round
            case rel => exact ⟨i, m, B / 2, by omega, by go_num, by go_num, hBn, hs3, by omega, hb4⟩
            case measure => simp [intOf]; omega
    · obtain rfl : B = 0 := by omega
      have hj0 : j = 0 := by
        have := hB.out
        rcases j with _ | j
        · rfl
        · rw [Nat.pow_succ] at this
          have : 1 ≤ 2 ^ j := Nat.one_le_pow _ _ (by omega)
          omega
      subst hj0
      have hm : m = H := hs.out
      subst hm
      go_wp2
      go_ret2
      exact ⟨ret_ii hfin.out.symm rfl, rfl⟩
theorem sqrt_any (x : Int) (hx : -9223372036854775808 ≤ x ∧ x ≤ 9223372036854775807) (w : World) : Calls Try.prog 41 #[.int .i64 x] w fun e w' => e = .returned (.tuple #[.int .i64 (sqrtV x), .int .i64 (sqrtC x)]) ∧ w = w' := by
  by_cases h : x = -9223372036854775808
  · rw [show sqrtV x = 0 from if_pos (by omega), show sqrtC x = 2 from if_pos h]
    exact sqrt_no x hx h w
  by_cases h2 : x < 0
  · rw [show sqrtV x = 0 from if_pos h2, show sqrtC x = 8 by unfold sqrtC; rw [if_neg h, if_pos h2]]
    exact sqrt_low x hx h h2 w
  · obtain ⟨n, rfl⟩ := Int.eq_ofNat_of_zero_le (show 0 ≤ x by omega)
    have hn : n ≤ 9223372036854775807 := by omega
    rw [show sqrtV (n : Int) = (((sqN n + 1) / 2 : Nat) : Int) by unfold sqrtV; rw [if_neg (by omega)]; rfl, show sqrtC (n : Int) = 0 by unfold sqrtC; rw [if_neg (by omega), if_neg (by omega)]]
    exact sqrt_yes n hn _ _ _ (Lib.hid rfl) (Lib.hid rfl) (Lib.hid rfl) (by omega) (Nat.mod_lt _ (by omega)) _ (Lib.hid rfl) (sqN_small n hn) w
end Go.Proofs.Ythobaffgllipfaa
