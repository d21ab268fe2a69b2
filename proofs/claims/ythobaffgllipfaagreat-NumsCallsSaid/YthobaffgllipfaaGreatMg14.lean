/-
  Package dec: Sqrt; The document's Sqrt.
-/
import Derived.Test.YthobaffgllipfaaGreatRows
import Derived.Test.YthobaffgllipfaaGreatBase
import Derived.Test.YthobaffgllipfaaGreatMg3
import Derived.Test.YthobaffgllipfaaGreatDecS
import Derived.Test.YthobaffgllipfaaGreatDMod
import Derived.Test.YthobaffgllipfaaGreatDFlo
import Derived.Test.YthobaffgllipfaaGreatProg
import Derived.Test.YthobaffgllipfaaGreatMg12
import Derived.Test.YthobaffgllipfaaGreatDRnd
import Derived.Test.YthobaffgllipfaaGreatMg36
import Derived.Test.YthobaffgllipfaaGreatRGrD
import Derived.Test.YthobaffgllipfaaGreatMg38
import Derived.Test.YthobaffgllipfaaGreatMg39
import Derived.WalkSpells
import Derived.WalkLawsBesides
import Derived.StillTactics
import Derived.Laws.Pointers
import Derived.Deep.RegionHeld3
import Derived.Deep.QuietTactic
import Derived.BigQuiet
import Derived.RowKit3
import Derived.Lib.Hide
import Derived.Lib.OthersKept
import Derived.OwnWalk
import Derived.Lib.IndexLaws
import Derived.Lib.ItoaMem
import Derived.WalkKit
import Derived.ProofKit
import Derived.OpenShut
import Derived.Carry
import Derived.ChangeSame
import Derived.Deep.Draws
import Derived.Laws.BitsAllLaws
import Derived.Shelf.Small.Bits
import Derived.Shelf.Strconv.Itoa0
import Derived.Shelf.Bits.Mul64
import Derived.Lib.TrimByte
import Derived.Maps.AppendAt
namespace Go.Proofs.YthobaffgllipfaaGreat
open Go.RowKit

/-- the greatest size whose square is not above G, half a part more at a time -/
def sqL : Nat → Nat → Nat → Nat
  | 0, h, _ => h
  | j + 1, h, G => if (h + 2 ^ j) * (h + 2 ^ j) ≤ G then sqL j (h + 2 ^ j) G else sqL j h G
theorem sqL_spec : ∀ (j h G : Nat), h * h ≤ G → G < (h + 2 ^ j) * (h + 2 ^ j) → sqL j h G * sqL j h G ≤ G ∧ G < (sqL j h G + 1) * (sqL j h G + 1)
  | 0, h, G, h1, h2 => by simpa [sqL] using ⟨h1, h2⟩
  | j + 1, h, G, h1, h2 => by
    unfold sqL
    split
    · rename_i h3
      refine sqL_spec j _ G h3 ?_
      have e : h + 2 ^ j + 2 ^ j = h + 2 ^ (j + 1) := by rw [Nat.pow_succ]; omega
      rw [e]; exact h2
    · rename_i h3
      exact sqL_spec j _ G h1 (by omega)
def sqN (x : Nat) : Nat := sqL 41 0 (x * 40000)
theorem sqN_spec (x : Nat) (hx : x ≤ 9223372036854775807) : sqN x * sqN x ≤ x * 40000 ∧ x * 40000 < (sqN x + 1) * (sqN x + 1) :=
  sqL_spec 41 0 _ (by omega) (by omega)
theorem sq_lt {a b : Nat} (h : a * a < b * b) : a < b := by
  rcases Nat.lt_or_ge a b with h1 | h1
  · exact h1
  · have := Nat.mul_le_mul h1 h1; omega
theorem sqN_mono (x y : Nat) (hx : x ≤ 9223372036854775807) (hy : y ≤ 9223372036854775807) (h : x ≤ y) : sqN x ≤ sqN y := by
  have a := (sqN_spec x hx).1
  have b := (sqN_spec y hy).2
  have : sqN x < sqN y + 1 := sq_lt (by omega)
  omega
theorem sqN_small (x : Nat) (hx : x ≤ 9223372036854775807) : sqN x < 2199023255552 := by
  have a := (sqN_spec x hx).1
  exact sq_lt (by omega)
theorem mul64_y (z y' : Int) (x q m : Nat) (hz : z = (x : Int)) (hz2 : y' = (x : Int)) (hx : x < 18446744073709551616) (hq : x * x / 18446744073709551616 = q) (hm : x * x % 18446744073709551616 = m) (w : World) : Calls Tryz.prog 83 #[.int .u64 z, .int .u64 y'] w fun e w' => e = .returned (.tuple #[.int .u64 (q : Int), .int .u64 (m : Int)]) ∧ w = w' := by
  subst hz2
  exact mul64_r z x x q m hz hx hx hq hm w
def sqrtV (x : Int) : Int := if x < 0 then 0 else ((sqN x.toNat + 1) / 2 : Nat)
def sqrtC (x : Int) : Int := if x = -9223372036854775808 then 2 else if x < 0 then 8 else 0
set_option maxHeartbeats 1000000 in
theorem sqrt_no (x : Int) (hx : -9223372036854775808 ≤ x ∧ x ≤ 9223372036854775807) (h : x = -9223372036854775808) (w : World) : Calls Tryz.prog 48 #[.int .i64 x] w fun e w' => e = .returned (.tuple #[.int .i64 0, .int .i64 2]) ∧ w = w' := by
  have m1 := may_no h
  clear h
  go_enter Tryz.func48, Tryz.ntmps48
  go_wp2_with (go_at_call 73; refine (dmay_any _ (by first | assumption | (constructor <;> omega)) _).mono ?_; rintro e w1 ⟨rfl, rfl⟩)
  go_ret2
  exact ⟨rfl, rfl⟩
set_option maxHeartbeats 1000000 in
theorem sqrt_low (x : Int) (hx : -9223372036854775808 ≤ x ∧ x ≤ 9223372036854775807) (h : x ≠ -9223372036854775808) (h2 : x < 0) (w : World) : Calls Tryz.prog 48 #[.int .i64 x] w fun e w' => e = .returned (.tuple #[.int .i64 0, .int .i64 8]) ∧ w = w' := by
  have m1 := may_yes h
  clear h
  go_enter Tryz.func48, Tryz.ntmps48
  go_wp2_with (go_at_call 73; refine (dmay_any _ (by first | assumption | (constructor <;> omega)) _).mono ?_; rintro e w1 ⟨rfl, rfl⟩)
  go_ret2
  exact ⟨rfl, rfl⟩
set_option maxRecDepth 100000 in
set_option maxHeartbeats 4000000 in
theorem sqrt_yes (x : Nat) (hx : x ≤ 9223372036854775807) (G gh gl : Nat) (hG : Hid (x * 40000 = G)) (hgh : Hid (G / 18446744073709551616 = gh)) (hgl : Hid (G % 18446744073709551616 = gl)) (hgb : gh < 18446744073709551616) (_hgb2 : gl < 18446744073709551616) (H : Nat) (hH : Hid (sqL 41 0 G = H)) (hH2 : H < 2199023255552) (w : World) : Calls Tryz.prog 48 #[.int .i64 (x : Int)] w fun e w' => e = .returned (.tuple #[.int .i64 (((H + 1) / 2 : Nat) : Int), .int .i64 0]) ∧ w = w' := by
  have m1 : decMay (x : Int) = true := may_yes (by omega)
  have hfin : Hid ((((H + 1) / 2 : Nat) : Int) = ((H : Int) + 1) / 2) := Lib.hid (by simp)
  go_enter Tryz.func48, Tryz.ntmps48
  go_wp2_with (go_at_call 73; refine (dmay_any _ (by first | assumption | (constructor <;> omega)) _).mono ?_; rintro e w1 ⟨rfl, rfl⟩)
  refine (mul64_r _ x 40000 gh gl (by omega) (by omega) (by omega) (by rw [hG.out, hgh.out]) (by rw [hG.out, hgl.out]) _).mono ?_
  rintro e w' ⟨rfl, rfl⟩
  go_wp2
  go_loop [6, 7] (fun h b => ∃ (j m B : Nat), j ≤ 41 ∧ h = .int .u64 (m : Int) ∧ b = .int .u64 (B : Int) ∧ Hid (2 ^ j / 2 = B) ∧ Hid (sqL j m G = H) ∧ m + B ≤ 2199023255552 ∧ Hid (m + 2 ^ j ≤ 2199023255552)) (fun _ b => (intOf b).toNat)
  case atStart => exact ⟨41, 0, 1099511627776, by omega, rfl, rfl, Lib.hid (by decide), hH, by omega, Lib.hid (by decide)⟩
  case round =>
    obtain ⟨j, m, B, hj, rfl, rfl, hB, hs, hb, hb2⟩ := hrel
    by_cases h0 : 0 < B
    · obtain ⟨i, rfl⟩ : ∃ i, j = i + 1 := ⟨j - 1, by
        rcases j with _ | j
        · have := hB.out; simp at this; omega
        · omega⟩
      have hBi : 2 ^ i = B := by have := hB.out; rw [Nat.pow_succ] at this; omega
      have hb3 := hb2.out
      rw [Nat.pow_succ, hBi] at hb3
      have hst : sqL (i + 1) m G = if (m + B) * (m + B) ≤ G then sqL i (m + B) G else sqL i m G := by rw [← hBi]; rfl
      have hs2 := hs.out
      rw [hst] at hs2
      clear hst hs hB hb2
      obtain ⟨q, hq⟩ : ∃ q, (m + B) * (m + B) / 18446744073709551616 = q := ⟨_, rfl⟩
      obtain ⟨r, hr⟩ : ∃ r, (m + B) * (m + B) % 18446744073709551616 = r := ⟨_, rfl⟩
      have hrb : r < 18446744073709551616 := by rw [← hr]; exact Nat.mod_lt _ (by omega)
      have hqb : q < 18446744073709551616 := by
        rw [← hq]
        have : (m + B) * (m + B) ≤ 2199023255552 * 2199023255552 := Nat.mul_le_mul (by omega) (by omega)
        omega
      have hle : ((m + B) * (m + B) ≤ G) ↔ (q < gh ∨ q = gh ∧ r ≤ gl) := by
        have := hgh.out
        have := hgl.out
        omega
      have hBn := Lib.hid (show 2 ^ i / 2 = B / 2 by rw [hBi])
      have hq := Lib.hid hq
      have hr := Lib.hid hr
      by_cases c1 : q < gh
      · rw [if_pos (hle.2 (.inl c1))] at hs2
        have hs3 := Lib.hid hs2
        have hb4 := Lib.hid (show m + B + 2 ^ i ≤ 2199023255552 by rw [hBi]; omega)
        clear hle hs2 hBi
        go_wp2_with (go_at_call 83; refine (mul64_y _ _ (m + B) q r (by omega) (by omega) (by omega) hq.out hr.out _).mono ?_; rintro e w' ⟨rfl, rfl⟩)
        go_round
        case rel => exact ⟨i, m + B, B / 2, by omega, by go_num, by go_num, hBn, hs3, by omega, hb4⟩
        case measure => simp [intOf]; omega
      · by_cases c2 : gh < q
        · rw [if_neg (by rw [hle]; omega)] at hs2
          have hs3 := Lib.hid hs2
          have hb4 := Lib.hid (show m + 2 ^ i ≤ 2199023255552 by rw [hBi]; omega)
          clear hle hs2 hBi
          go_wp2_with (go_at_call 83; refine (mul64_y _ _ (m + B) q r (by omega) (by omega) (by omega) hq.out hr.out _).mono ?_; rintro e w' ⟨rfl, rfl⟩)
          go_round
          case rel => exact ⟨i, m, B / 2, by omega, by go_num, by go_num, hBn, hs3, by omega, hb4⟩
          case measure => simp [intOf]; omega
        · obtain rfl : q = gh := by omega
          by_cases c3 : r ≤ gl
          · rw [if_pos (hle.2 (.inr ⟨rfl, c3⟩))] at hs2
            have hs3 := Lib.hid hs2
            have hb4 := Lib.hid (show m + B + 2 ^ i ≤ 2199023255552 by rw [hBi]; omega)
            clear hle hs2 hBi
            go_wp2_with (go_at_call 83; refine (mul64_y _ _ (m + B) q r (by omega) (by omega) (by omega) hq.out hr.out _).mono ?_; rintro e w' ⟨rfl, rfl⟩)
            go_round
            case rel => exact ⟨i, m + B, B / 2, by omega, by go_num, by go_num, hBn, hs3, by omega, hb4⟩
            case measure => simp [intOf]; omega
          · rw [if_neg (by rw [hle]; omega)] at hs2
            have hs3 := Lib.hid hs2
            have hb4 := Lib.hid (show m + 2 ^ i ≤ 2199023255552 by rw [hBi]; omega)
            clear hle hs2 hBi
            go_wp2_with (go_at_call 83; refine (mul64_y _ _ (m + B) q r (by omega) (by omega) (by omega) hq.out hr.out _).mono ?_; rintro e w' ⟨rfl, rfl⟩)
            go_round
            case rel => exact ⟨i, m, B / 2, by omega, by go_num, by go_num, hBn, hs3, by omega, hb4⟩
            case measure => simp [intOf]; omega
    · obtain rfl : B = 0 := by omega
      have hj0 : j = 0 := by
        have := hB.out
        rcases j with _ | j
        · rfl
        · rw [Nat.pow_succ] at this
          have : 1 ≤ 2 ^ j := Nat.one_le_pow _ _ (by omega)
          omega
      subst hj0
      have hm : m = H := hs.out
      subst hm
      go_wp2
      go_ret2
      exact ⟨ret_ii hfin.out.symm rfl, rfl⟩
theorem sqrt_any (x : Int) (hx : -9223372036854775808 ≤ x ∧ x ≤ 9223372036854775807) (w : World) : Calls Tryz.prog 48 #[.int .i64 x] w fun e w' => e = .returned (.tuple #[.int .i64 (sqrtV x), .int .i64 (sqrtC x)]) ∧ w = w' := by
  by_cases h : x = -9223372036854775808
  · rw [show sqrtV x = 0 from if_pos (by omega), show sqrtC x = 2 from if_pos h]
    exact sqrt_no x hx h w
  by_cases h2 : x < 0
  · rw [show sqrtV x = 0 from if_pos h2, show sqrtC x = 8 by unfold sqrtC; rw [if_neg h, if_pos h2]]
    exact sqrt_low x hx h h2 w
  · obtain ⟨n, rfl⟩ := Int.eq_ofNat_of_zero_le (show 0 ≤ x by omega)
    have hn : n ≤ 9223372036854775807 := by omega
    rw [show sqrtV (n : Int) = (((sqN n + 1) / 2 : Nat) : Int) by unfold sqrtV; rw [if_neg (by omega)]; rfl, show sqrtC (n : Int) = 0 by unfold sqrtC; rw [if_neg (by omega), if_neg (by omega)]]
    exact sqrt_yes n hn _ _ _ (Lib.hid rfl) (Lib.hid rfl) (Lib.hid rfl) (by omega) (Nat.mod_lt _ (by omega)) _ (Lib.hid rfl) (sqN_small n hn) w
end Go.Proofs.YthobaffgllipfaaGreat
namespace Go.Proofs.YthobaffgllipfaaGreat
open Go.RowKit

theorem root_one (g p q : Nat) (h1 : p * p ≤ g) (h2 : g < (p + 1) * (p + 1)) (h3 : q * q ≤ g) (h4 : g < (q + 1) * (q + 1)) : p = q := by
  rcases Nat.lt_trichotomy p q with h | h | h
  · have := Nat.mul_le_mul (show p + 1 ≤ q from h) (show p + 1 ≤ q from h); omega
  · exact h
  · have := Nat.mul_le_mul (show q + 1 ≤ p from h) (show q + 1 ≤ p from h); omega
set_option maxRecDepth 100000 in
set_option maxHeartbeats 4000000 in
theorem rsqrt_yes (x : Nat) (hx : x ≤ 9223372036854775807) (w : World) : Calls Tryz.prog 63 #[.int .i64 (x : Int)] w fun e w' => e = .returned (.tuple #[.int .i64 (((sqN x + 1) / 2 : Nat) : Int), .int .i64 0]) ∧ Below w.heap.size w w' := by
  have S0 := drmay_any (x : Int) ⟨by omega, by omega⟩ w
  rw [show decMay (x : Int) = true by simp only [decMay, Bool.not_eq_true', decide_eq_false_iff_not]; omega] at S0
  have a1 : IntKind.u64.wrap (x : Int) = (x : Int) := by rw [IntKind.wrap_u64]; omega
  have hx0 : ¬ ((x : Int) < 0) := by omega
  have C0 := Lib.hid (great_any x (by omega) w)
  have hxH := Lib.hid hx
  clear hx
  go_enter Tryz.func63, Tryz.ntmps63
  go_wp2_with fail
  with_reducible refine S0.mono ?_
  rintro e w0 ⟨rfl, rfl⟩
  go_wp2_with fail
  with_reducible refine C0.out.mono ?_
  rintro e w1 ⟨u, l1, rfl, hw1, hv1, hc1, hl1⟩
  obtain ⟨A1, cap1, rfl, hR1⟩ := rdG_own hw1.own
  have hown4 : (w1.alloc (Obj.cells #[Value.int .i64 0, Value.int .i64 4] 3)).ownsRow w1.heap.size 3 1 (.slice (some ⟨w1.heap.size, 0, none⟩) 2 2) [0, 4].length ([0, 4].map fun (n : Nat) => Value.int .i64 (n : Int)) := by
    refine ⟨rfl, .inr ⟨w1.heap.size, 2, #[.int .i64 0, .int .i64 4], rfl, Nat.le_refl _, by show (w1.heap.push _)[w1.heap.size]? = _; simp, Nat.le_refl _, by unfold maxLen; omega, rfl, rfl⟩⟩
  obtain ⟨A4, cap4, e4, hR4⟩ := rdG_own hown4
  injection e4 with e41 e42 e43
  subst e41; subst e43
  have hba : Below w1.heap.size w1 (w1.alloc (Obj.cells #[Value.int .i64 0, Value.int .i64 4] 3)) := (Below.refl _ _).alloc (Nat.le_refl _) _
  have C1 := Lib.hid (show Calls _ _ #[_, .slice (some ⟨w1.heap.size, 0, none⟩) 2 2] _ _ from product_any l1 [0, 4] hw1.dig (by simp) (by simp; omega) (w1.alloc (Obj.cells #[Value.int .i64 0, Value.int .i64 4] 3)) A1 (some ⟨w1.heap.size, 0, none⟩) cap1 2 ((hR1.below hba).mono hba.size) hR4)
  have hbw : Below w.heap.size w (w1.alloc (Obj.cells #[Value.int .i64 0, Value.int .i64 4] 3)) := hw1.bel.trans (hba.mono hw1.siz)
  have hbwH := Lib.hid hbw
  have hv1H := Lib.hid hv1
  clear hR1 hR4 hown4 hba hw1 hv1 hc1 hbw
  go_wp2_with fail
  with_reducible refine C1.out.mono ?_
  rintro e wg ⟨ug, lg, rfl, hwg, hvg', hcg, hlg⟩
  obtain ⟨Ag, capg, rfl, hRg⟩ := rdG_own hwg.own
  have hvg : Hid (valG lg = x * 40000) := Lib.hid (by rw [hvg', hv1H.out]; rfl)
  have hgH := Lib.hid (And.intro hwg.dig (And.intro hcg hRg))
  have hbg : Below w.heap.size w wg := hbwH.out.trans (hwg.bel.mono hbwH.out.size)
  have hbgH := Lib.hid hbg
  clear hRg hwg hvg' hcg hbg S0
  go_wp2
  go_loopw [5, 6] (fun lv hv wr => ∃ lo hi : Nat, lv = .int .u64 (lo : Int) ∧ hv = .int .u64 (hi : Int) ∧ lo < hi ∧ hi ≤ 1099511627776 ∧ Hid (lo * lo ≤ x * 40000) ∧ Hid (x * 40000 < hi * hi) ∧ Below wg.heap.size wg wr ∧ wg.heap.size ≤ wr.heap.size) (fun lv hv _ => (intOf hv - intOf lv).toNat)
  case atStart => exact ⟨0, 1099511627776, rfl, rfl, by decide, Nat.le_refl _, Lib.hid (by simp), Lib.hid (by have := hxH.out; omega), Below.refl _ _, Nat.le_refl _⟩
  case round =>
    obtain ⟨lo, hi, rfl, rfl, hlh, hhb, hlo, hhi, hbr, hzr⟩ := hrel
    obtain ⟨df, hdf⟩ : ∃ df, df = hi - lo := ⟨_, rfl⟩
    have a0 : IntKind.u64.wrap ((hi : Int) - (lo : Int)) = (df : Int) := by rw [IntKind.wrap_u64]; omega
    by_cases hd : 1 < df
    · obtain ⟨mid, hmid⟩ : ∃ mid, mid = (lo + hi) / 2 := ⟨_, rfl⟩
      obtain ⟨sm, hsm⟩ : ∃ sm, sm = lo + hi := ⟨_, rfl⟩
      have hd' : (1 : Int) < (df : Int) := by omega
      have a1 : IntKind.u64.wrap ((lo : Int) + (hi : Int)) = (sm : Int) := by rw [IntKind.wrap_u64]; omega
      have a2 : (sm : Int) / 2 = (mid : Int) := by omega
      have a4 : IntKind.u64.wrap (mid : Int) = (mid : Int) := by rw [IntKind.wrap_u64]; omega
      have hm1 : lo < mid := by omega
      have hm2 : mid < hi := by omega
      have C1 := Lib.hid (great_any mid (by omega) wr)
      clear hmid hsm hdf
      go_wp2_with fail
      with_reducible refine C1.out.mono ?_
      rintro e w1 ⟨u, l, rfl, hw1, hv1, hc1, hl1⟩
      obtain ⟨A2, cap2, rfl, hR2⟩ := rdG_own hw1.own
      have hb1 : Below wg.heap.size wg w1 := hbr.trans (hw1.bel.mono hzr)
      have C2 := Lib.hid (product_any l l hw1.dig hw1.dig (by omega) w1 A2 A2 cap2 cap2 hR2 hR2)
      go_wp2_with fail
      with_reducible refine C2.out.mono ?_
      rintro e w2 ⟨u2, l2, rfl, hw2, hv2, hc2, hl2⟩
      obtain ⟨A3, cap3, rfl, hR3⟩ := rdG_own hw2.own
      have hb2 : Below wg.heap.size wg w2 := hb1.trans (hw2.bel.mono hb1.size)
      have C3 := below_any lg l2 hgH.out.1 hw2.dig hgH.out.2.1 hc2 (by have : ([0, 4] : List Nat).length = 2 := rfl; omega) w2 Ag A3 capg cap3 ((hgH.out.2.2.below hb2).mono hb2.size) hR3
      by_cases hlt : x * 40000 < mid * mid
      · skip
        have hB : belowB lg l2 = true := by unfold belowB; rw [hv2, hv1, hvg.out]; exact decide_eq_true hlt
        rw [hB] at C3
        have C3H := Lib.hid C3
        have hltH := Lib.hid hlt
        clear C3 hR2 hR3 hw1 hw2 hv1 hv2 hc1 hc2 hlt hB
        go_wp2_with fail
        with_reducible refine C3H.out.mono ?_
        rintro e w3 ⟨rfl, hb3⟩
        have hb4 : Below wg.heap.size wg w3 := hb2.trans (hb3.mono hb2.size)
        go_wp2
        go_roundw
        case rel => exact ⟨lo, mid, rfl, rfl, by omega, by omega, hlo, hltH, hb4, hb4.size⟩
        case measure => simp [intOf]; omega
      · skip
        have hB : belowB lg l2 = false := by unfold belowB; rw [hv2, hv1, hvg.out]; exact decide_eq_false hlt
        rw [hB] at C3
        have C3H := Lib.hid C3
        have hltH := Lib.hid hlt
        clear C3 hR2 hR3 hw1 hw2 hv1 hv2 hc1 hc2 hlt hB
        go_wp2_with fail
        with_reducible refine C3H.out.mono ?_
        rintro e w3 ⟨rfl, hb3⟩
        have hb4 : Below wg.heap.size wg w3 := hb2.trans (hb3.mono hb2.size)
        go_wp2
        go_roundw
        case rel => exact ⟨mid, hi, rfl, rfl, by omega, by omega, Lib.hid (Nat.le_of_not_lt hltH.out), hhi, hb4, hb4.size⟩
        case measure => simp [intOf]; omega
    · have hd' : ¬ ((1 : Int) < (df : Int)) := by omega
      obtain rfl : hi = lo + 1 := by omega
      have hsq := sqN_spec x hxH.out
      have hr := Lib.hid (root_one _ _ _ hlo.out hhi.out hsq.1 hsq.2)
      obtain ⟨q, hq⟩ : ∃ q, q = (lo + 1) / 2 := ⟨_, rfl⟩
      have b1 : IntKind.u64.wrap ((lo : Int) + 1) = (lo : Int) + 1 := by rw [IntKind.wrap_u64]; omega
      have b2 : ((lo : Int) + 1) / 2 = (q : Int) := by omega
      have b3 : IntKind.u64.wrap (q : Int) = (q : Int) := by rw [IntKind.wrap_u64]; omega
      have b4 : IntKind.i64.wrap (q : Int) = (q : Int) := IntWalk.i64_in _ (by omega)
      have hqH := Lib.hid hq
      clear hsq hq
      go_wp2
      go_ret2
      have hf : ((sqN x : Int) + 1) / 2 = (q : Int) := by have := hr.out; have := hqH.out; omega
      have hf2 : (((sqN x + 1) / 2 : Nat) : Int) = (q : Int) := by have := hr.out; have := hqH.out; omega
      exact ⟨by first | (rw [hf]; rfl) | (rw [hf2]; rfl), hbgH.out.trans (hbr.mono hbgH.out.size)⟩
set_option maxHeartbeats 400000 in
theorem rsqrt_no (x : Int) (hx : -9223372036854775808 ≤ x ∧ x ≤ 9223372036854775807) (h : x = -9223372036854775808) (w : World) : Calls Tryz.prog 63 #[.int .i64 x] w fun e w' => e = .returned (.tuple #[.int .i64 0, .int .i64 2]) ∧ Below w.heap.size w w' := by
  have S0 := drmay_any x hx w
  rw [show decMay x = false by simp [decMay]; try omega] at S0
  clear hx h
  go_enter Tryz.func63, Tryz.ntmps63
  go_wp2_with fail
  with_reducible refine S0.mono ?_
  rintro e w1 ⟨rfl, rfl⟩
  go_wp2
  go_ret2
  exact ⟨rfl, Below.refl _ _⟩
set_option maxHeartbeats 400000 in
theorem rsqrt_low (x : Int) (hx : -9223372036854775808 ≤ x ∧ x ≤ 9223372036854775807) (h : ¬ x = -9223372036854775808) (h2 : x < 0) (w : World) : Calls Tryz.prog 63 #[.int .i64 x] w fun e w' => e = .returned (.tuple #[.int .i64 0, .int .i64 8]) ∧ Below w.heap.size w w' := by
  have S0 := drmay_any x hx w
  rw [show decMay x = true by simp [decMay]; try omega] at S0
  clear hx h
  go_enter Tryz.func63, Tryz.ntmps63
  go_wp2_with fail
  with_reducible refine S0.mono ?_
  rintro e w1 ⟨rfl, rfl⟩
  go_wp2
  go_ret2
  exact ⟨rfl, Below.refl _ _⟩
theorem rsqrt_any (x : Int) (hx : -9223372036854775808 ≤ x ∧ x ≤ 9223372036854775807) (w : World) : Calls Tryz.prog 63 #[.int .i64 x] w fun e w' => e = .returned (.tuple #[.int .i64 (sqrtV x), .int .i64 (sqrtC x)]) ∧ Below w.heap.size w w' := by
  unfold sqrtV sqrtC
  by_cases h1 : x = -9223372036854775808
  · rw [if_pos h1, if_pos (by omega)]; exact rsqrt_no x hx h1 w
  rw [if_neg h1]
  by_cases h2 : x < 0
  · rw [if_pos h2, if_pos h2]; exact rsqrt_low x hx h1 h2 w
  rw [if_neg h2, if_neg h2]
  obtain ⟨n, rfl⟩ : ∃ n : Nat, x = (n : Int) := ⟨x.toNat, by omega⟩
  rw [Int.toNat_natCast]
  exact rsqrt_yes n (by omega) w
end Go.Proofs.YthobaffgllipfaaGreat
