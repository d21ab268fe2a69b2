/-
  The document's Sqrt.
-/
import Derived.Test.YtjnjklcnccfgaaaDoorRGrI
import Derived.Test.YtjnjklcnccfgaaaDoorDSqr
import Derived.WalkSpells
import Derived.WalkLawsBesides
import Derived.StillTactics
import Derived.Laws.Pointers
import Derived.Deep.RegionHeld3
import Derived.Deep.QuietTactic
import Derived.BigQuiet
import Derived.RowKit3
import Derived.Lib.Hide
import Derived.Lib.OthersKept
import Derived.OwnWalk
import Derived.Lib.IndexLaws
import Derived.Lib.ItoaMem
namespace Go.Proofs.YtjnjklcnccfgaaaDoor
open Go.RowKit

theorem root_one (g p q : Nat) (h1 : p * p ≤ g) (h2 : g < (p + 1) * (p + 1)) (h3 : q * q ≤ g) (h4 : g < (q + 1) * (q + 1)) : p = q := by
  rcases Nat.lt_trichotomy p q with h | h | h
  · have := Nat.mul_le_mul (show p + 1 ≤ q from h) (show p + 1 ≤ q from h); omega
  · exact h
  · have := Nat.mul_le_mul (show q + 1 ≤ p from h) (show q + 1 ≤ p from h); omega
set_option maxRecDepth 100000 in
set_option maxHeartbeats 4000000 in
theorem rsqrt_yes (x : Nat) (hx : x ≤ 9223372036854775807) (w : World) : Calls Tryd.prog 75 #[.int .i64 (x : Int)] w fun e w' => e = .returned (.tuple #[.int .i64 (((sqN x + 1) / 2 : Nat) : Int), .int .i64 0]) ∧ Below w.heap.size w w' := by
  have S0 := drmay_any (x : Int) ⟨by omega, by omega⟩ w
  rw [show decMay (x : Int) = true by simp only [decMay, Bool.not_eq_true', decide_eq_false_iff_not]; omega] at S0
  have a1 : IntKind.u64.wrap (x : Int) = (x : Int) := by rw [IntKind.wrap_u64]; omega
  have hx0 : ¬ ((x : Int) < 0) := by omega
  have C0 := Lib.hid (great_any x (by omega) w)
  have hxH := Lib.hid hx
  clear hx
  go_enter Tryd.func75, Tryd.ntmps75
  go_wp2_with fail
  with_reducible refine S0.mono ?_
  rintro e w0 ⟨rfl, rfl⟩
  go_wp2_with fail
  with_reducible refine C0.out.mono ?_
  rintro e w1 ⟨u, l1, rfl, hw1, hv1, hc1, hl1⟩
  obtain ⟨A1, cap1, rfl, hR1⟩ := rdG_own hw1.own
  have hown4 : (w1.alloc (Obj.cells #[Value.int .i64 0, Value.int .i64 4] 3)).ownsRow w1.heap.size 3 1 (.slice (some ⟨w1.heap.size, 0, none⟩) 2 2) [0, 4].length ([0, 4].map fun (n : Nat) => Value.int .i64 (n : Int)) := by
    refine ⟨rfl, .inr ⟨w1.heap.size, 2, #[.int .i64 0, .int .i64 4], rfl, Nat.le_refl _, by show (w1.heap.push _)[w1.heap.size]? = _; simp, Nat.le_refl _, by unfold maxLen; omega, rfl, rfl⟩⟩
  obtain ⟨A4, cap4, e4, hR4⟩ := rdG_own hown4
  injection e4 with e41 e42 e43
  subst e41; subst e43
  have hba : Below w1.heap.size w1 (w1.alloc (Obj.cells #[Value.int .i64 0, Value.int .i64 4] 3)) := (Below.refl _ _).alloc (Nat.le_refl _) _
  have C1 := Lib.hid (show Calls _ _ #[_, .slice (some ⟨w1.heap.size, 0, none⟩) 2 2] _ _ from product_any l1 [0, 4] hw1.dig (by simp) (by simp; omega) (w1.alloc (Obj.cells #[Value.int .i64 0, Value.int .i64 4] 3)) A1 (some ⟨w1.heap.size, 0, none⟩) cap1 2 ((hR1.below hba).mono hba.size) hR4)
  have hbw : Below w.heap.size w (w1.alloc (Obj.cells #[Value.int .i64 0, Value.int .i64 4] 3)) := hw1.bel.trans (hba.mono hw1.siz)
  have hbwH := Lib.hid hbw
  have hv1H := Lib.hid hv1
  clear hR1 hR4 hown4 hba hw1 hv1 hc1 hbw
  go_wp2_with fail
  with_reducible refine C1.out.mono ?_
  rintro e wg ⟨ug, lg, rfl, hwg, hvg', hcg, hlg⟩
  obtain ⟨Ag, capg, rfl, hRg⟩ := rdG_own hwg.own
  have hvg : Hid (valG lg = x * 40000) := Lib.hid (by rw [hvg', hv1H.out]; rfl)
  have hgH := Lib.hid (And.intro hwg.dig (And.intro hcg hRg))
  have hbg : Below w.heap.size w wg := hbwH.out.trans (hwg.bel.mono hbwH.out.size)
  have hbgH := Lib.hid hbg
  clear hRg hwg hvg' hcg hbg S0
  go_wp2
  go_loopw [5, 6] (fun lv hv wr => ∃ lo hi : Nat, lv = .int .u64 (lo : Int) ∧ hv = .int .u64 (hi : Int) ∧ lo < hi ∧ hi ≤ 1099511627776 ∧ Hid (lo * lo ≤ x * 40000) ∧ Hid (x * 40000 < hi * hi) ∧ Below wg.heap.size wg wr ∧ wg.heap.size ≤ wr.heap.size) (fun lv hv _ => (intOf hv - intOf lv).toNat)
  case atStart => exact ⟨0, 1099511627776, rfl, rfl, by decide, Nat.le_refl _, Lib.hid (by simp), Lib.hid (by have := hxH.out; omega), Below.refl _ _, Nat.le_refl _⟩
  case round =>
    obtain ⟨lo, hi, rfl, rfl, hlh, hhb, hlo, hhi, hbr, hzr⟩ := hrel
    obtain ⟨df, hdf⟩ : ∃ df, df = hi - lo := ⟨_, rfl⟩
    have a0 : IntKind.u64.wrap ((hi : Int) - (lo : Int)) = (df : Int) := by rw [IntKind.wrap_u64]; omega
    by_cases hd : 1 < df
    · obtain ⟨mid, hmid⟩ : ∃ mid, mid = (lo + hi) / 2 := ⟨_, rfl⟩
      obtain ⟨sm, hsm⟩ : ∃ sm, sm = lo + hi := ⟨_, rfl⟩
      have hd' : (1 : Int) < (df : Int) := by omega
      have a1 : IntKind.u64.wrap ((lo : Int) + (hi : Int)) = (sm : Int) := by rw [IntKind.wrap_u64]; omega
      have a2 : (sm : Int) / 2 = (mid : Int) := by omega
      have a4 : IntKind.u64.wrap (mid : Int) = (mid : Int) := by rw [IntKind.wrap_u64]; omega
      have hm1 : lo < mid := by omega
      have hm2 : mid < hi := by omega
      have C1 := Lib.hid (great_any mid (by omega) wr)
      clear hmid hsm hdf
      go_wp2_with fail
      with_reducible refine C1.out.mono ?_
      rintro e w1 ⟨u, l, rfl, hw1, hv1, hc1, hl1⟩
      obtain ⟨A2, cap2, rfl, hR2⟩ := rdG_own hw1.own
      have hb1 : Below wg.heap.size wg w1 := hbr.trans (hw1.bel.mono hzr)
      have C2 := Lib.hid (product_any l l hw1.dig hw1.dig (by omega) w1 A2 A2 cap2 cap2 hR2 hR2)
      go_wp2_with fail
      with_reducible refine C2.out.mono ?_
      rintro e w2 ⟨u2, l2, rfl, hw2, hv2, hc2, hl2⟩
      obtain ⟨A3, cap3, rfl, hR3⟩ := rdG_own hw2.own
      have hb2 : Below wg.heap.size wg w2 := hb1.trans (hw2.bel.mono hb1.size)
      have C3 := below_any lg l2 hgH.out.1 hw2.dig hgH.out.2.1 hc2 (by have : ([0, 4] : List Nat).length = 2 := rfl; omega) w2 Ag A3 capg cap3 ((hgH.out.2.2.below hb2).mono hb2.size) hR3
      by_cases hlt : x * 40000 < mid * mid
      · skip
        have hB : belowB lg l2 = true := by unfold belowB; rw [hv2, hv1, hvg.out]; exact decide_eq_true hlt
        rw [hB] at C3
        have C3H := Lib.hid C3
        have hltH := Lib.hid hlt
        clear C3 hR2 hR3 hw1 hw2 hv1 hv2 hc1 hc2 hlt hB
        go_wp2_with fail
        with_reducible refine C3H.out.mono ?_
        rintro e w3 ⟨rfl, hb3⟩
        have hb4 : Below wg.heap.size wg w3 := hb2.trans (hb3.mono hb2.size)
        go_wp2
        go_roundw
        case rel => exact ⟨lo, mid, rfl, rfl, by omega, by omega, hlo, hltH, hb4, hb4.size⟩
        case measure => simp [intOf]; omega
      · skip
        have hB : belowB lg l2 = false := by unfold belowB; rw [hv2, hv1, hvg.out]; exact decide_eq_false hlt
        rw [hB] at C3
        have C3H := Lib.hid C3
        have hltH := Lib.hid hlt
        clear C3 hR2 hR3 hw1 hw2 hv1 hv2 hc1 hc2 hlt hB
        go_wp2_with fail
        with_reducible refine C3H.out.mono ?_
        rintro e w3 ⟨rfl, hb3⟩
        have hb4 : Below wg.heap.size wg w3 := hb2.trans (hb3.mono hb2.size)
        go_wp2
        go_roundw
        case rel => exact ⟨mid, hi, rfl, rfl, by omega, by omega, Lib.hid (Nat.le_of_not_lt hltH.out), hhi, hb4, hb4.size⟩
        case measure => simp [intOf]; omega
    · have hd' : ¬ ((1 : Int) < (df : Int)) := by omega
      obtain rfl : hi = lo + 1 := by omega
      have hsq := sqN_spec x hxH.out
      have hr := Lib.hid (root_one _ _ _ hlo.out hhi.out hsq.1 hsq.2)
      obtain ⟨q, hq⟩ : ∃ q, q = (lo + 1) / 2 := ⟨_, rfl⟩
      have b1 : IntKind.u64.wrap ((lo : Int) + 1) = (lo : Int) + 1 := by rw [IntKind.wrap_u64]; omega
      have b2 : ((lo : Int) + 1) / 2 = (q : Int) := by omega
      have b3 : IntKind.u64.wrap (q : Int) = (q : Int) := by rw [IntKind.wrap_u64]; omega
      have b4 : IntKind.i64.wrap (q : Int) = (q : Int) := IntWalk.i64_in _ (by omega)
      have hqH := Lib.hid hq
      clear hsq hq
      go_wp2
      go_ret2
      have hf : ((sqN x : Int) + 1) / 2 = (q : Int) := by have := hr.out; have := hqH.out; omega
      have hf2 : (((sqN x + 1) / 2 : Nat) : Int) = (q : Int) := by have := hr.out; have := hqH.out; omega
      exact ⟨by first | (rw [hf]; rfl) | (rw [hf2]; rfl), hbgH.out.trans (hbr.mono hbgH.out.size)⟩
set_option maxHeartbeats 400000 in
theorem rsqrt_no (x : Int) (hx : -9223372036854775808 ≤ x ∧ x ≤ 9223372036854775807) (h : x = -9223372036854775808) (w : World) : Calls Tryd.prog 75 #[.int .i64 x] w fun e w' => e = .returned (.tuple #[.int .i64 0, .int .i64 2]) ∧ Below w.heap.size w w' := by
  have S0 := drmay_any x hx w
  rw [show decMay x = false by simp [decMay]; try omega] at S0
  clear hx h
  go_enter Tryd.func75, Tryd.ntmps75
  go_wp2_with fail
  with_reducible refine S0.mono ?_
  rintro e w1 ⟨rfl, rfl⟩
  go_wp2
  go_ret2
  exact ⟨rfl, Below.refl _ _⟩
set_option maxHeartbeats 400000 in
theorem rsqrt_low (x : Int) (hx : -9223372036854775808 ≤ x ∧ x ≤ 9223372036854775807) (h : ¬ x = -9223372036854775808) (h2 : x < 0) (w : World) : Calls Tryd.prog 75 #[.int .i64 x] w fun e w' => e = .returned (.tuple #[.int .i64 0, .int .i64 8]) ∧ Below w.heap.size w w' := by
  have S0 := drmay_any x hx w
  rw [show decMay x = true by simp [decMay]; try omega] at S0
  clear hx h
  go_enter Tryd.func75, Tryd.ntmps75
  go_wp2_with fail
  with_reducible refine S0.mono ?_
  rintro e w1 ⟨rfl, rfl⟩
  go_wp2
  go_ret2
  exact ⟨rfl, Below.refl _ _⟩
theorem rsqrt_any (x : Int) (hx : -9223372036854775808 ≤ x ∧ x ≤ 9223372036854775807) (w : World) : Calls Tryd.prog 75 #[.int .i64 x] w fun e w' => e = .returned (.tuple #[.int .i64 (sqrtV x), .int .i64 (sqrtC x)]) ∧ Below w.heap.size w w' := by
  unfold sqrtV sqrtC
  by_cases h1 : x = -9223372036854775808
  · rw [if_pos h1, if_pos (by omega)]; exact rsqrt_no x hx h1 w
  rw [if_neg h1]
  by_cases h2 : x < 0
  · rw [if_pos h2, if_pos h2]; exact rsqrt_low x hx h1 h2 w
  rw [if_neg h2, if_neg h2]
  obtain ⟨n, rfl⟩ : ∃ n : Nat, x = (n : Int) := ⟨x.toNat, by omega⟩
  rw [Int.toNat_natCast]
  exact rsqrt_yes n (by omega) w
end Go.Proofs.YtjnjklcnccfgaaaDoor
