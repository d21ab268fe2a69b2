/-
  The document's great numbers: word.
-/
import Derived.Test.YtjnjklcnccfgaaaDoorRGrH
import Derived.WalkSpells
import Derived.WalkLawsBesides
import Derived.StillTactics
import Derived.Laws.Pointers
import Derived.Deep.RegionHeld3
import Derived.Deep.QuietTactic
import Derived.BigQuiet
import Derived.RowKit3
import Derived.Lib.Hide
import Derived.Lib.OthersKept
import Derived.OwnWalk
import Derived.Lib.IndexLaws
import Derived.Lib.ItoaMem
namespace Go.Proofs.YtjnjklcnccfgaaaDoor
open Go.RowKit

set_option maxRecDepth 100000 in
set_option maxHeartbeats 4000000 in
theorem word_any (a b : List Nat) (ha : ∀ d ∈ a, d < 10000) (hb : ∀ d ∈ b, d < 10000) (ca : CanG a) (hv0 : valG a < valG b * 10000) (hlen : a.length ≤ 100000) (hlenb : b.length ≤ 100000) (w : World) (A A' : Option Addr) (cap cap' : Nat) (hR : RdB w w.heap.size A 1 (a.map fun (d : Nat) => [Value.int .i64 (d : Int)])) (hR' : RdB w w.heap.size A' 1 (b.map fun (d : Nat) => [Value.int .i64 (d : Int)])) : Calls Tryd.prog 125 #[.slice A a.length cap, .slice A' b.length cap'] w fun e w' => (∃ d : Nat, e = .returned (.int .i64 (d : Int)) ∧ d < 10000 ∧ valG b * d ≤ valG a ∧ valG a < valG b * (d + 1)) ∧ Below w.heap.size w w' := by
  have hH := Lib.hid (And.intro ha (And.intro hb (And.intro ca hv0)))
  have hRH := Lib.hid (And.intro hR hR')
  clear ha hb ca hv0 hR hR'
  go_enter Tryd.func125, Tryd.ntmps125
  go_wp2
  go_loopw [5, 6] (fun lv hv wr => ∃ lo hi : Nat, lv = .int .i64 (lo : Int) ∧ hv = .int .i64 (hi : Int) ∧ lo < hi ∧ hi ≤ 10000 ∧ Hid (valG b * lo ≤ valG a) ∧ Hid (valG a < valG b * hi) ∧ Below w.heap.size w wr ∧ w.heap.size ≤ wr.heap.size) (fun lv hv _ => (intOf hv - intOf lv).toNat)
  case atStart => exact ⟨0, 10000, rfl, rfl, by decide, Nat.le_refl _, Lib.hid (by simp), Lib.hid hH.out.2.2.2, Below.refl _ _, Nat.le_refl _⟩
  case round =>
    obtain ⟨lo, hi, rfl, rfl, hlh, hhb, hlo, hhi, hbr, hzr⟩ := hrel
    have a0 : IntKind.i64.wrap ((hi : Int) - (lo : Int)) = (hi : Int) - (lo : Int) := IntWalk.i64_in _ (by omega)
    by_cases hd : 1 < hi - lo
    · obtain ⟨mid, hmid⟩ : ∃ mid, mid = (lo + hi) / 2 := ⟨_, rfl⟩
      obtain ⟨sm, hsm⟩ : ∃ sm, sm = lo + hi := ⟨_, rfl⟩
      have hd' : (1 : Int) < (hi : Int) - (lo : Int) := by omega
      have a1 : IntKind.i64.wrap ((lo : Int) + (hi : Int)) = (sm : Int) := by rw [IntWalk.i64_in _ (by omega)]; omega
      have a2 : (sm : Int) / 2 = (mid : Int) := by omega
      have a3 : IntKind.i64.wrap (mid : Int) = (mid : Int) := IntWalk.i64_in _ (by omega)
      have a4 : IntKind.u64.wrap (mid : Int) = (mid : Int) := by rw [IntKind.wrap_u64]; omega
      have hm1 : lo < mid := by omega
      have hm2 : mid < hi := by omega
      have C1 := Lib.hid (great_any mid (by omega) wr)
      clear hmid hsm
      go_wp2_with fail
      with_reducible refine C1.out.mono ?_
      rintro e w1 ⟨u, l, rfl, hw1, hv1, hc1, hl1⟩
      obtain ⟨A2, cap2, rfl, hR2⟩ := rdG_own hw1.own
      have hb1 : Below w.heap.size w w1 := hbr.trans (hw1.bel.mono hzr)
      have C2 := Lib.hid (product_any b l hH.out.2.1 hw1.dig (by omega) w1 A' A2 cap' cap2 ((hRH.out.2.below hb1).mono hb1.size) hR2)
      go_wp2_with fail
      with_reducible refine C2.out.mono ?_
      rintro e w2 ⟨u2, l2, rfl, hw2, hv2, hc2, hl2⟩
      obtain ⟨A3, cap3, rfl, hR3⟩ := rdG_own hw2.own
      have hb2 : Below w.heap.size w w2 := hb1.trans (hw2.bel.mono hb1.size)
      have C3 := below_any a l2 hH.out.1 hw2.dig hH.out.2.2.1 hc2 (by omega) w2 A A3 cap cap3 ((hRH.out.1.below hb2).mono hb2.size) hR3
      by_cases hlt : valG a < valG b * mid
      · skip
        have hB : belowB a l2 = true := by unfold belowB; rw [hv2, hv1]; exact decide_eq_true hlt
        rw [hB] at C3
        have C3H := Lib.hid C3
        have hltH := Lib.hid hlt
        clear C3 hR2 hR3 hw1 hw2 hv1 hv2 hc1 hc2 hlt hB
        go_wp2_with fail
        with_reducible refine C3H.out.mono ?_
        rintro e w3 ⟨rfl, hb3⟩
        have hb4 : Below w.heap.size w w3 := hb2.trans (hb3.mono hb2.size)
        go_wp2
        go_roundw
        case rel => exact ⟨lo, mid, rfl, rfl, by omega, by omega, hlo, hltH, hb4, hb4.size⟩
        case measure => simp [intOf]; omega
      · skip
        have hB : belowB a l2 = false := by unfold belowB; rw [hv2, hv1]; exact decide_eq_false hlt
        rw [hB] at C3
        have C3H := Lib.hid C3
        have hltH := Lib.hid hlt
        clear C3 hR2 hR3 hw1 hw2 hv1 hv2 hc1 hc2 hlt hB
        go_wp2_with fail
        with_reducible refine C3H.out.mono ?_
        rintro e w3 ⟨rfl, hb3⟩
        have hb4 : Below w.heap.size w w3 := hb2.trans (hb3.mono hb2.size)
        go_wp2
        go_roundw
        case rel => exact ⟨mid, hi, rfl, rfl, by omega, by omega, Lib.hid (Nat.le_of_not_lt hltH.out), hhi, hb4, hb4.size⟩
        case measure => simp [intOf]; omega
    · have hd' : ¬ ((1 : Int) < (hi : Int) - (lo : Int)) := by omega
      obtain rfl : hi = lo + 1 := by omega
      go_wp2
      go_ret
      exact ⟨⟨lo, rfl, by omega, hlo.out, hhi.out⟩, hbr⟩
end Go.Proofs.YtjnjklcnccfgaaaDoor
