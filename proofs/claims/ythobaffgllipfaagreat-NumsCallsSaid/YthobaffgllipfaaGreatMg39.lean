/-
  The document's great numbers: next; The document's great numbers: word; Powers: the document's rounding (plain).
-/
import Derived.Test.YthobaffgllipfaaGreatRows
import Derived.Test.YthobaffgllipfaaGreatBase
import Derived.Test.YthobaffgllipfaaGreatMg3
import Derived.Test.YthobaffgllipfaaGreatMg36
import Derived.Test.YthobaffgllipfaaGreatRGrD
import Derived.Test.YthobaffgllipfaaGreatMg38
import Derived.Maps.AppendAt
import Derived.WalkSpells
import Derived.WalkLawsBesides
import Derived.StillTactics
import Derived.Laws.Pointers
import Derived.Deep.RegionHeld3
import Derived.Deep.QuietTactic
import Derived.BigQuiet
import Derived.RowKit3
import Derived.Lib.Hide
import Derived.Lib.OthersKept
import Derived.OwnWalk
import Derived.Lib.IndexLaws
import Derived.Lib.ItoaMem
import Derived.WalkKit
import Derived.ProofKit
import Derived.OpenShut
import Derived.Carry
import Derived.ChangeSame
import Derived.Deep.Draws
namespace Go.Proofs.YthobaffgllipfaaGreat
open Go.RowKit

theorem next_step (outs : List Nat) (A ta' k o d o' x t : Nat) (h : valG outs + 10000 ^ k * o = A + 1) (ha : ta' = A + 10000 ^ k * x) (hl : outs.length = k) (ht : t = x + o) (hd : d = t % 10000) (ho : o' = t / 10000) : valG (outs ++ [d]) + 10000 ^ (k + 1) * o' = ta' + 1 := by
  rw [valG_snoc, hl, ha, Nat.pow_succ]
  obtain ⟨p, hp⟩ : ∃ p, 10000 ^ k = p := ⟨_, rfl⟩
  rw [hp] at h ⊢
  have e0 : d + 10000 * o' = x + o := by omega
  have e : p * d + p * 10000 * o' = p * x + p * o := by rw [Nat.mul_assoc, ← Nat.mul_add, e0, Nat.mul_add]
  omega
set_option maxRecDepth 100000 in
set_option maxHeartbeats 4000000 in
theorem next_any (a : List Nat) (ha : ∀ d ∈ a, d < 10000) (hlen : a.length ≤ 100000) (w : World) (A : Option Addr) (cap : Nat) (hR : RdB w w.heap.size A 1 (a.map fun (d : Nat) => [Value.int .i64 (d : Int)])) : Calls Tryz.prog 106 #[.slice A a.length cap] w (GreatAt (valG a + 1) (a.length + 1) w) := by
  obtain ⟨i0, hi, hz0, hz1, hz2⟩ := info_parts int_info
  have hH := Lib.hid (And.intro ha hR)
  clear ha hR
  go_enter Tryz.func106, Tryz.ntmps106
  go_wp2
  go_loopw [3, 4, 5] (fun ov uv iv wr => ∃ (k o : Nat) (outs : List Nat), k ≤ a.length ∧ iv = .int .i64 (k : Int) ∧ uv = .int .i64 (o : Int) ∧ o ≤ 1 ∧ outs.length = k ∧ Hid (∀ d ∈ outs, d < 10000) ∧ Hid (valG outs + 10000 ^ k * o = valG (a.take k) + 1) ∧ wr.ownsRow w.heap.size 3 1 ov k (outs.map fun (n : Nat) => Value.int .i64 (n : Int)) ∧ Below w.heap.size w wr) (fun _ _ iv _ => a.length - (intOf iv).toNat)
  case atStart => exact ⟨0, 1, [], Nat.zero_le _, rfl, rfl, by decide, rfl, Lib.hid (by simp), Lib.hid (by simp [valG]), World.ownsRow_nil _ _ _ _, Below.refl _ _⟩
  case round =>
    obtain ⟨k, o, outs, hk, rfl, rfl, ho, hol, hdig, hval, hown, hbr⟩ := hrel
    have hzr := hbr.size
    have hol' := Lib.hid hol
    clear hol
    by_cases hlt : k < a.length
    · obtain ⟨x, hx⟩ : ∃ x, a[k]? = some x := ⟨_, List.getElem?_eq_getElem hlt⟩
      obtain ⟨b1, o1, rfl, hb1, hc1⟩ := (hH.out.2.below hbr) k [.int .i64 (x : Int)] (by rw [List.getElem?_map, hx]; rfl)
      have hk1 : wr.cell? ⟨b1, o1 + k, none⟩ = some (.int .i64 (x : Int)) := by simpa using hc1 0 _ rfl
      have hkl : (k : Int) < (a.length : Int) := by omega
      have hxb := hH.out.1 x (List.mem_of_getElem? hx)
      have hta := Lib.hid (show valG (a.take (k + 1)) = valG (a.take k) + 10000 ^ k * x by rw [show a.take (k + 1) = a.take k ++ [x] by rw [List.take_add_one, hx]; rfl, valG_snoc, show (a.take k).length = k by rw [List.length_take]; omega])
      have a9 : IntKind.i64.wrap ((k : Int) + 1) = (k : Int) + 1 := IntWalk.i64_in _ (by omega)
      obtain ⟨t, ht⟩ : ∃ t, t = x + o := ⟨_, rfl⟩
      obtain ⟨d, hd⟩ : ∃ d, d = t % 10000 := ⟨_, rfl⟩
      obtain ⟨o', ho'⟩ : ∃ o', o' = t / 10000 := ⟨_, rfl⟩
      have a1 : IntKind.i64.wrap ((x : Int) + (o : Int)) = (t : Int) := by rw [IntWalk.i64_in _ (by omega)]; omega
      have a2 : (t : Int) % 10000 = (d : Int) := by omega
      have a3 : (t : Int) / 10000 = (o' : Int) := by omega
      have a4 : IntKind.i64.wrap (d : Int) = (d : Int) := IntWalk.i64_in _ (by omega)
      have a5 : IntKind.i64.wrap (o' : Int) = (o' : Int) := IntWalk.i64_in _ (by omega)
      have hst := Lib.hid (next_step _ _ _ k o d o' x t hval.out hta.out hol'.out ht hd ho')
      have hdb : d < 10000 := by omega
      have hob : o' ≤ 1 := by omega
      clear hx hc1 ht hd ho' hval
      go_wp2_with (at_builtin; refine wpList_append_own_at _ rfl _ _ 103 rfl w.heap.size 3 i0 (.int .i64 0) 1 8 Tryz.underlying103 hi hz0 hz1 hz2 rfl (by decide) _ _ _ rfl (hown.alloc _) ⟨wr.heap.size, 0, none⟩ 1 1 [.int .i64 (d : Int)] rfl rfl (cell_one_new _ _ _) (by simp [Value.oneCell']) (by unfold maxLen; omega) (by omega) (by simp; omega) ?_; intro v' w1 hown1 hgrow1 hnil1 hloc1)
      go_roundw
      case rel =>
        refine ⟨k + 1, o', outs ++ [d], by omega, by go_num, by first | rfl | trivial, hob, by rw [List.length_append, hol'.out]; rfl, Lib.hid ?_, Lib.hid ?_, ?_, ?_⟩
        · intro z hz
          rcases List.mem_append.1 hz with h | h
          · exact hdig.out z h
          · simp at h; omega
        · exact hst.out
        · rw [List.map_append]; exact hown1
        · refine (hbr.alloc hzr _).grown hgrow1 (by simp; omega) (fun j hj => ?_)
          exact (hown.lt j hj).1
      case measure => simp [intOf]; omega
    · obtain rfl : a.length = k := by omega
      have hkl : ¬ ((a.length : Int) < (a.length : Int)) := by omega
      have hv := hval.out
      rw [List.take_length] at hv
      have hvH := Lib.hid hv
      clear hv hval
      go_wp2_with (at_builtin; refine wpList_append_own_at _ rfl _ _ 103 rfl w.heap.size 3 i0 (.int .i64 0) 1 8 Tryz.underlying103 hi hz0 hz1 hz2 rfl (by decide) _ _ _ rfl (hown.alloc _) ⟨wr.heap.size, 0, none⟩ 1 1 [.int .i64 (o : Int)] rfl rfl (cell_one_new _ _ _) (by simp [Value.oneCell']) (by unfold maxLen; omega) (by omega) (by simp; omega) ?_; intro v' w1 hown1 hgrow1 hnil1 hloc1)
      have hb2 : Below w.heap.size w w1 := by
        refine (hbr.alloc hzr _).grown hgrow1 (by simp; omega) (fun j hj => ?_)
        exact (hown.lt j hj).1
      have hl2 : (outs ++ [o]).length = a.length + 1 := by rw [List.length_append, hol'.out]; rfl
      have hown' : w1.ownsRow w.heap.size 3 1 v' (outs ++ [o]).length ((outs ++ [o]).map fun (n : Nat) => Value.int .i64 (n : Int)) := by rw [hl2, List.map_append]; exact hown1
      have C := Lib.hid (cut_any w.heap.size (outs ++ [o]) (by omega) w1 _ hown')
      have hl2H := Lib.hid hl2
      have hb2H := Lib.hid hb2
      clear hown' hown1 hown hb2 hl2 hgrow1
      go_wp2_with fail
      with_reducible refine C.out.mono ?_
      rintro e w3 ⟨rfl, u, l', rfl, ho, hv, hc, hl, hm⟩
      have hoH := Lib.hid (And.intro ho (And.intro hv (And.intro hc (And.intro hl hm))))
      clear ho hv hc hl hm
      go_wp2
      go_ret
      refine ⟨_, l', rfl, ⟨hoH.out.1, fun d hd => ?_, hb2H.out, hb2H.out.size⟩, by rw [hoH.out.2.1, valG_snoc, hol'.out]; exact hvH.out, hoH.out.2.2.1, by rw [← hl2H.out]; exact hoH.out.2.2.2.1⟩
      rcases List.mem_append.1 (hoH.out.2.2.2.2 d hd) with h | h
      · exact hdig.out d h
      · simp at h; omega
end Go.Proofs.YthobaffgllipfaaGreat
namespace Go.Proofs.YthobaffgllipfaaGreat
open Go.RowKit

set_option maxRecDepth 100000 in
set_option maxHeartbeats 4000000 in
theorem word_any (a b : List Nat) (ha : ∀ d ∈ a, d < 10000) (hb : ∀ d ∈ b, d < 10000) (ca : CanG a) (hv0 : valG a < valG b * 10000) (hlen : a.length ≤ 100000) (hlenb : b.length ≤ 100000) (w : World) (A A' : Option Addr) (cap cap' : Nat) (hR : RdB w w.heap.size A 1 (a.map fun (d : Nat) => [Value.int .i64 (d : Int)])) (hR' : RdB w w.heap.size A' 1 (b.map fun (d : Nat) => [Value.int .i64 (d : Int)])) : Calls Tryz.prog 115 #[.slice A a.length cap, .slice A' b.length cap'] w fun e w' => (∃ d : Nat, e = .returned (.int .i64 (d : Int)) ∧ d < 10000 ∧ valG b * d ≤ valG a ∧ valG a < valG b * (d + 1)) ∧ Below w.heap.size w w' := by
  have hH := Lib.hid (And.intro ha (And.intro hb (And.intro ca hv0)))
  have hRH := Lib.hid (And.intro hR hR')
  clear ha hb ca hv0 hR hR'
  go_enter Tryz.func115, Tryz.ntmps115
  go_wp2
  go_loopw [5, 6] (fun lv hv wr => ∃ lo hi : Nat, lv = .int .i64 (lo : Int) ∧ hv = .int .i64 (hi : Int) ∧ lo < hi ∧ hi ≤ 10000 ∧ Hid (valG b * lo ≤ valG a) ∧ Hid (valG a < valG b * hi) ∧ Below w.heap.size w wr ∧ w.heap.size ≤ wr.heap.size) (fun lv hv _ => (intOf hv - intOf lv).toNat)
  case atStart => exact ⟨0, 10000, rfl, rfl, by decide, Nat.le_refl _, Lib.hid (by simp), Lib.hid hH.out.2.2.2, Below.refl _ _, Nat.le_refl _⟩
  case round =>
    obtain ⟨lo, hi, rfl, rfl, hlh, hhb, hlo, hhi, hbr, hzr⟩ := hrel
    have a0 : IntKind.i64.wrap ((hi : Int) - (lo : Int)) = (hi : Int) - (lo : Int) := IntWalk.i64_in _ (by omega)
    by_cases hd : 1 < hi - lo
    · obtain ⟨mid, hmid⟩ : ∃ mid, mid = (lo + hi) / 2 := ⟨_, rfl⟩
      obtain ⟨sm, hsm⟩ : ∃ sm, sm = lo + hi := ⟨_, rfl⟩
      have hd' : (1 : Int) < (hi : Int) - (lo : Int) := by omega
      have a1 : IntKind.i64.wrap ((lo : Int) + (hi : Int)) = (sm : Int) := by rw [IntWalk.i64_in _ (by omega)]; omega
      have a2 : (sm : Int) / 2 = (mid : Int) := by omega
      have a3 : IntKind.i64.wrap (mid : Int) = (mid : Int) := IntWalk.i64_in _ (by omega)
      have a4 : IntKind.u64.wrap (mid : Int) = (mid : Int) := by rw [IntKind.wrap_u64]; omega
      have hm1 : lo < mid := by omega
      have hm2 : mid < hi := by omega
      have C1 := Lib.hid (great_any mid (by omega) wr)
      clear hmid hsm
      go_wp2_with fail
      with_reducible refine C1.out.mono ?_
      rintro e w1 ⟨u, l, rfl, hw1, hv1, hc1, hl1⟩
      obtain ⟨A2, cap2, rfl, hR2⟩ := rdG_own hw1.own
      have hb1 : Below w.heap.size w w1 := hbr.trans (hw1.bel.mono hzr)
      have C2 := Lib.hid (product_any b l hH.out.2.1 hw1.dig (by omega) w1 A' A2 cap' cap2 ((hRH.out.2.below hb1).mono hb1.size) hR2)
      go_wp2_with fail
      with_reducible refine C2.out.mono ?_
      rintro e w2 ⟨u2, l2, rfl, hw2, hv2, hc2, hl2⟩
      obtain ⟨A3, cap3, rfl, hR3⟩ := rdG_own hw2.own
      have hb2 : Below w.heap.size w w2 := hb1.trans (hw2.bel.mono hb1.size)
      have C3 := below_any a l2 hH.out.1 hw2.dig hH.out.2.2.1 hc2 (by omega) w2 A A3 cap cap3 ((hRH.out.1.below hb2).mono hb2.size) hR3
      by_cases hlt : valG a < valG b * mid
      · skip
        have hB : belowB a l2 = true := by unfold belowB; rw [hv2, hv1]; exact decide_eq_true hlt
        rw [hB] at C3
        have C3H := Lib.hid C3
        have hltH := Lib.hid hlt
        clear C3 hR2 hR3 hw1 hw2 hv1 hv2 hc1 hc2 hlt hB
        go_wp2_with fail
        with_reducible refine C3H.out.mono ?_
        rintro e w3 ⟨rfl, hb3⟩
        have hb4 : Below w.heap.size w w3 := hb2.trans (hb3.mono hb2.size)
        go_wp2
        go_roundw
        case rel => exact ⟨lo, mid, rfl, rfl, by omega, by omega, hlo, hltH, hb4, hb4.size⟩
        case measure => simp [intOf]; omega
      · skip
        have hB : belowB a l2 = false := by unfold belowB; rw [hv2, hv1]; exact decide_eq_false hlt
        rw [hB] at C3
        have C3H := Lib.hid C3
        have hltH := Lib.hid hlt
        clear C3 hR2 hR3 hw1 hw2 hv1 hv2 hc1 hc2 hlt hB
        go_wp2_with fail
        with_reducible refine C3H.out.mono ?_
        rintro e w3 ⟨rfl, hb3⟩
        have hb4 : Below w.heap.size w w3 := hb2.trans (hb3.mono hb2.size)
        go_wp2
        go_roundw
        case rel => exact ⟨mid, hi, rfl, rfl, by omega, by omega, Lib.hid (Nat.le_of_not_lt hltH.out), hhi, hb4, hb4.size⟩
        case measure => simp [intOf]; omega
    · have hd' : ¬ ((1 : Int) < (hi : Int) - (lo : Int)) := by omega
      obtain rfl : hi = lo + 1 := by omega
      go_wp2
      go_ret
      exact ⟨⟨lo, rfl, by omega, hlo.out, hhi.out⟩, hbr⟩
end Go.Proofs.YthobaffgllipfaaGreat
namespace Go.Proofs.YthobaffgllipfaaGreat
open Go.RowKit

theorem round_div (N v q r : Nat) (h : N = v * q + r) (hr : r < v) : (2 * N / v + 1) / 2 = if 2 * r < v then q else q + 1 := by
  have hv : 0 < v := by omega
  have e : 2 * N = v * (2 * q) + 2 * r := by rw [h, Nat.mul_add, ← Nat.mul_assoc, ← Nat.mul_assoc, Nat.mul_comm 2 v]
  rw [e, Nat.mul_add_div hv]
  split
  · have h0 : 2 * r / v = 0 := Nat.div_eq_of_lt (by assumption)
    rw [h0]; omega
  · have h1 : 2 * r / v = 1 := Nat.div_eq_of_lt_le (by omega) (by omega)
    rw [h1]; omega
/-- the word below the cut tells whether to go up -/
theorem valG_cut (l : List Nat) (n : Nat) (hd : ∀ d ∈ l, d < 10000) (hn : n < l.length) : (2 * valG l / 10000 ^ (n + 1) + 1) / 2 = if 5000 ≤ l[n]'hn then valG (l.drop (n + 1)) + 1 else valG (l.drop (n + 1)) := by
  have e := valG_append (l.take (n + 1)) (l.drop (n + 1))
  have hl : (l.take (n + 1)).length = n + 1 := by rw [List.length_take]; omega
  have hb := valG_lt (l.take (n + 1)) (fun d h => hd d (List.mem_of_mem_take h))
  rw [List.take_append_drop, hl] at e
  rw [hl] at hb
  rw [round_div (valG l) (10000 ^ (n + 1)) (valG (l.drop (n + 1))) (valG (l.take (n + 1))) (by rw [e]; omega) hb]
  have h2 : valG (l.take (n + 1)) = valG (l.take n) + 10000 ^ n * l[n]'hn := by
    rw [List.take_add_one, List.getElem?_eq_getElem hn, show (some (l[n]'hn)).toList = [l[n]'hn] from rfl, valG_snoc, List.length_take, Nat.min_eq_left (by omega)]
  have h3 := valG_lt (l.take n) (fun d h => hd d (List.mem_of_mem_take h))
  rw [List.length_take, Nat.min_eq_left (by omega)] at h3
  rw [h2, Nat.pow_succ]
  obtain ⟨x, hx⟩ : ∃ x, l[n]'hn = x := ⟨_, rfl⟩
  obtain ⟨p, hp⟩ : ∃ p, 10000 ^ n = p := ⟨_, rfl⟩
  rw [hx, hp]
  rw [hp] at h3
  by_cases h5 : 5000 ≤ x
  · have h6 : p * 5000 ≤ p * x := Nat.mul_le_mul_left _ h5
    rw [if_pos h5, if_neg (by omega)]
  · have h6 : p * x + p ≤ p * 5000 := by rw [← Nat.mul_succ]; exact Nat.mul_le_mul_left _ (by omega)
    rw [if_neg h5, if_pos (by omega)]
/-- one word more of the quotient -/
theorem quot_step (vb q r N x d m : Nat) (h : vb * q + r = N) (hm : m = x + 10000 * r) (hd : vb * d ≤ m) : vb * (d + 10000 * q) + (m - vb * d) = 10000 * N + x := by
  have e : vb * (d + 10000 * q) = vb * d + 10000 * (vb * q) := by rw [Nat.mul_add, ← Nat.mul_assoc, Nat.mul_comm vb 10000, Nat.mul_assoc]
  rw [e]
  omega
/-- what is divided after i rounds -/
def quotN : Nat → Nat
  | 0 => 0
  | i + 1 => 10000 * quotN i + (if i = 0 then 1 else 0)
theorem quotN_pow : ∀ i, quotN (i + 1) = 10000 ^ i
  | 0 => rfl
  | i + 1 => by
    rw [quotN, quotN_pow i, if_neg (by omega), Nat.add_zero, Nat.pow_succ, Nat.mul_comm]
end Go.Proofs.YthobaffgllipfaaGreat
