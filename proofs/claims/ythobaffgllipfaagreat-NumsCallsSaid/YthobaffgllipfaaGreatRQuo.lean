/-
  The document's quotient.
-/
import Derived.Test.YthobaffgllipfaaGreatRows
import Derived.Test.YthobaffgllipfaaGreatBase
import Derived.Test.YthobaffgllipfaaGreatMg3
import Derived.Test.YthobaffgllipfaaGreatMg36
import Derived.Test.YthobaffgllipfaaGreatRGrD
import Derived.Test.YthobaffgllipfaaGreatMg38
import Derived.Test.YthobaffgllipfaaGreatMg39
import Derived.WalkSpells
import Derived.WalkLawsBesides
import Derived.StillTactics
import Derived.Laws.Pointers
import Derived.Deep.RegionHeld3
import Derived.Deep.QuietTactic
import Derived.BigQuiet
import Derived.RowKit3
import Derived.Lib.Hide
import Derived.Lib.OthersKept
import Derived.OwnWalk
import Derived.Lib.IndexLaws
import Derived.Lib.ItoaMem
import Derived.WalkKit
import Derived.ProofKit
import Derived.OpenShut
import Derived.Carry
import Derived.ChangeSame
import Derived.Deep.Draws
import Derived.Maps.AppendAt
import Derived.Laws.AppendOwnNone
namespace Go.Proofs.YthobaffgllipfaaGreat
open Go.RowKit

theorem rdG_own2 {w : World} {B : Nat} {e : TypeId} {v : Value} {l : List Nat} (h : w.ownsRow B e 1 v l.length (l.map fun (n : Nat) => Value.int .i64 (n : Int))) : ∃ A cap, v = .slice A l.length cap ∧ RdB w w.heap.size A 1 (l.map fun (d : Nat) => [Value.int .i64 (d : Int)]) ∧ (A = none → l.length = 0 ∧ cap = 0) := by
  rcases h.2 with ⟨h2, h3⟩ | ⟨g, cap, cur, hv, hB, hh, hr⟩
  · obtain ⟨A, cap, hv, hR⟩ := rdG_own h
    refine ⟨A, cap, hv, hR, fun _ => ⟨h3, ?_⟩⟩
    rw [h2] at hv
    injection hv with _ _ h4
    exact h4.symm
  · obtain ⟨A, cap', hv', hR⟩ := rdG_own h
    refine ⟨A, cap', hv', hR, fun e => ?_⟩
    rw [hv, e] at hv'
    injection hv' with h4
    cases h4
theorem rdB_one {w : World} {B : Nat} {A : Option Addr} {l : List Nat} (h : RdB w B A 1 (l.map fun (d : Nat) => [Value.int .i64 (d : Int)])) : RdB w B A 1 ((l.map fun (n : Nat) => Value.int .i64 (n : Int)).map fun u => [u]) := by
  rw [List.map_map]; exact h
theorem one_ints (l : List Nat) : ∀ u ∈ (l.map fun (n : Nat) => Value.int .i64 (n : Int)), u.oneCell' = true := by
  intro u hu
  obtain ⟨n, _, rfl⟩ := List.mem_map.1 hu
  rfl
theorem HeldG.below {B : Nat} {w0 w w' : World} {v : Value} {l : List Nat} (h : HeldG B w0 w v l) (hb : Below w.heap.size w w') : HeldG B w0 w' v l :=
  ⟨ownsRow_below h.own hb, h.dig, h.bel.trans (hb.mono h.siz), Nat.le_trans h.siz hb.size⟩
theorem own_one (w : World) (x : Value) : (w.alloc (Obj.cells #[x] 3)).ownsRow w.heap.size 3 1 (.slice (some ⟨w.heap.size, 0, none⟩) 1 1) 1 [x] :=
  ⟨rfl, .inr ⟨w.heap.size, 1, #[x], rfl, Nat.le_refl _, by show (w.heap.push _)[w.heap.size]? = _; simp, Nat.le_refl _, by unfold maxLen; omega, rfl, rfl⟩⟩
/-- the next remainder, the next word -/
theorem quot_next (vb vq vr N x d m : Nat) (h : vb * vq + vr = N) (hm : m = x + 10000 * vr) (hd : vb * d ≤ m) (hu : m < vb * (d + 1)) : vb * (d + 10000 * vq) + (m - vb * d) = 10000 * N + x ∧ m - vb * d < vb := by
  refine ⟨quot_step vb vq vr N x d m h hm hd, ?_⟩
  rw [Nat.mul_add, Nat.mul_one] at hu
  omega
theorem quot_room (vb vr x m : Nat) (hr : vr < vb) (hx : x ≤ 1) (hm : m = x + 10000 * vr) : m < vb * 10000 := by omega
theorem quot_end (vb q r N : Nat) (h : vb * q + r = N) (hr : r < vb) : (2 * N / vb + 1) / 2 = if 2 * r < vb then q else q + 1 := round_div N vb q r h.symm hr
set_option maxRecDepth 100000 in
set_option maxHeartbeats 8000000 in
theorem quotient_any (n : Nat) (hn : n ≤ 100) (b : List Nat) (hb : ∀ d ∈ b, d < 10000) (hcb : CanG b) (hvb : 0 < valG b) (hlen : b.length ≤ 1000) (w : World) (A : Option Addr) (cap : Nat) (hR : RdB w w.heap.size A 1 (b.map fun (d : Nat) => [Value.int .i64 (d : Int)])) : Calls Tryz.prog 103 #[.int .i64 (n : Int), .slice A b.length cap] w (GreatAt ((2 * 10000 ^ n / valG b + 1) / 2) (n + 3) w) := by
  obtain ⟨i0, hi, hz0, hz1, hz2⟩ := info_parts int_info
  have hH := Lib.hid (And.intro hb (And.intro hcb (And.intro hvb hR)))
  clear hb hcb hvb hR
  go_enter Tryz.func103, Tryz.ntmps103
  go_wp2
  go_loopw [5, 6, 7] (fun qv rv iv wr => ∃ (i : Nat) (lq lr : List Nat), i ≤ n + 1 ∧ iv = .int .i64 (i : Int) ∧ Hid (lq.length = i) ∧ lq.length ≤ i ∧ lr.length ≤ i ∧ HeldG w.heap.size w wr qv lq ∧ HeldG w.heap.size w wr rv lr ∧ Hid (valG b * valG lq + valG lr = quotN i) ∧ Hid (valG lr < valG b) ∧ Hid (CanG lr)) (fun _ _ iv _ => n + 1 - (intOf iv).toNat)
  case atStart => exact ⟨0, [], [], Nat.zero_le _, rfl, Lib.hid rfl, Nat.zero_le _, Nat.zero_le _, ⟨World.ownsRow_nil _ _ _ _, by simp, Below.refl _ _, Nat.le_refl _⟩, ⟨World.ownsRow_nil _ _ _ _, by simp, Below.refl _ _, Nat.le_refl _⟩, Lib.hid (by simp [valG, quotN]), Lib.hid hH.out.2.2.1, Lib.hid canG_nil⟩
  case round =>
    obtain ⟨i, lq, lr, hin, rfl, hql, hql', hlr, hq, hr, hval, hlt, hcr⟩ := hrel
    by_cases hle : i ≤ n
    · have hil : (i : Int) ≤ (n : Int) := by omega
      have hwi : IntKind.i64.wrap ((i : Int) + 1) = (i : Int) + 1 := IntWalk.i64_in _ (by omega)
      by_cases h0' : i = 0
      · have e0 : ((i : Int) == 0) = true := by rw [beq_iff_eq]; omega
        have h0 := Lib.hid h0'
        clear h0'
        obtain ⟨Ar, capr, rfl, hRr, hAr⟩ := rdG_own2 hr.own
        have C1 := Lib.hid (fun (w1 : World) (v' : Value) (h : w1.ownsRow wr.heap.size 3 1 v' (1 :: lr).length ((1 :: lr).map fun (n : Nat) => Value.int .i64 (n : Int))) => cut_any wr.heap.size (1 :: lr) (by simp; omega) w1 v' h)
        have hrdH := Lib.hid (And.intro hRr hr.dig)
        have hrH := Lib.hid hr
        have hqH := Lib.hid hq
        have hRr1 := Lib.hid (rdB_one (hRr.below ((Below.refl wr.heap.size wr).alloc (Nat.le_refl _) (Obj.cells #[Value.int .i64 1] 3))))
        clear hRr hr hq
        go_wp2_with (at_builtin; refine wpList_append_read rfl _ _ 103 rfl wr.heap.size 3 i0 (.int .i64 0) 8 Tryz.underlying103 hi hz0 hz1 hz2 rfl _ 1 [.int .i64 1] rfl (own_one wr _) Ar lr.length capr (lr.map fun (n : Nat) => Value.int .i64 (n : Int)) rfl hAr (by rw [List.length_map]) hRr1.out (one_ints lr) (by unfold maxLen; omega) (by omega) (by simp) ?_; intro v' w1 hown1 hgrow1)
        have hownH : Hid (w1.ownsRow wr.heap.size 3 1 v' (1 :: lr).length ((1 :: lr).map fun (n : Nat) => Value.int .i64 (n : Int))) := Lib.hid (by rw [List.length_cons, Nat.add_comm]; exact hown1)
        have hb1 : Below wr.heap.size wr w1 := ((Below.refl _ _).alloc (Nat.le_refl _) _).grown hgrow1 (by simp) (fun j hj => Nat.le_of_eq (Option.some.inj hj))
        have hb1H := Lib.hid hb1
        clear hown1 hgrow1 hb1 hRr1
        go_wp2_with fail
        with_reducible refine (C1.out w1 _ hownH.out).mono ?_
        rintro e w2 ⟨rfl, u, l1, rfl, ho, hv1, hc1, hl1, hm1⟩
        obtain ⟨A1, cap1, rfl, hR1⟩ := rdG_own ho
        have hd1 : ∀ d ∈ l1, d < 10000 := fun d hd => by
          rcases List.mem_cons.1 (hm1 d hd) with h | h
          · omega
          · exact hrdH.out.2 d h
        have hl1' : l1.length ≤ lr.length + 1 := by simpa using hl1
        have hvm : valG l1 = 1 + 10000 * valG lr := by rw [hv1]; rfl
        have hbw : Below w.heap.size w w2 := hrH.out.bel.trans (hb1H.out.mono hrH.out.siz)
        have C2 := Lib.hid (word_any l1 b hd1 hH.out.1 hc1 (quot_room _ _ 1 _ hlt.out (by decide) hvm) (by omega) (by omega) w2 A1 A cap1 cap hR1 ((hH.out.2.2.2.below hbw).mono hbw.size))
        have h1H := Lib.hid (And.intro hd1 (And.intro hR1 (And.intro hvm hbw)))
        clear hR1 hd1 hvm hbw hv1 hc1 hl1 hm1 ho C1
        go_wp2_with fail
        with_reducible refine C2.out.mono ?_
        rintro e w3 ⟨⟨d, rfl, hd9, hdl, hdu⟩, hb3⟩
        have hdH := Lib.hid (And.intro hdl (And.intro hdu hb3))
        have a1 : IntKind.u64.wrap (d : Int) = (d : Int) := by rw [IntKind.wrap_u64]; omega
        have C3 := Lib.hid (great_any d (by omega) w3)
        clear hdl hdu hb3 C2
        go_wp2_with fail
        with_reducible refine C3.out.mono ?_
        rintro e w4 ⟨u4, l4, rfl, hw4, hv4, hc4, hl4⟩
        obtain ⟨A4, cap4, rfl, hR4⟩ := rdG_own hw4.own
        have hb24 : Below w2.heap.size w2 w4 := hdH.out.2.2.trans (hw4.bel.mono hdH.out.2.2.size)
        have hbw4 : Below w.heap.size w w4 := h1H.out.2.2.2.trans (hb24.mono h1H.out.2.2.2.size)
        have C4 := Lib.hid (product_any b l4 hH.out.1 hw4.dig (by omega) w4 A A4 cap cap4 ((hH.out.2.2.2.below hbw4).mono hbw4.size) hR4)
        have h4H := Lib.hid (And.intro hv4 hb24)
        clear hR4 hw4 hv4 hc4 hb24 hbw4 C3
        go_wp2_with fail
        with_reducible refine C4.out.mono ?_
        rintro e w5 ⟨u5, l5, rfl, hw5, hv5, hc5, hl5⟩
        obtain ⟨A5, cap5, rfl, hR5⟩ := rdG_own hw5.own
        have hb25 : Below w2.heap.size w2 w5 := h4H.out.2.trans (hw5.bel.mono h4H.out.2.size)
        have hv5d : valG l5 = valG b * d := by rw [hv5, h4H.out.1]
        have C5 := Lib.hid (less_any l1 l5 h1H.out.1 hw5.dig hc5 (by rw [hv5d]; exact hdH.out.1) (by omega) w5 A1 A5 cap1 cap5 ((h1H.out.2.1.below hb25).mono hb25.size) hR5)
        have h5H := Lib.hid (And.intro hv5d hb25)
        clear hR5 hw5 hv5 hc5 hb25 hv5d C4
        go_wp2_with fail
        with_reducible refine C5.out.mono ?_
        rintro e w6 ⟨u6, l6, rfl, hw6, hv6, hc6, hl6⟩
        have hb26 : Below w2.heap.size w2 w6 := h5H.out.2.trans (hw6.bel.mono h5H.out.2.size)
        have hbr6 : Below wr.heap.size wr w6 := hb1H.out.trans (hb26.mono hb1H.out.size)
        have hq6 := hqH.out.below hbr6
        obtain ⟨Aq, capq, rfl, hRq, hAq⟩ := rdG_own2 hq6.own
        have hRq1 := Lib.hid (rdB_one (hRq.below ((Below.refl w6.heap.size w6).alloc (Nat.le_refl _) (Obj.cells #[Value.int .i64 (d : Int)] 3))))
        have h6H := Lib.hid (And.intro hw6 (And.intro hv6 (And.intro hc6 (And.intro hbr6 hq6))))
        clear hw6 hv6 hc6 hb26 hbr6 hq6 hRq C5
        go_wp2_with (at_builtin; refine wpList_append_read rfl _ _ 103 rfl w6.heap.size 3 i0 (.int .i64 0) 8 Tryz.underlying103 hi hz0 hz1 hz2 rfl _ 1 [.int .i64 (d : Int)] rfl (own_one w6 _) Aq lq.length capq (lq.map fun (n : Nat) => Value.int .i64 (n : Int)) rfl hAq (by rw [List.length_map]) hRq1.out (one_ints lq) (by unfold maxLen; omega) (by omega) (by simp) ?_; intro v' w1 hown1 hgrow1)
        have hb7 : Below w6.heap.size w6 w1 := ((Below.refl _ _).alloc (Nat.le_refl _) _).grown hgrow1 (by simp) (fun j hj => Nat.le_of_eq (Option.some.inj hj))
        have hown7 : w1.ownsRow w6.heap.size 3 1 v' (d :: lq).length ((d :: lq).map fun (n : Nat) => Value.int .i64 (n : Int)) := by rw [List.length_cons, Nat.add_comm]; exact hown1
        have hq7 : Hid (HeldG w.heap.size w w1 v' (d :: lq)) := Lib.hid ⟨ownsRow_base hown7 h6H.out.2.2.2.2.siz, fun y hy => by
          rcases List.mem_cons.1 hy with h | h
          · omega
          · exact hqH.out.dig y h, h6H.out.2.2.2.2.bel.trans (hb7.mono h6H.out.2.2.2.2.siz), Nat.le_trans h6H.out.2.2.2.2.siz hb7.size⟩
        have hr7 : Hid (HeldG w.heap.size w w1 u6 l6) := Lib.hid (by
          have h := h6H.out.1
          have hz : w.heap.size ≤ w5.heap.size := Nat.le_trans h1H.out.2.2.2.size h5H.out.2.size
          exact ⟨ownsRow_base (ownsRow_below h.own hb7) hz, h.dig, h6H.out.2.2.2.2.bel.trans (hb7.mono h6H.out.2.2.2.2.siz), Nat.le_trans h6H.out.2.2.2.2.siz hb7.size⟩)
        have hnx := Lib.hid (quot_next (valG b) (valG lq) (valG lr) (quotN i) 1 d (valG l1) hval.out h1H.out.2.2.1 hdH.out.1 hdH.out.2.1)
        clear hown1 hgrow1 hb7 hown7 hRq1
        go_wp2
        go_roundw
        case rel =>
          refine ⟨i + 1, d :: lq, l6, by omega, by go_num, Lib.hid (by rw [List.length_cons, hql.out]), by rw [List.length_cons]; omega, by omega, hq7.out, hr7.out, Lib.hid ?_, Lib.hid ?_, Lib.hid h6H.out.2.2.1⟩
          · rw [h6H.out.2.1, h5H.out.1, show valG (d :: lq) = d + 10000 * valG lq from rfl, hnx.out.1, quotN]
            rw [if_pos h0.out]
          · rw [h6H.out.2.1, h5H.out.1]; exact hnx.out.2
        case measure => simp [intOf]; omega
      · have e0 : ((i : Int) == 0) = false := by rw [beq_eq_false_iff_ne]; omega
        have h0 := Lib.hid h0'
        clear h0'
        obtain ⟨Ar, capr, rfl, hRr, hAr⟩ := rdG_own2 hr.own
        have C1 := Lib.hid (fun (w1 : World) (v' : Value) (h : w1.ownsRow wr.heap.size 3 1 v' (0 :: lr).length ((0 :: lr).map fun (n : Nat) => Value.int .i64 (n : Int))) => cut_any wr.heap.size (0 :: lr) (by simp; omega) w1 v' h)
        have hrdH := Lib.hid (And.intro hRr hr.dig)
        have hrH := Lib.hid hr
        have hqH := Lib.hid hq
        have hRr1 := Lib.hid (rdB_one (hRr.below ((Below.refl wr.heap.size wr).alloc (Nat.le_refl _) (Obj.cells #[Value.int .i64 0] 3))))
        clear hRr hr hq
        go_wp2_with (at_builtin; refine wpList_append_read rfl _ _ 103 rfl wr.heap.size 3 i0 (.int .i64 0) 8 Tryz.underlying103 hi hz0 hz1 hz2 rfl _ 1 [.int .i64 0] rfl (own_one wr _) Ar lr.length capr (lr.map fun (n : Nat) => Value.int .i64 (n : Int)) rfl hAr (by rw [List.length_map]) hRr1.out (one_ints lr) (by unfold maxLen; omega) (by omega) (by simp) ?_; intro v' w1 hown1 hgrow1)
        have hownH : Hid (w1.ownsRow wr.heap.size 3 1 v' (0 :: lr).length ((0 :: lr).map fun (n : Nat) => Value.int .i64 (n : Int))) := Lib.hid (by rw [List.length_cons, Nat.add_comm]; exact hown1)
        have hb1 : Below wr.heap.size wr w1 := ((Below.refl _ _).alloc (Nat.le_refl _) _).grown hgrow1 (by simp) (fun j hj => Nat.le_of_eq (Option.some.inj hj))
        have hb1H := Lib.hid hb1
        clear hown1 hgrow1 hb1 hRr1
        go_wp2_with fail
        with_reducible refine (C1.out w1 _ hownH.out).mono ?_
        rintro e w2 ⟨rfl, u, l1, rfl, ho, hv1, hc1, hl1, hm1⟩
        obtain ⟨A1, cap1, rfl, hR1⟩ := rdG_own ho
        have hd1 : ∀ d ∈ l1, d < 10000 := fun d hd => by
          rcases List.mem_cons.1 (hm1 d hd) with h | h
          · omega
          · exact hrdH.out.2 d h
        have hl1' : l1.length ≤ lr.length + 1 := by simpa using hl1
        have hvm : valG l1 = 0 + 10000 * valG lr := by rw [hv1]; rfl
        have hbw : Below w.heap.size w w2 := hrH.out.bel.trans (hb1H.out.mono hrH.out.siz)
        have C2 := Lib.hid (word_any l1 b hd1 hH.out.1 hc1 (quot_room _ _ 0 _ hlt.out (by decide) hvm) (by omega) (by omega) w2 A1 A cap1 cap hR1 ((hH.out.2.2.2.below hbw).mono hbw.size))
        have h1H := Lib.hid (And.intro hd1 (And.intro hR1 (And.intro hvm hbw)))
        clear hR1 hd1 hvm hbw hv1 hc1 hl1 hm1 ho C1
        go_wp2_with fail
        with_reducible refine C2.out.mono ?_
        rintro e w3 ⟨⟨d, rfl, hd9, hdl, hdu⟩, hb3⟩
        have hdH := Lib.hid (And.intro hdl (And.intro hdu hb3))
        have a1 : IntKind.u64.wrap (d : Int) = (d : Int) := by rw [IntKind.wrap_u64]; omega
        have C3 := Lib.hid (great_any d (by omega) w3)
        clear hdl hdu hb3 C2
        go_wp2_with fail
        with_reducible refine C3.out.mono ?_
        rintro e w4 ⟨u4, l4, rfl, hw4, hv4, hc4, hl4⟩
        obtain ⟨A4, cap4, rfl, hR4⟩ := rdG_own hw4.own
        have hb24 : Below w2.heap.size w2 w4 := hdH.out.2.2.trans (hw4.bel.mono hdH.out.2.2.size)
        have hbw4 : Below w.heap.size w w4 := h1H.out.2.2.2.trans (hb24.mono h1H.out.2.2.2.size)
        have C4 := Lib.hid (product_any b l4 hH.out.1 hw4.dig (by omega) w4 A A4 cap cap4 ((hH.out.2.2.2.below hbw4).mono hbw4.size) hR4)
        have h4H := Lib.hid (And.intro hv4 hb24)
        clear hR4 hw4 hv4 hc4 hb24 hbw4 C3
        go_wp2_with fail
        with_reducible refine C4.out.mono ?_
        rintro e w5 ⟨u5, l5, rfl, hw5, hv5, hc5, hl5⟩
        obtain ⟨A5, cap5, rfl, hR5⟩ := rdG_own hw5.own
        have hb25 : Below w2.heap.size w2 w5 := h4H.out.2.trans (hw5.bel.mono h4H.out.2.size)
        have hv5d : valG l5 = valG b * d := by rw [hv5, h4H.out.1]
        have C5 := Lib.hid (less_any l1 l5 h1H.out.1 hw5.dig hc5 (by rw [hv5d]; exact hdH.out.1) (by omega) w5 A1 A5 cap1 cap5 ((h1H.out.2.1.below hb25).mono hb25.size) hR5)
        have h5H := Lib.hid (And.intro hv5d hb25)
        clear hR5 hw5 hv5 hc5 hb25 hv5d C4
        go_wp2_with fail
        with_reducible refine C5.out.mono ?_
        rintro e w6 ⟨u6, l6, rfl, hw6, hv6, hc6, hl6⟩
        have hb26 : Below w2.heap.size w2 w6 := h5H.out.2.trans (hw6.bel.mono h5H.out.2.size)
        have hbr6 : Below wr.heap.size wr w6 := hb1H.out.trans (hb26.mono hb1H.out.size)
        have hq6 := hqH.out.below hbr6
        obtain ⟨Aq, capq, rfl, hRq, hAq⟩ := rdG_own2 hq6.own
        have hRq1 := Lib.hid (rdB_one (hRq.below ((Below.refl w6.heap.size w6).alloc (Nat.le_refl _) (Obj.cells #[Value.int .i64 (d : Int)] 3))))
        have h6H := Lib.hid (And.intro hw6 (And.intro hv6 (And.intro hc6 (And.intro hbr6 hq6))))
        clear hw6 hv6 hc6 hb26 hbr6 hq6 hRq C5
        go_wp2_with (at_builtin; refine wpList_append_read rfl _ _ 103 rfl w6.heap.size 3 i0 (.int .i64 0) 8 Tryz.underlying103 hi hz0 hz1 hz2 rfl _ 1 [.int .i64 (d : Int)] rfl (own_one w6 _) Aq lq.length capq (lq.map fun (n : Nat) => Value.int .i64 (n : Int)) rfl hAq (by rw [List.length_map]) hRq1.out (one_ints lq) (by unfold maxLen; omega) (by omega) (by simp) ?_; intro v' w1 hown1 hgrow1)
        have hb7 : Below w6.heap.size w6 w1 := ((Below.refl _ _).alloc (Nat.le_refl _) _).grown hgrow1 (by simp) (fun j hj => Nat.le_of_eq (Option.some.inj hj))
        have hown7 : w1.ownsRow w6.heap.size 3 1 v' (d :: lq).length ((d :: lq).map fun (n : Nat) => Value.int .i64 (n : Int)) := by rw [List.length_cons, Nat.add_comm]; exact hown1
        have hq7 : Hid (HeldG w.heap.size w w1 v' (d :: lq)) := Lib.hid ⟨ownsRow_base hown7 h6H.out.2.2.2.2.siz, fun y hy => by
          rcases List.mem_cons.1 hy with h | h
          · omega
          · exact hqH.out.dig y h, h6H.out.2.2.2.2.bel.trans (hb7.mono h6H.out.2.2.2.2.siz), Nat.le_trans h6H.out.2.2.2.2.siz hb7.size⟩
        have hr7 : Hid (HeldG w.heap.size w w1 u6 l6) := Lib.hid (by
          have h := h6H.out.1
          have hz : w.heap.size ≤ w5.heap.size := Nat.le_trans h1H.out.2.2.2.size h5H.out.2.size
          exact ⟨ownsRow_base (ownsRow_below h.own hb7) hz, h.dig, h6H.out.2.2.2.2.bel.trans (hb7.mono h6H.out.2.2.2.2.siz), Nat.le_trans h6H.out.2.2.2.2.siz hb7.size⟩)
        have hnx := Lib.hid (quot_next (valG b) (valG lq) (valG lr) (quotN i) 0 d (valG l1) hval.out h1H.out.2.2.1 hdH.out.1 hdH.out.2.1)
        clear hown1 hgrow1 hb7 hown7 hRq1
        go_wp2
        go_roundw
        case rel =>
          refine ⟨i + 1, d :: lq, l6, by omega, by go_num, Lib.hid (by rw [List.length_cons, hql.out]), by rw [List.length_cons]; omega, by omega, hq7.out, hr7.out, Lib.hid ?_, Lib.hid ?_, Lib.hid h6H.out.2.2.1⟩
          · rw [h6H.out.2.1, h5H.out.1, show valG (d :: lq) = d + 10000 * valG lq from rfl, hnx.out.1, quotN]
            rw [if_neg h0.out]
          · rw [h6H.out.2.1, h5H.out.1]; exact hnx.out.2
        case measure => simp [intOf]; omega
    · obtain rfl : n + 1 = i := by omega
      have hil : ¬ (((n + 1 : Nat) : Int) ≤ (n : Int)) := by omega
      have hfin := Lib.hid (quot_end (valG b) (valG lq) (valG lr) (10000 ^ n) (by rw [hval.out, quotN_pow]) hlt.out)
      obtain ⟨Ar, capr, rfl, hRr⟩ := rdG_own hr.own
      have hba : Below wr.heap.size wr (wr.alloc (Obj.cells #[Value.int .i64 2] 3)) := (Below.refl _ _).alloc (Nat.le_refl _) _
      have hR2 : RdB (wr.alloc (Obj.cells #[Value.int .i64 2] 3)) (wr.alloc (Obj.cells #[Value.int .i64 2] 3)).heap.size (some ⟨wr.heap.size, 0, none⟩) 1 ([2].map fun (d : Nat) => [Value.int .i64 (d : Int)]) := by
        obtain ⟨A2, cap2, e2, h2⟩ := rdG_own (l := [2]) (own_one wr (.int .i64 2))
        injection e2 with e21
        subst e21
        exact h2
      have C1 := Lib.hid (show Calls _ _ #[_, .slice (some ⟨wr.heap.size, 0, none⟩) 1 1] _ _ from product_any lr [2] hr.dig (by simp) (by simp; omega) (wr.alloc (Obj.cells #[Value.int .i64 2] 3)) Ar (some ⟨wr.heap.size, 0, none⟩) capr 1 ((hRr.below hba).mono hba.size) hR2)
      have hqH := Lib.hid (And.intro hq (And.intro hr.bel hba))
      clear hRr hR2 hba hr hq
      go_wp2_with fail
      with_reducible refine C1.out.mono ?_
      rintro e w2 ⟨u2, l2, rfl, hw2, hv2, hc2, hl2⟩
      obtain ⟨A2, cap2, rfl, hR2⟩ := rdG_own hw2.own
      have hbr2 : Below wr.heap.size wr w2 := hqH.out.2.2.trans (hw2.bel.mono hqH.out.2.2.size)
      have hq2 := hqH.out.1.below hbr2
      have C2 := below_any l2 b hw2.dig hH.out.1 hc2 hH.out.2.1 (by simp at hl2; omega) w2 A2 A cap2 cap hR2 ((hH.out.2.2.2.below hq2.bel).mono hq2.bel.size)
      have hv2' : valG l2 = 2 * valG lr := by rw [hv2, Nat.mul_comm]; rfl
      by_cases hlow : 2 * valG lr < valG b
      · rw [show belowB l2 b = true by unfold belowB; rw [hv2']; exact decide_eq_true hlow] at C2
        have hlowH := Lib.hid hlow
        have C2H := Lib.hid C2
        have hq2H := Lib.hid hq2
        clear hlow C2 hq2 hR2 hw2 hv2 hv2' hc2 hl2 hbr2 C1
        go_wp2_with fail
        with_reducible refine C2H.out.mono ?_
        rintro e w3 ⟨rfl, hb3⟩
        have hq3 := hq2H.out.below hb3
        have C3 := Lib.hid (cut_any w.heap.size lq (by omega) w3 _ hq3.own)
        have hq3H := Lib.hid hq3
        clear hq3 hb3 C2H
        go_wp2_with fail
        with_reducible refine C3.out.mono ?_
        rintro e w4 ⟨rfl, u, l', rfl, ho, hv, hc, hl, hm⟩
        have hoH := Lib.hid (And.intro ho (And.intro hv (And.intro hc (And.intro hl hm))))
        clear ho hv hc hl hm
        go_wp2
        go_ret
        exact ⟨_, l', rfl, ⟨hoH.out.1, fun d hd => hq3H.out.dig d (hoH.out.2.2.2.2 d hd), hq3H.out.bel, hq3H.out.siz⟩, by rw [hoH.out.2.1, hfin.out, if_pos hlowH.out], hoH.out.2.2.1, by have := hoH.out.2.2.2.1; omega⟩
      · rw [show belowB l2 b = false by unfold belowB; rw [hv2']; exact decide_eq_false hlow] at C2
        have hlowH := Lib.hid hlow
        have C2H := Lib.hid C2
        have hq2H := Lib.hid hq2
        clear hlow C2 hq2 hR2 hw2 hv2 hv2' hc2 hl2 hbr2 C1
        go_wp2_with fail
        with_reducible refine C2H.out.mono ?_
        rintro e w3 ⟨rfl, hb3⟩
        have hq3 := hq2H.out.below hb3
        obtain ⟨Aq, capq, rfl, hRq⟩ := rdG_own hq3.own
        have C3 := Lib.hid (next_any lq hq3.dig (by omega) w3 Aq capq hRq)
        have hq3H := Lib.hid hq3
        clear hq3 hb3 C2H hRq
        go_wp2_with fail
        with_reducible refine C3.out.mono ?_
        rintro e w4 ⟨u, l', rfl, hw4, hv, hc, hl⟩
        have hoH := Lib.hid (And.intro hw4 (And.intro hv (And.intro hc hl)))
        clear hw4 hv hc hl
        go_wp2
        go_ret
        exact ⟨_, l', rfl, ⟨ownsRow_base hoH.out.1.own hq3H.out.siz, hoH.out.1.dig, hq3H.out.bel.trans (hoH.out.1.bel.mono hq3H.out.siz), Nat.le_trans hq3H.out.siz hoH.out.1.bel.size⟩, by rw [hoH.out.2.1, hfin.out, if_neg hlowH.out], hoH.out.2.2.1, by have := hoH.out.2.2.2; omega⟩
end Go.Proofs.YthobaffgllipfaaGreat
