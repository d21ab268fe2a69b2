/-
 aggs: may of any argument; SUM, LARGE behind their names; aggs: rows, cols, whole; COUNT, COUNTA; aggs: MIN, MAX, AVG, MEDIAN behind their names.
-/
import Derived.Test.YtgmhifafbebjfaaGreatDoorAArg
import Derived.Test.YtgmhifafbebjfaaGreatDoorACol
import Derived.Test.YtgmhifafbebjfaaGreatDoorMg41
set_option maxRecDepth 100000
set_option maxHeartbeats 32000000
namespace Go.Proofs.YtgmhifafbebjfaaGreatDoor
open Go.RowKit

theorem gmay_any (x : AL) (w : World) (hin : x.In w w.heap.size) : Calls Tryz.prog 37 #[.agg #[.bool x.many, .int .i64 x.v.t, .int .i64 x.v.n, .string x.v.s, .bool x.v.b, .int .i64 x.v.c, .int .i64 x.t, .int .i64 x.l, .int .i64 x.b, .int .i64 x.r, .slice x.A x.es.length x.cap]] w fun e w' => e = .returned (.bool (argMay x)) ∧ Below w.heap.size w w' := by
 obtain ⟨h1, h2, h3, h4⟩ := hin
 obtain ⟨m, ⟨t, n, s, b, c⟩, rt, rl, rb, rr, A, cap, es⟩ := x
 have hn : -9223372036854775808 ≤ n ∧ n ≤ 9223372036854775807 := h1
 unfold argMay
 cases m
 ·have e : decide (es.length = 0) = decide (es = []) := by cases es <;> simp
  rw [if_neg (by simp)]
  have := gmay_single t n s b c hn rt rl rb rr A es.length cap w
  rw [e] at this
  exact this
 ·rw [if_pos rfl]
  cases hm : mayRectB rt rl rb rr
  ·have := gmay_m0 t n s b c hn rt rl rb rr A es.length cap hm w
   simpa using this
  ·cases hz : vEq t n s b c 0 0 ⟨#[]⟩ false 0
   ·have := gmay_m1 t n s b c hn rt rl rb rr A es.length cap hm hz w
    simpa [vZero, hz] using this
   ·have := gmay_many t n s b c hn rt rl rb rr A es.length cap ⟨true, ⟨t, n, s, b, c⟩, rt, rl, rb, rr, A, cap, es⟩ rfl rfl rfl rfl rfl rfl hm hz w h2 h3 h4
    simpa [vZero, hz] using this
theorem mays_any (l : List AL) : MaysA l := ⟨fun x _ w h => gmay_any x w h⟩
def ArgsC (w : World) (v : Value) (l : List AL) : Prop := ∃ A cap, v = .slice A l.length cap ∧ l.length ≤ cap ∧ RdB w w.heap.size A 11 (l.map AL.cs) ∧ ∀ x ∈ l, x.In w w.heap.size
theorem callA_of {name : ByteArray} {l : List AL} {text : Int} {r : VL} (h0 : 0 ≤ text ∧ text ≤ 1024) (h : l.all argMay = true) (ht : takesA name (l.map fun x => x.many) = true) (hn : ∀ x ∈ l, ¬ x.v.t = 4) : callA name l text r = r := by
 unfold callA
 rw [if_neg (by omega), h, if_neg (by simp), ht, if_neg (by simp)]
 unfold callAS
 rw [List.find?_eq_none.2 (by intro x hx; simpa using hn x hx)]
theorem lacall_any {name : ByteArray} {l : List AL} {text : Int} {r : VL} (hs : name.size ≤ 16) (hlen : l.length ≤ 16) (h0 : 0 ≤ text ∧ text ≤ 1024) (h : l.all argMay = true) (ht : takesA name (l.map fun x => x.many) = true) (hn : ∀ x ∈ l, ¬ x.v.t = 4) (hD : DoA name l text r) {w : World} (hTab : Tab w) {v : Value} (hv : ArgsC w v l) : Calls Tryz.prog 8 #[.string name, v, .int .i64 text] w fun e w' => e = .returned (.agg #[.int .i64 (r).t, .int .i64 (r).n, .string (r).s, .bool (r).b, .int .i64 (r).c]) ∧ Below w.heap.size w w' := by
 obtain ⟨A, cap, rfl, hcap, hR, hin⟩ := hv
 have := acall_any name (by omega) l (by omega) text h0 r (mays_any l) (fun _ _ _ => hD) w hTab A cap hcap hR hin
 rwa [callA_of h0 h ht hn] at this
theorem fourth_of {a b c d a' b' c' d' : Value} (h : Value.agg #[a, b, c, d] = Value.agg #[a', b', c', d']) : d = d' := by
 injection h with h
 injection h with h
 injection h with _ h
 injection h with _ h
 injection h with _ h
 injection h with h _
theorem ata_SUM (l : List AL) (hlen : l.length ≤ 16) (hN : (itemsL l).length ≤ 2932031007402) (text : Int) : DoA ⟨#[83, 85, 77]⟩ l text (faultR (itemsL l) (fitL (numsL (itemsL l)).sum)) := ⟨fun w bl base kd lo hi d A cap hlk hBx hTab hcap hR hin => by
 have e : lookL aZero (aTab bl) ⟨#[83, 85, 77]⟩ = .agg #[.string ⟨#[120]⟩, .int .i64 1, .int .i64 16, .func (.func 169) #[] #[.pointer (some ⟨bl.getD 0 0, 0, none⟩)]] := by kernel_rfl
 have hd := fourth_of (e.symm.trans hlk)
 exact ⟨169, #[.pointer (some ⟨bl.getD 0 0, 0, none⟩)], hd.symm, fun _ _ => by simp [go_sem], anum_any l (by omega) hN text w A cap hR hin (bl.getD 0 0) 101 #[] (hBx (bl.getD 0 0, .func (.func 101) #[] #[]) (by simp [aSrc])).2 (fun _ _ => by simp [go_sem]) _ (fun _ w2 A2 cap2 _ h => asumf_any _ (nums_ok (items_ok hin)) (Nat.le_trans (numsL_len _) hN) w2 A2 cap2 h)⟩⟩
theorem ata_LARGE (x0 x1 : AL) (hN : (itemsL [x0]).length ≤ 2932031007402) (text : Int) : DoA ⟨#[76, 65, 82, 71, 69]⟩ [x0, x1] text (largeR x0 x1) := ⟨fun w bl base kd lo hi d A cap hlk hBx hTab hcap hR hin => by
 have e : lookL aZero (aTab bl) ⟨#[76, 65, 82, 71, 69]⟩ = .agg #[.string ⟨#[114, 118]⟩, .int .i64 2, .int .i64 2, .func (.func 119) #[] #[]] := by kernel_rfl
 have hd := fourth_of (e.symm.trans hlk)
 exact ⟨119, #[], hd.symm, fun _ _ => by simp [go_sem], alarge_any x0 x1 hN text w A cap hR hin hcap⟩⟩

theorem rect_in {t l b r : Int} (h : mayRectB t l b r = true) : 1 ≤ t ∧ t ≤ b ∧ b ≤ 1048576 ∧ 1 ≤ l ∧ l ≤ r ∧ r ≤ 16384 := by
 unfold mayRectB mayB at h
 simp at h
 omega
def rowsL (x : AL) : Int := x.b - x.t + 1
def colsL (x : AL) : Int := x.r - x.l + 1
theorem arows_any (x : AL) (h : mayRectB x.t x.l x.b x.r = true) (w : World) : Calls Tryz.prog 123 #[.agg #[.bool x.many, .int .i64 x.v.t, .int .i64 x.v.n, .string x.v.s, .bool x.v.b, .int .i64 x.v.c, .int .i64 x.t, .int .i64 x.l, .int .i64 x.b, .int .i64 x.r, .slice x.A x.es.length x.cap]] w fun e w' => e = .returned (.int .i64 (rowsL x)) ∧ Below w.heap.size w w' := by
 obtain ⟨h1, h2, h3, h4, h5, h6⟩ := rect_in h
 obtain ⟨m, ⟨t, n, s, bb, c⟩, rt, rl, rb, rr, A, cap, es⟩ := x
 unfold rowsL
 dsimp only at h1 h2 h3 h4 h5 h6 ⊢
 have e1 : IntKind.i64.wrap (rb - rt) = rb - rt := IntWalk.i64_in _ (by omega)
 have e2 : IntKind.i64.wrap (rb - rt + 1) = rb - rt + 1 := IntWalk.i64_in _ (by omega)
 clear h
 go_enter Tryz.func123, Tryz.ntmps123
 go_wp2
 go_ret
 exact ⟨by go_num, belq⟩
theorem acols_any (x : AL) (h : mayRectB x.t x.l x.b x.r = true) (w : World) : Calls Tryz.prog 125 #[.agg #[.bool x.many, .int .i64 x.v.t, .int .i64 x.v.n, .string x.v.s, .bool x.v.b, .int .i64 x.v.c, .int .i64 x.t, .int .i64 x.l, .int .i64 x.b, .int .i64 x.r, .slice x.A x.es.length x.cap]] w fun e w' => e = .returned (.int .i64 (colsL x)) ∧ Below w.heap.size w w' := by
 obtain ⟨h1, h2, h3, h4, h5, h6⟩ := rect_in h
 obtain ⟨m, ⟨t, n, s, bb, c⟩, rt, rl, rb, rr, A, cap, es⟩ := x
 unfold colsL
 dsimp only at h1 h2 h3 h4 h5 h6 ⊢
 have e1 : IntKind.i64.wrap (rr - rl) = rr - rl := IntWalk.i64_in _ (by omega)
 have e2 : IntKind.i64.wrap (rr - rl + 1) = rr - rl + 1 := IntWalk.i64_in _ (by omega)
 clear h
 go_enter Tryz.func125, Tryz.ntmps125
 go_wp2
 go_ret
 exact ⟨by go_num, belq⟩
theorem awhole_any (n : Int) (hn : -900000000000000 ≤ n ∧ n ≤ 900000000000000) (w : World) : Calls Tryz.prog 122 #[.int .i64 n] w fun e w' => e = .returned (.agg #[.int .i64 ((numL (n * 10000))).t, .int .i64 ((numL (n * 10000))).n, .string ((numL (n * 10000))).s, .bool ((numL (n * 10000))).b, .int .i64 ((numL (n * 10000))).c]) ∧ Below w.heap.size w w' := by
 have C := Lib.hid (vnum_any (n * 10000) (by omega) (w.alloc (.cells #[.int .i64 0, .int .i64 0, .string ⟨#[]⟩, .bool false, .int .i64 0] 26)))
 have e1 : IntKind.i64.wrap (n * 10000) = n * 10000 := IntWalk.i64_in _ (by omega)
 have e2 : IntKind.i64.wrap n = n := IntWalk.i64_in _ (by omega)
 go_enter Tryz.func122, Tryz.ntmps122
 go_wp2_with fail
 refine C.out.mono ?_
 clear C
 rintro e w1 ⟨rfl, hb⟩
 obtain ⟨hc, hf, hz⟩ := bkeep hb (w.heap.size + 1) (by simp)
 have l1 : w.heap.size < w1.heap.size := by omega
 go_wp2
 refine bodyPost_ret (v := .agg #[.int .i64 ((numL (n * 10000))).t, .int .i64 ((numL (n * 10000))).n, .string ((numL (n * 10000))).s, .bool ((numL (n * 10000))).b, .int .i64 ((numL (n * 10000))).c]) ?_ rfl ⟨rfl, belq⟩
 simp [results, Tryz.results122, go_sem, numL, *]
theorem aisn_any (v : VL) (z : Bool) (hz : decide (v.t = 1) = z) (w : World) : Calls Tryz.prog 111 #[.agg #[.int .i64 v.t, .int .i64 v.n, .string v.s, .bool v.b, .int .i64 v.c]] w fun e w' => e = .returned (.bool z) ∧ Below w.heap.size w w' := by
 go_enter Tryz.func111, Tryz.ntmps111
 go_wp2
 refine bodyPost_ret (v := .bool z) ?_ rfl ⟨rfl, belq⟩
 simp [results, Tryz.results111, go_sem, ← hz]
 by_cases h9 : v.t = 1 <;> simp [h9]
theorem aisv_any (v : VL) (z : Bool) (hz : (!decide (v.t = 0)) = z) (w : World) : Calls Tryz.prog 112 #[.agg #[.int .i64 v.t, .int .i64 v.n, .string v.s, .bool v.b, .int .i64 v.c]] w fun e w' => e = .returned (.bool z) ∧ Below w.heap.size w w' := by
 go_enter Tryz.func112, Tryz.ntmps112
 go_wp2
 refine bodyPost_ret (v := .bool z) ?_ rfl ⟨rfl, belq⟩
 simp [results, Tryz.results112, go_sem, ← hz]
 by_cases h9 : v.t = 0 <;> simp [h9]
theorem acnt_any (l : List AL) (hlen : l.length ≤ 1649267441664) (hN : (itemsL l).length ≤ 2932031007402) (text : Int) (w : World) (A : Option Addr) (cap : Nat) (hR : RdB w w.heap.size A 11 (l.map AL.cs)) (hin : ∀ x ∈ l, x.In w w.heap.size) (pb g : Nat) (hbox : w.cell? ⟨pb, 0, none⟩ = some (.func (.func g) #[] #[])) (hgo : ∀ args w, Sem.run Tryz.prog (callFunc g args) w = .ok (.enter g args) w) (p : VL → Bool) (hP : ∀ (x : VL) (z : Bool), p x = z → ∀ w, Calls Tryz.prog g #[.agg #[.int .i64 x.t, .int .i64 x.n, .string x.s, .bool x.b, .int .i64 x.c]] w fun e w' => e = .returned (.bool z) ∧ Below w.heap.size w w') : Calls Tryz.prog 179 #[.slice A l.length cap, .int .i64 text, .pointer (some ⟨pb, 0, none⟩)] w fun e w' => e = .returned (.agg #[.int .i64 ((numL (((itemsL l).countP p : Nat) * 10000))).t, .int .i64 ((numL (((itemsL l).countP p : Nat) * 10000))).n, .string ((numL (((itemsL l).countP p : Nat) * 10000))).s, .bool ((numL (((itemsL l).countP p : Nat) * 10000))).b, .int .i64 ((numL (((itemsL l).countP p : Nat) * 10000))).c]) ∧ Below w.heap.size w w' := by
 have b0 : Below w.heap.size w (w.alloc (.cells #[.int .i64 0, .int .i64 0, .string ⟨#[]⟩, .bool false, .int .i64 0] 26)) := (Below.refl _ _).alloc (Nat.le_refl _) _
 have C1 := Lib.hid (aitems_any l hlen (by omega) (w.alloc (.cells #[.int .i64 0, .int .i64 0, .string ⟨#[]⟩, .bool false, .int .i64 0] 26)) A cap ((hR.below b0).mono b0.size) (fun x hx => ((hin x hx).below b0).mono b0.size))
 have hpl : pb < w.heap.size := World.block_lt_of_cell? _ _ hbox
 have hP' := Lib.hid hP
 clear hR hin hP
 obtain ⟨m, hm⟩ : ∃ m, itemsL l = m := ⟨_, rfl⟩
 rw [hm] at hN C1 ⊢
 obtain ⟨r, hr⟩ : ∃ r, numL ((m.countP p : Nat) * 10000) = r := ⟨_, rfl⟩
 rw [hr]
 have hr' := Lib.hid hr
 clear hm hr
 go_enter Tryz.func179, Tryz.ntmps179
 go_wp2_with fail
 refine C1.out.mono ?_
 clear C1
 rintro e w1 ⟨⟨v1, rfl, hown1⟩, hb1⟩
 obtain ⟨A1, cap1, rfl, hr1⟩ := own_rdv hown1
 have hR' := Lib.hid hr1
 have g1 : Below w.heap.size w w1 := b0.trans (hb1.mono b0.size)
 have hbx : w1.cell? ⟨pb, 0, none⟩ = some (.func (.func g) #[] #[]) := (g1.cell (p := ⟨pb, 0, none⟩) hpl).trans hbox
 obtain ⟨hc1, hf1, hz1⟩ := bkeep hb1 (w.heap.size + 1) (by simp)
 clear hr1 hown1 hbox
 have hpl1 : pb < w1.heap.size := by have := g1.size; omega
 have g1' := Lib.hid g1
 clear hb1 g1 b0
 go_wp2
 go_loopw [6, 12] (fun v i wr => ∃ k : Nat, k ≤ m.length ∧ i = .int .i64 (k : Int) ∧ v = .int .i64 ((m.take k).countP p : Nat) ∧ Below w1.heap.size w1 wr) (fun _ i _ => m.length - (intOf i).toNat)
 case atStart => exact ⟨0, Nat.zero_le _, rfl, rfl, Below.refl _ _⟩
 case round =>
  obtain ⟨k, hk, rfl, rfl, hbr⟩ := hrel
  have hzr := hbr.size
  have hbw : wr.cell? ⟨pb, 0, none⟩ = some (.func (.func g) #[] #[]) := (hbr.cell (p := ⟨pb, 0, none⟩) hpl1).trans hbx
  have hpn : pb ≠ wr.heap.size := by omega
  have hpl2 : pb < wr.heap.size := by omega
  have hwr : w.heap.size < wr.heap.size := by omega
  have hwn : w.heap.size ≠ wr.heap.size := by omega
  by_cases hlt : k < m.length
  ·obtain ⟨x, hx⟩ : ∃ x, m[k]? = some x := ⟨_, List.getElem?_eq_getElem hlt⟩
   obtain ⟨ab, ao, hA2, hab, hcell⟩ := (hR'.out.below hbr) k x.cs (by rw [List.getElem?_map, hx]; rfl)
   obtain rfl : A1 = some ⟨ab, ao, none⟩ := hA2
   have hx0 : wr.cell? ⟨ab, ao + k * 5, none⟩ = some (.int .i64 x.t) := hcell 0 _ rfl
   have hx1 : wr.cell? ⟨ab, ao + k * 5 + 1, none⟩ = some (.int .i64 x.n) := hcell 1 _ rfl
   have hx2 : wr.cell? ⟨ab, ao + k * 5 + 2, none⟩ = some (.string x.s) := hcell 2 _ rfl
   have hx3 : wr.cell? ⟨ab, ao + k * 5 + 3, none⟩ = some (.bool x.b) := hcell 3 _ rfl
   have hx4 : wr.cell? ⟨ab, ao + k * 5 + 4, none⟩ = some (.int .i64 x.c) := hcell 4 _ rfl
   have habr : ab < wr.heap.size := by omega
   have hkl : (k : Int) < (m.length : Int) := by omega
   have hne : ab ≠ wr.heap.size := by omega
   have hts : m.take (k + 1) = m.take k ++ [x] := by rw [List.take_add_one, hx]; rfl
   obtain ⟨z, hz⟩ : ∃ z, p x = z := ⟨_, rfl⟩
   have CP := Lib.hid (hP'.out x z hz (wr.alloc (.cells #[.int .i64 x.t, .int .i64 x.n, .string x.s, .bool x.b, .int .i64 x.c] 26)))
   have hcnt : Hid (((m.take (k + 1)).countP p : Nat) = (m.take k).countP p + (if z = true then 1 else 0)) := Lib.hid (by
    rw [hts, List.countP_append, List.countP_singleton, hz])
   have hc0 : (m.take k).countP p ≤ k := Nat.le_trans List.countP_le_length (by rw [List.length_take]; omega)
   generalize (m.take k).countP p = q at *
   have hwq : IntKind.i64.wrap ((q : Int) + 1) = (q : Int) + 1 := IntWalk.i64_in _ (by omega)
   clear hx hcell hts hz
   go_wp2_with fail
   refine CP.out.mono ?_
   clear CP
   rintro e w3 ⟨rfl, hb3⟩
   have g3 : Below w1.heap.size w1 w3 := (hbr.alloc (by omega) _).trans (hb3.mono (by simp; omega))
   have hg3 := Lib.hid g3
   have hz3 := hb3.size
   simp only [World.size_alloc] at hz3
   clear g3 hb3
   cases z
   ·go_wp2
    exact ⟨⟨k + 1, by omega, by go_num, by rw [hcnt.out]; simp, hg3.out⟩, by simp [intOf]; omega⟩
   ·go_wp2
    exact ⟨⟨k + 1, by omega, by go_num, by rw [hcnt.out]; simp, hg3.out⟩, by simp [intOf]; omega⟩
  ·obtain rfl : k = m.length := by omega
   have hkl : ¬ (m.length : Int) < (m.length : Int) := by omega
   rw [List.take_length]
   have hc0 : m.countP p ≤ m.length := List.countP_le_length
   have CW := awhole_any (m.countP p : Nat) (by omega) wr
   rw [hr'.out] at CW
   have CW := Lib.hid CW
   clear hr'
   generalize m.countP p = q at *
   have g9 : Below w.heap.size w wr := g1'.out.trans (hbr.mono (by omega))
   go_wp2_with fail
   refine CW.out.mono ?_
   clear CW
   rintro e w3 ⟨rfl, hb3⟩
   have g8 : Below w.heap.size w w3 := g9.trans (hb3.mono (by omega))
   have g7 : Below w1.heap.size w1 w3 := hbr.trans (hb3.mono (by omega))
   have hr0 : w3.cell? ⟨w.heap.size, 0, none⟩ = some (.int .i64 0) := by rw [g7.cell (by dsimp only; omega), hc1 _ _ (by omega)]; simp
   have hs0 : w3.frozen? ⟨w.heap.size, 0, none⟩ = false := by rw [g7.frozen (by dsimp only; omega), hf1 _ _ (by omega)]; simp
   have hr1 : w3.cell? ⟨w.heap.size, 1, none⟩ = some (.int .i64 0) := by rw [g7.cell (by dsimp only; omega), hc1 _ _ (by omega)]; simp
   have hs1 : w3.frozen? ⟨w.heap.size, 1, none⟩ = false := by rw [g7.frozen (by dsimp only; omega), hf1 _ _ (by omega)]; simp
   have hr2 : w3.cell? ⟨w.heap.size, 2, none⟩ = some (.string ⟨#[]⟩) := by rw [g7.cell (by dsimp only; omega), hc1 _ _ (by omega)]; simp
   have hs2 : w3.frozen? ⟨w.heap.size, 2, none⟩ = false := by rw [g7.frozen (by dsimp only; omega), hf1 _ _ (by omega)]; simp
   have hr3 : w3.cell? ⟨w.heap.size, 3, none⟩ = some (.bool false) := by rw [g7.cell (by dsimp only; omega), hc1 _ _ (by omega)]; simp
   have hs3 : w3.frozen? ⟨w.heap.size, 3, none⟩ = false := by rw [g7.frozen (by dsimp only; omega), hf1 _ _ (by omega)]; simp
   have hr4 : w3.cell? ⟨w.heap.size, 4, none⟩ = some (.int .i64 0) := by rw [g7.cell (by dsimp only; omega), hc1 _ _ (by omega)]; simp
   have hs4 : w3.frozen? ⟨w.heap.size, 4, none⟩ = false := by rw [g7.frozen (by dsimp only; omega), hf1 _ _ (by omega)]; simp
   have z8 := hb3.size
   have l3 : w.heap.size < w3.heap.size := by omega
   clear hc1 hf1 hbr g7 hb3 g9
   go_wp2
   refine bodyPost_ret (v := .agg #[.int .i64 (r).t, .int .i64 (r).n, .string (r).s, .bool (r).b, .int .i64 (r).c]) ?_ rfl ⟨rfl, belq⟩
   simp [results, Tryz.results179, go_sem, *]

theorem ata_MIN (l : List AL) (hlen : l.length ≤ 16) (hN : (itemsL l).length ≤ 2932031007402) (text : Int) : DoA ⟨#[77, 73, 78]⟩ l text (faultR (itemsL l) (someR (numsL (itemsL l)) (Lib.minOf (numsL (itemsL l))))) := ⟨fun w bl base kd lo hi d A cap hlk hBx hTab hcap hR hin => by
 have e : lookL aZero (aTab bl) ⟨#[77, 73, 78]⟩ = .agg #[.string ⟨#[120]⟩, .int .i64 1, .int .i64 16, .func (.func 169) #[] #[.pointer (some ⟨bl.getD 3 0, 0, none⟩)]] := by kernel_rfl
 have hd := fourth_of (e.symm.trans hlk)
 have hb1 := (hBx (bl.getD 3 0, .func (.func 174) #[] #[.pointer (some ⟨bl.getD 2 0, 0, none⟩)]) (by simp [aSrc])).2
 have hb2 := (hBx (bl.getD 2 0, .func (.func 106) #[] #[]) (by simp [aSrc])).2
 have hnb := nums_ok (items_ok hin)
 have hNL := Nat.le_trans (numsL_len (itemsL l)) hN
 exact ⟨169, #[.pointer (some ⟨bl.getD 3 0, 0, none⟩)], hd.symm, fun _ _ => by simp [go_sem], anum_any l (by omega) hN text w A cap hR hin (bl.getD 3 0) 174 #[.pointer (some ⟨bl.getD 2 0, 0, none⟩)] hb1 (fun _ _ => by simp [go_sem]) _ (fun _ w2 A2 cap2 q h =>
  agsome_any _ w2 A2 cap2 _ 106 h ((q.cell (p := ⟨bl.getD 2 0, 0, none⟩) (World.block_lt_of_cell? _ _ hb2)).trans hb2) (fun _ _ => by simp [go_sem]) _ (fun h0 => hnb _ (minOf_is h0).1) (fun h0 w3 A3 cap3 h3 => amin_any _ h0 hNL w3 A3 cap3 h3))⟩⟩
theorem ata_MAX (l : List AL) (hlen : l.length ≤ 16) (hN : (itemsL l).length ≤ 2932031007402) (text : Int) : DoA ⟨#[77, 65, 88]⟩ l text (faultR (itemsL l) (someR (numsL (itemsL l)) (Lib.maxOf (numsL (itemsL l))))) := ⟨fun w bl base kd lo hi d A cap hlk hBx hTab hcap hR hin => by
 have e : lookL aZero (aTab bl) ⟨#[77, 65, 88]⟩ = .agg #[.string ⟨#[120]⟩, .int .i64 1, .int .i64 16, .func (.func 169) #[] #[.pointer (some ⟨bl.getD 5 0, 0, none⟩)]] := by kernel_rfl
 have hd := fourth_of (e.symm.trans hlk)
 have hb1 := (hBx (bl.getD 5 0, .func (.func 174) #[] #[.pointer (some ⟨bl.getD 4 0, 0, none⟩)]) (by simp [aSrc])).2
 have hb2 := (hBx (bl.getD 4 0, .func (.func 107) #[] #[]) (by simp [aSrc])).2
 have hnb := nums_ok (items_ok hin)
 have hNL := Nat.le_trans (numsL_len (itemsL l)) hN
 exact ⟨169, #[.pointer (some ⟨bl.getD 5 0, 0, none⟩)], hd.symm, fun _ _ => by simp [go_sem], anum_any l (by omega) hN text w A cap hR hin (bl.getD 5 0) 174 #[.pointer (some ⟨bl.getD 4 0, 0, none⟩)] hb1 (fun _ _ => by simp [go_sem]) _ (fun _ w2 A2 cap2 q h =>
  agsome_any _ w2 A2 cap2 _ 107 h ((q.cell (p := ⟨bl.getD 4 0, 0, none⟩) (World.block_lt_of_cell? _ _ hb2)).trans hb2) (fun _ _ => by simp [go_sem]) _ (fun h0 => hnb _ (maxOf_is h0).1) (fun h0 w3 A3 cap3 h3 => amax_any _ h0 hNL w3 A3 cap3 h3))⟩⟩
theorem ata_AVG (l : List AL) (hlen : l.length ≤ 16) (hN : (itemsL l).length ≤ 2932031007402) (text : Int) : DoA ⟨#[65, 86, 71]⟩ l text (faultR (itemsL l) (someR (numsL (itemsL l)) (meanL (numsL (itemsL l))))) := ⟨fun w bl base kd lo hi d A cap hlk hBx hTab hcap hR hin => by
 have e : lookL aZero (aTab bl) ⟨#[65, 86, 71]⟩ = .agg #[.string ⟨#[120]⟩, .int .i64 1, .int .i64 16, .func (.func 169) #[] #[.pointer (some ⟨bl.getD 7 0, 0, none⟩)]] := by kernel_rfl
 have hd := fourth_of (e.symm.trans hlk)
 have hb1 := (hBx (bl.getD 7 0, .func (.func 174) #[] #[.pointer (some ⟨bl.getD 6 0, 0, none⟩)]) (by simp [aSrc])).2
 have hb2 := (hBx (bl.getD 6 0, .func (.func 108) #[] #[]) (by simp [aSrc])).2
 have hnb := nums_ok (items_ok hin)
 have hNL := Nat.le_trans (numsL_len (itemsL l)) hN
 exact ⟨169, #[.pointer (some ⟨bl.getD 7 0, 0, none⟩)], hd.symm, fun _ _ => by simp [go_sem], anum_any l (by omega) hN text w A cap hR hin (bl.getD 7 0) 174 #[.pointer (some ⟨bl.getD 6 0, 0, none⟩)] hb1 (fun _ _ => by simp [go_sem]) _ (fun _ w2 A2 cap2 q h =>
  agsome_any _ w2 A2 cap2 _ 108 h ((q.cell (p := ⟨bl.getD 6 0, 0, none⟩) (World.block_lt_of_cell? _ _ hb2)).trans hb2) (fun _ _ => by simp [go_sem]) _ (fun h0 => ⟨le_meanL h0 (fun x hx => (hnb x hx).1), meanL_le h0 (fun x hx => (hnb x hx).2)⟩) (fun h0 w3 A3 cap3 h3 => amean_any _ hnb h0 hNL w3 A3 cap3 h3))⟩⟩
theorem ata_MEDIAN (l : List AL) (hlen : l.length ≤ 16) (hN : (itemsL l).length ≤ 2932031007402) (text : Int) : DoA ⟨#[77, 69, 68, 73, 65, 78]⟩ l text (faultR (itemsL l) (someR (numsL (itemsL l)) (medianL (numsL (itemsL l))))) := ⟨fun w bl base kd lo hi d A cap hlk hBx hTab hcap hR hin => by
 have e : lookL aZero (aTab bl) ⟨#[77, 69, 68, 73, 65, 78]⟩ = .agg #[.string ⟨#[120]⟩, .int .i64 1, .int .i64 16, .func (.func 169) #[] #[.pointer (some ⟨bl.getD 9 0, 0, none⟩)]] := by kernel_rfl
 have hd := fourth_of (e.symm.trans hlk)
 have hb1 := (hBx (bl.getD 9 0, .func (.func 174) #[] #[.pointer (some ⟨bl.getD 8 0, 0, none⟩)]) (by simp [aSrc])).2
 have hb2 := (hBx (bl.getD 8 0, .func (.func 109) #[] #[]) (by simp [aSrc])).2
 have hnb := nums_ok (items_ok hin)
 have hNL := Nat.le_trans (numsL_len (itemsL l)) hN
 exact ⟨169, #[.pointer (some ⟨bl.getD 9 0, 0, none⟩)], hd.symm, fun _ _ => by simp [go_sem], anum_any l (by omega) hN text w A cap hR hin (bl.getD 9 0) 174 #[.pointer (some ⟨bl.getD 8 0, 0, none⟩)] hb1 (fun _ _ => by simp [go_sem]) _ (fun _ w2 A2 cap2 q h =>
  agsome_any _ w2 A2 cap2 _ 109 h ((q.cell (p := ⟨bl.getD 8 0, 0, none⟩) (World.block_lt_of_cell? _ _ hb2)).trans hb2) (fun _ _ => by simp [go_sem]) _ (fun h0 => ⟨le_medianL h0 (fun x hx => (hnb x hx).1), medianL_le h0 (fun x hx => (hnb x hx).2)⟩) (fun h0 w3 A3 cap3 h3 => amedian_any _ hnb h0 hNL w3 A3 cap3 h3))⟩⟩
end Go.Proofs.YtgmhifafbebjfaaGreatDoor
