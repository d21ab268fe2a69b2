/-
 aggs: BLANKS, COUNTIF, ROWS, COLS; aggs: COUNT, COUNTA, BLANKS, COUNTIF, ROWS, COLS behind their names; what may be, told plainly; aggs: plain laws of the places of a rectangle.
-/
import Derived.Test.YtgmhifafbebjfaaGreatDoorACif
import Derived.Test.YtgmhifafbebjfaaGreatDoorAKn
set_option maxRecDepth 100000
set_option maxHeartbeats 32000000
namespace Go.Proofs.YtgmhifafbebjfaaGreatDoor
open Go.RowKit

theorem ablanks_any (x0 : AL) (hm : mayRectB x0.t x0.l x0.b x0.r = true) (hlen : x0.es.length ≤ 2932031007402) (text : Int) (w : World) (A : Option Addr) (cap : Nat) (hR : RdB w w.heap.size A 11 ([x0].map AL.cs)) (hin : ∀ x ∈ [x0], x.In w w.heap.size) : Calls Tryz.prog 113 #[.slice A 1 cap, .int .i64 text] w fun e w' => e = .returned (.agg #[.int .i64 ((cifL x0 v0)).t, .int .i64 ((cifL x0 v0)).n, .string ((cifL x0 v0)).s, .bool ((cifL x0 v0)).b, .int .i64 ((cifL x0 v0)).c]) ∧ Below w.heap.size w w' := by
 have b0 : Below w.heap.size w (w.alloc (.cells #[.int .i64 0, .int .i64 0, .string ⟨#[]⟩, .bool false, .int .i64 0] 26)) := (Below.refl _ _).alloc (Nat.le_refl _) _
 obtain ⟨ab, ao, hA2, hab, hcell⟩ := hR 0 x0.cs rfl
 obtain rfl : A = some ⟨ab, ao, none⟩ := hA2
 obtain ⟨hc0, hc1, hc2, hc3, hc4, hc5, hc6, hc7, hc8, hc9, hc10⟩ := cs11_0 hcell
 have hne : ab ≠ w.heap.size := by omega
 have hin0 : x0.In (w.alloc (.cells #[.int .i64 0, .int .i64 0, .string ⟨#[]⟩, .bool false, .int .i64 0] 26)) (w.alloc (.cells #[.int .i64 0, .int .i64 0, .string ⟨#[]⟩, .bool false, .int .i64 0] 26)).heap.size := ((hin x0 (by simp)).below b0).mono b0.size
 have C := Lib.hid (acif_any x0 v0 hm hlen (w.alloc (.cells #[.int .i64 0, .int .i64 0, .string ⟨#[]⟩, .bool false, .int .i64 0] 26)) hin0)
 clear hcell hR hin hin0
 go_enter Tryz.func113, Tryz.ntmps113
 go_wp2_with fail
 refine (C.out).mono ?_
 rintro e w1 ⟨rfl, hb1⟩
 obtain ⟨gc1, gf1, gz1⟩ := bkeep hb1 (w.heap.size + 1) (by first | (simp; done) | omega)
 have l1 : w.heap.size < w1.heap.size := by omega
 go_wp2
 refine bodyPost_ret (v := .agg #[.int .i64 ((cifL x0 v0)).t, .int .i64 ((cifL x0 v0)).n, .string ((cifL x0 v0)).s, .bool ((cifL x0 v0)).b, .int .i64 ((cifL x0 v0)).c]) ?_ rfl ⟨rfl, belq⟩
 simp [results, Tryz.results113, go_sem, cifL, numL, *]
theorem dr_cell {w : World} {o : Obj} {a : Addr} {v : Value} (h : a.block < w.heap.size) (h2 : w.cell? a = some v) : (w.alloc o).drew.cell? a = some v := by
 rw [show (w.alloc o).drew.cell? a = (w.alloc o).cell? a from rfl, World.cell?_alloc_lt _ _ _ h]
 exact h2
theorem acountif_any (x0 x1 : AL) (hm : mayRectB x0.t x0.l x0.b x0.r = true) (hlen : x0.es.length ≤ 2932031007402) (text : Int) (w : World) (A : Option Addr) (cap : Nat) (hR : RdB w w.heap.size A 11 ([x0, x1].map AL.cs)) (hin : ∀ x ∈ [x0, x1], x.In w w.heap.size) : Calls Tryz.prog 115 #[.slice A 2 cap, .int .i64 text] w fun e w' => e = .returned (.agg #[.int .i64 ((cifL x0 x1.v)).t, .int .i64 ((cifL x0 x1.v)).n, .string ((cifL x0 x1.v)).s, .bool ((cifL x0 x1.v)).b, .int .i64 ((cifL x0 x1.v)).c]) ∧ Below w.heap.size w w' := by
 have b0 : Below w.heap.size w (w.alloc (.cells #[.int .i64 0, .int .i64 0, .string ⟨#[]⟩, .bool false, .int .i64 0] 26)) := (Below.refl _ _).alloc (Nat.le_refl _) _
 obtain ⟨ab, ao, hA2, hab, hcell⟩ := hR 0 x0.cs rfl
 obtain rfl : A = some ⟨ab, ao, none⟩ := hA2
 obtain ⟨hc0, hc1, hc2, hc3, hc4, hc5, hc6, hc7, hc8, hc9, hc10⟩ := cs11_0 hcell
 have hcell1 : ∀ (j : Nat) (u : Value), x1.cs[j]? = some u → w.cell? ⟨ab, ao + 1 * 11 + j, none⟩ = some u := by
  obtain ⟨ab2, ao2, hA3, _, hcell1⟩ := hR 1 x1.cs rfl
  cases hA3
  exact hcell1
 obtain ⟨hd0, hd1, hd2, hd3, hd4, hd5, hd6, hd7, hd8, hd9, hd10⟩ := cs11_1 hcell1
 clear hcell1
 have hne : ab ≠ w.heap.size := by omega
 have hin0 : x0.In (w.alloc (.cells #[.int .i64 0, .int .i64 0, .string ⟨#[]⟩, .bool false, .int .i64 0] 26)) (w.alloc (.cells #[.int .i64 0, .int .i64 0, .string ⟨#[]⟩, .bool false, .int .i64 0] 26)).heap.size := ((hin x0 (by simp)).below b0).mono b0.size
 have C := Lib.hid (acif_any x0 x1.v hm hlen (w.alloc (.cells #[.int .i64 0, .int .i64 0, .string ⟨#[]⟩, .bool false, .int .i64 0] 26)).drew (((hin x0 (by simp)).below b0).mono b0.size))
 clear hcell hR hin hin0
 go_enter Tryz.func115, Tryz.ntmps115
 go_wp2_with fail
 refine wp_region_noPanic ?_
 refine wp_region_held_drew (S := fun w' => w'.cell? ⟨ab, ao, none⟩ = some (.bool x0.many) ∧ w'.cell? ⟨ab, ao + 1, none⟩ = some (.int .i64 x0.v.t) ∧ w'.cell? ⟨ab, ao + 2, none⟩ = some (.int .i64 x0.v.n) ∧ w'.cell? ⟨ab, ao + 3, none⟩ = some (.string x0.v.s) ∧ w'.cell? ⟨ab, ao + 4, none⟩ = some (.bool x0.v.b) ∧ w'.cell? ⟨ab, ao + 5, none⟩ = some (.int .i64 x0.v.c) ∧ w'.cell? ⟨ab, ao + 6, none⟩ = some (.int .i64 x0.t) ∧ w'.cell? ⟨ab, ao + 7, none⟩ = some (.int .i64 x0.l) ∧ w'.cell? ⟨ab, ao + 8, none⟩ = some (.int .i64 x0.b) ∧ w'.cell? ⟨ab, ao + 9, none⟩ = some (.int .i64 x0.r) ∧ w'.cell? ⟨ab, ao + 10, none⟩ = some (.slice x0.A x0.es.length x0.cap) ∧ w'.cell? ⟨ab, ao + 11 + 1, none⟩ = some (.int .i64 x1.v.t) ∧ w'.cell? ⟨ab, ao + 11 + 2, none⟩ = some (.int .i64 x1.v.n) ∧ w'.cell? ⟨ab, ao + 11 + 3, none⟩ = some (.string x1.v.s) ∧ w'.cell? ⟨ab, ao + 11 + 4, none⟩ = some (.bool x1.v.b) ∧ w'.cell? ⟨ab, ao + 11 + 5, none⟩ = some (.int .i64 x1.v.c)) (by kernel_rfl) ⟨dr_cell hab (by assumption), dr_cell hab (by assumption), dr_cell hab (by assumption), dr_cell hab (by assumption), dr_cell hab (by assumption), dr_cell hab (by assumption), dr_cell hab (by assumption), dr_cell hab (by assumption), dr_cell hab (by assumption), dr_cell hab (by assumption), dr_cell hab (by assumption), dr_cell hab (by assumption), dr_cell hab (by assumption), dr_cell hab (by assumption), dr_cell hab (by assumption), dr_cell hab (by assumption)⟩ (fun hHeld => ?_)
 refine sqT 0 hHeld ?_
 refine sqT 1 hHeld ?_
 refine sqT 2 hHeld ?_
 refine sqT 3 hHeld ?_
 refine sqT 4 hHeld ?_
 refine sqT 5 hHeld ?_
 refine sqT 6 hHeld ?_
 refine sqC 7 (fun K hK => ?_)
 go_split_ands
 go_simp
 refine (C.out).mono ?_
 rintro e w1 ⟨rfl, hb1⟩
 obtain ⟨gc1, gf1, gz1⟩ := bkeep hb1 (w.heap.size + 1) (by first | (simp; done) | omega)
 have l1 : w.heap.size < w1.heap.size := by omega
 refine hK.out _ _ ?_ (fun hHeld => ?_)
 ·refine ⟨?_, ?_, ?_, ?_, ?_, ?_, ?_, ?_, ?_, ?_, ?_, ?_, ?_, ?_, ?_, ?_⟩ <;> (rw [hb1.cell (by show ab < (World.alloc _ _).heap.size; simp; omega)]; assumption)
 clear hK K
 try simp only [Act.put, List.setIfInBounds_toArray, List.set_cons_zero, List.set_cons_succ]
 refine sqC 8 (fun K hK => ?_)
 go_split_ands
 go_simp
 refine hK.out _ _ ?_ (fun hHeld => ?_)
 ·refine ⟨?_, ?_, ?_, ?_, ?_, ?_, ?_, ?_, ?_, ?_, ?_, ?_, ?_, ?_, ?_, ?_⟩ <;> (simp [go_sem, *]; done)
 clear hK K
 try simp only [Act.put, List.setIfInBounds_toArray, List.set_cons_zero, List.set_cons_succ]
 refine wpAnyH_done (by kernel_rfl) ?_ _
 refine NoPanic.normal ?_
 go_wp2
 refine bodyPost_ret (v := .agg #[.int .i64 ((cifL x0 x1.v)).t, .int .i64 ((cifL x0 x1.v)).n, .string ((cifL x0 x1.v)).s, .bool ((cifL x0 x1.v)).b, .int .i64 ((cifL x0 x1.v)).c]) ?_ rfl ⟨rfl, belq⟩
 simp [results, Tryz.results115, go_sem, cifL, numL, *]
theorem arowsf_any (x0 : AL) (hm : mayRectB x0.t x0.l x0.b x0.r = true) (text : Int) (w : World) (A : Option Addr) (cap : Nat) (hR : RdB w w.heap.size A 11 ([x0].map AL.cs)) (hin : ∀ x ∈ [x0], x.In w w.heap.size) : Calls Tryz.prog 121 #[.slice A 1 cap, .int .i64 text] w fun e w' => e = .returned (.agg #[.int .i64 ((numL (rowsL x0 * 10000))).t, .int .i64 ((numL (rowsL x0 * 10000))).n, .string ((numL (rowsL x0 * 10000))).s, .bool ((numL (rowsL x0 * 10000))).b, .int .i64 ((numL (rowsL x0 * 10000))).c]) ∧ Below w.heap.size w w' := by
 have b0 : Below w.heap.size w (w.alloc (.cells #[.int .i64 0, .int .i64 0, .string ⟨#[]⟩, .bool false, .int .i64 0] 26)) := (Below.refl _ _).alloc (Nat.le_refl _) _
 obtain ⟨ab, ao, hA2, hab, hcell⟩ := hR 0 x0.cs rfl
 obtain rfl : A = some ⟨ab, ao, none⟩ := hA2
 obtain ⟨hc0, hc1, hc2, hc3, hc4, hc5, hc6, hc7, hc8, hc9, hc10⟩ := cs11_0 hcell
 have hne : ab ≠ w.heap.size := by omega
 have hin0 : x0.In (w.alloc (.cells #[.int .i64 0, .int .i64 0, .string ⟨#[]⟩, .bool false, .int .i64 0] 26)) (w.alloc (.cells #[.int .i64 0, .int .i64 0, .string ⟨#[]⟩, .bool false, .int .i64 0] 26)).heap.size := ((hin x0 (by simp)).below b0).mono b0.size
 obtain ⟨q1, q2, q3, q4, q5, q6⟩ := rect_in hm
 obtain ⟨n, hn⟩ : ∃ n, rowsL x0 = n := ⟨_, rfl⟩
 have hnb : -900000000000000 ≤ n ∧ n ≤ 900000000000000 := by unfold rowsL at hn; omega
 have C := arows_any x0 hm (w.alloc (.cells #[.int .i64 0, .int .i64 0, .string ⟨#[]⟩, .bool false, .int .i64 0] 26))
 rw [hn] at C
 have C := Lib.hid C
 rw [hn]
 clear hn
 clear hcell hR hin hin0
 go_enter Tryz.func121, Tryz.ntmps121
 go_wp2_with fail
 refine (C.out).mono ?_
 rintro e w1 ⟨rfl, hb1⟩
 obtain ⟨gc1, gf1, gz1⟩ := bkeep hb1 (w.heap.size + 1) (by first | (simp; done) | omega)
 have l1 : w.heap.size < w1.heap.size := by omega
 go_wp2_with fail
 refine (awhole_any n hnb _).mono ?_
 rintro e w2 ⟨rfl, hb2⟩
 obtain ⟨gc2, gf2, gz2⟩ := bkeep hb2 (w.heap.size + 1) (by first | (simp; done) | omega)
 have l2 : w.heap.size < w2.heap.size := by omega
 go_wp2
 refine bodyPost_ret (v := .agg #[.int .i64 ((numL (n * 10000))).t, .int .i64 ((numL (n * 10000))).n, .string ((numL (n * 10000))).s, .bool ((numL (n * 10000))).b, .int .i64 ((numL (n * 10000))).c]) ?_ rfl ⟨rfl, belq⟩
 simp [results, Tryz.results121, go_sem, numL, *]
theorem acolsf_any (x0 : AL) (hm : mayRectB x0.t x0.l x0.b x0.r = true) (text : Int) (w : World) (A : Option Addr) (cap : Nat) (hR : RdB w w.heap.size A 11 ([x0].map AL.cs)) (hin : ∀ x ∈ [x0], x.In w w.heap.size) : Calls Tryz.prog 124 #[.slice A 1 cap, .int .i64 text] w fun e w' => e = .returned (.agg #[.int .i64 ((numL (colsL x0 * 10000))).t, .int .i64 ((numL (colsL x0 * 10000))).n, .string ((numL (colsL x0 * 10000))).s, .bool ((numL (colsL x0 * 10000))).b, .int .i64 ((numL (colsL x0 * 10000))).c]) ∧ Below w.heap.size w w' := by
 have b0 : Below w.heap.size w (w.alloc (.cells #[.int .i64 0, .int .i64 0, .string ⟨#[]⟩, .bool false, .int .i64 0] 26)) := (Below.refl _ _).alloc (Nat.le_refl _) _
 obtain ⟨ab, ao, hA2, hab, hcell⟩ := hR 0 x0.cs rfl
 obtain rfl : A = some ⟨ab, ao, none⟩ := hA2
 obtain ⟨hc0, hc1, hc2, hc3, hc4, hc5, hc6, hc7, hc8, hc9, hc10⟩ := cs11_0 hcell
 have hne : ab ≠ w.heap.size := by omega
 have hin0 : x0.In (w.alloc (.cells #[.int .i64 0, .int .i64 0, .string ⟨#[]⟩, .bool false, .int .i64 0] 26)) (w.alloc (.cells #[.int .i64 0, .int .i64 0, .string ⟨#[]⟩, .bool false, .int .i64 0] 26)).heap.size := ((hin x0 (by simp)).below b0).mono b0.size
 obtain ⟨q1, q2, q3, q4, q5, q6⟩ := rect_in hm
 obtain ⟨n, hn⟩ : ∃ n, colsL x0 = n := ⟨_, rfl⟩
 have hnb : -900000000000000 ≤ n ∧ n ≤ 900000000000000 := by unfold colsL at hn; omega
 have C := acols_any x0 hm (w.alloc (.cells #[.int .i64 0, .int .i64 0, .string ⟨#[]⟩, .bool false, .int .i64 0] 26))
 rw [hn] at C
 have C := Lib.hid C
 rw [hn]
 clear hn
 clear hcell hR hin hin0
 go_enter Tryz.func124, Tryz.ntmps124
 go_wp2_with fail
 refine (C.out).mono ?_
 rintro e w1 ⟨rfl, hb1⟩
 obtain ⟨gc1, gf1, gz1⟩ := bkeep hb1 (w.heap.size + 1) (by first | (simp; done) | omega)
 have l1 : w.heap.size < w1.heap.size := by omega
 go_wp2_with fail
 refine (awhole_any n hnb _).mono ?_
 rintro e w2 ⟨rfl, hb2⟩
 obtain ⟨gc2, gf2, gz2⟩ := bkeep hb2 (w.heap.size + 1) (by first | (simp; done) | omega)
 have l2 : w.heap.size < w2.heap.size := by omega
 go_wp2
 refine bodyPost_ret (v := .agg #[.int .i64 ((numL (n * 10000))).t, .int .i64 ((numL (n * 10000))).n, .string ((numL (n * 10000))).s, .bool ((numL (n * 10000))).b, .int .i64 ((numL (n * 10000))).c]) ?_ rfl ⟨rfl, belq⟩
 simp [results, Tryz.results124, go_sem, numL, *]

theorem ata_COUNT (l : List AL) (hlen : l.length ≤ 16) (hN : (itemsL l).length ≤ 2932031007402) (text : Int) : DoA ⟨#[67, 79, 85, 78, 84]⟩ l text (numL (((itemsL l).countP (fun v => decide (v.t = 1)) : Nat) * 10000)) := ⟨fun w bl base kd lo hi d A cap hlk hBx hTab hcap hR hin => by
 have e : lookL aZero (aTab bl) ⟨#[67, 79, 85, 78, 84]⟩ = .agg #[.string ⟨#[120]⟩, .int .i64 1, .int .i64 16, .func (.func 179) #[] #[.pointer (some ⟨bl.getD 10 0, 0, none⟩)]] := by kernel_rfl
 have hd := fourth_of (e.symm.trans hlk)
 exact ⟨179, #[.pointer (some ⟨bl.getD 10 0, 0, none⟩)], hd.symm, fun _ _ => by simp [go_sem], acnt_any l (by omega) hN text w A cap hR hin (bl.getD 10 0) 111 (hBx (bl.getD 10 0, .func (.func 111) #[] #[]) (by simp [aSrc])).2 (fun _ _ => by simp [go_sem]) (fun v => decide (v.t = 1)) (fun x z hz w => aisn_any x z hz w)⟩⟩
theorem ata_COUNTA (l : List AL) (hlen : l.length ≤ 16) (hN : (itemsL l).length ≤ 2932031007402) (text : Int) : DoA ⟨#[67, 79, 85, 78, 84, 65]⟩ l text (numL (((itemsL l).countP (fun v => !decide (v.t = 0)) : Nat) * 10000)) := ⟨fun w bl base kd lo hi d A cap hlk hBx hTab hcap hR hin => by
 have e : lookL aZero (aTab bl) ⟨#[67, 79, 85, 78, 84, 65]⟩ = .agg #[.string ⟨#[120]⟩, .int .i64 1, .int .i64 16, .func (.func 179) #[] #[.pointer (some ⟨bl.getD 11 0, 0, none⟩)]] := by kernel_rfl
 have hd := fourth_of (e.symm.trans hlk)
 exact ⟨179, #[.pointer (some ⟨bl.getD 11 0, 0, none⟩)], hd.symm, fun _ _ => by simp [go_sem], acnt_any l (by omega) hN text w A cap hR hin (bl.getD 11 0) 112 (hBx (bl.getD 11 0, .func (.func 112) #[] #[]) (by simp [aSrc])).2 (fun _ _ => by simp [go_sem]) (fun v => !decide (v.t = 0)) (fun x z hz w => aisv_any x z hz w)⟩⟩
theorem ata_BLANKS (x0 : AL) (hm : mayRectB x0.t x0.l x0.b x0.r = true) (hlen : x0.es.length ≤ 2932031007402) (text : Int) : DoA ⟨#[66, 76, 65, 78, 75, 83]⟩ [x0] text (cifL x0 v0) := ⟨fun w bl base kd lo hi d A cap hlk hBx hTab hcap hR hin => by
 have e : lookL aZero (aTab bl) ⟨#[66, 76, 65, 78, 75, 83]⟩ = .agg #[.string ⟨#[114]⟩, .int .i64 1, .int .i64 1, .func (.func 113) #[] #[]] := by kernel_rfl
 have hd := fourth_of (e.symm.trans hlk)
 exact ⟨113, #[], hd.symm, fun _ _ => by simp [go_sem], ablanks_any x0 hm hlen text w A cap hR hin⟩⟩
theorem ata_COUNTIF (x0 x1 : AL) (hm : mayRectB x0.t x0.l x0.b x0.r = true) (hlen : x0.es.length ≤ 2932031007402) (text : Int) : DoA ⟨#[67, 79, 85, 78, 84, 73, 70]⟩ [x0, x1] text (cifL x0 x1.v) := ⟨fun w bl base kd lo hi d A cap hlk hBx hTab hcap hR hin => by
 have e : lookL aZero (aTab bl) ⟨#[67, 79, 85, 78, 84, 73, 70]⟩ = .agg #[.string ⟨#[114, 118]⟩, .int .i64 2, .int .i64 2, .func (.func 115) #[] #[]] := by kernel_rfl
 have hd := fourth_of (e.symm.trans hlk)
 exact ⟨115, #[], hd.symm, fun _ _ => by simp [go_sem], acountif_any x0 x1 hm hlen text w A cap hR hin⟩⟩
theorem ata_ROWS (x0 : AL) (hm : mayRectB x0.t x0.l x0.b x0.r = true) (text : Int) : DoA ⟨#[82, 79, 87, 83]⟩ [x0] text (numL (rowsL x0 * 10000)) := ⟨fun w bl base kd lo hi d A cap hlk hBx hTab hcap hR hin => by
 have e : lookL aZero (aTab bl) ⟨#[82, 79, 87, 83]⟩ = .agg #[.string ⟨#[114]⟩, .int .i64 1, .int .i64 1, .func (.func 121) #[] #[]] := by kernel_rfl
 have hd := fourth_of (e.symm.trans hlk)
 exact ⟨121, #[], hd.symm, fun _ _ => by simp [go_sem], arowsf_any x0 hm text w A cap hR hin⟩⟩
theorem ata_COLS (x0 : AL) (hm : mayRectB x0.t x0.l x0.b x0.r = true) (text : Int) : DoA ⟨#[67, 79, 76, 83]⟩ [x0] text (numL (colsL x0 * 10000)) := ⟨fun w bl base kd lo hi d A cap hlk hBx hTab hcap hR hin => by
 have e : lookL aZero (aTab bl) ⟨#[67, 79, 76, 83]⟩ = .agg #[.string ⟨#[114]⟩, .int .i64 1, .int .i64 1, .func (.func 124) #[] #[]] := by kernel_rfl
 have hd := fourth_of (e.symm.trans hlk)
 exact ⟨124, #[], hd.symm, fun _ _ => by simp [go_sem], acolsf_any x0 hm text w A cap hR hin⟩⟩
theorem may_parts {x : AL} (h : x.many = true) (hm : argMay x = true) : mayRectB x.t x.l x.b x.r = true ∧ x.v.t = 0 ∧ entsOk x = true := by
 unfold argMay at hm
 rw [if_pos h] at hm
 simp only [Bool.and_eq_true] at hm
 refine ⟨hm.1.1, ?_, hm.2⟩
 have h2 := hm.1.2
 unfold vZero vEq at h2
 simp only [Bool.and_eq_true, decide_eq_true_eq] at h2
 exact h2.1.1.1.1
theorem ent_parts {x : AL} (h : entsOk x = true) (k : Nat) (e : EL) (he : x.es[k]? = some e) : inB x.t x.l x.b x.r e.r e.c = true ∧ e.v.may = true ∧ (∀ j d, k = j + 1 → x.es[j]? = some d → befB d.r d.c e.r e.c = true) := by
 unfold entsOk at h
 have h2 := (List.all_eq_true.1 h) k (List.mem_range.2 (List.getElem?_eq_some_iff.1 he).1)
 unfold entOk at h2
 rw [he] at h2
 simp only [Bool.and_eq_true] at h2
 refine ⟨h2.1.1, h2.1.2, ?_⟩
 intro j d hk hd
 subst hk
 have h3 := h2.2
 simp only [hd] at h3
 exact h3
theorem ent_key {x : AL} (hm : mayRectB x.t x.l x.b x.r = true) (h : entsOk x = true) : ∀ (k : Nat) (e : EL), x.es[k]? = some e → (k : Int) ≤ e.r * 16384 + e.c ∧ e.r ≤ 1048576 ∧ 0 ≤ e.r ∧ 0 ≤ e.c ∧ e.c ≤ 16384 := by
 obtain ⟨h1, h2, h3, h4, h5, h6⟩ := rect_in hm
 intro k
 induction k with
 |
  zero =>
  intro e he
  obtain ⟨a1, -, -⟩ := ent_parts h 0 e he
  unfold inB at a1
  simp only [Bool.and_eq_true, decide_eq_true_eq] at a1
  refine ⟨?_, ?_, ?_, ?_, ?_⟩ <;> omega
 |
  succ k ih =>
  intro e he
  obtain ⟨a1, -, a3⟩ := ent_parts h (k + 1) e he
  unfold inB at a1
  simp only [Bool.and_eq_true, decide_eq_true_eq] at a1
  obtain ⟨d, hd⟩ : ∃ d, x.es[k]? = some d := ⟨_, List.getElem?_eq_getElem (by have := (List.getElem?_eq_some_iff.1 he).1; omega)⟩
  obtain ⟨i1, i2, i3, i4, i5⟩ := ih d hd
  have b := a3 k d rfl hd
  unfold befB at b
  simp only [Bool.or_eq_true, Bool.and_eq_true, decide_eq_true_eq] at b
  refine ⟨?_, ?_, ?_, ?_, ?_⟩ <;> omega
theorem ent_len {x : AL} (hm : mayRectB x.t x.l x.b x.r = true) (h : entsOk x = true) : x.es.length ≤ 17179900000 := by
 rcases Nat.eq_zero_or_pos x.es.length with h0 | h0
 ·omega
 ·obtain ⟨a, b, c, d, e⟩ := ent_key hm h (x.es.length - 1) _ (List.getElem?_eq_getElem (by omega))
  omega
theorem blank_iff {v : VL} (h : v.may = true) : v.eqv v0 = decide (v.t = 0) := by
 unfold VL.may vMay at h
 simp only [Bool.and_eq_true, Bool.or_eq_true, decide_eq_true_eq, Bool.not_eq_true'] at h
 unfold VL.eqv vEq v0
 by_cases ht : v.t = 0
 ·obtain ⟨⟨⟨⟨⟨⟨⟨g1, g2⟩, g3⟩, g4⟩, g5⟩, g6⟩, g7⟩, g8⟩ := h
  have e1 : v.n = 0 := by rcases g3 with h9 | h9; omega; exact h9
  have e2 : v.s = ⟨#[]⟩ := by rcases g4 with h9 | h9; omega; exact h9
  have e3 : v.b = false := by rcases g5 with h9 | h9; omega; exact h9
  have e4 : v.c = 0 := by rcases g6 with h9 | h9; omega; exact h9
  simp [ht, e1, e2, e3, e4]
 ·simp [ht]
theorem cnt_split {x : AL} (h : entsOk x = true) : ((x.es.countP fun e => e.v.eqv v0) : Nat) + (x.es.map EL.v).countP (fun v => !decide (v.t = 0)) = x.es.length := by
 rw [List.countP_map, List.length_eq_countP_add_countP (p := fun e : EL => e.v.eqv v0)]
 congr 1
 apply List.countP_congr
 intro e he
 obtain ⟨k, hk⟩ := List.getElem?_of_mem he
 obtain ⟨-, h2, -⟩ := ent_parts h k e hk
 simp [blank_iff h2]
theorem items_many {x : AL} (h : x.many = true) : itemsL [x] = x.es.map EL.v := by
 simp [itemsL, itemsX, h]
theorem ArgsC.below {w w' : World} {v : Value} {l : List AL} (h : ArgsC w v l) (hb : Below w.heap.size w w') : ArgsC w' v l := by
 obtain ⟨A, cap, e, hc, hR, hin⟩ := h
 exact ⟨A, cap, e, hc, (hR.below hb).mono hb.size, fun x hx => ((hin x hx).below hb).mono hb.size⟩

def placeL (x : AL) (e : EL) : Int × Int := (e.r - x.t, e.c - x.l)
def heldL (x : AL) : List ((Int × Int) × VL) := (x.es.map fun e => (placeL x e, e.v)).reverse
def lookP : List ((Int × Int) × VL) → Int × Int → VL
 | [], _ => v0
 | (k, y) :: l, p => if p = k then y else lookP l p
theorem lookP_mem (l : List ((Int × Int) × VL)) (p : Int × Int) : lookP l p = v0 ∨ (p, lookP l p) ∈ l := by
 induction l with
 | nil => left; rfl
 |
  cons a l ih =>
  obtain ⟨k, y⟩ := a
  unfold lookP
  by_cases h : p = k
  ·rw [if_pos h]; right; simp [h]
  ·rw [if_neg h]
   rcases ih with ih | ih
   ·left; exact ih
   ·right; simp [ih]
theorem lookP_one {l : List ((Int × Int) × VL)} {p : Int × Int} {y : VL} (hm : (p, y) ∈ l) (hu : ∀ z, (p, z) ∈ l → z = y) : lookP l p = y := by
 induction l with
 | nil => cases hm
 |
  cons a l ih =>
  obtain ⟨k, u⟩ := a
  unfold lookP
  by_cases h : p = k
  ·rw [if_pos h]; exact hu u (by simp [h])
  ·rw [if_neg h]
   refine ih ?_ (fun z hz => hu z (by simp [hz]))
   rcases List.mem_cons.1 hm with e | e
   ·injection e with e1 e2; exact absurd e1 h
   ·exact e
theorem ent_bef {x : AL} (h : entsOk x = true) (i : Nat) (e : EL) (he : x.es[i]? = some e) : ∀ (j : Nat) (d : EL), i < j → x.es[j]? = some d → befB e.r e.c d.r d.c = true := by
 intro j
 induction j with
 | zero => intro d hij; omega
 |
  succ j ih =>
  intro d hij hd
  obtain ⟨-, -, h3⟩ := ent_parts h (j + 1) d hd
  obtain ⟨m, hm⟩ : ∃ m, x.es[j]? = some m := ⟨_, List.getElem?_eq_getElem (by have := (List.getElem?_eq_some_iff.1 hd).1; omega)⟩
  have b := h3 j m rfl hm
  rcases Nat.lt_or_ge i j with hl | hl
  ·have a := ih m hl hm
   unfold befB at *
   simp only [Bool.or_eq_true, Bool.and_eq_true, decide_eq_true_eq] at *
   omega
  ·obtain rfl : i = j := by omega
   rw [he] at hm; cases hm; exact b
theorem heldL_mem {x : AL} {p : Int × Int} {y : VL} (h : (p, y) ∈ heldL x) : ∃ (k : Nat) (e : EL), x.es[k]? = some e ∧ placeL x e = p ∧ e.v = y := by
 unfold heldL at h
 rw [List.mem_reverse] at h
 obtain ⟨e, he, h2⟩ := List.mem_map.1 h
 obtain ⟨k, hk⟩ := List.getElem?_of_mem he
 injection h2 with h3 h4
 exact ⟨k, e, hk, h3, h4⟩
theorem place_inj {x : AL} (h : entsOk x = true) {i j : Nat} {e d : EL} (he : x.es[i]? = some e) (hd : x.es[j]? = some d) (hp : placeL x e = placeL x d) : i = j := by
 unfold placeL at hp
 injection hp with h1 h2
 rcases Nat.lt_trichotomy i j with hl | hl | hl
 ·have a := ent_bef h i e he j d hl hd
  unfold befB at a
  simp only [Bool.or_eq_true, Bool.and_eq_true, decide_eq_true_eq] at a
  omega
 ·exact hl
 ·have a := ent_bef h j d hd i e hl he
  unfold befB at a
  simp only [Bool.or_eq_true, Bool.and_eq_true, decide_eq_true_eq] at a
  omega
theorem look_at {x : AL} (h : entsOk x = true) {k : Nat} {e : EL} (he : x.es[k]? = some e) : lookP (heldL x) (placeL x e) = e.v := by
 refine lookP_one ?_ ?_
 ·unfold heldL
  rw [List.mem_reverse]
  exact List.mem_map.2 ⟨e, List.mem_of_getElem? he, rfl⟩
 ·intro z hz
  obtain ⟨j, d, hd, hp, rfl⟩ := heldL_mem hz
  obtain rfl := place_inj h he hd hp.symm
  rw [he] at hd; cases hd; rfl
theorem look_inv {x : AL} {p : Int × Int} (h : lookP (heldL x) p ≠ v0) : ∃ (k : Nat) (e : EL), x.es[k]? = some e ∧ placeL x e = p ∧ e.v = lookP (heldL x) p := by
 rcases lookP_mem (heldL x) p with h1 | h1
 ·exact absurd h1 h
 ·exact heldL_mem h1
def nthL (x : AL) (i : Int) : Int × Int := (i / colsL x, i % colsL x)
end Go.Proofs.YtgmhifafbebjfaaGreatDoor
