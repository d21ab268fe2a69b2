/-
 the document's aggs: lookup.
-/
import Derived.Test.YtgmhifafbebjfaaGreatDoorR10G
set_option maxRecDepth 100000
set_option maxHeartbeats 32000000
namespace Go.Proofs.YtgmhifafbebjfaaGreatDoor
open Go.RowKit

theorem r10look2 (x0 x1 : AL) (hm1 : mayRectB x1.t x1.l x1.b x1.r = true) (he1 : entsOk x1 = true) (w : World) (A : Option Addr) (cap : Nat) (hR : RdB w w.heap.size A 11 ([x0, x1].map AL.cs)) (hin : ∀ x ∈ [x0, x1], x.In w w.heap.size) : Calls Tryz.prog 46 #[.slice A 2 cap] w fun e w' => e = .returned (.agg #[.int .i64 ((if (decide (1 < rowsL x1) && decide (1 < colsL x1)) = true then errL 8 else lookR2 x0.v x1)).t, .int .i64 ((if (decide (1 < rowsL x1) && decide (1 < colsL x1)) = true then errL 8 else lookR2 x0.v x1)).n, .string ((if (decide (1 < rowsL x1) && decide (1 < colsL x1)) = true then errL 8 else lookR2 x0.v x1)).s, .bool ((if (decide (1 < rowsL x1) && decide (1 < colsL x1)) = true then errL 8 else lookR2 x0.v x1)).b, .int .i64 ((if (decide (1 < rowsL x1) && decide (1 < colsL x1)) = true then errL 8 else lookR2 x0.v x1)).c]) ∧ Below w.heap.size w w' := by
 obtain ⟨V, hV0⟩ : ∃ V, (if (decide (1 < rowsL x1) && decide (1 < colsL x1)) = true then errL 8 else lookR2 x0.v x1) = V := ⟨_, rfl⟩
 rw [hV0]
 have b0 : Below w.heap.size w ((w.alloc (.cells #[.int .i64 0, .int .i64 0, .string ⟨#[]⟩, .bool false, .int .i64 0] 26)).alloc (.cells #[.bool x1.many, .int .i64 x1.v.t, .int .i64 x1.v.n, .string x1.v.s, .bool x1.v.b, .int .i64 x1.v.c, .int .i64 x1.t, .int .i64 x1.l, .int .i64 x1.b, .int .i64 x1.r, .slice x1.A x1.es.length x1.cap] 36)) := belq
 obtain ⟨ab, ao, hA2, hab, hcell⟩ := hR 0 x0.cs rfl
 obtain rfl : A = some ⟨ab, ao, none⟩ := hA2
 obtain ⟨hv0, hv1, hv2, hv3, hv4⟩ := cs5_0 hcell
 have hcell1 : ∀ (j : Nat) (u : Value), x1.cs[j]? = some u → w.cell? ⟨ab, ao + 1 * 11 + j, none⟩ = some u := by
  obtain ⟨ab2, ao2, hA3, _, hcell1⟩ := hR 1 x1.cs rfl
  cases hA3
  exact hcell1
 obtain ⟨hx1_0, hx1_1, hx1_2, hx1_3, hx1_4, hx1_5, hx1_6, hx1_7, hx1_8, hx1_9, hx1_10⟩ := cs11_1 hcell1
 clear hcell1
 have hne : ab ≠ w.heap.size := by omega
 have hin1 : x1.In w w.heap.size := hin x1 (by simp)
 obtain ⟨q1, q2, q3, q4, q5, q6⟩ := rect_in2 hm1
 obtain ⟨R, hRr⟩ : ∃ R, rowsL x1 = R := ⟨_, rfl⟩
 obtain ⟨C, hCc⟩ : ∃ C, colsL x1 = C := ⟨_, rfl⟩
 have hRb : 1 ≤ R ∧ R ≤ 4096 := by unfold rowsL at hRr; omega
 have hCb : 1 ≤ C ∧ C ≤ 256 := by unfold colsL at hCc; omega
 have CR : ∀ w, Hid (Calls Tryz.prog 49 #[.agg #[.bool x1.many, .int .i64 x1.v.t, .int .i64 x1.v.n, .string x1.v.s, .bool x1.v.b, .int .i64 x1.v.c, .int .i64 x1.t, .int .i64 x1.l, .int .i64 x1.b, .int .i64 x1.r, .slice x1.A x1.es.length x1.cap]] w fun e w' => e = .returned (.int .i64 R) ∧ Below w.heap.size w w') := fun w => Lib.hid (by rw [← hRr]; exact r10rows x1 hm1 w)
 have CC : ∀ w, Hid (Calls Tryz.prog 50 #[.agg #[.bool x1.many, .int .i64 x1.v.t, .int .i64 x1.v.n, .string x1.v.s, .bool x1.v.b, .int .i64 x1.v.c, .int .i64 x1.t, .int .i64 x1.l, .int .i64 x1.b, .int .i64 x1.r, .slice x1.A x1.es.length x1.cap]] w fun e w' => e = .returned (.int .i64 C) ∧ Below w.heap.size w w') := fun w => Lib.hid (by rw [← hCc]; exact r10cols x1 hm1 w)
 have CPl : (R = 1 ∨ C = 1) → ∀ w1 : World, Below w.heap.size w w1 → Hid (Calls Tryz.prog 131 #[.agg #[.int .i64 x0.v.t, .int .i64 x0.v.n, .string x0.v.s, .bool x0.v.b, .int .i64 x0.v.c], .agg #[.bool x1.many, .int .i64 x1.v.t, .int .i64 x1.v.n, .string x1.v.s, .bool x1.v.b, .int .i64 x1.v.c, .int .i64 x1.t, .int .i64 x1.l, .int .i64 x1.b, .int .i64 x1.r, .slice x1.A x1.es.length x1.cap]] w1 fun e w' => e = .returned (.tuple #[.int .i64 (placeR x0.v x1).1, .int .i64 (placeR x0.v x1).2.1, .int .i64 (placeR x0.v x1).2.2]) ∧ Below w1.heap.size w1 w') := fun hl w1 h1 => Lib.hid (r10place x0.v x1 hm1 he1 (by rw [hRr, hCc]; exact hl) w1 ((hin1.below h1).mono h1.size))
 obtain ⟨bad, hbad0⟩ : ∃ bad, ((R != 1) && (C != 1)) = bad := ⟨_, rfl⟩
 have hVV := Lib.hid (show V = if bad = true then errL 8 else lookR2 x0.v x1 by
  rw [← hV0, ← hbad0, hRr, hCc]
  have e1 : decide (1 < R) = (R != 1) := by rw [Bool.eq_iff_iff]; simp; omega
  have e2 : decide (1 < C) = (C != 1) := by rw [Bool.eq_iff_iff]; simp; omega
  rw [e1, e2])
 have hbad := Lib.hid hbad0
 have hline : bad = false → R = 1 ∨ C = 1 := fun h9 => by
  rw [← hbad0] at h9
  by_cases h1 : R = 1
  ·exact Or.inl h1
  ·by_cases h2 : C = 1
   ·exact Or.inr h2
   ·simp [h1, h2] at h9
 have hRr' := Lib.hid hRr
 have hCc' := Lib.hid hCc
 have he1' := Lib.hid he1
 clear hR hin hcell hin1 hV0 hbad0 hRr hCc hm1 he1 q1 q2 q3 q4 q5 q6
 go_enter Tryz.func46, Tryz.ntmps46
 go_upto_region 2 with (fail)
 obtain ⟨wa, hwa⟩ : ∃ wa, wa = ((w.alloc (.cells #[.int .i64 0, .int .i64 0, .string ⟨#[]⟩, .bool false, .int .i64 0] 26)).alloc (.cells #[.bool x1.many, .int .i64 x1.v.t, .int .i64 x1.v.n, .string x1.v.s, .bool x1.v.b, .int .i64 x1.v.c, .int .i64 x1.t, .int .i64 x1.l, .int .i64 x1.b, .int .i64 x1.r, .slice x1.A x1.es.length x1.cap] 36)) := ⟨_, rfl⟩
 rw [← hwa]
 have hBa : Below (w.heap.size + 2) ((w.alloc (.cells #[.int .i64 0, .int .i64 0, .string ⟨#[]⟩, .bool false, .int .i64 0] 26)).alloc (.cells #[.bool x1.many, .int .i64 x1.v.t, .int .i64 x1.v.n, .string x1.v.s, .bool x1.v.b, .int .i64 x1.v.c, .int .i64 x1.t, .int .i64 x1.l, .int .i64 x1.b, .int .i64 x1.r, .slice x1.A x1.es.length x1.cap] 36)) wa := by rw [hwa]; exact Below.refl _ _
 have hza : w.heap.size + 2 = wa.heap.size := by rw [hwa]; simp
 have qa : Below w.heap.size w wa := b0.trans (hBa.mono (by omega))
 clear hwa
 have hx0 : wa.cell? ⟨w.heap.size + 1, 0, none⟩ = some (.bool x1.many) := by rw [hBa.cell (by dsimp only; omega)]; exact c_at (by simp) rfl
 have hx1 : wa.cell? ⟨w.heap.size + 1, 1, none⟩ = some (.int .i64 x1.v.t) := by rw [hBa.cell (by dsimp only; omega)]; exact c_at (by simp) rfl
 have hx2 : wa.cell? ⟨w.heap.size + 1, 2, none⟩ = some (.int .i64 x1.v.n) := by rw [hBa.cell (by dsimp only; omega)]; exact c_at (by simp) rfl
 have hx3 : wa.cell? ⟨w.heap.size + 1, 3, none⟩ = some (.string x1.v.s) := by rw [hBa.cell (by dsimp only; omega)]; exact c_at (by simp) rfl
 have hx4 : wa.cell? ⟨w.heap.size + 1, 4, none⟩ = some (.bool x1.v.b) := by rw [hBa.cell (by dsimp only; omega)]; exact c_at (by simp) rfl
 have hx5 : wa.cell? ⟨w.heap.size + 1, 5, none⟩ = some (.int .i64 x1.v.c) := by rw [hBa.cell (by dsimp only; omega)]; exact c_at (by simp) rfl
 have hx6 : wa.cell? ⟨w.heap.size + 1, 6, none⟩ = some (.int .i64 x1.t) := by rw [hBa.cell (by dsimp only; omega)]; exact c_at (by simp) rfl
 have hx7 : wa.cell? ⟨w.heap.size + 1, 7, none⟩ = some (.int .i64 x1.l) := by rw [hBa.cell (by dsimp only; omega)]; exact c_at (by simp) rfl
 have hx8 : wa.cell? ⟨w.heap.size + 1, 8, none⟩ = some (.int .i64 x1.b) := by rw [hBa.cell (by dsimp only; omega)]; exact c_at (by simp) rfl
 have hx9 : wa.cell? ⟨w.heap.size + 1, 9, none⟩ = some (.int .i64 x1.r) := by rw [hBa.cell (by dsimp only; omega)]; exact c_at (by simp) rfl
 have hx10 : wa.cell? ⟨w.heap.size + 1, 10, none⟩ = some (.slice x1.A x1.es.length x1.cap) := by rw [hBa.cell (by dsimp only; omega)]; exact c_at (by simp) rfl
 obtain ⟨hu0, hu1, hu2, hu3, hu4⟩ := mv5 qa hab hv0 hv1 hv2 hv3 hv4
 clear hv0 hv1 hv2 hv3 hv4 hx1_0 hx1_1 hx1_2 hx1_3 hx1_4 hx1_5 hx1_6 hx1_7 hx1_8 hx1_9 hx1_10
 have haba : ab < wa.heap.size := by omega
 have hl1a : w.heap.size + 1 < wa.heap.size := by omega
 go_cut [40] from 10 to 40 (fun c wd => c = .bool bad ∧ Below wa.heap.size wa wd)
 case first =>
  refine wp_region_noPanic ?_
  refine wp_region_held_drew (S := fun w' => w'.cell? ⟨w.heap.size + 1, 0, none⟩ = some (.bool x1.many) ∧ w'.cell? ⟨w.heap.size + 1, 1, none⟩ = some (.int .i64 x1.v.t) ∧ w'.cell? ⟨w.heap.size + 1, 2, none⟩ = some (.int .i64 x1.v.n) ∧ w'.cell? ⟨w.heap.size + 1, 3, none⟩ = some (.string x1.v.s) ∧ w'.cell? ⟨w.heap.size + 1, 4, none⟩ = some (.bool x1.v.b) ∧ w'.cell? ⟨w.heap.size + 1, 5, none⟩ = some (.int .i64 x1.v.c) ∧ w'.cell? ⟨w.heap.size + 1, 6, none⟩ = some (.int .i64 x1.t) ∧ w'.cell? ⟨w.heap.size + 1, 7, none⟩ = some (.int .i64 x1.l) ∧ w'.cell? ⟨w.heap.size + 1, 8, none⟩ = some (.int .i64 x1.b) ∧ w'.cell? ⟨w.heap.size + 1, 9, none⟩ = some (.int .i64 x1.r) ∧ w'.cell? ⟨w.heap.size + 1, 10, none⟩ = some (.slice x1.A x1.es.length x1.cap) ∧ Below wa.heap.size wa w' ∧ wa.heap.size ≤ w'.heap.size) (by kernel_rfl) kpI (fun hHeld => ?_)
  generalize wa.drew = wz at *
  refine sqT 0 hHeld ?_
  refine sqC 1 (fun K hK => ?_)
  go_split_ands
  go_simp
  refine ((CR _).out).mono ?_
  rintro e w1 ⟨rfl, hb⟩
  refine hK.out _ _ ?_ (fun hHeld => ?_)
  ·exact kpB
  clear hK K hb
  refine sqT 2 hHeld ?_
  refine sqT 3 hHeld ?_
  cases hb1 : (R != 1)
  case' false =>
   refine sqS 4 hHeld ?_
   refine sqS 5 hHeld ?_
   refine sqS 6 hHeld ?_
   refine sqT 7 hHeld ?_
   refine sqT 8 hHeld ?_
  case' true =>
   refine sqT 4 hHeld ?_
   refine sqC 5 (fun K hK => ?_)
   go_split_ands
   go_simp
   refine ((CC _).out).mono ?_
   rintro e w1 ⟨rfl, hb⟩
   refine hK.out _ _ ?_ (fun hHeld => ?_)
   ·exact kpB
   clear hK K hb
   refine sqT 6 hHeld ?_
   cases hb2 : (C != 1)
   case' true =>
    refine sqT 7 hHeld ?_
    refine sqT 8 hHeld ?_
    refine sqS 9 hHeld ?_
    refine sqS 10 hHeld ?_
    refine sqS 11 hHeld ?_
    refine sqS 12 hHeld ?_
    refine sqS 13 hHeld ?_
    refine sqS 14 hHeld ?_
    refine sqS 15 hHeld ?_
    refine sqS 16 hHeld ?_
    refine sqS 17 hHeld ?_
    refine sqS 18 hHeld ?_
    refine sqS 19 hHeld ?_
    refine sqS 20 hHeld ?_
    refine sqS 21 hHeld ?_
    refine sqS 22 hHeld ?_
    refine sqS 23 hHeld ?_
    refine sqS 24 hHeld ?_
    refine sqS 25 hHeld ?_
    refine sqS 26 hHeld ?_
    refine sqS 27 hHeld ?_
    refine sqS 28 hHeld ?_
    refine sqS 29 hHeld ?_
    refine sqT 30 hHeld ?_
    refine wpAnyH_done (by kernel_rfl) ?_ _
    refine NoPanic.normal ?_
    go_split_ands
    go_wp2
    go_meet
    case rel => exact ⟨by rw [← hbad.out]; simp [*], by assumption⟩
   case' false =>
    refine sqT 7 hHeld ?_
    refine sqT 8 hHeld ?_
  all_goals
   refine sqT 9 hHeld ?_
   refine sqT 10 hHeld ?_
   refine sqT 11 hHeld ?_
   refine sqT 12 hHeld ?_
   refine sqS 13 hHeld ?_
   refine sqS 14 hHeld ?_
   refine sqS 15 hHeld ?_
   refine sqS 16 hHeld ?_
   refine sqS 17 hHeld ?_
   refine sqS 18 hHeld ?_
   refine sqS 19 hHeld ?_
   refine sqS 20 hHeld ?_
   refine sqS 21 hHeld ?_
   refine sqS 22 hHeld ?_
   refine sqS 23 hHeld ?_
   refine sqS 24 hHeld ?_
   refine sqS 25 hHeld ?_
   refine sqS 26 hHeld ?_
   refine sqS 27 hHeld ?_
   refine sqS 28 hHeld ?_
   refine sqT 29 hHeld ?_
   refine sqT 30 hHeld ?_
   refine wpAnyH_done (by kernel_rfl) ?_ _
   refine NoPanic.normal ?_
   go_split_ands
   go_wp2
   go_meet
   case rel => exact ⟨by rw [← hbad.out]; simp [*], by assumption⟩
 case rest =>
  obtain ⟨wd, rfl⟩ : ∃ wd, wd = wc := ⟨_, rfl⟩
  obtain ⟨rfl, hbd⟩ := hcut
  have hBd : Below (w.heap.size + 2) ((w.alloc (.cells #[.int .i64 0, .int .i64 0, .string ⟨#[]⟩, .bool false, .int .i64 0] 26)).alloc (.cells #[.bool x1.many, .int .i64 x1.v.t, .int .i64 x1.v.n, .string x1.v.s, .bool x1.v.b, .int .i64 x1.v.c, .int .i64 x1.t, .int .i64 x1.l, .int .i64 x1.b, .int .i64 x1.r, .slice x1.A x1.es.length x1.cap] 36)) wd := hBa.trans (hbd.mono (by omega))
  have hzd := hbd.size
  have qd : Below w.heap.size w wd := b0.trans (hBd.mono (by omega))
  obtain ⟨dx0, dx1, dx2, dx3, dx4, dx5, dx6, dx7, dx8, dx9, dx10⟩ := mv11 hbd hl1a hx0 hx1 hx2 hx3 hx4 hx5 hx6 hx7 hx8 hx9 hx10
  obtain ⟨du0, du1, du2, du3, du4⟩ := mv5 hbd haba hu0 hu1 hu2 hu3 hu4
  clear hx0 hx1 hx2 hx3 hx4 hx5 hx6 hx7 hx8 hx9 hx10 hu0 hu1 hu2 hu3 hu4 hbd hBa qa CR CC
  have l0d : w.heap.size < wd.heap.size := by omega
  have l1d : w.heap.size + 1 < wd.heap.size := by omega
  have labd : ab < wd.heap.size := by omega
  cases bad
  ·have hVl := Lib.hid (show V = lookR2 x0.v x1 from by rw [hVV.out]; rfl)
   have CP := CPl (hline rfl)
   have hl := hline rfl
   clear CPl hVV hbad hline
   go_upto_region 4 with (fail)
   cases hF : firstF x0.v x1 with
   |
    none =>
    have hpl : placeR x0.v x1 = (-1, 0, 0) := by unfold placeR; rw [hF]
    rw [hpl] at CP
    have hVe := Lib.hid (show V = errL 6 from by rw [hVl.out]; unfold lookR2; rw [hF])
    clear hpl hF
    refine wp_region_noPanic ?_
    refine wp_region_held_drew (S := fun w' => w'.cell? ⟨w.heap.size + 1, 0, none⟩ = some (.bool x1.many) ∧ w'.cell? ⟨w.heap.size + 1, 1, none⟩ = some (.int .i64 x1.v.t) ∧ w'.cell? ⟨w.heap.size + 1, 2, none⟩ = some (.int .i64 x1.v.n) ∧ w'.cell? ⟨w.heap.size + 1, 3, none⟩ = some (.string x1.v.s) ∧ w'.cell? ⟨w.heap.size + 1, 4, none⟩ = some (.bool x1.v.b) ∧ w'.cell? ⟨w.heap.size + 1, 5, none⟩ = some (.int .i64 x1.v.c) ∧ w'.cell? ⟨w.heap.size + 1, 6, none⟩ = some (.int .i64 x1.t) ∧ w'.cell? ⟨w.heap.size + 1, 7, none⟩ = some (.int .i64 x1.l) ∧ w'.cell? ⟨w.heap.size + 1, 8, none⟩ = some (.int .i64 x1.b) ∧ w'.cell? ⟨w.heap.size + 1, 9, none⟩ = some (.int .i64 x1.r) ∧ w'.cell? ⟨w.heap.size + 1, 10, none⟩ = some (.slice x1.A x1.es.length x1.cap) ∧ w'.cell? ⟨ab, ao + 1, none⟩ = some (.int .i64 x0.v.t) ∧ w'.cell? ⟨ab, ao + 2, none⟩ = some (.int .i64 x0.v.n) ∧ w'.cell? ⟨ab, ao + 3, none⟩ = some (.string x0.v.s) ∧ w'.cell? ⟨ab, ao + 4, none⟩ = some (.bool x0.v.b) ∧ w'.cell? ⟨ab, ao + 5, none⟩ = some (.int .i64 x0.v.c) ∧ Below wd.heap.size wd w' ∧ wd.heap.size ≤ w'.heap.size) (by kernel_rfl) kpI (fun hHeld => ?_)
    generalize wd.drew = wz at *
    refine sqT 0 hHeld ?_
    refine sqT 1 hHeld ?_
    refine sqT 2 hHeld ?_
    refine sqT 3 hHeld ?_
    refine sqT 4 hHeld ?_
    refine sqC 5 (fun K hK => ?_)
    go_split_ands
    go_simp
    refine ((CP _ (qd.trans (Below.mono (by assumption) qd.size))).out).mono ?_
    rintro e w1 ⟨rfl, hb⟩
    refine hK.out _ _ ?_ (fun hHeld => ?_)
    ·exact kpB
    clear hK K hb
    refine sqT 6 hHeld ?_
    refine sqT 7 hHeld ?_
    refine sqT 8 hHeld ?_
    refine sqT 9 hHeld ?_
    refine sqT 10 hHeld ?_
    refine sqT 11 hHeld ?_
    refine sqT 12 hHeld ?_
    refine wpAnyH_done (by kernel_rfl) ?_ _
    refine NoPanic.normal ?_
    go_split_ands
    have hbf : Below wd.heap.size wd w1 := by assumption
    obtain ⟨wf, rfl⟩ : ∃ wf, wf = w1 := ⟨_, rfl⟩
    have hBf : Below (w.heap.size + 2) ((w.alloc (.cells #[.int .i64 0, .int .i64 0, .string ⟨#[]⟩, .bool false, .int .i64 0] 26)).alloc (.cells #[.bool x1.many, .int .i64 x1.v.t, .int .i64 x1.v.n, .string x1.v.s, .bool x1.v.b, .int .i64 x1.v.c, .int .i64 x1.t, .int .i64 x1.l, .int .i64 x1.b, .int .i64 x1.r, .slice x1.A x1.es.length x1.cap] 36)) wf := hBd.trans (hbf.mono (by omega))
    have hzf := hbf.size
    have qf : Below w.heap.size w wf := b0.trans (hBf.mono (by omega))
    have l0f : w.heap.size < wf.heap.size := by omega
    have labf : ab < wf.heap.size := by omega
    clear hbf
    obtain ⟨hr0, hr1, hr2, hr3, hr4, hs0, hs1, hs2, hs3, hs4⟩ := res5b (n := w.heap.size) hBf
    go_wp2_with (go_at_call 20; refine (rverrA 6 _).mono ?_; rintro e w9 ⟨rfl, hb⟩; obtain ⟨hc, hf, hz⟩ := bkeep hb wf.heap.size (by first | omega | (simp <;> omega)))
    refine bodyPost_ret (v := .agg #[.int .i64 4, .int .i64 0, .string ⟨#[]⟩, .bool false, .int .i64 (errC 6)]) ?_ rfl ⟨by rw [hVe.out]; rfl, belq⟩
    simp [results, Tryz.results46, go_sem, *]
   |
    some i =>
    have hpl : placeR x0.v x1 = ((i : Int), (nthL x1 i).1, (nthL x1 i).2) := by unfold placeR; rw [hF]
    have hib : (i : Int) < R * C := by
     unfold firstF Ffirst at hF
     have h9 := List.mem_range.1 (List.mem_of_find?_eq_some hF)
     rw [hRr'.out, hCc'.out] at h9
     omega
    have hi4 : (i : Int) ≤ 4096 := by
     rcases hl with h | h
     ·rw [h, Int.one_mul] at hib; omega
     ·rw [h, Int.mul_one] at hib; omega
    have hi0 : ¬ (i : Int) < 0 := by omega
    have hVe := Lib.hid (show V = numL (((i : Int) + 1) * 10000) from by rw [hVl.out]; unfold lookR2; rw [hF])
    obtain ⟨u, hu⟩ : ∃ u, (nthL x1 i).1 = u := ⟨_, rfl⟩
    obtain ⟨t, ht⟩ : ∃ t, (nthL x1 i).2 = t := ⟨_, rfl⟩
    rw [hu, ht] at hpl
    clear hu ht
    have wi1 : IntKind.i64.wrap ((i : Int) + 1) = (i : Int) + 1 := IntWalk.i64_in _ (by omega)
    rw [hpl] at CP
    clear hpl hF hib hl
    refine wp_region_noPanic ?_
    refine wp_region_held_drew (S := fun w' => w'.cell? ⟨w.heap.size + 1, 0, none⟩ = some (.bool x1.many) ∧ w'.cell? ⟨w.heap.size + 1, 1, none⟩ = some (.int .i64 x1.v.t) ∧ w'.cell? ⟨w.heap.size + 1, 2, none⟩ = some (.int .i64 x1.v.n) ∧ w'.cell? ⟨w.heap.size + 1, 3, none⟩ = some (.string x1.v.s) ∧ w'.cell? ⟨w.heap.size + 1, 4, none⟩ = some (.bool x1.v.b) ∧ w'.cell? ⟨w.heap.size + 1, 5, none⟩ = some (.int .i64 x1.v.c) ∧ w'.cell? ⟨w.heap.size + 1, 6, none⟩ = some (.int .i64 x1.t) ∧ w'.cell? ⟨w.heap.size + 1, 7, none⟩ = some (.int .i64 x1.l) ∧ w'.cell? ⟨w.heap.size + 1, 8, none⟩ = some (.int .i64 x1.b) ∧ w'.cell? ⟨w.heap.size + 1, 9, none⟩ = some (.int .i64 x1.r) ∧ w'.cell? ⟨w.heap.size + 1, 10, none⟩ = some (.slice x1.A x1.es.length x1.cap) ∧ w'.cell? ⟨ab, ao + 1, none⟩ = some (.int .i64 x0.v.t) ∧ w'.cell? ⟨ab, ao + 2, none⟩ = some (.int .i64 x0.v.n) ∧ w'.cell? ⟨ab, ao + 3, none⟩ = some (.string x0.v.s) ∧ w'.cell? ⟨ab, ao + 4, none⟩ = some (.bool x0.v.b) ∧ w'.cell? ⟨ab, ao + 5, none⟩ = some (.int .i64 x0.v.c) ∧ Below wd.heap.size wd w' ∧ wd.heap.size ≤ w'.heap.size) (by kernel_rfl) kpI (fun hHeld => ?_)
    generalize wd.drew = wz at *
    refine sqT 0 hHeld ?_
    refine sqT 1 hHeld ?_
    refine sqT 2 hHeld ?_
    refine sqT 3 hHeld ?_
    refine sqT 4 hHeld ?_
    refine sqC 5 (fun K hK => ?_)
    go_split_ands
    go_simp
    refine ((CP _ (qd.trans (Below.mono (by assumption) qd.size))).out).mono ?_
    rintro e w1 ⟨rfl, hb⟩
    refine hK.out _ _ ?_ (fun hHeld => ?_)
    ·exact kpB
    clear hK K hb
    refine sqT 6 hHeld ?_
    refine sqT 7 hHeld ?_
    refine sqT 8 hHeld ?_
    refine sqT 9 hHeld ?_
    refine sqT 10 hHeld ?_
    refine sqT 11 hHeld ?_
    refine sqT 12 hHeld ?_
    refine wpAnyH_done (by kernel_rfl) ?_ _
    refine NoPanic.normal ?_
    go_split_ands
    have hbf : Below wd.heap.size wd w1 := by assumption
    obtain ⟨wf, rfl⟩ : ∃ wf, wf = w1 := ⟨_, rfl⟩
    have hBf : Below (w.heap.size + 2) ((w.alloc (.cells #[.int .i64 0, .int .i64 0, .string ⟨#[]⟩, .bool false, .int .i64 0] 26)).alloc (.cells #[.bool x1.many, .int .i64 x1.v.t, .int .i64 x1.v.n, .string x1.v.s, .bool x1.v.b, .int .i64 x1.v.c, .int .i64 x1.t, .int .i64 x1.l, .int .i64 x1.b, .int .i64 x1.r, .slice x1.A x1.es.length x1.cap] 36)) wf := hBd.trans (hbf.mono (by omega))
    have hzf := hbf.size
    have qf : Below w.heap.size w wf := b0.trans (hBf.mono (by omega))
    have l0f : w.heap.size < wf.heap.size := by omega
    have labf : ab < wf.heap.size := by omega
    clear hbf
    obtain ⟨hr0, hr1, hr2, hr3, hr4, hs0, hs1, hs2, hs3, hs4⟩ := res5b (n := w.heap.size) hBf
    go_wp2_with (go_at_call 43; refine (r10whole ((i : Int) + 1) (by omega) _).mono ?_; rintro e w9 ⟨rfl, hb⟩; obtain ⟨hc, hf, hz⟩ := bkeep hb wf.heap.size (by first | omega | (simp <;> omega)))
    refine bodyPost_ret (v := .agg #[.int .i64 ((numL (((i : Int) + 1) * 10000))).t, .int .i64 ((numL (((i : Int) + 1) * 10000))).n, .string ((numL (((i : Int) + 1) * 10000))).s, .bool ((numL (((i : Int) + 1) * 10000))).b, .int .i64 ((numL (((i : Int) + 1) * 10000))).c]) ?_ rfl ⟨by rw [hVe.out], belq⟩
    simp [results, Tryz.results46, go_sem, *]
  ·have hVe := Lib.hid (show V = errL 8 from by rw [hVV.out]; rfl)
   obtain ⟨hr0, hr1, hr2, hr3, hr4, hs0, hs1, hs2, hs3, hs4⟩ := res5b (n := w.heap.size) hBd
   go_wp2_with (go_at_call 20; refine (rverrA 8 _).mono ?_; rintro e w9 ⟨rfl, hb⟩; obtain ⟨hc, hf, hz⟩ := bkeep hb wd.heap.size (by first | omega | (simp <;> omega)))
   refine bodyPost_ret (v := .agg #[.int .i64 4, .int .i64 0, .string ⟨#[]⟩, .bool false, .int .i64 (errC 8)]) ?_ rfl ⟨by rw [hVe.out]; rfl, belq⟩
   simp [results, Tryz.results46, go_sem, *]
theorem r10look3 (x0 x1 x2 : AL) (hm1 : mayRectB x1.t x1.l x1.b x1.r = true) (he1 : entsOk x1 = true) (hm2 : mayRectB x2.t x2.l x2.b x2.r = true) (he2 : entsOk x2 = true) (w : World) (A : Option Addr) (cap : Nat) (hR : RdB w w.heap.size A 11 ([x0, x1, x2].map AL.cs)) (hin : ∀ x ∈ [x0, x1, x2], x.In w w.heap.size) : Calls Tryz.prog 46 #[.slice A 3 cap] w fun e w' => e = .returned (.agg #[.int .i64 ((if ((decide (1 < rowsL x1) && decide (1 < colsL x1)) || !(decide (rowsL x1 = rowsL x2) && decide (colsL x1 = colsL x2))) = true then errL 8 else lookR3 x0.v x1 x2)).t, .int .i64 ((if ((decide (1 < rowsL x1) && decide (1 < colsL x1)) || !(decide (rowsL x1 = rowsL x2) && decide (colsL x1 = colsL x2))) = true then errL 8 else lookR3 x0.v x1 x2)).n, .string ((if ((decide (1 < rowsL x1) && decide (1 < colsL x1)) || !(decide (rowsL x1 = rowsL x2) && decide (colsL x1 = colsL x2))) = true then errL 8 else lookR3 x0.v x1 x2)).s, .bool ((if ((decide (1 < rowsL x1) && decide (1 < colsL x1)) || !(decide (rowsL x1 = rowsL x2) && decide (colsL x1 = colsL x2))) = true then errL 8 else lookR3 x0.v x1 x2)).b, .int .i64 ((if ((decide (1 < rowsL x1) && decide (1 < colsL x1)) || !(decide (rowsL x1 = rowsL x2) && decide (colsL x1 = colsL x2))) = true then errL 8 else lookR3 x0.v x1 x2)).c]) ∧ Below w.heap.size w w' := by
 obtain ⟨V, hV0⟩ : ∃ V, (if ((decide (1 < rowsL x1) && decide (1 < colsL x1)) || !(decide (rowsL x1 = rowsL x2) && decide (colsL x1 = colsL x2))) = true then errL 8 else lookR3 x0.v x1 x2) = V := ⟨_, rfl⟩
 rw [hV0]
 have b0 : Below w.heap.size w ((w.alloc (.cells #[.int .i64 0, .int .i64 0, .string ⟨#[]⟩, .bool false, .int .i64 0] 26)).alloc (.cells #[.bool x1.many, .int .i64 x1.v.t, .int .i64 x1.v.n, .string x1.v.s, .bool x1.v.b, .int .i64 x1.v.c, .int .i64 x1.t, .int .i64 x1.l, .int .i64 x1.b, .int .i64 x1.r, .slice x1.A x1.es.length x1.cap] 36)) := belq
 obtain ⟨ab, ao, hA2, hab, hcell⟩ := hR 0 x0.cs rfl
 obtain rfl : A = some ⟨ab, ao, none⟩ := hA2
 obtain ⟨hv0, hv1, hv2, hv3, hv4⟩ := cs5_0 hcell
 have hcell1 : ∀ (j : Nat) (u : Value), x1.cs[j]? = some u → w.cell? ⟨ab, ao + 1 * 11 + j, none⟩ = some u := by
  obtain ⟨ab2, ao2, hA3, _, hcell1⟩ := hR 1 x1.cs rfl
  cases hA3
  exact hcell1
 obtain ⟨hx1_0, hx1_1, hx1_2, hx1_3, hx1_4, hx1_5, hx1_6, hx1_7, hx1_8, hx1_9, hx1_10⟩ := cs11_1 hcell1
 clear hcell1
 have hcell2 : ∀ (j : Nat) (u : Value), x2.cs[j]? = some u → w.cell? ⟨ab, ao + 2 * 11 + j, none⟩ = some u := by
  obtain ⟨ab2, ao2, hA3, _, hcell2⟩ := hR 2 x2.cs rfl
  cases hA3
  exact hcell2
 obtain ⟨hx2_0, hx2_1, hx2_2, hx2_3, hx2_4, hx2_5, hx2_6, hx2_7, hx2_8, hx2_9, hx2_10⟩ := cs11_2 hcell2
 clear hcell2
 have hne : ab ≠ w.heap.size := by omega
 have hin1 : x1.In w w.heap.size := hin x1 (by simp)
 obtain ⟨q1, q2, q3, q4, q5, q6⟩ := rect_in2 hm1
 obtain ⟨R, hRr⟩ : ∃ R, rowsL x1 = R := ⟨_, rfl⟩
 obtain ⟨C, hCc⟩ : ∃ C, colsL x1 = C := ⟨_, rfl⟩
 have hRb : 1 ≤ R ∧ R ≤ 4096 := by unfold rowsL at hRr; omega
 have hCb : 1 ≤ C ∧ C ≤ 256 := by unfold colsL at hCc; omega
 have CR : ∀ w, Hid (Calls Tryz.prog 49 #[.agg #[.bool x1.many, .int .i64 x1.v.t, .int .i64 x1.v.n, .string x1.v.s, .bool x1.v.b, .int .i64 x1.v.c, .int .i64 x1.t, .int .i64 x1.l, .int .i64 x1.b, .int .i64 x1.r, .slice x1.A x1.es.length x1.cap]] w fun e w' => e = .returned (.int .i64 R) ∧ Below w.heap.size w w') := fun w => Lib.hid (by rw [← hRr]; exact r10rows x1 hm1 w)
 have CC : ∀ w, Hid (Calls Tryz.prog 50 #[.agg #[.bool x1.many, .int .i64 x1.v.t, .int .i64 x1.v.n, .string x1.v.s, .bool x1.v.b, .int .i64 x1.v.c, .int .i64 x1.t, .int .i64 x1.l, .int .i64 x1.b, .int .i64 x1.r, .slice x1.A x1.es.length x1.cap]] w fun e w' => e = .returned (.int .i64 C) ∧ Below w.heap.size w w') := fun w => Lib.hid (by rw [← hCc]; exact r10cols x1 hm1 w)
 have hin2 : x2.In w w.heap.size := hin x2 (by simp)
 obtain ⟨S, hSs⟩ : ∃ S, rowsL x2 = S := ⟨_, rfl⟩
 obtain ⟨D, hDd⟩ : ∃ D, colsL x2 = D := ⟨_, rfl⟩
 have CS : ∀ w, Hid (Calls Tryz.prog 49 #[.agg #[.bool x2.many, .int .i64 x2.v.t, .int .i64 x2.v.n, .string x2.v.s, .bool x2.v.b, .int .i64 x2.v.c, .int .i64 x2.t, .int .i64 x2.l, .int .i64 x2.b, .int .i64 x2.r, .slice x2.A x2.es.length x2.cap]] w fun e w' => e = .returned (.int .i64 S) ∧ Below w.heap.size w w') := fun w => Lib.hid (by rw [← hSs]; exact r10rows x2 hm2 w)
 have CD : ∀ w, Hid (Calls Tryz.prog 50 #[.agg #[.bool x2.many, .int .i64 x2.v.t, .int .i64 x2.v.n, .string x2.v.s, .bool x2.v.b, .int .i64 x2.v.c, .int .i64 x2.t, .int .i64 x2.l, .int .i64 x2.b, .int .i64 x2.r, .slice x2.A x2.es.length x2.cap]] w fun e w' => e = .returned (.int .i64 D) ∧ Below w.heap.size w w') := fun w => Lib.hid (by rw [← hDd]; exact r10cols x2 hm2 w)
 have CH : ∀ (u t : Int) (w1 : World), Below w.heap.size w w1 → -1000000 ≤ u ∧ u ≤ 1000000 → -1000000 ≤ t ∧ t ≤ 1000000 → Hid (Calls Tryz.prog 128 #[.agg #[.bool x2.many, .int .i64 x2.v.t, .int .i64 x2.v.n, .string x2.v.s, .bool x2.v.b, .int .i64 x2.v.c, .int .i64 x2.t, .int .i64 x2.l, .int .i64 x2.b, .int .i64 x2.r, .slice x2.A x2.es.length x2.cap], .int .i64 u, .int .i64 t] w1 fun e w' => e = .returned (.agg #[.int .i64 ((hasW x2 u t)).t, .int .i64 ((hasW x2 u t)).n, .string ((hasW x2 u t)).s, .bool ((hasW x2 u t)).b, .int .i64 ((hasW x2 u t)).c]) ∧ Below w1.heap.size w1 w') := fun u t w1 h1 hu ht => Lib.hid (r10has x2 u t hm2 hu ht (by have := ent_len hm2 he2; omega) w1 ((hin2.below h1).mono h1.size))
 have CPl : (R = 1 ∨ C = 1) → ∀ w1 : World, Below w.heap.size w w1 → Hid (Calls Tryz.prog 131 #[.agg #[.int .i64 x0.v.t, .int .i64 x0.v.n, .string x0.v.s, .bool x0.v.b, .int .i64 x0.v.c], .agg #[.bool x1.many, .int .i64 x1.v.t, .int .i64 x1.v.n, .string x1.v.s, .bool x1.v.b, .int .i64 x1.v.c, .int .i64 x1.t, .int .i64 x1.l, .int .i64 x1.b, .int .i64 x1.r, .slice x1.A x1.es.length x1.cap]] w1 fun e w' => e = .returned (.tuple #[.int .i64 (placeR x0.v x1).1, .int .i64 (placeR x0.v x1).2.1, .int .i64 (placeR x0.v x1).2.2]) ∧ Below w1.heap.size w1 w') := fun hl w1 h1 => Lib.hid (r10place x0.v x1 hm1 he1 (by rw [hRr, hCc]; exact hl) w1 ((hin1.below h1).mono h1.size))
 obtain ⟨bad, hbad0⟩ : ∃ bad, ((R != 1) && (C != 1) || ((R != S) || (C != D))) = bad := ⟨_, rfl⟩
 have hVV := Lib.hid (show V = if bad = true then errL 8 else lookR3 x0.v x1 x2 by
  rw [← hV0, ← hbad0, hRr, hCc, hSs, hDd]
  have e1 : decide (1 < R) = (R != 1) := by rw [Bool.eq_iff_iff]; simp; omega
  have e2 : decide (1 < C) = (C != 1) := by rw [Bool.eq_iff_iff]; simp; omega
  rw [e1, e2]
  have e3 : (!(decide (R = S) && decide (C = D))) = ((R != S) || (C != D)) := by by_cases h9 : R = S <;> by_cases h8 : C = D <;> simp [h9, h8]
  rw [e3])
 have hbad := Lib.hid hbad0
 have hline : bad = false → R = 1 ∨ C = 1 := fun h9 => by
  rw [← hbad0] at h9
  by_cases h1 : R = 1
  ·exact Or.inl h1
  ·by_cases h2 : C = 1
   ·exact Or.inr h2
   ·simp [h1, h2] at h9
 have hRr' := Lib.hid hRr
 have hCc' := Lib.hid hCc
 have he1' := Lib.hid he1
 have he2H := Lib.hid he2
 clear hR hin hcell hin1 hV0 hbad0 hRr hCc hm1 he1 q1 q2 q3 q4 q5 q6 hin2 hSs hDd hm2 he2
 go_enter Tryz.func46, Tryz.ntmps46
 go_upto_region 2 with (fail)
 obtain ⟨wa, hwa⟩ : ∃ wa, wa = ((w.alloc (.cells #[.int .i64 0, .int .i64 0, .string ⟨#[]⟩, .bool false, .int .i64 0] 26)).alloc (.cells #[.bool x1.many, .int .i64 x1.v.t, .int .i64 x1.v.n, .string x1.v.s, .bool x1.v.b, .int .i64 x1.v.c, .int .i64 x1.t, .int .i64 x1.l, .int .i64 x1.b, .int .i64 x1.r, .slice x1.A x1.es.length x1.cap] 36)) := ⟨_, rfl⟩
 rw [← hwa]
 have hBa : Below (w.heap.size + 2) ((w.alloc (.cells #[.int .i64 0, .int .i64 0, .string ⟨#[]⟩, .bool false, .int .i64 0] 26)).alloc (.cells #[.bool x1.many, .int .i64 x1.v.t, .int .i64 x1.v.n, .string x1.v.s, .bool x1.v.b, .int .i64 x1.v.c, .int .i64 x1.t, .int .i64 x1.l, .int .i64 x1.b, .int .i64 x1.r, .slice x1.A x1.es.length x1.cap] 36)) wa := by rw [hwa]; exact Below.refl _ _
 have hza : w.heap.size + 2 = wa.heap.size := by rw [hwa]; simp
 have qa : Below w.heap.size w wa := b0.trans (hBa.mono (by omega))
 clear hwa
 have hx0 : wa.cell? ⟨w.heap.size + 1, 0, none⟩ = some (.bool x1.many) := by rw [hBa.cell (by dsimp only; omega)]; exact c_at (by simp) rfl
 have hx1 : wa.cell? ⟨w.heap.size + 1, 1, none⟩ = some (.int .i64 x1.v.t) := by rw [hBa.cell (by dsimp only; omega)]; exact c_at (by simp) rfl
 have hx2 : wa.cell? ⟨w.heap.size + 1, 2, none⟩ = some (.int .i64 x1.v.n) := by rw [hBa.cell (by dsimp only; omega)]; exact c_at (by simp) rfl
 have hx3 : wa.cell? ⟨w.heap.size + 1, 3, none⟩ = some (.string x1.v.s) := by rw [hBa.cell (by dsimp only; omega)]; exact c_at (by simp) rfl
 have hx4 : wa.cell? ⟨w.heap.size + 1, 4, none⟩ = some (.bool x1.v.b) := by rw [hBa.cell (by dsimp only; omega)]; exact c_at (by simp) rfl
 have hx5 : wa.cell? ⟨w.heap.size + 1, 5, none⟩ = some (.int .i64 x1.v.c) := by rw [hBa.cell (by dsimp only; omega)]; exact c_at (by simp) rfl
 have hx6 : wa.cell? ⟨w.heap.size + 1, 6, none⟩ = some (.int .i64 x1.t) := by rw [hBa.cell (by dsimp only; omega)]; exact c_at (by simp) rfl
 have hx7 : wa.cell? ⟨w.heap.size + 1, 7, none⟩ = some (.int .i64 x1.l) := by rw [hBa.cell (by dsimp only; omega)]; exact c_at (by simp) rfl
 have hx8 : wa.cell? ⟨w.heap.size + 1, 8, none⟩ = some (.int .i64 x1.b) := by rw [hBa.cell (by dsimp only; omega)]; exact c_at (by simp) rfl
 have hx9 : wa.cell? ⟨w.heap.size + 1, 9, none⟩ = some (.int .i64 x1.r) := by rw [hBa.cell (by dsimp only; omega)]; exact c_at (by simp) rfl
 have hx10 : wa.cell? ⟨w.heap.size + 1, 10, none⟩ = some (.slice x1.A x1.es.length x1.cap) := by rw [hBa.cell (by dsimp only; omega)]; exact c_at (by simp) rfl
 obtain ⟨hu0, hu1, hu2, hu3, hu4, hy0, hy1, hy2, hy3, hy4, hy5⟩ := mv11 qa hab hv0 hv1 hv2 hv3 hv4 hx2_0 hx2_1 hx2_2 hx2_3 hx2_4 hx2_5
 obtain ⟨hy6, hy7, hy8, hy9, hy10⟩ := mv5 qa hab hx2_6 hx2_7 hx2_8 hx2_9 hx2_10
 clear hv0 hv1 hv2 hv3 hv4 hx1_0 hx1_1 hx1_2 hx1_3 hx1_4 hx1_5 hx1_6 hx1_7 hx1_8 hx1_9 hx1_10 hx2_0 hx2_1 hx2_2 hx2_3 hx2_4 hx2_5 hx2_6 hx2_7 hx2_8 hx2_9 hx2_10
 have haba : ab < wa.heap.size := by omega
 have hl1a : w.heap.size + 1 < wa.heap.size := by omega
 go_cut [40] from 10 to 40 (fun c wd => c = .bool bad ∧ Below wa.heap.size wa wd)
 case first =>
  refine wp_region_noPanic ?_
  refine wp_region_held_drew (S := fun w' => w'.cell? ⟨w.heap.size + 1, 0, none⟩ = some (.bool x1.many) ∧ w'.cell? ⟨w.heap.size + 1, 1, none⟩ = some (.int .i64 x1.v.t) ∧ w'.cell? ⟨w.heap.size + 1, 2, none⟩ = some (.int .i64 x1.v.n) ∧ w'.cell? ⟨w.heap.size + 1, 3, none⟩ = some (.string x1.v.s) ∧ w'.cell? ⟨w.heap.size + 1, 4, none⟩ = some (.bool x1.v.b) ∧ w'.cell? ⟨w.heap.size + 1, 5, none⟩ = some (.int .i64 x1.v.c) ∧ w'.cell? ⟨w.heap.size + 1, 6, none⟩ = some (.int .i64 x1.t) ∧ w'.cell? ⟨w.heap.size + 1, 7, none⟩ = some (.int .i64 x1.l) ∧ w'.cell? ⟨w.heap.size + 1, 8, none⟩ = some (.int .i64 x1.b) ∧ w'.cell? ⟨w.heap.size + 1, 9, none⟩ = some (.int .i64 x1.r) ∧ w'.cell? ⟨w.heap.size + 1, 10, none⟩ = some (.slice x1.A x1.es.length x1.cap) ∧ w'.cell? ⟨ab, ao + 22, none⟩ = some (.bool x2.many) ∧ w'.cell? ⟨ab, ao + 22 + 1, none⟩ = some (.int .i64 x2.v.t) ∧ w'.cell? ⟨ab, ao + 22 + 2, none⟩ = some (.int .i64 x2.v.n) ∧ w'.cell? ⟨ab, ao + 22 + 3, none⟩ = some (.string x2.v.s) ∧ w'.cell? ⟨ab, ao + 22 + 4, none⟩ = some (.bool x2.v.b) ∧ w'.cell? ⟨ab, ao + 22 + 5, none⟩ = some (.int .i64 x2.v.c) ∧ w'.cell? ⟨ab, ao + 22 + 6, none⟩ = some (.int .i64 x2.t) ∧ w'.cell? ⟨ab, ao + 22 + 7, none⟩ = some (.int .i64 x2.l) ∧ w'.cell? ⟨ab, ao + 22 + 8, none⟩ = some (.int .i64 x2.b) ∧ w'.cell? ⟨ab, ao + 22 + 9, none⟩ = some (.int .i64 x2.r) ∧ w'.cell? ⟨ab, ao + 22 + 10, none⟩ = some (.slice x2.A x2.es.length x2.cap) ∧ Below wa.heap.size wa w' ∧ wa.heap.size ≤ w'.heap.size) (by kernel_rfl) kpI (fun hHeld => ?_)
  generalize wa.drew = wz at *
  refine sqT 0 hHeld ?_
  refine sqC 1 (fun K hK => ?_)
  go_split_ands
  go_simp
  refine ((CR _).out).mono ?_
  rintro e w1 ⟨rfl, hb⟩
  refine hK.out _ _ ?_ (fun hHeld => ?_)
  ·exact kpB
  clear hK K hb
  refine sqT 2 hHeld ?_
  refine sqT 3 hHeld ?_
  cases hb1 : (R != 1)
  case' false =>
   refine sqS 4 hHeld ?_
   refine sqS 5 hHeld ?_
   refine sqS 6 hHeld ?_
   refine sqT 7 hHeld ?_
   refine sqT 8 hHeld ?_
  case' true =>
   refine sqT 4 hHeld ?_
   refine sqC 5 (fun K hK => ?_)
   go_split_ands
   go_simp
   refine ((CC _).out).mono ?_
   rintro e w1 ⟨rfl, hb⟩
   refine hK.out _ _ ?_ (fun hHeld => ?_)
   ·exact kpB
   clear hK K hb
   refine sqT 6 hHeld ?_
   cases hb2 : (C != 1)
   case' true =>
    refine sqT 7 hHeld ?_
    refine sqT 8 hHeld ?_
    refine sqS 9 hHeld ?_
    refine sqS 10 hHeld ?_
    refine sqS 11 hHeld ?_
    refine sqS 12 hHeld ?_
    refine sqS 13 hHeld ?_
    refine sqS 14 hHeld ?_
    refine sqS 15 hHeld ?_
    refine sqS 16 hHeld ?_
    refine sqS 17 hHeld ?_
    refine sqS 18 hHeld ?_
    refine sqS 19 hHeld ?_
    refine sqS 20 hHeld ?_
    refine sqS 21 hHeld ?_
    refine sqS 22 hHeld ?_
    refine sqS 23 hHeld ?_
    refine sqS 24 hHeld ?_
    refine sqS 25 hHeld ?_
    refine sqS 26 hHeld ?_
    refine sqS 27 hHeld ?_
    refine sqS 28 hHeld ?_
    refine sqS 29 hHeld ?_
    refine sqT 30 hHeld ?_
    refine wpAnyH_done (by kernel_rfl) ?_ _
    refine NoPanic.normal ?_
    go_split_ands
    go_wp2
    go_meet
    case rel => exact ⟨by rw [← hbad.out]; simp [*], by assumption⟩
   case' false =>
    refine sqT 7 hHeld ?_
    refine sqT 8 hHeld ?_
  all_goals
   refine sqT 9 hHeld ?_
   refine sqT 10 hHeld ?_
   refine sqT 11 hHeld ?_
   refine sqT 12 hHeld ?_
   refine sqT 13 hHeld ?_
   refine sqT 15 hHeld ?_
   refine sqT 16 hHeld ?_
   refine sqT 17 hHeld ?_
   refine sqC 14 (fun K hK => ?_)
   go_split_ands
   go_simp
   refine ((CR _).out).mono ?_
   rintro e w1 ⟨rfl, hb⟩
   refine hK.out _ _ ?_ (fun hHeld => ?_)
   ·exact kpB
   clear hK K hb
   try simp only [Act.put, List.setIfInBounds_toArray, List.set_cons_zero, List.set_cons_succ]
   refine sqC 18 (fun K hK => ?_)
   go_split_ands
   go_simp
   refine ((CS _).out).mono ?_
   rintro e w1 ⟨rfl, hb⟩
   refine hK.out _ _ ?_ (fun hHeld => ?_)
   ·exact kpB
   clear hK K hb
   refine sqT 19 hHeld ?_
   refine sqT 20 hHeld ?_
   cases hb3 : (R != S)
   case' false =>
    refine sqT 21 hHeld ?_
    refine sqT 23 hHeld ?_
    refine sqT 24 hHeld ?_
    refine sqT 25 hHeld ?_
    refine sqC 22 (fun K hK => ?_)
    go_split_ands
    go_simp
    refine ((CC _).out).mono ?_
    rintro e w1 ⟨rfl, hb⟩
    refine hK.out _ _ ?_ (fun hHeld => ?_)
    ·exact kpB
    clear hK K hb
    try simp only [Act.put, List.setIfInBounds_toArray, List.set_cons_zero, List.set_cons_succ]
    refine sqC 26 (fun K hK => ?_)
    go_split_ands
    go_simp
    refine ((CD _).out).mono ?_
    rintro e w1 ⟨rfl, hb⟩
    refine hK.out _ _ ?_ (fun hHeld => ?_)
    ·exact kpB
    clear hK K hb
    refine sqT 27 hHeld ?_
   case' true =>
    refine sqS 21 hHeld ?_
    refine sqS 22 hHeld ?_
    refine sqS 23 hHeld ?_
    refine sqS 24 hHeld ?_
    refine sqS 25 hHeld ?_
    refine sqS 26 hHeld ?_
    refine sqS 27 hHeld ?_
   all_goals
    refine sqT 28 hHeld ?_
    refine sqT 29 hHeld ?_
    refine sqT 30 hHeld ?_
    refine wpAnyH_done (by kernel_rfl) ?_ _
    refine NoPanic.normal ?_
    go_split_ands
    go_wp2
    go_meet
    case rel => exact ⟨by rw [← hbad.out]; simp [*], by assumption⟩
 case rest =>
  obtain ⟨wd, rfl⟩ : ∃ wd, wd = wc := ⟨_, rfl⟩
  obtain ⟨rfl, hbd⟩ := hcut
  have hBd : Below (w.heap.size + 2) ((w.alloc (.cells #[.int .i64 0, .int .i64 0, .string ⟨#[]⟩, .bool false, .int .i64 0] 26)).alloc (.cells #[.bool x1.many, .int .i64 x1.v.t, .int .i64 x1.v.n, .string x1.v.s, .bool x1.v.b, .int .i64 x1.v.c, .int .i64 x1.t, .int .i64 x1.l, .int .i64 x1.b, .int .i64 x1.r, .slice x1.A x1.es.length x1.cap] 36)) wd := hBa.trans (hbd.mono (by omega))
  have hzd := hbd.size
  have qd : Below w.heap.size w wd := b0.trans (hBd.mono (by omega))
  obtain ⟨dx0, dx1, dx2, dx3, dx4, dx5, dx6, dx7, dx8, dx9, dx10⟩ := mv11 hbd hl1a hx0 hx1 hx2 hx3 hx4 hx5 hx6 hx7 hx8 hx9 hx10
  obtain ⟨du0, du1, du2, du3, du4, dy0, dy1, dy2, dy3, dy4, dy5⟩ := mv11 hbd haba hu0 hu1 hu2 hu3 hu4 hy0 hy1 hy2 hy3 hy4 hy5
  obtain ⟨dy6, dy7, dy8, dy9, dy10⟩ := mv5 hbd haba hy6 hy7 hy8 hy9 hy10
  clear hx0 hx1 hx2 hx3 hx4 hx5 hx6 hx7 hx8 hx9 hx10 hu0 hu1 hu2 hu3 hu4 hy0 hy1 hy2 hy3 hy4 hy5 hy6 hy7 hy8 hy9 hy10 hbd hBa qa CR CC CS CD
  have l0d : w.heap.size < wd.heap.size := by omega
  have l1d : w.heap.size + 1 < wd.heap.size := by omega
  have labd : ab < wd.heap.size := by omega
  cases bad
  ·have hVl := Lib.hid (show V = lookR3 x0.v x1 x2 from by rw [hVV.out]; rfl)
   have CP := CPl (hline rfl)
   have hl := hline rfl
   clear CPl hVV hbad hline
   go_upto_region 4 with (fail)
   cases hF : firstF x0.v x1 with
   |
    none =>
    have hpl : placeR x0.v x1 = (-1, 0, 0) := by unfold placeR; rw [hF]
    rw [hpl] at CP
    have hVe := Lib.hid (show V = errL 6 from by rw [hVl.out]; unfold lookR3; rw [hF])
    clear hpl hF
    refine wp_region_noPanic ?_
    refine wp_region_held_drew (S := fun w' => w'.cell? ⟨w.heap.size + 1, 0, none⟩ = some (.bool x1.many) ∧ w'.cell? ⟨w.heap.size + 1, 1, none⟩ = some (.int .i64 x1.v.t) ∧ w'.cell? ⟨w.heap.size + 1, 2, none⟩ = some (.int .i64 x1.v.n) ∧ w'.cell? ⟨w.heap.size + 1, 3, none⟩ = some (.string x1.v.s) ∧ w'.cell? ⟨w.heap.size + 1, 4, none⟩ = some (.bool x1.v.b) ∧ w'.cell? ⟨w.heap.size + 1, 5, none⟩ = some (.int .i64 x1.v.c) ∧ w'.cell? ⟨w.heap.size + 1, 6, none⟩ = some (.int .i64 x1.t) ∧ w'.cell? ⟨w.heap.size + 1, 7, none⟩ = some (.int .i64 x1.l) ∧ w'.cell? ⟨w.heap.size + 1, 8, none⟩ = some (.int .i64 x1.b) ∧ w'.cell? ⟨w.heap.size + 1, 9, none⟩ = some (.int .i64 x1.r) ∧ w'.cell? ⟨w.heap.size + 1, 10, none⟩ = some (.slice x1.A x1.es.length x1.cap) ∧ w'.cell? ⟨ab, ao + 1, none⟩ = some (.int .i64 x0.v.t) ∧ w'.cell? ⟨ab, ao + 2, none⟩ = some (.int .i64 x0.v.n) ∧ w'.cell? ⟨ab, ao + 3, none⟩ = some (.string x0.v.s) ∧ w'.cell? ⟨ab, ao + 4, none⟩ = some (.bool x0.v.b) ∧ w'.cell? ⟨ab, ao + 5, none⟩ = some (.int .i64 x0.v.c) ∧ w'.cell? ⟨ab, ao + 22, none⟩ = some (.bool x2.many) ∧ w'.cell? ⟨ab, ao + 22 + 1, none⟩ = some (.int .i64 x2.v.t) ∧ w'.cell? ⟨ab, ao + 22 + 2, none⟩ = some (.int .i64 x2.v.n) ∧ w'.cell? ⟨ab, ao + 22 + 3, none⟩ = some (.string x2.v.s) ∧ w'.cell? ⟨ab, ao + 22 + 4, none⟩ = some (.bool x2.v.b) ∧ w'.cell? ⟨ab, ao + 22 + 5, none⟩ = some (.int .i64 x2.v.c) ∧ w'.cell? ⟨ab, ao + 22 + 6, none⟩ = some (.int .i64 x2.t) ∧ w'.cell? ⟨ab, ao + 22 + 7, none⟩ = some (.int .i64 x2.l) ∧ w'.cell? ⟨ab, ao + 22 + 8, none⟩ = some (.int .i64 x2.b) ∧ w'.cell? ⟨ab, ao + 22 + 9, none⟩ = some (.int .i64 x2.r) ∧ w'.cell? ⟨ab, ao + 22 + 10, none⟩ = some (.slice x2.A x2.es.length x2.cap) ∧ Below wd.heap.size wd w' ∧ wd.heap.size ≤ w'.heap.size) (by kernel_rfl) kpI (fun hHeld => ?_)
    generalize wd.drew = wz at *
    refine sqT 0 hHeld ?_
    refine sqT 1 hHeld ?_
    refine sqT 2 hHeld ?_
    refine sqT 3 hHeld ?_
    refine sqT 4 hHeld ?_
    refine sqC 5 (fun K hK => ?_)
    go_split_ands
    go_simp
    refine ((CP _ (qd.trans (Below.mono (by assumption) qd.size))).out).mono ?_
    rintro e w1 ⟨rfl, hb⟩
    refine hK.out _ _ ?_ (fun hHeld => ?_)
    ·exact kpB
    clear hK K hb
    refine sqT 6 hHeld ?_
    refine sqT 7 hHeld ?_
    refine sqT 8 hHeld ?_
    refine sqT 9 hHeld ?_
    refine sqT 10 hHeld ?_
    refine sqT 11 hHeld ?_
    refine sqT 12 hHeld ?_
    refine wpAnyH_done (by kernel_rfl) ?_ _
    refine NoPanic.normal ?_
    go_split_ands
    have hbf : Below wd.heap.size wd w1 := by assumption
    obtain ⟨wf, rfl⟩ : ∃ wf, wf = w1 := ⟨_, rfl⟩
    have hBf : Below (w.heap.size + 2) ((w.alloc (.cells #[.int .i64 0, .int .i64 0, .string ⟨#[]⟩, .bool false, .int .i64 0] 26)).alloc (.cells #[.bool x1.many, .int .i64 x1.v.t, .int .i64 x1.v.n, .string x1.v.s, .bool x1.v.b, .int .i64 x1.v.c, .int .i64 x1.t, .int .i64 x1.l, .int .i64 x1.b, .int .i64 x1.r, .slice x1.A x1.es.length x1.cap] 36)) wf := hBd.trans (hbf.mono (by omega))
    have hzf := hbf.size
    have qf : Below w.heap.size w wf := b0.trans (hBf.mono (by omega))
    have l0f : w.heap.size < wf.heap.size := by omega
    have labf : ab < wf.heap.size := by omega
    obtain ⟨fy0, fy1, fy2, fy3, fy4, fy5, fy6, fy7, fy8, fy9, fy10⟩ := mv11 hbf labd dy0 dy1 dy2 dy3 dy4 dy5 dy6 dy7 dy8 dy9 dy10
    clear hbf
    obtain ⟨hr0, hr1, hr2, hr3, hr4, hs0, hs1, hs2, hs3, hs4⟩ := res5b (n := w.heap.size) hBf
    go_wp2_with (go_at_call 20; refine (rverrA 6 _).mono ?_; rintro e w9 ⟨rfl, hb⟩; obtain ⟨hc, hf, hz⟩ := bkeep hb wf.heap.size (by first | omega | (simp <;> omega)))
    refine bodyPost_ret (v := .agg #[.int .i64 4, .int .i64 0, .string ⟨#[]⟩, .bool false, .int .i64 (errC 6)]) ?_ rfl ⟨by rw [hVe.out]; rfl, belq⟩
    simp [results, Tryz.results46, go_sem, *]
   |
    some i =>
    have hpl : placeR x0.v x1 = ((i : Int), (nthL x1 i).1, (nthL x1 i).2) := by unfold placeR; rw [hF]
    have hib : (i : Int) < R * C := by
     unfold firstF Ffirst at hF
     have h9 := List.mem_range.1 (List.mem_of_find?_eq_some hF)
     rw [hRr'.out, hCc'.out] at h9
     omega
    have hi4 : (i : Int) ≤ 4096 := by
     rcases hl with h | h
     ·rw [h, Int.one_mul] at hib; omega
     ·rw [h, Int.mul_one] at hib; omega
    have hi0 : ¬ (i : Int) < 0 := by omega
    obtain ⟨u, hu⟩ : ∃ u, (nthL x1 i).1 = u := ⟨_, rfl⟩
    obtain ⟨t, ht⟩ : ∃ t, (nthL x1 i).2 = t := ⟨_, rfl⟩
    have hut : (u = 0 ∧ t = i) ∨ (u = i ∧ t = 0) := by
     rw [nth_line (x := x1) (by rw [hRr'.out, hCc'.out]; exact hl) (by omega) (by rw [hRr'.out, hCc'.out]; exact hib)] at hu ht
     split at hu
     ·rename_i h9; rw [if_pos h9] at ht; exact Or.inl ⟨hu.symm, ht.symm⟩
     ·rename_i h9; rw [if_neg h9] at ht; exact Or.inr ⟨hu.symm, ht.symm⟩
    rw [hu, ht] at hpl
    obtain ⟨y, hy⟩ : ∃ y, hasW x2 u t = y := ⟨_, rfl⟩
    have hVe := Lib.hid (show V = y from by rw [hVl.out]; unfold lookR3; rw [hF]; show lookP (heldL x2) (nthL x1 i) = y; rw [show nthL x1 i = (u, t) from Prod.ext hu ht, ← hy]; exact (has_look he2H.out (u, t)).symm)
    have hub : Hid ((-1000000 ≤ u ∧ u ≤ 1000000) ∧ (-1000000 ≤ t ∧ t ≤ 1000000)) := Lib.hid (by rcases hut with ⟨h8, h9⟩ | ⟨h8, h9⟩ <;> omega)
    clear hut hu ht
    rw [hpl] at CP
    clear hpl hF hib hl
    refine wp_region_noPanic ?_
    refine wp_region_held_drew (S := fun w' => w'.cell? ⟨w.heap.size + 1, 0, none⟩ = some (.bool x1.many) ∧ w'.cell? ⟨w.heap.size + 1, 1, none⟩ = some (.int .i64 x1.v.t) ∧ w'.cell? ⟨w.heap.size + 1, 2, none⟩ = some (.int .i64 x1.v.n) ∧ w'.cell? ⟨w.heap.size + 1, 3, none⟩ = some (.string x1.v.s) ∧ w'.cell? ⟨w.heap.size + 1, 4, none⟩ = some (.bool x1.v.b) ∧ w'.cell? ⟨w.heap.size + 1, 5, none⟩ = some (.int .i64 x1.v.c) ∧ w'.cell? ⟨w.heap.size + 1, 6, none⟩ = some (.int .i64 x1.t) ∧ w'.cell? ⟨w.heap.size + 1, 7, none⟩ = some (.int .i64 x1.l) ∧ w'.cell? ⟨w.heap.size + 1, 8, none⟩ = some (.int .i64 x1.b) ∧ w'.cell? ⟨w.heap.size + 1, 9, none⟩ = some (.int .i64 x1.r) ∧ w'.cell? ⟨w.heap.size + 1, 10, none⟩ = some (.slice x1.A x1.es.length x1.cap) ∧ w'.cell? ⟨ab, ao + 1, none⟩ = some (.int .i64 x0.v.t) ∧ w'.cell? ⟨ab, ao + 2, none⟩ = some (.int .i64 x0.v.n) ∧ w'.cell? ⟨ab, ao + 3, none⟩ = some (.string x0.v.s) ∧ w'.cell? ⟨ab, ao + 4, none⟩ = some (.bool x0.v.b) ∧ w'.cell? ⟨ab, ao + 5, none⟩ = some (.int .i64 x0.v.c) ∧ w'.cell? ⟨ab, ao + 22, none⟩ = some (.bool x2.many) ∧ w'.cell? ⟨ab, ao + 22 + 1, none⟩ = some (.int .i64 x2.v.t) ∧ w'.cell? ⟨ab, ao + 22 + 2, none⟩ = some (.int .i64 x2.v.n) ∧ w'.cell? ⟨ab, ao + 22 + 3, none⟩ = some (.string x2.v.s) ∧ w'.cell? ⟨ab, ao + 22 + 4, none⟩ = some (.bool x2.v.b) ∧ w'.cell? ⟨ab, ao + 22 + 5, none⟩ = some (.int .i64 x2.v.c) ∧ w'.cell? ⟨ab, ao + 22 + 6, none⟩ = some (.int .i64 x2.t) ∧ w'.cell? ⟨ab, ao + 22 + 7, none⟩ = some (.int .i64 x2.l) ∧ w'.cell? ⟨ab, ao + 22 + 8, none⟩ = some (.int .i64 x2.b) ∧ w'.cell? ⟨ab, ao + 22 + 9, none⟩ = some (.int .i64 x2.r) ∧ w'.cell? ⟨ab, ao + 22 + 10, none⟩ = some (.slice x2.A x2.es.length x2.cap) ∧ Below wd.heap.size wd w' ∧ wd.heap.size ≤ w'.heap.size) (by kernel_rfl) kpI (fun hHeld => ?_)
    generalize wd.drew = wz at *
    refine sqT 0 hHeld ?_
    refine sqT 1 hHeld ?_
    refine sqT 2 hHeld ?_
    refine sqT 3 hHeld ?_
    refine sqT 4 hHeld ?_
    refine sqC 5 (fun K hK => ?_)
    go_split_ands
    go_simp
    refine ((CP _ (qd.trans (Below.mono (by assumption) qd.size))).out).mono ?_
    rintro e w1 ⟨rfl, hb⟩
    refine hK.out _ _ ?_ (fun hHeld => ?_)
    ·exact kpB
    clear hK K hb
    refine sqT 6 hHeld ?_
    refine sqT 7 hHeld ?_
    refine sqT 8 hHeld ?_
    refine sqT 9 hHeld ?_
    refine sqT 10 hHeld ?_
    refine sqT 11 hHeld ?_
    refine sqT 12 hHeld ?_
    refine wpAnyH_done (by kernel_rfl) ?_ _
    refine NoPanic.normal ?_
    go_split_ands
    have hbf : Below wd.heap.size wd w1 := by assumption
    obtain ⟨wf, rfl⟩ : ∃ wf, wf = w1 := ⟨_, rfl⟩
    have hBf : Below (w.heap.size + 2) ((w.alloc (.cells #[.int .i64 0, .int .i64 0, .string ⟨#[]⟩, .bool false, .int .i64 0] 26)).alloc (.cells #[.bool x1.many, .int .i64 x1.v.t, .int .i64 x1.v.n, .string x1.v.s, .bool x1.v.b, .int .i64 x1.v.c, .int .i64 x1.t, .int .i64 x1.l, .int .i64 x1.b, .int .i64 x1.r, .slice x1.A x1.es.length x1.cap] 36)) wf := hBd.trans (hbf.mono (by omega))
    have hzf := hbf.size
    have qf : Below w.heap.size w wf := b0.trans (hBf.mono (by omega))
    have l0f : w.heap.size < wf.heap.size := by omega
    have labf : ab < wf.heap.size := by omega
    obtain ⟨fy0, fy1, fy2, fy3, fy4, fy5, fy6, fy7, fy8, fy9, fy10⟩ := mv11 hbf labd dy0 dy1 dy2 dy3 dy4 dy5 dy6 dy7 dy8 dy9 dy10
    clear hbf
    have CHk := CH u t wf qf hub.out.1 hub.out.2
    rw [hy] at CHk
    clear hy CH
    obtain ⟨hr0, hr1, hr2, hr3, hr4, hs0, hs1, hs2, hs3, hs4⟩ := res5b (n := w.heap.size) hBf
    go_wp2_with (go_at_call 128; refine (CHk.out).mono ?_; rintro e w9 ⟨rfl, hb⟩; obtain ⟨hc, hf, hz⟩ := bkeep hb wf.heap.size (by first | omega | (simp <;> omega)))
    refine bodyPost_ret (v := .agg #[.int .i64 (y).t, .int .i64 (y).n, .string (y).s, .bool (y).b, .int .i64 (y).c]) ?_ rfl ⟨by rw [hVe.out], belq⟩
    simp [results, Tryz.results46, go_sem, *]
  ·have hVe := Lib.hid (show V = errL 8 from by rw [hVV.out]; rfl)
   obtain ⟨hr0, hr1, hr2, hr3, hr4, hs0, hs1, hs2, hs3, hs4⟩ := res5b (n := w.heap.size) hBd
   go_wp2_with (go_at_call 20; refine (rverrA 8 _).mono ?_; rintro e w9 ⟨rfl, hb⟩; obtain ⟨hc, hf, hz⟩ := bkeep hb wd.heap.size (by first | omega | (simp <;> omega)))
   refine bodyPost_ret (v := .agg #[.int .i64 4, .int .i64 0, .string ⟨#[]⟩, .bool false, .int .i64 (errC 8)]) ?_ rfl ⟨by rw [hVe.out]; rfl, belq⟩
   simp [results, Tryz.results46, go_sem, *]
end Go.Proofs.YtgmhifafbebjfaaGreatDoor
