/-
 the document's aggs: sumif.
-/
import Derived.Test.YtgmhifafbebjfaaGreatDoorMg37
import Derived.Test.YtgmhifafbebjfaaGreatDoorR10D
set_option maxRecDepth 100000
set_option maxHeartbeats 32000000
namespace Go.Proofs.YtgmhifafbebjfaaGreatDoor
open Go.RowKit

theorem r10sumif (x y : AL) (v : VL) (hm : mayRectB x.t x.l x.b x.r = true) (hex : entsOk x = true) (hm2 : mayRectB y.t y.l y.b y.r = true) (hey : entsOk y = true) (w : World) (hin : x.In w w.heap.size) (hin2 : y.In w w.heap.size) : Calls Tryz.prog 45 #[.agg #[.bool x.many, .int .i64 x.v.t, .int .i64 x.v.n, .string x.v.s, .bool x.v.b, .int .i64 x.v.c, .int .i64 x.t, .int .i64 x.l, .int .i64 x.b, .int .i64 x.r, .slice x.A x.es.length x.cap], .agg #[.int .i64 v.t, .int .i64 v.n, .string v.s, .bool v.b, .int .i64 v.c], .agg #[.bool y.many, .int .i64 y.v.t, .int .i64 y.v.n, .string y.v.s, .bool y.v.b, .int .i64 y.v.c, .int .i64 y.t, .int .i64 y.l, .int .i64 y.b, .int .i64 y.r, .slice y.A y.es.length y.cap]] w fun e w' => e = .returned (.agg #[.int .i64 ((sumifR x v y)).t, .int .i64 ((sumifR x v y)).n, .string ((sumifR x v y)).s, .bool ((sumifR x v y)).b, .int .i64 ((sumifR x v y)).c]) ∧ Below w.heap.size w w' := by
 obtain ⟨i0, hi, hz0, hz1, hz2⟩ := info_parts val_info
 obtain ⟨V, hV0⟩ : ∃ V, sumifR x v y = V := ⟨_, rfl⟩
 have hV := Lib.hid hV0
 rw [hV0]
 have b0 : Below w.heap.size w ((((w.alloc (.cells #[.bool x.many, .int .i64 x.v.t, .int .i64 x.v.n, .string x.v.s, .bool x.v.b, .int .i64 x.v.c, .int .i64 x.t, .int .i64 x.l, .int .i64 x.b, .int .i64 x.r, .slice x.A x.es.length x.cap] 36)).alloc (.cells #[.int .i64 v.t, .int .i64 v.n, .string v.s, .bool v.b, .int .i64 v.c] 26)).alloc (.cells #[.bool y.many, .int .i64 y.v.t, .int .i64 y.v.n, .string y.v.s, .bool y.v.b, .int .i64 y.v.c, .int .i64 y.t, .int .i64 y.l, .int .i64 y.b, .int .i64 y.r, .slice y.A y.es.length y.cap] 36)).alloc (.cells #[.int .i64 0, .int .i64 0, .string ⟨#[]⟩, .bool false, .int .i64 0] 26)) := belq
 obtain ⟨q1, q2, q3, q4, q5, q6⟩ := rect_in2 hm
 obtain ⟨u1, u2, u3, u4, u5, u6⟩ := rect_in2 hm2
 have hyl := ent_len2 hm2 hey
 obtain ⟨R, hRr⟩ : ∃ R, rowsL x = R := ⟨_, rfl⟩
 obtain ⟨C, hCc⟩ : ∃ C, colsL x = C := ⟨_, rfl⟩
 obtain ⟨S, hSs⟩ : ∃ S, rowsL y = S := ⟨_, rfl⟩
 obtain ⟨D, hDd⟩ : ∃ D, colsL y = D := ⟨_, rfl⟩
 have CR : ∀ w, Hid (Calls Tryz.prog 49 #[.agg #[.bool x.many, .int .i64 x.v.t, .int .i64 x.v.n, .string x.v.s, .bool x.v.b, .int .i64 x.v.c, .int .i64 x.t, .int .i64 x.l, .int .i64 x.b, .int .i64 x.r, .slice x.A x.es.length x.cap]] w fun e w' => e = .returned (.int .i64 R) ∧ Below w.heap.size w w') := fun w => Lib.hid (by rw [← hRr]; exact r10rows x hm w)
 have CC : ∀ w, Hid (Calls Tryz.prog 50 #[.agg #[.bool x.many, .int .i64 x.v.t, .int .i64 x.v.n, .string x.v.s, .bool x.v.b, .int .i64 x.v.c, .int .i64 x.t, .int .i64 x.l, .int .i64 x.b, .int .i64 x.r, .slice x.A x.es.length x.cap]] w fun e w' => e = .returned (.int .i64 C) ∧ Below w.heap.size w w') := fun w => Lib.hid (by rw [← hCc]; exact r10cols x hm w)
 have CS : ∀ w, Hid (Calls Tryz.prog 49 #[.agg #[.bool y.many, .int .i64 y.v.t, .int .i64 y.v.n, .string y.v.s, .bool y.v.b, .int .i64 y.v.c, .int .i64 y.t, .int .i64 y.l, .int .i64 y.b, .int .i64 y.r, .slice y.A y.es.length y.cap]] w fun e w' => e = .returned (.int .i64 S) ∧ Below w.heap.size w w') := fun w => Lib.hid (by rw [← hSs]; exact r10rows y hm2 w)
 have CD : ∀ w, Hid (Calls Tryz.prog 50 #[.agg #[.bool y.many, .int .i64 y.v.t, .int .i64 y.v.n, .string y.v.s, .bool y.v.b, .int .i64 y.v.c, .int .i64 y.t, .int .i64 y.l, .int .i64 y.b, .int .i64 y.r, .slice y.A y.es.length y.cap]] w fun e w' => e = .returned (.int .i64 D) ∧ Below w.heap.size w w') := fun w => Lib.hid (by rw [← hDd]; exact r10cols y hm2 w)
 have CH : ∀ (u t : Int) (w1 : World), Below w.heap.size w w1 → -1000000 ≤ u ∧ u ≤ 1000000 → -1000000 ≤ t ∧ t ≤ 1000000 → Hid (Calls Tryz.prog 128 #[.agg #[.bool x.many, .int .i64 x.v.t, .int .i64 x.v.n, .string x.v.s, .bool x.v.b, .int .i64 x.v.c, .int .i64 x.t, .int .i64 x.l, .int .i64 x.b, .int .i64 x.r, .slice x.A x.es.length x.cap], .int .i64 u, .int .i64 t] w1 fun e w' => e = .returned (.agg #[.int .i64 ((hasW x u t)).t, .int .i64 ((hasW x u t)).n, .string ((hasW x u t)).s, .bool ((hasW x u t)).b, .int .i64 ((hasW x u t)).c]) ∧ Below w1.heap.size w1 w') := fun u t w1 h1 hu ht => Lib.hid (r10has x u t hm hu ht (by have := ent_len hm hex; omega) w1 ((hin.below h1).mono h1.size))
 have hVW := Lib.hid (show V = if R = S ∧ C = D then faultR (siL x v y) (fitL (numsL (siL x v y)).sum) else errL 8 by rw [← hV.out]; unfold sumifR; rw [hRr, hCc, hSs, hDd])
 have hxE := Lib.hid hex
 have hyE := Lib.hid hey
 have hE' := Lib.hid hin2.2.1
 have hok' : Hid (∀ e ∈ y.es, e.v.ok) := Lib.hid (fun e he => hin2.2.2.1 e he)
 clear hRr hCc hSs hDd hm hm2 hin hin2 hex hey hV0 hV q1 q2 q3 q4 q5 q6
 go_enter Tryz.func45, Tryz.ntmps45
 go_wp2_with fail
 by_cases a1 : R = S
 ·have q0 : (R != S) = false := by simp [a1]
  by_cases a2 : C = D
  ·have q1 : (C != D) = false := by simp [a2]
   have hVV := Lib.hid (show V = faultR (siL x v y) (fitL (numsL (siL x v y)).sum) by rw [hVW.out, if_pos ⟨a1, a2⟩])
   clear a1 a2 hVW
   refine wp_region_noPanic ?_
   refine wp_region_held_drew (S := fun w' => w'.cell? ⟨w.heap.size, 0, none⟩ = some (.bool x.many) ∧ w'.cell? ⟨w.heap.size, 1, none⟩ = some (.int .i64 x.v.t) ∧ w'.cell? ⟨w.heap.size, 2, none⟩ = some (.int .i64 x.v.n) ∧ w'.cell? ⟨w.heap.size, 3, none⟩ = some (.string x.v.s) ∧ w'.cell? ⟨w.heap.size, 4, none⟩ = some (.bool x.v.b) ∧ w'.cell? ⟨w.heap.size, 5, none⟩ = some (.int .i64 x.v.c) ∧ w'.cell? ⟨w.heap.size, 6, none⟩ = some (.int .i64 x.t) ∧ w'.cell? ⟨w.heap.size, 7, none⟩ = some (.int .i64 x.l) ∧ w'.cell? ⟨w.heap.size, 8, none⟩ = some (.int .i64 x.b) ∧ w'.cell? ⟨w.heap.size, 9, none⟩ = some (.int .i64 x.r) ∧ w'.cell? ⟨w.heap.size, 10, none⟩ = some (.slice x.A x.es.length x.cap) ∧ w'.cell? ⟨w.heap.size + 1, 0, none⟩ = some (.int .i64 v.t) ∧ w'.cell? ⟨w.heap.size + 1, 1, none⟩ = some (.int .i64 v.n) ∧ w'.cell? ⟨w.heap.size + 1, 2, none⟩ = some (.string v.s) ∧ w'.cell? ⟨w.heap.size + 1, 3, none⟩ = some (.bool v.b) ∧ w'.cell? ⟨w.heap.size + 1, 4, none⟩ = some (.int .i64 v.c) ∧ w'.cell? ⟨w.heap.size + 2, 0, none⟩ = some (.bool y.many) ∧ w'.cell? ⟨w.heap.size + 2, 1, none⟩ = some (.int .i64 y.v.t) ∧ w'.cell? ⟨w.heap.size + 2, 2, none⟩ = some (.int .i64 y.v.n) ∧ w'.cell? ⟨w.heap.size + 2, 3, none⟩ = some (.string y.v.s) ∧ w'.cell? ⟨w.heap.size + 2, 4, none⟩ = some (.bool y.v.b) ∧ w'.cell? ⟨w.heap.size + 2, 5, none⟩ = some (.int .i64 y.v.c) ∧ w'.cell? ⟨w.heap.size + 2, 6, none⟩ = some (.int .i64 y.t) ∧ w'.cell? ⟨w.heap.size + 2, 7, none⟩ = some (.int .i64 y.l) ∧ w'.cell? ⟨w.heap.size + 2, 8, none⟩ = some (.int .i64 y.b) ∧ w'.cell? ⟨w.heap.size + 2, 9, none⟩ = some (.int .i64 y.r) ∧ w'.cell? ⟨w.heap.size + 2, 10, none⟩ = some (.slice y.A y.es.length y.cap) ∧ Below (w.heap.size + 4) ((((w.alloc (.cells #[.bool x.many, .int .i64 x.v.t, .int .i64 x.v.n, .string x.v.s, .bool x.v.b, .int .i64 x.v.c, .int .i64 x.t, .int .i64 x.l, .int .i64 x.b, .int .i64 x.r, .slice x.A x.es.length x.cap] 36)).alloc (.cells #[.int .i64 v.t, .int .i64 v.n, .string v.s, .bool v.b, .int .i64 v.c] 26)).alloc (.cells #[.bool y.many, .int .i64 y.v.t, .int .i64 y.v.n, .string y.v.s, .bool y.v.b, .int .i64 y.v.c, .int .i64 y.t, .int .i64 y.l, .int .i64 y.b, .int .i64 y.r, .slice y.A y.es.length y.cap] 36)).alloc (.cells #[.int .i64 0, .int .i64 0, .string ⟨#[]⟩, .bool false, .int .i64 0] 26)) w' ∧ (w.heap.size + 4) ≤ w'.heap.size) (by kernel_rfl) (by (try dsimp only); refine ⟨?_, ?_, ?_, ?_, ?_, ?_, ?_, ?_, ?_, ?_, ?_, ?_, ?_, ?_, ?_, ?_, ?_, ?_, ?_, ?_, ?_, ?_, ?_, ?_, ?_, ?_, ?_, ?_, ?_⟩ <;> first | (simp [go_sem, *]; done) | (simp; omega) | (simp; done) | exact belq) (fun hHeld => ?_)
   refine sqT 0 hHeld ?_
   refine sqT 2 hHeld ?_
   refine sqC 1 (fun K hK => ?_)
   go_split_ands
   go_simp
   refine ((CR _).out).mono ?_
   rintro e w1 ⟨rfl, hb⟩
   refine hK.out _ _ ?_ (fun hHeld => ?_)
   ·exact kpB
   clear hK K hb
   try simp only [Act.put, List.setIfInBounds_toArray, List.set_cons_zero, List.set_cons_succ]
   refine sqC 3 (fun K hK => ?_)
   go_split_ands
   go_simp
   refine ((CS _).out).mono ?_
   rintro e w1 ⟨rfl, hb⟩
   refine hK.out _ _ ?_ (fun hHeld => ?_)
   ·exact kpB
   clear hK K hb
   refine sqT 4 hHeld ?_
   refine sqT 5 hHeld ?_
   refine sqT 6 hHeld ?_
   refine sqT 8 hHeld ?_
   refine sqC 7 (fun K hK => ?_)
   go_split_ands
   go_simp
   refine ((CC _).out).mono ?_
   rintro e w1 ⟨rfl, hb⟩
   refine hK.out _ _ ?_ (fun hHeld => ?_)
   ·exact kpB
   clear hK K hb
   try simp only [Act.put, List.setIfInBounds_toArray, List.set_cons_zero, List.set_cons_succ]
   refine sqC 9 (fun K hK => ?_)
   go_split_ands
   go_simp
   refine ((CD _).out).mono ?_
   rintro e w1 ⟨rfl, hb⟩
   refine hK.out _ _ ?_ (fun hHeld => ?_)
   ·exact kpB
   clear hK K hb
   refine sqT 10 hHeld ?_
   refine sqT 11 hHeld ?_
   refine wpAnyH_done (by kernel_rfl) ?_ _
   refine NoPanic.normal ?_
   go_split_ands
   have h1 : Below (w.heap.size + 4) ((((w.alloc (.cells #[.bool x.many, .int .i64 x.v.t, .int .i64 x.v.n, .string x.v.s, .bool x.v.b, .int .i64 x.v.c, .int .i64 x.t, .int .i64 x.l, .int .i64 x.b, .int .i64 x.r, .slice x.A x.es.length x.cap] 36)).alloc (.cells #[.int .i64 v.t, .int .i64 v.n, .string v.s, .bool v.b, .int .i64 v.c] 26)).alloc (.cells #[.bool y.many, .int .i64 y.v.t, .int .i64 y.v.n, .string y.v.s, .bool y.v.b, .int .i64 y.v.c, .int .i64 y.t, .int .i64 y.l, .int .i64 y.b, .int .i64 y.r, .slice y.A y.es.length y.cap] 36)).alloc (.cells #[.int .i64 0, .int .i64 0, .string ⟨#[]⟩, .bool false, .int .i64 0] 26)) w1 := by assumption
   have hzw1 : (w.heap.size + 4) ≤ w1.heap.size := by assumption
   have g1 : Below w.heap.size w w1 := b0.trans (h1.mono (by omega))
   have l0 : w.heap.size < w1.heap.size := by omega
   have l3 : w.heap.size + 3 < w1.heap.size := by omega
   go_wp2
   go_loopw [7, 8] (fun u i wr => ∃ k : Nat, k ≤ y.es.length ∧ i = .int .i64 (k : Int) ∧ Hid (OwnV wr (w.heap.size + 4) u (((y.es.take k).filter fun e => (lookP (heldL x) (placeL y e)).eqv v).map EL.v)) ∧ Below (w.heap.size + 4) ((((w.alloc (.cells #[.bool x.many, .int .i64 x.v.t, .int .i64 x.v.n, .string x.v.s, .bool x.v.b, .int .i64 x.v.c, .int .i64 x.t, .int .i64 x.l, .int .i64 x.b, .int .i64 x.r, .slice x.A x.es.length x.cap] 36)).alloc (.cells #[.int .i64 v.t, .int .i64 v.n, .string v.s, .bool v.b, .int .i64 v.c] 26)).alloc (.cells #[.bool y.many, .int .i64 y.v.t, .int .i64 y.v.n, .string y.v.s, .bool y.v.b, .int .i64 y.v.c, .int .i64 y.t, .int .i64 y.l, .int .i64 y.b, .int .i64 y.r, .slice y.A y.es.length y.cap] 36)).alloc (.cells #[.int .i64 0, .int .i64 0, .string ⟨#[]⟩, .bool false, .int .i64 0] 26)) wr) (fun _ i _ => y.es.length - (intOf i).toNat)
   case atStart => exact ⟨0, Nat.zero_le _, rfl, Lib.hid (World.ownsRow_nil _ _ _ _), h1⟩
   case round =>
    obtain ⟨k, hk, rfl, hown, hbr⟩ := hrel
    have hzr := hbr.size
    simp only [World.size_alloc] at hzr
    have g1 : Below w.heap.size w wr := b0.trans (hbr.mono (by omega))
    have l0r : w.heap.size < wr.heap.size := by omega
    have n0r : w.heap.size ≠ wr.heap.size := by omega
    have l1r : w.heap.size + 1 < wr.heap.size := by omega
    have n1r : w.heap.size + 1 ≠ wr.heap.size := by omega
    have l2r : w.heap.size + 2 < wr.heap.size := by omega
    have n2r : w.heap.size + 2 ≠ wr.heap.size := by omega
    have hx0 : wr.cell? ⟨w.heap.size, 0, none⟩ = some (.bool x.many) := by rw [hbr.cell (by dsimp only; omega), World.cell?_alloc_lt _ _ _ (by first | (simp; done) | (simp; omega)), World.cell?_alloc_lt _ _ _ (by first | (simp; done) | (simp; omega)), World.cell?_alloc_lt _ _ _ (by first | (simp; done) | (simp; omega))]; exact c_at rfl rfl
    have hx1 : wr.cell? ⟨w.heap.size, 1, none⟩ = some (.int .i64 x.v.t) := by rw [hbr.cell (by dsimp only; omega), World.cell?_alloc_lt _ _ _ (by first | (simp; done) | (simp; omega)), World.cell?_alloc_lt _ _ _ (by first | (simp; done) | (simp; omega)), World.cell?_alloc_lt _ _ _ (by first | (simp; done) | (simp; omega))]; exact c_at rfl rfl
    have hx2 : wr.cell? ⟨w.heap.size, 2, none⟩ = some (.int .i64 x.v.n) := by rw [hbr.cell (by dsimp only; omega), World.cell?_alloc_lt _ _ _ (by first | (simp; done) | (simp; omega)), World.cell?_alloc_lt _ _ _ (by first | (simp; done) | (simp; omega)), World.cell?_alloc_lt _ _ _ (by first | (simp; done) | (simp; omega))]; exact c_at rfl rfl
    have hx3 : wr.cell? ⟨w.heap.size, 3, none⟩ = some (.string x.v.s) := by rw [hbr.cell (by dsimp only; omega), World.cell?_alloc_lt _ _ _ (by first | (simp; done) | (simp; omega)), World.cell?_alloc_lt _ _ _ (by first | (simp; done) | (simp; omega)), World.cell?_alloc_lt _ _ _ (by first | (simp; done) | (simp; omega))]; exact c_at rfl rfl
    have hx4 : wr.cell? ⟨w.heap.size, 4, none⟩ = some (.bool x.v.b) := by rw [hbr.cell (by dsimp only; omega), World.cell?_alloc_lt _ _ _ (by first | (simp; done) | (simp; omega)), World.cell?_alloc_lt _ _ _ (by first | (simp; done) | (simp; omega)), World.cell?_alloc_lt _ _ _ (by first | (simp; done) | (simp; omega))]; exact c_at rfl rfl
    have hx5 : wr.cell? ⟨w.heap.size, 5, none⟩ = some (.int .i64 x.v.c) := by rw [hbr.cell (by dsimp only; omega), World.cell?_alloc_lt _ _ _ (by first | (simp; done) | (simp; omega)), World.cell?_alloc_lt _ _ _ (by first | (simp; done) | (simp; omega)), World.cell?_alloc_lt _ _ _ (by first | (simp; done) | (simp; omega))]; exact c_at rfl rfl
    have hx6 : wr.cell? ⟨w.heap.size, 6, none⟩ = some (.int .i64 x.t) := by rw [hbr.cell (by dsimp only; omega), World.cell?_alloc_lt _ _ _ (by first | (simp; done) | (simp; omega)), World.cell?_alloc_lt _ _ _ (by first | (simp; done) | (simp; omega)), World.cell?_alloc_lt _ _ _ (by first | (simp; done) | (simp; omega))]; exact c_at rfl rfl
    have hx7 : wr.cell? ⟨w.heap.size, 7, none⟩ = some (.int .i64 x.l) := by rw [hbr.cell (by dsimp only; omega), World.cell?_alloc_lt _ _ _ (by first | (simp; done) | (simp; omega)), World.cell?_alloc_lt _ _ _ (by first | (simp; done) | (simp; omega)), World.cell?_alloc_lt _ _ _ (by first | (simp; done) | (simp; omega))]; exact c_at rfl rfl
    have hx8 : wr.cell? ⟨w.heap.size, 8, none⟩ = some (.int .i64 x.b) := by rw [hbr.cell (by dsimp only; omega), World.cell?_alloc_lt _ _ _ (by first | (simp; done) | (simp; omega)), World.cell?_alloc_lt _ _ _ (by first | (simp; done) | (simp; omega)), World.cell?_alloc_lt _ _ _ (by first | (simp; done) | (simp; omega))]; exact c_at rfl rfl
    have hx9 : wr.cell? ⟨w.heap.size, 9, none⟩ = some (.int .i64 x.r) := by rw [hbr.cell (by dsimp only; omega), World.cell?_alloc_lt _ _ _ (by first | (simp; done) | (simp; omega)), World.cell?_alloc_lt _ _ _ (by first | (simp; done) | (simp; omega)), World.cell?_alloc_lt _ _ _ (by first | (simp; done) | (simp; omega))]; exact c_at rfl rfl
    have hx10 : wr.cell? ⟨w.heap.size, 10, none⟩ = some (.slice x.A x.es.length x.cap) := by rw [hbr.cell (by dsimp only; omega), World.cell?_alloc_lt _ _ _ (by first | (simp; done) | (simp; omega)), World.cell?_alloc_lt _ _ _ (by first | (simp; done) | (simp; omega)), World.cell?_alloc_lt _ _ _ (by first | (simp; done) | (simp; omega))]; exact c_at rfl rfl
    have hv0 : wr.cell? ⟨w.heap.size + 1, 0, none⟩ = some (.int .i64 v.t) := by rw [hbr.cell (by dsimp only; omega), World.cell?_alloc_lt _ _ _ (by first | (simp; done) | (simp; omega)), World.cell?_alloc_lt _ _ _ (by first | (simp; done) | (simp; omega))]; exact c_at (by simp) rfl
    have hv1 : wr.cell? ⟨w.heap.size + 1, 1, none⟩ = some (.int .i64 v.n) := by rw [hbr.cell (by dsimp only; omega), World.cell?_alloc_lt _ _ _ (by first | (simp; done) | (simp; omega)), World.cell?_alloc_lt _ _ _ (by first | (simp; done) | (simp; omega))]; exact c_at (by simp) rfl
    have hv2 : wr.cell? ⟨w.heap.size + 1, 2, none⟩ = some (.string v.s) := by rw [hbr.cell (by dsimp only; omega), World.cell?_alloc_lt _ _ _ (by first | (simp; done) | (simp; omega)), World.cell?_alloc_lt _ _ _ (by first | (simp; done) | (simp; omega))]; exact c_at (by simp) rfl
    have hv3 : wr.cell? ⟨w.heap.size + 1, 3, none⟩ = some (.bool v.b) := by rw [hbr.cell (by dsimp only; omega), World.cell?_alloc_lt _ _ _ (by first | (simp; done) | (simp; omega)), World.cell?_alloc_lt _ _ _ (by first | (simp; done) | (simp; omega))]; exact c_at (by simp) rfl
    have hv4 : wr.cell? ⟨w.heap.size + 1, 4, none⟩ = some (.int .i64 v.c) := by rw [hbr.cell (by dsimp only; omega), World.cell?_alloc_lt _ _ _ (by first | (simp; done) | (simp; omega)), World.cell?_alloc_lt _ _ _ (by first | (simp; done) | (simp; omega))]; exact c_at (by simp) rfl
    have hy0 : wr.cell? ⟨w.heap.size + 2, 0, none⟩ = some (.bool y.many) := by rw [hbr.cell (by dsimp only; omega), World.cell?_alloc_lt _ _ _ (by first | (simp; done) | (simp; omega))]; exact c_at (by simp) rfl
    have hy1 : wr.cell? ⟨w.heap.size + 2, 1, none⟩ = some (.int .i64 y.v.t) := by rw [hbr.cell (by dsimp only; omega), World.cell?_alloc_lt _ _ _ (by first | (simp; done) | (simp; omega))]; exact c_at (by simp) rfl
    have hy2 : wr.cell? ⟨w.heap.size + 2, 2, none⟩ = some (.int .i64 y.v.n) := by rw [hbr.cell (by dsimp only; omega), World.cell?_alloc_lt _ _ _ (by first | (simp; done) | (simp; omega))]; exact c_at (by simp) rfl
    have hy3 : wr.cell? ⟨w.heap.size + 2, 3, none⟩ = some (.string y.v.s) := by rw [hbr.cell (by dsimp only; omega), World.cell?_alloc_lt _ _ _ (by first | (simp; done) | (simp; omega))]; exact c_at (by simp) rfl
    have hy4 : wr.cell? ⟨w.heap.size + 2, 4, none⟩ = some (.bool y.v.b) := by rw [hbr.cell (by dsimp only; omega), World.cell?_alloc_lt _ _ _ (by first | (simp; done) | (simp; omega))]; exact c_at (by simp) rfl
    have hy5 : wr.cell? ⟨w.heap.size + 2, 5, none⟩ = some (.int .i64 y.v.c) := by rw [hbr.cell (by dsimp only; omega), World.cell?_alloc_lt _ _ _ (by first | (simp; done) | (simp; omega))]; exact c_at (by simp) rfl
    have hy6 : wr.cell? ⟨w.heap.size + 2, 6, none⟩ = some (.int .i64 y.t) := by rw [hbr.cell (by dsimp only; omega), World.cell?_alloc_lt _ _ _ (by first | (simp; done) | (simp; omega))]; exact c_at (by simp) rfl
    have hy7 : wr.cell? ⟨w.heap.size + 2, 7, none⟩ = some (.int .i64 y.l) := by rw [hbr.cell (by dsimp only; omega), World.cell?_alloc_lt _ _ _ (by first | (simp; done) | (simp; omega))]; exact c_at (by simp) rfl
    have hy8 : wr.cell? ⟨w.heap.size + 2, 8, none⟩ = some (.int .i64 y.b) := by rw [hbr.cell (by dsimp only; omega), World.cell?_alloc_lt _ _ _ (by first | (simp; done) | (simp; omega))]; exact c_at (by simp) rfl
    have hy9 : wr.cell? ⟨w.heap.size + 2, 9, none⟩ = some (.int .i64 y.r) := by rw [hbr.cell (by dsimp only; omega), World.cell?_alloc_lt _ _ _ (by first | (simp; done) | (simp; omega))]; exact c_at (by simp) rfl
    have hy10 : wr.cell? ⟨w.heap.size + 2, 10, none⟩ = some (.slice y.A y.es.length y.cap) := by rw [hbr.cell (by dsimp only; omega), World.cell?_alloc_lt _ _ _ (by first | (simp; done) | (simp; omega))]; exact c_at (by simp) rfl
    obtain ⟨hr0, hr1, hr2, hr3, hr4, hrs0, hrs1, hrs2, hrs3, hrs4⟩ := res5 hbr
    by_cases hlt : k < y.es.length
    ·obtain ⟨e, he⟩ : ∃ e, y.es[k]? = some e := ⟨_, List.getElem?_eq_getElem hlt⟩
     obtain ⟨eb, eo, hA3, heb, hcell⟩ := (hE'.out.below g1) k e.cs (by rw [List.getElem?_map, he]; rfl)
     obtain ⟨p1, -, -⟩ := ent_parts hyE.out k e he
     unfold inB at p1
     simp only [Bool.and_eq_true, decide_eq_true_eq] at p1
     have he0 : wr.cell? ⟨eb, eo + k * 7, none⟩ = some (.int .i64 e.r) := hcell 0 _ rfl
     have he1 : wr.cell? ⟨eb, eo + k * 7 + 1, none⟩ = some (.int .i64 e.c) := hcell 1 _ rfl
     have he2 : wr.cell? ⟨eb, eo + k * 7 + 2, none⟩ = some (.int .i64 e.v.t) := hcell 2 _ rfl
     have he3 : wr.cell? ⟨eb, eo + k * 7 + 3, none⟩ = some (.int .i64 e.v.n) := hcell 3 _ rfl
     have he4 : wr.cell? ⟨eb, eo + k * 7 + 4, none⟩ = some (.string e.v.s) := hcell 4 _ rfl
     have he5 : wr.cell? ⟨eb, eo + k * 7 + 5, none⟩ = some (.bool e.v.b) := hcell 5 _ rfl
     have he6 : wr.cell? ⟨eb, eo + k * 7 + 6, none⟩ = some (.int .i64 e.v.c) := hcell 6 _ rfl
     have hebr : eb < wr.heap.size := by omega
     have hkl : (k : Int) < (y.es.length : Int) := by omega
     have hk0 : (0 : Int) ≤ (k : Int) := by omega
     have hwk : IntKind.i64.wrap ((k : Int) + 1) = (k : Int) + 1 := IntWalk.i64_in _ (by omega)
     have hne : eb ≠ wr.heap.size := by omega
     have hts : y.es.take (k + 1) = y.es.take k ++ [e] := by rw [List.take_add_one, he]; rfl
     obtain ⟨zz, hzz⟩ : ∃ zz, (lookP (heldL x) (placeL y e)).eqv v = zz := ⟨_, rfl⟩
     have hsn := Lib.hid (show ((y.es.take (k + 1)).filter fun e => (lookP (heldL x) (placeL y e)).eqv v).map EL.v = ((y.es.take k).filter fun e => (lookP (heldL x) (placeL y e)).eqv v).map EL.v ++ (if zz = true then [e.v] else []) by
      rw [hts, List.filter_append, List.map_append]
      cases zz <;> simp [hzz])
     have hlen9 : (((y.es.take k).filter fun e => (lookP (heldL x) (placeL y e)).eqv v).map EL.v).length ≤ k := by rw [List.length_map]; exact Nat.le_trans (List.length_filter_le _ _) (by rw [List.length_take]; omega)
     have ww0 : IntKind.i64.wrap (e.r - y.t) = e.r - y.t := IntWalk.i64_in _ (by omega)
     have ww1 : IntKind.i64.wrap (e.c - y.l) = e.c - y.l := IntWalk.i64_in _ (by omega)
     have gA : Below w.heap.size w (wr.alloc (.cells #[.int .i64 e.r, .int .i64 e.c] 97)) := g1.alloc (by omega) _
     have CHk := CH (e.r - y.t) (e.c - y.l) (wr.alloc (.cells #[.int .i64 e.r, .int .i64 e.c] 97)) gA (by omega) (by omega)
     obtain ⟨z, hz⟩ : ∃ z, hasW x (e.r - y.t) (e.c - y.l) = z := ⟨_, rfl⟩
     rw [hz] at CHk
     have hlk := Lib.hid (show z.eqv v = zz by rw [← hzz, ← hz]; exact congrArg (fun u : VL => u.eqv v) (has_look hxE.out (e.r - y.t, e.c - y.l)))
     have hA3' := Lib.hid hA3
     rw [hA3] at hy10
     generalize ((y.es.take k).filter fun e => (lookP (heldL x) (placeL y e)).eqv v).map EL.v = L0 at *
     clear he hcell hts hz hzz p1 gA hA3
     go_wp2_with fail
     refine CHk.out.mono ?_
     clear CHk
     rintro e9 w4 ⟨rfl, hb4⟩
     have h4 : Below (w.heap.size + 4) ((((w.alloc (.cells #[.bool x.many, .int .i64 x.v.t, .int .i64 x.v.n, .string x.v.s, .bool x.v.b, .int .i64 x.v.c, .int .i64 x.t, .int .i64 x.l, .int .i64 x.b, .int .i64 x.r, .slice x.A x.es.length x.cap] 36)).alloc (.cells #[.int .i64 v.t, .int .i64 v.n, .string v.s, .bool v.b, .int .i64 v.c] 26)).alloc (.cells #[.bool y.many, .int .i64 y.v.t, .int .i64 y.v.n, .string y.v.s, .bool y.v.b, .int .i64 y.v.c, .int .i64 y.t, .int .i64 y.l, .int .i64 y.b, .int .i64 y.r, .slice y.A y.es.length y.cap] 36)).alloc (.cells #[.int .i64 0, .int .i64 0, .string ⟨#[]⟩, .bool false, .int .i64 0] 26)) w4 := (hbr.alloc (by omega) (.cells #[.int .i64 e.r, .int .i64 e.c] 97)).trans (hb4.mono (by simp; omega))
     have hz4 := hb4.size
     simp only [World.size_alloc] at hz4
     have o4 := Lib.hid (ownsRow_below (hown.out.alloc (.cells #[.int .i64 e.r, .int .i64 e.c] 97)) hb4)
     have f4 : Below wr.heap.size wr w4 := ((Below.refl _ wr).alloc (Nat.le_refl _) (.cells #[.int .i64 e.r, .int .i64 e.c] 97)).trans (hb4.mono (by simp))
     obtain ⟨hg2, hg3, hg4, hg5, hg6⟩ := mv5 f4 hebr he2 he3 he4 he5 he6
     clear hx0 hx1 hx2 hx3 hx4 hx5 hx6 hx7 hx8 hx9 hx10 hv0 hv1 hv2 hv3 hv4 hy0 hy1 hy2 hy3 hy4 hy5 hy6 hy7 hy8 hy9 hy10 hr0 hr1 hr2 hr3 hr4 hrs0 hrs1 hrs2 hrs3 hrs4
     clear he0 he1 he2 he3 he4 he5 he6
     clear hb4 hbr hown g1 f4
     have l1_w4 : w.heap.size + 1 < w4.heap.size := by omega
     have n1_w4 : w.heap.size + 1 ≠ w4.heap.size := by omega
     have hv0 : w4.cell? ⟨w.heap.size + 1, 0, none⟩ = some (.int .i64 v.t) := by rw [h4.cell (by dsimp only; omega), World.cell?_alloc_lt _ _ _ (by first | (simp; done) | (simp; omega)), World.cell?_alloc_lt _ _ _ (by first | (simp; done) | (simp; omega))]; exact c_at (by simp) rfl
     have hv1 : w4.cell? ⟨w.heap.size + 1, 1, none⟩ = some (.int .i64 v.n) := by rw [h4.cell (by dsimp only; omega), World.cell?_alloc_lt _ _ _ (by first | (simp; done) | (simp; omega)), World.cell?_alloc_lt _ _ _ (by first | (simp; done) | (simp; omega))]; exact c_at (by simp) rfl
     have hv2 : w4.cell? ⟨w.heap.size + 1, 2, none⟩ = some (.string v.s) := by rw [h4.cell (by dsimp only; omega), World.cell?_alloc_lt _ _ _ (by first | (simp; done) | (simp; omega)), World.cell?_alloc_lt _ _ _ (by first | (simp; done) | (simp; omega))]; exact c_at (by simp) rfl
     have hv3 : w4.cell? ⟨w.heap.size + 1, 3, none⟩ = some (.bool v.b) := by rw [h4.cell (by dsimp only; omega), World.cell?_alloc_lt _ _ _ (by first | (simp; done) | (simp; omega)), World.cell?_alloc_lt _ _ _ (by first | (simp; done) | (simp; omega))]; exact c_at (by simp) rfl
     have hv4 : w4.cell? ⟨w.heap.size + 1, 4, none⟩ = some (.int .i64 v.c) := by rw [h4.cell (by dsimp only; omega), World.cell?_alloc_lt _ _ _ (by first | (simp; done) | (simp; omega)), World.cell?_alloc_lt _ _ _ (by first | (simp; done) | (simp; omega))]; exact c_at (by simp) rfl
     obtain ⟨hr0, hr1, hr2, hr3, hr4, hrs0, hrs1, hrs2, hrs3, hrs4⟩ := res5 h4
     go_wp2_with fail
     refine (rvsame_any z.t z.n z.s z.b z.c v.t v.n v.s v.b v.c _).mono ?_
     rintro e9 w5 ⟨rfl, hb5⟩
     have hz5 := hb5.size
     simp only [World.size_alloc] at hz5
     have h5 : Below (w.heap.size + 4) ((((w.alloc (.cells #[.bool x.many, .int .i64 x.v.t, .int .i64 x.v.n, .string x.v.s, .bool x.v.b, .int .i64 x.v.c, .int .i64 x.t, .int .i64 x.l, .int .i64 x.b, .int .i64 x.r, .slice x.A x.es.length x.cap] 36)).alloc (.cells #[.int .i64 v.t, .int .i64 v.n, .string v.s, .bool v.b, .int .i64 v.c] 26)).alloc (.cells #[.bool y.many, .int .i64 y.v.t, .int .i64 y.v.n, .string y.v.s, .bool y.v.b, .int .i64 y.v.c, .int .i64 y.t, .int .i64 y.l, .int .i64 y.b, .int .i64 y.r, .slice y.A y.es.length y.cap] 36)).alloc (.cells #[.int .i64 0, .int .i64 0, .string ⟨#[]⟩, .bool false, .int .i64 0] 26)) w5 := (h4.alloc (by omega) (.cells #[.int .i64 z.t, .int .i64 z.n, .string z.s, .bool z.b, .int .i64 z.c] 26)).trans (hb5.mono (by simp; omega))
     have o5 := Lib.hid (ownsRow_below (o4.out.alloc (.cells #[.int .i64 z.t, .int .i64 z.n, .string z.s, .bool z.b, .int .i64 z.c] 26)) hb5)
     have f5 : Below w4.heap.size w4 w5 := ((Below.refl _ w4).alloc (Nat.le_refl _) (.cells #[.int .i64 z.t, .int .i64 z.n, .string z.s, .bool z.b, .int .i64 z.c] 26)).trans (hb5.mono (by simp))
     have hlk2 := hlk.out
     unfold VL.eqv at hlk2
     rw [hlk2]
     have g5 : Below w.heap.size w w5 := b0.trans (h5.mono (by omega))
     obtain ⟨hk2, hk3, hk4, hk5, hk6⟩ := mv5 f5 (by omega) hg2 hg3 hg4 hg5 hg6
     clear hv0 hv1 hv2 hv3 hv4 hr0 hr1 hr2 hr3 hr4 hrs0 hrs1 hrs2 hrs3 hrs4
     clear hg2 hg3 hg4 hg5 hg6 hb5 f5 h4 o4 hlk2
     cases zz
     ·rw [if_neg (by decide), List.append_nil] at hsn
      go_wp2
      go_roundw
      case rel => exact ⟨k + 1, by omega, by go_num, by rw [hsn.out]; exact o5, h5⟩
      case measure => simp [intOf]; omega
     ·rw [if_pos rfl] at hsn
      have l2_w5 : w.heap.size + 2 < w5.heap.size := by omega
      have n2_w5 : w.heap.size + 2 ≠ w5.heap.size := by omega
      have hebw5 : eb < w5.heap.size := by omega
      have hneb5 : eb ≠ w5.heap.size := by omega
      have hy0 : w5.cell? ⟨w.heap.size + 2, 0, none⟩ = some (.bool y.many) := by rw [h5.cell (by dsimp only; omega), World.cell?_alloc_lt _ _ _ (by first | (simp; done) | (simp; omega))]; exact c_at (by simp) rfl
      have hy1 : w5.cell? ⟨w.heap.size + 2, 1, none⟩ = some (.int .i64 y.v.t) := by rw [h5.cell (by dsimp only; omega), World.cell?_alloc_lt _ _ _ (by first | (simp; done) | (simp; omega))]; exact c_at (by simp) rfl
      have hy2 : w5.cell? ⟨w.heap.size + 2, 2, none⟩ = some (.int .i64 y.v.n) := by rw [h5.cell (by dsimp only; omega), World.cell?_alloc_lt _ _ _ (by first | (simp; done) | (simp; omega))]; exact c_at (by simp) rfl
      have hy3 : w5.cell? ⟨w.heap.size + 2, 3, none⟩ = some (.string y.v.s) := by rw [h5.cell (by dsimp only; omega), World.cell?_alloc_lt _ _ _ (by first | (simp; done) | (simp; omega))]; exact c_at (by simp) rfl
      have hy4 : w5.cell? ⟨w.heap.size + 2, 4, none⟩ = some (.bool y.v.b) := by rw [h5.cell (by dsimp only; omega), World.cell?_alloc_lt _ _ _ (by first | (simp; done) | (simp; omega))]; exact c_at (by simp) rfl
      have hy5 : w5.cell? ⟨w.heap.size + 2, 5, none⟩ = some (.int .i64 y.v.c) := by rw [h5.cell (by dsimp only; omega), World.cell?_alloc_lt _ _ _ (by first | (simp; done) | (simp; omega))]; exact c_at (by simp) rfl
      have hy6 : w5.cell? ⟨w.heap.size + 2, 6, none⟩ = some (.int .i64 y.t) := by rw [h5.cell (by dsimp only; omega), World.cell?_alloc_lt _ _ _ (by first | (simp; done) | (simp; omega))]; exact c_at (by simp) rfl
      have hy7 : w5.cell? ⟨w.heap.size + 2, 7, none⟩ = some (.int .i64 y.l) := by rw [h5.cell (by dsimp only; omega), World.cell?_alloc_lt _ _ _ (by first | (simp; done) | (simp; omega))]; exact c_at (by simp) rfl
      have hy8 : w5.cell? ⟨w.heap.size + 2, 8, none⟩ = some (.int .i64 y.b) := by rw [h5.cell (by dsimp only; omega), World.cell?_alloc_lt _ _ _ (by first | (simp; done) | (simp; omega))]; exact c_at (by simp) rfl
      have hy9 : w5.cell? ⟨w.heap.size + 2, 9, none⟩ = some (.int .i64 y.r) := by rw [h5.cell (by dsimp only; omega), World.cell?_alloc_lt _ _ _ (by first | (simp; done) | (simp; omega))]; exact c_at (by simp) rfl
      have hy10 : w5.cell? ⟨w.heap.size + 2, 10, none⟩ = some (.slice y.A y.es.length y.cap) := by rw [h5.cell (by dsimp only; omega), World.cell?_alloc_lt _ _ _ (by first | (simp; done) | (simp; omega))]; exact c_at (by simp) rfl
      obtain ⟨hr0, hr1, hr2, hr3, hr4, hrs0, hrs1, hrs2, hrs3, hrs4⟩ := res5 h5
      rw [hA3'.out] at hy10
      have hvg := heap_alloc_new w5 (.cells #[.int .i64 e.v.t, .int .i64 e.v.n, .string e.v.s, .bool e.v.b, .int .i64 e.v.c] 26)
      have hlb : L0.length + 1 ≤ 2932031007402 := by omega
      clear hr0 hrs0 hr1 hrs1 hr2 hrs2 hr3 hrs3 hr4 hrs4
      go_wp2_with (at_builtin; go_loud (refine wpList_append_own_at _ rfl _ _ 78 rfl (w.heap.size + 4) 26 i0 (.agg #[.int .i64 0, .int .i64 0, .string ⟨#[]⟩, .bool false, .int .i64 0]) 5 48 Tryz.underlying78 hi hz0 hz1 hz2 rfl (by decide) _ _ _ rfl (o5.out.alloc _) ⟨w5.heap.size, 0, none⟩ 1 1 e.v.cs rfl rfl (vget hvg) (by simp [VL.cs, Value.oneCell']) (by unfold maxLen; omega) (by omega) (by simp; omega) ?_); intro v' w6 hown6 hgrow6 _ _)
      have h6 : Below (w.heap.size + 4) ((((w.alloc (.cells #[.bool x.many, .int .i64 x.v.t, .int .i64 x.v.n, .string x.v.s, .bool x.v.b, .int .i64 x.v.c, .int .i64 x.t, .int .i64 x.l, .int .i64 x.b, .int .i64 x.r, .slice x.A x.es.length x.cap] 36)).alloc (.cells #[.int .i64 v.t, .int .i64 v.n, .string v.s, .bool v.b, .int .i64 v.c] 26)).alloc (.cells #[.bool y.many, .int .i64 y.v.t, .int .i64 y.v.n, .string y.v.s, .bool y.v.b, .int .i64 y.v.c, .int .i64 y.t, .int .i64 y.l, .int .i64 y.b, .int .i64 y.r, .slice y.A y.es.length y.cap] 36)).alloc (.cells #[.int .i64 0, .int .i64 0, .string ⟨#[]⟩, .bool false, .int .i64 0] 26)) w6 := (h5.alloc (by omega) (.cells #[.int .i64 e.v.t, .int .i64 e.v.n, .string e.v.s, .bool e.v.b, .int .i64 e.v.c] 26)).grown hgrow6 (by simp; omega) (fun q hq => (o5.out.lt q hq).1)
      go_roundw
      case rel => exact ⟨k + 1, by omega, by go_num, Lib.hid (by unfold OwnV; rw [hsn.out, vRow_app, vRow_one, List.length_append]; exact hown6), h6⟩
      case measure => simp [intOf]; omega
    ·obtain rfl : k = y.es.length := by omega
     have hkl : ¬ (y.es.length : Int) < (y.es.length : Int) := by omega
     rw [List.take_length] at hown
     have hsi := hown.out
     clear hown
     have hVV2 := Lib.hid (show V = faultR (siL x v y) (fitL (numsL (siL x v y)).sum) from hVV.out)
     change OwnV wr (w.heap.size + 4) _ (siL x v y) at hsi
     have hLl : (siL x v y).length ≤ 1073741824 := by unfold siL; rw [List.length_map]; exact Nat.le_trans (List.length_filter_le _ _) (by omega)
     have hLo : ∀ u ∈ siL x v y, u.ok := by
      intro u hu
      unfold siL at hu
      obtain ⟨e, he, rfl⟩ := List.mem_map.1 hu
      exact hok'.out e (List.mem_filter.1 he).1
     generalize siL x v y = L at *
     obtain ⟨A, cap, rfl, hrd⟩ := own_rdv hsi
     have CF := Lib.hid (r10faulty L (by omega) wr A cap hrd)
     have hno := nums_ok hLo
     have hnl := numsL_len L
     have hS : Hid (∀ x ∈ sortL (numsL L), -9223372036854775808 ≤ x ∧ x ≤ 9223372036854775807) := Lib.hid fun x hx => hno x (sortL_mem.1 hx)
     have l3r : w.heap.size + 3 < wr.heap.size := by omega
     have n3r : w.heap.size + 3 ≠ wr.heap.size := by omega
     clear hsi hVV hx0 hx1 hx2 hx3 hx4 hx5 hx6 hx7 hx8 hx9 hx10 hv0 hv1 hv2 hv3 hv4 hy0 hy1 hy2 hy3 hy4 hy5 hy6 hy7 hy8 hy9
     cases hfl : fltL L with
     |
      some f =>
      have hVe := Lib.hid (show V = f from by rw [hVV2.out]; unfold faultR; rw [show L.find? (fun v => decide (v.t = 4)) = some f from hfl])
      rw [fltV_some hfl, hfl] at CF
      simp only [Option.isSome_some] at CF
      go_wp2_with (refine CF.out.mono ?_; rintro e w9 ⟨rfl, hb⟩; obtain ⟨hc, hf, hz⟩ := bkeep hb wr.heap.size (by first | omega | (simp <;> omega)); have hz9 : w.heap.size + 3 ≠ w9.heap.size := (by omega); have hz8 : w.heap.size + 3 < w9.heap.size := by omega)
      refine bodyPost_ret (v := .agg #[.int .i64 (f).t, .int .i64 (f).n, .string (f).s, .bool (f).b, .int .i64 (f).c]) ?_ rfl ⟨by rw [hVe.out], belq⟩
      simp [results, Tryz.results45, go_sem, *]
     |
      none =>
      have hVV3 := Lib.hid (show V = fitL (numsL L).sum from by rw [hVV2.out]; unfold faultR; rw [show L.find? (fun v => decide (v.t = 4)) = none from hfl])
      rw [hfl] at CF
      simp only [Option.isSome_none] at CF
      clear hVV2 hfl
      go_wp2_with fail
      refine CF.out.mono ?_
      clear CF
      rintro e w3 ⟨rfl, hb3⟩
      have h3 : Below (w.heap.size + 4) ((((w.alloc (.cells #[.bool x.many, .int .i64 x.v.t, .int .i64 x.v.n, .string x.v.s, .bool x.v.b, .int .i64 x.v.c, .int .i64 x.t, .int .i64 x.l, .int .i64 x.b, .int .i64 x.r, .slice x.A x.es.length x.cap] 36)).alloc (.cells #[.int .i64 v.t, .int .i64 v.n, .string v.s, .bool v.b, .int .i64 v.c] 26)).alloc (.cells #[.bool y.many, .int .i64 y.v.t, .int .i64 y.v.n, .string y.v.s, .bool y.v.b, .int .i64 y.v.c, .int .i64 y.t, .int .i64 y.l, .int .i64 y.b, .int .i64 y.r, .slice y.A y.es.length y.cap] 36)).alloc (.cells #[.int .i64 0, .int .i64 0, .string ⟨#[]⟩, .bool false, .int .i64 0] 26)) (w3.alloc (.cells #[.int .i64 (fltV L).t, .int .i64 (fltV L).n, .string (fltV L).s, .bool (fltV L).b, .int .i64 (fltV L).c] 26)) := (hbr.trans (hb3.mono (by omega))).alloc (by have := hb3.size; omega) _
      have CN := Lib.hid (r10numbers L (by omega) (w3.alloc (.cells #[.int .i64 (fltV L).t, .int .i64 (fltV L).n, .string (fltV L).s, .bool (fltV L).b, .int .i64 (fltV L).c] 26)) A cap ((hrd.below (hb3.alloc hb3.size (.cells #[.int .i64 (fltV L).t, .int .i64 (fltV L).n, .string (fltV L).s, .bool (fltV L).b, .int .i64 (fltV L).c] 26))).mono (by have := hb3.size; simp; omega)))
      have hz3 := hb3.size
      clear hb3 hr0 hrs0 hr1 hrs1 hr2 hrs2 hr3 hrs3 hr4 hrs4
      go_wp2_with fail
      refine CN.out.mono ?_
      clear CN
      rintro e w4 ⟨⟨u4, rfl, hown4⟩, hb4⟩
      have h4 : Below (w.heap.size + 4) ((((w.alloc (.cells #[.bool x.many, .int .i64 x.v.t, .int .i64 x.v.n, .string x.v.s, .bool x.v.b, .int .i64 x.v.c, .int .i64 x.t, .int .i64 x.l, .int .i64 x.b, .int .i64 x.r, .slice x.A x.es.length x.cap] 36)).alloc (.cells #[.int .i64 v.t, .int .i64 v.n, .string v.s, .bool v.b, .int .i64 v.c] 26)).alloc (.cells #[.bool y.many, .int .i64 y.v.t, .int .i64 y.v.n, .string y.v.s, .bool y.v.b, .int .i64 y.v.c, .int .i64 y.t, .int .i64 y.l, .int .i64 y.b, .int .i64 y.r, .slice y.A y.es.length y.cap] 36)).alloc (.cells #[.int .i64 0, .int .i64 0, .string ⟨#[]⟩, .bool false, .int .i64 0] 26)) w4 := h3.trans (hb4.mono (by simp; omega))
      obtain ⟨A4, cap4, rfl, hrd4⟩ := own_rdi hown4
      have CS := Lib.hid (r10sum (sortL (numsL L)) hS.out (by rw [sortL_len]; omega) w4 A4 cap4 hrd4)
      rw [numsL_perm_sum] at CS
      have hz4 := h4.size
      simp only [World.size_alloc] at hz4
      have g4 : Below w.heap.size w w4 := b0.trans (h4.mono (by omega))
      have l34 : w.heap.size + 3 < w4.heap.size := by omega
      clear hrd4 hown4 h3 hb4
      obtain ⟨hr0, hr1, hr2, hr3, hr4, hrs0, hrs1, hrs2, hrs3, hrs4⟩ := res5 h4
      go_wp2_with (go_at_call 129; refine (CS.out).mono ?_; rintro e w9 ⟨rfl, hb⟩; obtain ⟨hc, hf, hz⟩ := bkeep hb w4.heap.size (by first | omega | (simp <;> omega)))
      refine bodyPost_ret (v := .agg #[.int .i64 ((fitL (numsL L).sum)).t, .int .i64 ((fitL (numsL L).sum)).n, .string ((fitL (numsL L).sum)).s, .bool ((fitL (numsL L).sum)).b, .int .i64 ((fitL (numsL L).sum)).c]) ?_ rfl ⟨by rw [hVV3.out], belq⟩
      simp [results, Tryz.results45, go_sem, *]
  ·have q1 : (C != D) = true := by simp [a2]
   have hVe := Lib.hid (show V = errL 8 by rw [hVW.out, if_neg (fun h => a2 h.2)])
   clear a1 a2 hVW
   refine wp_region_noPanic ?_
   refine wp_region_held_drew (S := fun w' => w'.cell? ⟨w.heap.size, 0, none⟩ = some (.bool x.many) ∧ w'.cell? ⟨w.heap.size, 1, none⟩ = some (.int .i64 x.v.t) ∧ w'.cell? ⟨w.heap.size, 2, none⟩ = some (.int .i64 x.v.n) ∧ w'.cell? ⟨w.heap.size, 3, none⟩ = some (.string x.v.s) ∧ w'.cell? ⟨w.heap.size, 4, none⟩ = some (.bool x.v.b) ∧ w'.cell? ⟨w.heap.size, 5, none⟩ = some (.int .i64 x.v.c) ∧ w'.cell? ⟨w.heap.size, 6, none⟩ = some (.int .i64 x.t) ∧ w'.cell? ⟨w.heap.size, 7, none⟩ = some (.int .i64 x.l) ∧ w'.cell? ⟨w.heap.size, 8, none⟩ = some (.int .i64 x.b) ∧ w'.cell? ⟨w.heap.size, 9, none⟩ = some (.int .i64 x.r) ∧ w'.cell? ⟨w.heap.size, 10, none⟩ = some (.slice x.A x.es.length x.cap) ∧ w'.cell? ⟨w.heap.size + 1, 0, none⟩ = some (.int .i64 v.t) ∧ w'.cell? ⟨w.heap.size + 1, 1, none⟩ = some (.int .i64 v.n) ∧ w'.cell? ⟨w.heap.size + 1, 2, none⟩ = some (.string v.s) ∧ w'.cell? ⟨w.heap.size + 1, 3, none⟩ = some (.bool v.b) ∧ w'.cell? ⟨w.heap.size + 1, 4, none⟩ = some (.int .i64 v.c) ∧ w'.cell? ⟨w.heap.size + 2, 0, none⟩ = some (.bool y.many) ∧ w'.cell? ⟨w.heap.size + 2, 1, none⟩ = some (.int .i64 y.v.t) ∧ w'.cell? ⟨w.heap.size + 2, 2, none⟩ = some (.int .i64 y.v.n) ∧ w'.cell? ⟨w.heap.size + 2, 3, none⟩ = some (.string y.v.s) ∧ w'.cell? ⟨w.heap.size + 2, 4, none⟩ = some (.bool y.v.b) ∧ w'.cell? ⟨w.heap.size + 2, 5, none⟩ = some (.int .i64 y.v.c) ∧ w'.cell? ⟨w.heap.size + 2, 6, none⟩ = some (.int .i64 y.t) ∧ w'.cell? ⟨w.heap.size + 2, 7, none⟩ = some (.int .i64 y.l) ∧ w'.cell? ⟨w.heap.size + 2, 8, none⟩ = some (.int .i64 y.b) ∧ w'.cell? ⟨w.heap.size + 2, 9, none⟩ = some (.int .i64 y.r) ∧ w'.cell? ⟨w.heap.size + 2, 10, none⟩ = some (.slice y.A y.es.length y.cap) ∧ Below (w.heap.size + 4) ((((w.alloc (.cells #[.bool x.many, .int .i64 x.v.t, .int .i64 x.v.n, .string x.v.s, .bool x.v.b, .int .i64 x.v.c, .int .i64 x.t, .int .i64 x.l, .int .i64 x.b, .int .i64 x.r, .slice x.A x.es.length x.cap] 36)).alloc (.cells #[.int .i64 v.t, .int .i64 v.n, .string v.s, .bool v.b, .int .i64 v.c] 26)).alloc (.cells #[.bool y.many, .int .i64 y.v.t, .int .i64 y.v.n, .string y.v.s, .bool y.v.b, .int .i64 y.v.c, .int .i64 y.t, .int .i64 y.l, .int .i64 y.b, .int .i64 y.r, .slice y.A y.es.length y.cap] 36)).alloc (.cells #[.int .i64 0, .int .i64 0, .string ⟨#[]⟩, .bool false, .int .i64 0] 26)) w' ∧ (w.heap.size + 4) ≤ w'.heap.size) (by kernel_rfl) (by (try dsimp only); refine ⟨?_, ?_, ?_, ?_, ?_, ?_, ?_, ?_, ?_, ?_, ?_, ?_, ?_, ?_, ?_, ?_, ?_, ?_, ?_, ?_, ?_, ?_, ?_, ?_, ?_, ?_, ?_, ?_, ?_⟩ <;> first | (simp [go_sem, *]; done) | (simp; omega) | (simp; done) | exact belq) (fun hHeld => ?_)
   refine sqT 0 hHeld ?_
   refine sqT 2 hHeld ?_
   refine sqC 1 (fun K hK => ?_)
   go_split_ands
   go_simp
   refine ((CR _).out).mono ?_
   rintro e w1 ⟨rfl, hb⟩
   refine hK.out _ _ ?_ (fun hHeld => ?_)
   ·exact kpB
   clear hK K hb
   try simp only [Act.put, List.setIfInBounds_toArray, List.set_cons_zero, List.set_cons_succ]
   refine sqC 3 (fun K hK => ?_)
   go_split_ands
   go_simp
   refine ((CS _).out).mono ?_
   rintro e w1 ⟨rfl, hb⟩
   refine hK.out _ _ ?_ (fun hHeld => ?_)
   ·exact kpB
   clear hK K hb
   refine sqT 4 hHeld ?_
   refine sqT 5 hHeld ?_
   refine sqT 6 hHeld ?_
   refine sqT 8 hHeld ?_
   refine sqC 7 (fun K hK => ?_)
   go_split_ands
   go_simp
   refine ((CC _).out).mono ?_
   rintro e w1 ⟨rfl, hb⟩
   refine hK.out _ _ ?_ (fun hHeld => ?_)
   ·exact kpB
   clear hK K hb
   try simp only [Act.put, List.setIfInBounds_toArray, List.set_cons_zero, List.set_cons_succ]
   refine sqC 9 (fun K hK => ?_)
   go_split_ands
   go_simp
   refine ((CD _).out).mono ?_
   rintro e w1 ⟨rfl, hb⟩
   refine hK.out _ _ ?_ (fun hHeld => ?_)
   ·exact kpB
   clear hK K hb
   refine sqT 10 hHeld ?_
   refine sqT 11 hHeld ?_
   refine wpAnyH_done (by kernel_rfl) ?_ _
   refine NoPanic.normal ?_
   go_split_ands
   have h1 : Below (w.heap.size + 4) ((((w.alloc (.cells #[.bool x.many, .int .i64 x.v.t, .int .i64 x.v.n, .string x.v.s, .bool x.v.b, .int .i64 x.v.c, .int .i64 x.t, .int .i64 x.l, .int .i64 x.b, .int .i64 x.r, .slice x.A x.es.length x.cap] 36)).alloc (.cells #[.int .i64 v.t, .int .i64 v.n, .string v.s, .bool v.b, .int .i64 v.c] 26)).alloc (.cells #[.bool y.many, .int .i64 y.v.t, .int .i64 y.v.n, .string y.v.s, .bool y.v.b, .int .i64 y.v.c, .int .i64 y.t, .int .i64 y.l, .int .i64 y.b, .int .i64 y.r, .slice y.A y.es.length y.cap] 36)).alloc (.cells #[.int .i64 0, .int .i64 0, .string ⟨#[]⟩, .bool false, .int .i64 0] 26)) w1 := by assumption
   have hzw1 : (w.heap.size + 4) ≤ w1.heap.size := by assumption
   have g1 : Below w.heap.size w w1 := b0.trans (h1.mono (by omega))
   have l0 : w.heap.size < w1.heap.size := by omega
   have l3 : w.heap.size + 3 < w1.heap.size := by omega
   obtain ⟨hr0, hr1, hr2, hr3, hr4, hrs0, hrs1, hrs2, hrs3, hrs4⟩ := res5 h1
   go_wp2_with (go_at_call 20; refine (rverrA 8 _).mono ?_; rintro e w9 ⟨rfl, hb⟩; obtain ⟨hc, hf, hz⟩ := bkeep hb w1.heap.size (by first | omega | (simp <;> omega)))
   refine bodyPost_ret (v := .agg #[.int .i64 4, .int .i64 0, .string ⟨#[]⟩, .bool false, .int .i64 (errC 8)]) ?_ rfl ⟨by rw [hVe.out]; rfl, belq⟩
   simp [results, Tryz.results45, go_sem, *]
 ·have q0 : (R != S) = true := by simp [a1]
  have hVe := Lib.hid (show V = errL 8 by rw [hVW.out, if_neg (fun h => a1 h.1)])
  clear a1 hVW
  refine wp_region_noPanic ?_
  refine wp_region_held_drew (S := fun w' => w'.cell? ⟨w.heap.size, 0, none⟩ = some (.bool x.many) ∧ w'.cell? ⟨w.heap.size, 1, none⟩ = some (.int .i64 x.v.t) ∧ w'.cell? ⟨w.heap.size, 2, none⟩ = some (.int .i64 x.v.n) ∧ w'.cell? ⟨w.heap.size, 3, none⟩ = some (.string x.v.s) ∧ w'.cell? ⟨w.heap.size, 4, none⟩ = some (.bool x.v.b) ∧ w'.cell? ⟨w.heap.size, 5, none⟩ = some (.int .i64 x.v.c) ∧ w'.cell? ⟨w.heap.size, 6, none⟩ = some (.int .i64 x.t) ∧ w'.cell? ⟨w.heap.size, 7, none⟩ = some (.int .i64 x.l) ∧ w'.cell? ⟨w.heap.size, 8, none⟩ = some (.int .i64 x.b) ∧ w'.cell? ⟨w.heap.size, 9, none⟩ = some (.int .i64 x.r) ∧ w'.cell? ⟨w.heap.size, 10, none⟩ = some (.slice x.A x.es.length x.cap) ∧ w'.cell? ⟨w.heap.size + 1, 0, none⟩ = some (.int .i64 v.t) ∧ w'.cell? ⟨w.heap.size + 1, 1, none⟩ = some (.int .i64 v.n) ∧ w'.cell? ⟨w.heap.size + 1, 2, none⟩ = some (.string v.s) ∧ w'.cell? ⟨w.heap.size + 1, 3, none⟩ = some (.bool v.b) ∧ w'.cell? ⟨w.heap.size + 1, 4, none⟩ = some (.int .i64 v.c) ∧ w'.cell? ⟨w.heap.size + 2, 0, none⟩ = some (.bool y.many) ∧ w'.cell? ⟨w.heap.size + 2, 1, none⟩ = some (.int .i64 y.v.t) ∧ w'.cell? ⟨w.heap.size + 2, 2, none⟩ = some (.int .i64 y.v.n) ∧ w'.cell? ⟨w.heap.size + 2, 3, none⟩ = some (.string y.v.s) ∧ w'.cell? ⟨w.heap.size + 2, 4, none⟩ = some (.bool y.v.b) ∧ w'.cell? ⟨w.heap.size + 2, 5, none⟩ = some (.int .i64 y.v.c) ∧ w'.cell? ⟨w.heap.size + 2, 6, none⟩ = some (.int .i64 y.t) ∧ w'.cell? ⟨w.heap.size + 2, 7, none⟩ = some (.int .i64 y.l) ∧ w'.cell? ⟨w.heap.size + 2, 8, none⟩ = some (.int .i64 y.b) ∧ w'.cell? ⟨w.heap.size + 2, 9, none⟩ = some (.int .i64 y.r) ∧ w'.cell? ⟨w.heap.size + 2, 10, none⟩ = some (.slice y.A y.es.length y.cap) ∧ Below (w.heap.size + 4) ((((w.alloc (.cells #[.bool x.many, .int .i64 x.v.t, .int .i64 x.v.n, .string x.v.s, .bool x.v.b, .int .i64 x.v.c, .int .i64 x.t, .int .i64 x.l, .int .i64 x.b, .int .i64 x.r, .slice x.A x.es.length x.cap] 36)).alloc (.cells #[.int .i64 v.t, .int .i64 v.n, .string v.s, .bool v.b, .int .i64 v.c] 26)).alloc (.cells #[.bool y.many, .int .i64 y.v.t, .int .i64 y.v.n, .string y.v.s, .bool y.v.b, .int .i64 y.v.c, .int .i64 y.t, .int .i64 y.l, .int .i64 y.b, .int .i64 y.r, .slice y.A y.es.length y.cap] 36)).alloc (.cells #[.int .i64 0, .int .i64 0, .string ⟨#[]⟩, .bool false, .int .i64 0] 26)) w' ∧ (w.heap.size + 4) ≤ w'.heap.size) (by kernel_rfl) (by (try dsimp only); refine ⟨?_, ?_, ?_, ?_, ?_, ?_, ?_, ?_, ?_, ?_, ?_, ?_, ?_, ?_, ?_, ?_, ?_, ?_, ?_, ?_, ?_, ?_, ?_, ?_, ?_, ?_, ?_, ?_, ?_⟩ <;> first | (simp [go_sem, *]; done) | (simp; omega) | (simp; done) | exact belq) (fun hHeld => ?_)
  refine sqT 0 hHeld ?_
  refine sqT 2 hHeld ?_
  refine sqC 1 (fun K hK => ?_)
  go_split_ands
  go_simp
  refine ((CR _).out).mono ?_
  rintro e w1 ⟨rfl, hb⟩
  refine hK.out _ _ ?_ (fun hHeld => ?_)
  ·exact kpB
  clear hK K hb
  try simp only [Act.put, List.setIfInBounds_toArray, List.set_cons_zero, List.set_cons_succ]
  refine sqC 3 (fun K hK => ?_)
  go_split_ands
  go_simp
  refine ((CS _).out).mono ?_
  rintro e w1 ⟨rfl, hb⟩
  refine hK.out _ _ ?_ (fun hHeld => ?_)
  ·exact kpB
  clear hK K hb
  refine sqT 4 hHeld ?_
  refine sqT 5 hHeld ?_
  refine sqS 6 hHeld ?_
  refine sqS 7 hHeld ?_
  refine sqS 8 hHeld ?_
  refine sqS 9 hHeld ?_
  refine sqS 10 hHeld ?_
  refine sqT 11 hHeld ?_
  refine wpAnyH_done (by kernel_rfl) ?_ _
  refine NoPanic.normal ?_
  go_split_ands
  have h1 : Below (w.heap.size + 4) ((((w.alloc (.cells #[.bool x.many, .int .i64 x.v.t, .int .i64 x.v.n, .string x.v.s, .bool x.v.b, .int .i64 x.v.c, .int .i64 x.t, .int .i64 x.l, .int .i64 x.b, .int .i64 x.r, .slice x.A x.es.length x.cap] 36)).alloc (.cells #[.int .i64 v.t, .int .i64 v.n, .string v.s, .bool v.b, .int .i64 v.c] 26)).alloc (.cells #[.bool y.many, .int .i64 y.v.t, .int .i64 y.v.n, .string y.v.s, .bool y.v.b, .int .i64 y.v.c, .int .i64 y.t, .int .i64 y.l, .int .i64 y.b, .int .i64 y.r, .slice y.A y.es.length y.cap] 36)).alloc (.cells #[.int .i64 0, .int .i64 0, .string ⟨#[]⟩, .bool false, .int .i64 0] 26)) w1 := by assumption
  have hzw1 : (w.heap.size + 4) ≤ w1.heap.size := by assumption
  have g1 : Below w.heap.size w w1 := b0.trans (h1.mono (by omega))
  have l0 : w.heap.size < w1.heap.size := by omega
  have l3 : w.heap.size + 3 < w1.heap.size := by omega
  obtain ⟨hr0, hr1, hr2, hr3, hr4, hrs0, hrs1, hrs2, hrs3, hrs4⟩ := res5 h1
  go_wp2_with (go_at_call 20; refine (rverrA 8 _).mono ?_; rintro e w9 ⟨rfl, hb⟩; obtain ⟨hc, hf, hz⟩ := bkeep hb w1.heap.size (by first | omega | (simp <;> omega)))
  refine bodyPost_ret (v := .agg #[.int .i64 4, .int .i64 0, .string ⟨#[]⟩, .bool false, .int .i64 (errC 8)]) ?_ rfl ⟨by rw [hVe.out]; rfl, belq⟩
  simp [results, Tryz.results45, go_sem, *]
end Go.Proofs.YtgmhifafbebjfaaGreatDoor
