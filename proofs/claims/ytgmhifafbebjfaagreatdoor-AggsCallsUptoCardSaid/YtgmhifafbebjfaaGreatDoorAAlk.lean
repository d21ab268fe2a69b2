/-
 aggs: alike.
-/
import Derived.Test.YtgmhifafbebjfaaGreatDoorACif
set_option maxRecDepth 100000
set_option maxHeartbeats 32000000
namespace Go.Proofs.YtgmhifafbebjfaaGreatDoor
open Go.RowKit

theorem aalike_y (a b : AL) (ha : mayRectB a.t a.l a.b a.r = true) (hb : mayRectB b.t b.l b.b b.r = true) (h : rowsL a = rowsL b) (w : World) : Calls Tryz.prog 180 #[.agg #[.bool a.many, .int .i64 a.v.t, .int .i64 a.v.n, .string a.v.s, .bool a.v.b, .int .i64 a.v.c, .int .i64 a.t, .int .i64 a.l, .int .i64 a.b, .int .i64 a.r, .slice a.A a.es.length a.cap], .agg #[.bool b.many, .int .i64 b.v.t, .int .i64 b.v.n, .string b.v.s, .bool b.v.b, .int .i64 b.v.c, .int .i64 b.t, .int .i64 b.l, .int .i64 b.b, .int .i64 b.r, .slice b.A b.es.length b.cap]] w fun e w' => e = .returned (.bool (decide (colsL a = colsL b))) ∧ Below w.heap.size w w' := by
 obtain ⟨R, hR⟩ : ∃ R, rowsL a = R := ⟨_, rfl⟩
 have hR2 : rowsL b = R := by omega
 obtain ⟨C, hC⟩ : ∃ C, colsL a = C := ⟨_, rfl⟩
 obtain ⟨D, hD⟩ : ∃ D, colsL b = D := ⟨_, rfl⟩
 have RA : ∀ w, Hid (Calls Tryz.prog 123 #[.agg #[.bool a.many, .int .i64 a.v.t, .int .i64 a.v.n, .string a.v.s, .bool a.v.b, .int .i64 a.v.c, .int .i64 a.t, .int .i64 a.l, .int .i64 a.b, .int .i64 a.r, .slice a.A a.es.length a.cap]] w fun e w' => e = .returned (.int .i64 R) ∧ Below w.heap.size w w') := fun w => Lib.hid (by rw [← hR]; exact arows_any a ha w)
 have RB : ∀ w, Hid (Calls Tryz.prog 123 #[.agg #[.bool b.many, .int .i64 b.v.t, .int .i64 b.v.n, .string b.v.s, .bool b.v.b, .int .i64 b.v.c, .int .i64 b.t, .int .i64 b.l, .int .i64 b.b, .int .i64 b.r, .slice b.A b.es.length b.cap]] w fun e w' => e = .returned (.int .i64 R) ∧ Below w.heap.size w w') := fun w => Lib.hid (by rw [← hR2]; exact arows_any b hb w)
 have CA : ∀ w, Hid (Calls Tryz.prog 125 #[.agg #[.bool a.many, .int .i64 a.v.t, .int .i64 a.v.n, .string a.v.s, .bool a.v.b, .int .i64 a.v.c, .int .i64 a.t, .int .i64 a.l, .int .i64 a.b, .int .i64 a.r, .slice a.A a.es.length a.cap]] w fun e w' => e = .returned (.int .i64 C) ∧ Below w.heap.size w w') := fun w => Lib.hid (by rw [← hC]; exact acols_any a ha w)
 have CB : ∀ w, Hid (Calls Tryz.prog 125 #[.agg #[.bool b.many, .int .i64 b.v.t, .int .i64 b.v.n, .string b.v.s, .bool b.v.b, .int .i64 b.v.c, .int .i64 b.t, .int .i64 b.l, .int .i64 b.b, .int .i64 b.r, .slice b.A b.es.length b.cap]] w fun e w' => e = .returned (.int .i64 D) ∧ Below w.heap.size w w') := fun w => Lib.hid (by rw [← hD]; exact acols_any b hb w)
 rw [hC, hD]
 obtain ⟨z, hz⟩ : ∃ z, decide (C = D) = z := ⟨_, rfl⟩
 rw [hz]
 have hz2 : (C == D) = z := by rw [← hz]; by_cases h9 : C = D <;> simp [h9]
 clear hR hR2 hC hD h ha hb
 go_enter Tryz.func180, Tryz.ntmps180
 go_wp2_with fail
 go_region_held3 (fun w' => w'.cell? ⟨w.heap.size, 0, none⟩ = some (.bool a.many) ∧ w'.cell? ⟨w.heap.size, 1, none⟩ = some (.int .i64 a.v.t) ∧ w'.cell? ⟨w.heap.size, 2, none⟩ = some (.int .i64 a.v.n) ∧ w'.cell? ⟨w.heap.size, 3, none⟩ = some (.string a.v.s) ∧ w'.cell? ⟨w.heap.size, 4, none⟩ = some (.bool a.v.b) ∧ w'.cell? ⟨w.heap.size, 5, none⟩ = some (.int .i64 a.v.c) ∧ w'.cell? ⟨w.heap.size, 6, none⟩ = some (.int .i64 a.t) ∧ w'.cell? ⟨w.heap.size, 7, none⟩ = some (.int .i64 a.l) ∧ w'.cell? ⟨w.heap.size, 8, none⟩ = some (.int .i64 a.b) ∧ w'.cell? ⟨w.heap.size, 9, none⟩ = some (.int .i64 a.r) ∧ w'.cell? ⟨w.heap.size, 10, none⟩ = some (.slice a.A a.es.length a.cap) ∧ w'.cell? ⟨w.heap.size + 1, 0, none⟩ = some (.bool b.many) ∧ w'.cell? ⟨w.heap.size + 1, 1, none⟩ = some (.int .i64 b.v.t) ∧ w'.cell? ⟨w.heap.size + 1, 2, none⟩ = some (.int .i64 b.v.n) ∧ w'.cell? ⟨w.heap.size + 1, 3, none⟩ = some (.string b.v.s) ∧ w'.cell? ⟨w.heap.size + 1, 4, none⟩ = some (.bool b.v.b) ∧ w'.cell? ⟨w.heap.size + 1, 5, none⟩ = some (.int .i64 b.v.c) ∧ w'.cell? ⟨w.heap.size + 1, 6, none⟩ = some (.int .i64 b.t) ∧ w'.cell? ⟨w.heap.size + 1, 7, none⟩ = some (.int .i64 b.l) ∧ w'.cell? ⟨w.heap.size + 1, 8, none⟩ = some (.int .i64 b.b) ∧ w'.cell? ⟨w.heap.size + 1, 9, none⟩ = some (.int .i64 b.r) ∧ w'.cell? ⟨w.heap.size + 1, 10, none⟩ = some (.slice b.A b.es.length b.cap) ∧ Below w.heap.size w w' ∧ w.heap.size + 2 ≤ w'.heap.size)
  (first | ((go_split_ands; refine ⟨?_, ?_, ?_, ?_, ?_, ?_, ?_, ?_, ?_, ?_, ?_, ?_, ?_, ?_, ?_, ?_, ?_, ?_, ?_, ?_, ?_, ?_, ?_, ?_⟩ <;> first | (rw [hb.cell (by dsimp only; omega)]; assumption) | exact Below.trans (by assumption) (hb.mono (by omega)) | (have := hb.size; omega))) | ((refine ⟨?_, ?_, ?_, ?_, ?_, ?_, ?_, ?_, ?_, ?_, ?_, ?_, ?_, ?_, ?_, ?_, ?_, ?_, ?_, ?_, ?_, ?_, ?_, ?_⟩ <;> first | (simp [go_sem, *]; done) | exact belq | (simp; omega))))
  (first | (go_at_call 123; with_reducible refine ((RA _).out).mono ?_; rintro e w1 ⟨rfl, hb⟩) | (go_at_call 123; with_reducible refine ((RB _).out).mono ?_; rintro e w1 ⟨rfl, hb⟩) | (go_at_call 125; with_reducible refine ((CA _).out).mono ?_; rintro e w1 ⟨rfl, hb⟩) | (go_at_call 125; with_reducible refine ((CB _).out).mono ?_; rintro e w1 ⟨rfl, hb⟩))
 go_split_ands
 go_wp2
 go_ret
 exact ⟨rfl, by assumption⟩
theorem aalike_n (a b : AL) (ha : mayRectB a.t a.l a.b a.r = true) (hb : mayRectB b.t b.l b.b b.r = true) (h : ¬ rowsL a = rowsL b) (w : World) : Calls Tryz.prog 180 #[.agg #[.bool a.many, .int .i64 a.v.t, .int .i64 a.v.n, .string a.v.s, .bool a.v.b, .int .i64 a.v.c, .int .i64 a.t, .int .i64 a.l, .int .i64 a.b, .int .i64 a.r, .slice a.A a.es.length a.cap], .agg #[.bool b.many, .int .i64 b.v.t, .int .i64 b.v.n, .string b.v.s, .bool b.v.b, .int .i64 b.v.c, .int .i64 b.t, .int .i64 b.l, .int .i64 b.b, .int .i64 b.r, .slice b.A b.es.length b.cap]] w fun e w' => e = .returned (.bool false) ∧ Below w.heap.size w w' := by
 obtain ⟨R, hR⟩ : ∃ R, rowsL a = R := ⟨_, rfl⟩
 obtain ⟨S, hS⟩ : ∃ S, rowsL b = S := ⟨_, rfl⟩
 have RA : ∀ w, Hid (Calls Tryz.prog 123 #[.agg #[.bool a.many, .int .i64 a.v.t, .int .i64 a.v.n, .string a.v.s, .bool a.v.b, .int .i64 a.v.c, .int .i64 a.t, .int .i64 a.l, .int .i64 a.b, .int .i64 a.r, .slice a.A a.es.length a.cap]] w fun e w' => e = .returned (.int .i64 R) ∧ Below w.heap.size w w') := fun w => Lib.hid (by rw [← hR]; exact arows_any a ha w)
 have RB : ∀ w, Hid (Calls Tryz.prog 123 #[.agg #[.bool b.many, .int .i64 b.v.t, .int .i64 b.v.n, .string b.v.s, .bool b.v.b, .int .i64 b.v.c, .int .i64 b.t, .int .i64 b.l, .int .i64 b.b, .int .i64 b.r, .slice b.A b.es.length b.cap]] w fun e w' => e = .returned (.int .i64 S) ∧ Below w.heap.size w w') := fun w => Lib.hid (by rw [← hS]; exact arows_any b hb w)
 rw [hR, hS] at h
 have hb2 : (R == S) = false := by simpa using h
 clear hR hS ha hb
 go_enter Tryz.func180, Tryz.ntmps180
 go_wp2_with fail
 refine wp_region_noPanic ?_
 refine wp_region_held_drew (S := fun w' => w'.cell? ⟨w.heap.size, 0, none⟩ = some (.bool a.many) ∧ w'.cell? ⟨w.heap.size, 1, none⟩ = some (.int .i64 a.v.t) ∧ w'.cell? ⟨w.heap.size, 2, none⟩ = some (.int .i64 a.v.n) ∧ w'.cell? ⟨w.heap.size, 3, none⟩ = some (.string a.v.s) ∧ w'.cell? ⟨w.heap.size, 4, none⟩ = some (.bool a.v.b) ∧ w'.cell? ⟨w.heap.size, 5, none⟩ = some (.int .i64 a.v.c) ∧ w'.cell? ⟨w.heap.size, 6, none⟩ = some (.int .i64 a.t) ∧ w'.cell? ⟨w.heap.size, 7, none⟩ = some (.int .i64 a.l) ∧ w'.cell? ⟨w.heap.size, 8, none⟩ = some (.int .i64 a.b) ∧ w'.cell? ⟨w.heap.size, 9, none⟩ = some (.int .i64 a.r) ∧ w'.cell? ⟨w.heap.size, 10, none⟩ = some (.slice a.A a.es.length a.cap) ∧ w'.cell? ⟨w.heap.size + 1, 0, none⟩ = some (.bool b.many) ∧ w'.cell? ⟨w.heap.size + 1, 1, none⟩ = some (.int .i64 b.v.t) ∧ w'.cell? ⟨w.heap.size + 1, 2, none⟩ = some (.int .i64 b.v.n) ∧ w'.cell? ⟨w.heap.size + 1, 3, none⟩ = some (.string b.v.s) ∧ w'.cell? ⟨w.heap.size + 1, 4, none⟩ = some (.bool b.v.b) ∧ w'.cell? ⟨w.heap.size + 1, 5, none⟩ = some (.int .i64 b.v.c) ∧ w'.cell? ⟨w.heap.size + 1, 6, none⟩ = some (.int .i64 b.t) ∧ w'.cell? ⟨w.heap.size + 1, 7, none⟩ = some (.int .i64 b.l) ∧ w'.cell? ⟨w.heap.size + 1, 8, none⟩ = some (.int .i64 b.b) ∧ w'.cell? ⟨w.heap.size + 1, 9, none⟩ = some (.int .i64 b.r) ∧ w'.cell? ⟨w.heap.size + 1, 10, none⟩ = some (.slice b.A b.es.length b.cap) ∧ Below w.heap.size w w' ∧ w.heap.size + 2 ≤ w'.heap.size) (by kernel_rfl) (by (try dsimp only); refine ⟨?_, ?_, ?_, ?_, ?_, ?_, ?_, ?_, ?_, ?_, ?_, ?_, ?_, ?_, ?_, ?_, ?_, ?_, ?_, ?_, ?_, ?_, ?_, ?_⟩ <;> first | (simp [go_sem, *]; done) | (simp; omega) | (simp; done) | exact belq) (fun hHeld => ?_)
 refine sqT 0 hHeld ?_
 refine sqT 2 hHeld ?_
 refine sqC 1 (fun K hK => ?_)
 go_split_ands
 go_simp
 refine ((RA _).out).mono ?_
 rintro e w1 ⟨rfl, hb⟩
 refine hK.out _ _ ?_ (fun hHeld => ?_)
 ·exact kpB
 clear hK K hb
 try simp only [Act.put, List.setIfInBounds_toArray, List.set_cons_zero, List.set_cons_succ]
 refine sqC 3 (fun K hK => ?_)
 go_split_ands
 go_simp
 refine ((RB _).out).mono ?_
 rintro e w1 ⟨rfl, hb⟩
 refine hK.out _ _ ?_ (fun hHeld => ?_)
 ·exact kpB
 clear hK K hb
 refine sqT 4 hHeld ?_
 refine sqT 5 hHeld ?_
 refine sqS 6 hHeld ?_
 refine sqS 7 hHeld ?_
 refine sqS 8 hHeld ?_
 refine sqS 9 hHeld ?_
 refine sqS 10 hHeld ?_
 refine sqT 11 hHeld ?_
 refine sqT 12 hHeld ?_
 refine wpAnyH_done (by kernel_rfl) ?_ _
 refine NoPanic.normal ?_
 go_split_ands
 go_wp2
 go_ret
 exact ⟨rfl, by assumption⟩
theorem aalike_any (a b : AL) (ha : mayRectB a.t a.l a.b a.r = true) (hb : mayRectB b.t b.l b.b b.r = true) (w : World) : Calls Tryz.prog 180 #[.agg #[.bool a.many, .int .i64 a.v.t, .int .i64 a.v.n, .string a.v.s, .bool a.v.b, .int .i64 a.v.c, .int .i64 a.t, .int .i64 a.l, .int .i64 a.b, .int .i64 a.r, .slice a.A a.es.length a.cap], .agg #[.bool b.many, .int .i64 b.v.t, .int .i64 b.v.n, .string b.v.s, .bool b.v.b, .int .i64 b.v.c, .int .i64 b.t, .int .i64 b.l, .int .i64 b.b, .int .i64 b.r, .slice b.A b.es.length b.cap]] w fun e w' => e = .returned (.bool (decide (rowsL a = rowsL b) && decide (colsL a = colsL b))) ∧ Below w.heap.size w w' := by
 by_cases h : rowsL a = rowsL b
 ·rw [decide_eq_true h, Bool.true_and]; exact aalike_y a b ha hb h w
 ·rw [decide_eq_false h, Bool.false_and]; exact aalike_n a b ha hb h w
end Go.Proofs.YtgmhifafbebjfaaGreatDoor
