/-
 the document's aggs: integer, index.
-/
import Derived.Test.YtgmhifafbebjfaaGreatDoorR10F
import Derived.Test.YtgmhifafbebjfaaGreatDoorR8D
set_option maxRecDepth 100000
set_option maxHeartbeats 32000000
namespace Go.Proofs.YtgmhifafbebjfaaGreatDoor
open Go.RowKit

theorem r10int_c (v : VL) (hv : v.ok) (c : Int) (hc : v.asC = c) (h : ¬ c = 0) (w : World) : Calls Tryz.prog 132 #[.agg #[.int .i64 v.t, .int .i64 v.n, .string v.s, .bool v.b, .int .i64 v.c]] w fun e w' => e = .returned (.tuple #[.int .i64 0, .int .i64 c]) ∧ Below w.heap.size w w' := by
 have C1 := rasnum_any v hv (w.alloc (.cells #[.int .i64 v.t, .int .i64 v.n, .string v.s, .bool v.b, .int .i64 v.c] 26))
 have hb := asN_in v hv
 rw [hc] at C1
 have C1 := Lib.hid C1
 have q0 : (c == 0) = false := by simpa using h
 have q1 : (c != 0) = true := by simpa using h
 generalize v.asN = x at *
 clear h hc
 go_enter Tryz.func132, Tryz.ntmps132
 go_wp2_with fail
 refine C1.out.mono ?_
 clear C1
 rintro e w1 ⟨rfl, hb1⟩
 have hz1 := hb1.size
 simp only [World.size_alloc] at hz1
 go_wp2
 refine bodyPost_ret (v := .tuple #[.int .i64 0, .int .i64 c]) ?_ rfl ⟨rfl, belq⟩
 simp [results, Tryz.results132, go_sem, *]
theorem r10int_n (v : VL) (hv : v.ok) (hc : v.asC = 0) (x : Int) (hn : v.asN = x) (hx : ¬ x.tmod 10000 = 0) (w : World) : Calls Tryz.prog 132 #[.agg #[.int .i64 v.t, .int .i64 v.n, .string v.s, .bool v.b, .int .i64 v.c]] w fun e w' => e = .returned (.tuple #[.int .i64 0, .int .i64 8]) ∧ Below w.heap.size w w' := by
 have C1 := rasnum_any v hv (w.alloc (.cells #[.int .i64 v.t, .int .i64 v.n, .string v.s, .bool v.b, .int .i64 v.c] 26))
 have hb := asN_in v hv
 rw [hc, hn] at C1
 rw [hn] at hb
 have C1 := Lib.hid C1
 have q0 : (x.tmod 10000 != 0) = true := by simpa using hx
 clear hc hn
 go_enter Tryz.func132, Tryz.ntmps132
 go_wp2_with fail
 refine C1.out.mono ?_
 clear C1
 rintro e w1 ⟨rfl, hb1⟩
 have hz1 := hb1.size
 simp only [World.size_alloc] at hz1
 go_wp2
 refine bodyPost_ret (v := .tuple #[.int .i64 0, .int .i64 8]) ?_ rfl ⟨rfl, belq⟩
 simp [results, Tryz.results132, go_sem, *]
theorem r10int_y (v : VL) (hv : v.ok) (hc : v.asC = 0) (x : Int) (hn : v.asN = x) (hx : x.tmod 10000 = 0) (y : Int) (hy : x.tdiv 10000 = y) (w : World) : Calls Tryz.prog 132 #[.agg #[.int .i64 v.t, .int .i64 v.n, .string v.s, .bool v.b, .int .i64 v.c]] w fun e w' => e = .returned (.tuple #[.int .i64 y, .int .i64 0]) ∧ Below w.heap.size w w' := by
 have C1 := rasnum_any v hv (w.alloc (.cells #[.int .i64 v.t, .int .i64 v.n, .string v.s, .bool v.b, .int .i64 v.c] 26))
 have hb := asN_in v hv
 rw [hc, hn] at C1
 rw [hn] at hb
 have C1 := Lib.hid C1
 have q0 : (x.tmod 10000 != 0) = false := by simpa using hx
 have e9 := Int.mul_tdiv_add_tmod x 10000
 rw [hx, hy] at e9
 have wy : IntKind.i64.wrap y = y := IntWalk.i64_in _ (by omega)
 have wy2 : IntKind.i64.wrap (x.tdiv 10000) = y := by rw [hy]; exact wy
 clear hc hn e9
 go_enter Tryz.func132, Tryz.ntmps132
 go_wp2_with fail
 refine C1.out.mono ?_
 clear C1
 rintro e w1 ⟨rfl, hb1⟩
 have hz1 := hb1.size
 simp only [World.size_alloc] at hz1
 go_wp2
 refine bodyPost_ret (v := .tuple #[.int .i64 y, .int .i64 0]) ?_ rfl ⟨rfl, belq⟩
 simp [results, Tryz.results132, go_sem, *]
theorem r10int (v : VL) (hv : v.ok) (w : World) : Calls Tryz.prog 132 #[.agg #[.int .i64 v.t, .int .i64 v.n, .string v.s, .bool v.b, .int .i64 v.c]] w fun e w' => e = .returned (.tuple #[.int .i64 (intV v), .int .i64 (intC v)]) ∧ Below w.heap.size w w' := by
 have hn := asN_in v hv
 unfold intV intC
 by_cases hc : v.asC = 0
 ·rw [if_pos hc, if_pos hc]
  by_cases hx : v.asN.tmod 10000 = 0
  ·have hB : wholeB v.asN = true := by unfold wholeB; simp [hx]; omega
   have hV : wholeV v.asN = v.asN.tdiv 10000 := by unfold wholeV; rw [if_pos ⟨by omega, hx⟩]
   rw [if_pos hB, if_pos hB, hV]
   exact r10int_y v hv hc _ rfl hx _ rfl w
  ·have hB : ¬ wholeB v.asN = true := by unfold wholeB; simp [hx]
   rw [if_neg hB, if_neg hB]
   exact r10int_n v hv hc _ rfl hx w
 ·rw [if_neg hc, if_neg hc]
  exact r10int_c v hv _ rfl hc w
theorem intV_in (v : VL) (hv : v.ok) : -1000000000000000 ≤ intV v ∧ intV v ≤ 1000000000000000 := by
 have hn := asN_in v hv
 unfold intV wholeV
 split
 ·split
  ·split
   ·rename_i h9
    have e9 := Int.mul_tdiv_add_tmod v.asN 10000
    rw [h9.2] at e9
    omega
   ·omega
  ·omega
 ·omega
def indexV (x : AL) (u v : VL) : VL := if intC u = 0 then (if intC v = 0 then (if intV u < 1 ∨ rowsL x < intV u ∨ intV v < 1 ∨ colsL x < intV v then errL 5 else lookP (heldL x) (intV u - 1, intV v - 1)) else errL (intC v)) else errL (intC u)
theorem r10index (x : AL) (u v : VL) (hm : mayRectB x.t x.l x.b x.r = true) (he : entsOk x = true) (hu : u.ok) (hv : v.ok) (w : World) (hin : x.In w w.heap.size) : Calls Tryz.prog 47 #[.agg #[.bool x.many, .int .i64 x.v.t, .int .i64 x.v.n, .string x.v.s, .bool x.v.b, .int .i64 x.v.c, .int .i64 x.t, .int .i64 x.l, .int .i64 x.b, .int .i64 x.r, .slice x.A x.es.length x.cap], .agg #[.int .i64 u.t, .int .i64 u.n, .string u.s, .bool u.b, .int .i64 u.c], .agg #[.int .i64 v.t, .int .i64 v.n, .string v.s, .bool v.b, .int .i64 v.c]] w fun e w' => e = .returned (.agg #[.int .i64 ((indexV x u v)).t, .int .i64 ((indexV x u v)).n, .string ((indexV x u v)).s, .bool ((indexV x u v)).b, .int .i64 ((indexV x u v)).c]) ∧ Below w.heap.size w w' := by
 obtain ⟨V, hV0⟩ : ∃ V, indexV x u v = V := ⟨_, rfl⟩
 have hV := Lib.hid hV0
 rw [hV0]
 have b0 : Below w.heap.size w ((((w.alloc (.cells #[.bool x.many, .int .i64 x.v.t, .int .i64 x.v.n, .string x.v.s, .bool x.v.b, .int .i64 x.v.c, .int .i64 x.t, .int .i64 x.l, .int .i64 x.b, .int .i64 x.r, .slice x.A x.es.length x.cap] 36)).alloc (.cells #[.int .i64 u.t, .int .i64 u.n, .string u.s, .bool u.b, .int .i64 u.c] 26)).alloc (.cells #[.int .i64 v.t, .int .i64 v.n, .string v.s, .bool v.b, .int .i64 v.c] 26)).alloc (.cells #[.int .i64 0, .int .i64 0, .string ⟨#[]⟩, .bool false, .int .i64 0] 26)) := belq
 obtain ⟨q1, q2, q3, q4, q5, q6⟩ := rect_in2 hm
 obtain ⟨R, hRr⟩ : ∃ R, rowsL x = R := ⟨_, rfl⟩
 obtain ⟨C, hCc⟩ : ∃ C, colsL x = C := ⟨_, rfl⟩
 have hRb : 1 ≤ R ∧ R ≤ 4096 := by unfold rowsL at hRr; omega
 have hCb : 1 ≤ C ∧ C ≤ 256 := by unfold colsL at hCc; omega
 have CR : ∀ w, Hid (Calls Tryz.prog 49 #[.agg #[.bool x.many, .int .i64 x.v.t, .int .i64 x.v.n, .string x.v.s, .bool x.v.b, .int .i64 x.v.c, .int .i64 x.t, .int .i64 x.l, .int .i64 x.b, .int .i64 x.r, .slice x.A x.es.length x.cap]] w fun e w' => e = .returned (.int .i64 R) ∧ Below w.heap.size w w') := fun w => Lib.hid (by rw [← hRr]; exact r10rows x hm w)
 have CC : ∀ w, Hid (Calls Tryz.prog 50 #[.agg #[.bool x.many, .int .i64 x.v.t, .int .i64 x.v.n, .string x.v.s, .bool x.v.b, .int .i64 x.v.c, .int .i64 x.t, .int .i64 x.l, .int .i64 x.b, .int .i64 x.r, .slice x.A x.es.length x.cap]] w fun e w' => e = .returned (.int .i64 C) ∧ Below w.heap.size w w') := fun w => Lib.hid (by rw [← hCc]; exact r10cols x hm w)
 have CH : ∀ (u t : Int) (w1 : World), Below w.heap.size w w1 → -1000000 ≤ u ∧ u ≤ 1000000 → -1000000 ≤ t ∧ t ≤ 1000000 → Hid (Calls Tryz.prog 128 #[.agg #[.bool x.many, .int .i64 x.v.t, .int .i64 x.v.n, .string x.v.s, .bool x.v.b, .int .i64 x.v.c, .int .i64 x.t, .int .i64 x.l, .int .i64 x.b, .int .i64 x.r, .slice x.A x.es.length x.cap], .int .i64 u, .int .i64 t] w1 fun e w' => e = .returned (.agg #[.int .i64 ((hasW x u t)).t, .int .i64 ((hasW x u t)).n, .string ((hasW x u t)).s, .bool ((hasW x u t)).b, .int .i64 ((hasW x u t)).c]) ∧ Below w1.heap.size w1 w') := fun u t w1 h1 hu ht => Lib.hid (r10has x u t hm hu ht (by have := ent_len hm he; omega) w1 ((hin.below h1).mono h1.size))
 have CU := fun w => Lib.hid (r10int u hu w)
 have CV := fun w => Lib.hid (r10int v hv w)
 obtain ⟨i, hi⟩ : ∃ i, intV u = i := ⟨_, rfl⟩
 obtain ⟨j, hj⟩ : ∃ j, intV v = j := ⟨_, rfl⟩
 obtain ⟨c, hc⟩ : ∃ c, intC u = c := ⟨_, rfl⟩
 obtain ⟨d, hd⟩ : ∃ d, intC v = d := ⟨_, rfl⟩
 have hib := intV_in u hu
 have hjb := intV_in v hv
 rw [hi] at hib
 rw [hj] at hjb
 have hVV := Lib.hid (show (if c = 0 then (if d = 0 then (if i < 1 ∨ R < i ∨ j < 1 ∨ C < j then errL 5 else lookP (heldL x) (i - 1, j - 1)) else errL d) else errL c) = V by rw [← hV.out]; unfold indexV; rw [hi, hj, hc, hd, hRr, hCc])
 simp only [hi, hc] at CU
 simp only [hj, hd] at CV
 have he' := Lib.hid he
 clear hm he hin hV0 hV q1 q2 q3 q4 q5 q6 hRr hCc hi hj hc hd hu hv
 go_enter Tryz.func47, Tryz.ntmps47
 go_wp2_with fail
 refine ((CU _).out).mono ?_
 rintro e w1 ⟨rfl, hb9⟩
 have h1 : Below (w.heap.size + 4) ((((w.alloc (.cells #[.bool x.many, .int .i64 x.v.t, .int .i64 x.v.n, .string x.v.s, .bool x.v.b, .int .i64 x.v.c, .int .i64 x.t, .int .i64 x.l, .int .i64 x.b, .int .i64 x.r, .slice x.A x.es.length x.cap] 36)).alloc (.cells #[.int .i64 u.t, .int .i64 u.n, .string u.s, .bool u.b, .int .i64 u.c] 26)).alloc (.cells #[.int .i64 v.t, .int .i64 v.n, .string v.s, .bool v.b, .int .i64 v.c] 26)).alloc (.cells #[.int .i64 0, .int .i64 0, .string ⟨#[]⟩, .bool false, .int .i64 0] 26)) w1 := hb9.mono (by simp)
 have hz_w1 := h1.size
 simp only [World.size_alloc] at hz_w1
 have g_w1 : Below w.heap.size w w1 := b0.trans (h1.mono (by omega))
 have l_w1 : w.heap.size + 3 < w1.heap.size := by omega
 have m_w1 : w.heap.size < w1.heap.size := by omega
 have k_w1 : w.heap.size + 2 < w1.heap.size := by omega
 clear hb9
 have hv0 : w1.cell? ⟨w.heap.size + 2, 0, none⟩ = some (.int .i64 v.t) := by rw [h1.cell (by dsimp only; omega), World.cell?_alloc_lt _ _ _ (by simp)]; exact c_at (by simp) rfl
 have hv1 : w1.cell? ⟨w.heap.size + 2, 1, none⟩ = some (.int .i64 v.n) := by rw [h1.cell (by dsimp only; omega), World.cell?_alloc_lt _ _ _ (by simp)]; exact c_at (by simp) rfl
 have hv2 : w1.cell? ⟨w.heap.size + 2, 2, none⟩ = some (.string v.s) := by rw [h1.cell (by dsimp only; omega), World.cell?_alloc_lt _ _ _ (by simp)]; exact c_at (by simp) rfl
 have hv3 : w1.cell? ⟨w.heap.size + 2, 3, none⟩ = some (.bool v.b) := by rw [h1.cell (by dsimp only; omega), World.cell?_alloc_lt _ _ _ (by simp)]; exact c_at (by simp) rfl
 have hv4 : w1.cell? ⟨w.heap.size + 2, 4, none⟩ = some (.int .i64 v.c) := by rw [h1.cell (by dsimp only; omega), World.cell?_alloc_lt _ _ _ (by simp)]; exact c_at (by simp) rfl
 obtain ⟨hr0, hr1, hr2, hr3, hr4, hs0, hs1, hs2, hs3, hs4⟩ := res5 h1
 by_cases c0 : c = 0
 ·subst c0
  have hVV2 := Lib.hid (show (if d = 0 then (if i < 1 ∨ R < i ∨ j < 1 ∨ C < j then errL 5 else lookP (heldL x) (i - 1, j - 1)) else errL d) = V by rw [← hVV.out, if_pos rfl])
  go_wp2_with fail
  refine ((CV _).out).mono ?_
  rintro e w2 ⟨rfl, hb9⟩
  have h2 : Below (w.heap.size + 4) ((((w.alloc (.cells #[.bool x.many, .int .i64 x.v.t, .int .i64 x.v.n, .string x.v.s, .bool x.v.b, .int .i64 x.v.c, .int .i64 x.t, .int .i64 x.l, .int .i64 x.b, .int .i64 x.r, .slice x.A x.es.length x.cap] 36)).alloc (.cells #[.int .i64 u.t, .int .i64 u.n, .string u.s, .bool u.b, .int .i64 u.c] 26)).alloc (.cells #[.int .i64 v.t, .int .i64 v.n, .string v.s, .bool v.b, .int .i64 v.c] 26)).alloc (.cells #[.int .i64 0, .int .i64 0, .string ⟨#[]⟩, .bool false, .int .i64 0] 26)) w2 := h1.trans (hb9.mono (by omega))
  have hz_w2 := h2.size
  simp only [World.size_alloc] at hz_w2
  have g_w2 : Below w.heap.size w w2 := b0.trans (h2.mono (by omega))
  have l_w2 : w.heap.size + 3 < w2.heap.size := by omega
  have m_w2 : w.heap.size < w2.heap.size := by omega
  have k_w2 : w.heap.size + 2 < w2.heap.size := by omega
  clear hb9 h1 g_w1 l_w1 m_w1 k_w1 hz_w1
  clear hv0 hv1 hv2 hv3 hv4 hr0 hs0 hr1 hs1 hr2 hs2 hr3 hs3 hr4 hs4
  have hx0 : w2.cell? ⟨w.heap.size, 0, none⟩ = some (.bool x.many) := by rw [h2.cell (by dsimp only; omega), World.cell?_alloc_lt _ _ _ (by simp; omega), World.cell?_alloc_lt _ _ _ (by simp; omega), World.cell?_alloc_lt _ _ _ (by simp)]; exact c_at rfl rfl
  have hx1 : w2.cell? ⟨w.heap.size, 1, none⟩ = some (.int .i64 x.v.t) := by rw [h2.cell (by dsimp only; omega), World.cell?_alloc_lt _ _ _ (by simp; omega), World.cell?_alloc_lt _ _ _ (by simp; omega), World.cell?_alloc_lt _ _ _ (by simp)]; exact c_at rfl rfl
  have hx2 : w2.cell? ⟨w.heap.size, 2, none⟩ = some (.int .i64 x.v.n) := by rw [h2.cell (by dsimp only; omega), World.cell?_alloc_lt _ _ _ (by simp; omega), World.cell?_alloc_lt _ _ _ (by simp; omega), World.cell?_alloc_lt _ _ _ (by simp)]; exact c_at rfl rfl
  have hx3 : w2.cell? ⟨w.heap.size, 3, none⟩ = some (.string x.v.s) := by rw [h2.cell (by dsimp only; omega), World.cell?_alloc_lt _ _ _ (by simp; omega), World.cell?_alloc_lt _ _ _ (by simp; omega), World.cell?_alloc_lt _ _ _ (by simp)]; exact c_at rfl rfl
  have hx4 : w2.cell? ⟨w.heap.size, 4, none⟩ = some (.bool x.v.b) := by rw [h2.cell (by dsimp only; omega), World.cell?_alloc_lt _ _ _ (by simp; omega), World.cell?_alloc_lt _ _ _ (by simp; omega), World.cell?_alloc_lt _ _ _ (by simp)]; exact c_at rfl rfl
  have hx5 : w2.cell? ⟨w.heap.size, 5, none⟩ = some (.int .i64 x.v.c) := by rw [h2.cell (by dsimp only; omega), World.cell?_alloc_lt _ _ _ (by simp; omega), World.cell?_alloc_lt _ _ _ (by simp; omega), World.cell?_alloc_lt _ _ _ (by simp)]; exact c_at rfl rfl
  have hx6 : w2.cell? ⟨w.heap.size, 6, none⟩ = some (.int .i64 x.t) := by rw [h2.cell (by dsimp only; omega), World.cell?_alloc_lt _ _ _ (by simp; omega), World.cell?_alloc_lt _ _ _ (by simp; omega), World.cell?_alloc_lt _ _ _ (by simp)]; exact c_at rfl rfl
  have hx7 : w2.cell? ⟨w.heap.size, 7, none⟩ = some (.int .i64 x.l) := by rw [h2.cell (by dsimp only; omega), World.cell?_alloc_lt _ _ _ (by simp; omega), World.cell?_alloc_lt _ _ _ (by simp; omega), World.cell?_alloc_lt _ _ _ (by simp)]; exact c_at rfl rfl
  have hx8 : w2.cell? ⟨w.heap.size, 8, none⟩ = some (.int .i64 x.b) := by rw [h2.cell (by dsimp only; omega), World.cell?_alloc_lt _ _ _ (by simp; omega), World.cell?_alloc_lt _ _ _ (by simp; omega), World.cell?_alloc_lt _ _ _ (by simp)]; exact c_at rfl rfl
  have hx9 : w2.cell? ⟨w.heap.size, 9, none⟩ = some (.int .i64 x.r) := by rw [h2.cell (by dsimp only; omega), World.cell?_alloc_lt _ _ _ (by simp; omega), World.cell?_alloc_lt _ _ _ (by simp; omega), World.cell?_alloc_lt _ _ _ (by simp)]; exact c_at rfl rfl
  have hx10 : w2.cell? ⟨w.heap.size, 10, none⟩ = some (.slice x.A x.es.length x.cap) := by rw [h2.cell (by dsimp only; omega), World.cell?_alloc_lt _ _ _ (by simp; omega), World.cell?_alloc_lt _ _ _ (by simp; omega), World.cell?_alloc_lt _ _ _ (by simp)]; exact c_at rfl rfl
  obtain ⟨hr0, hr1, hr2, hr3, hr4, hs0, hs1, hs2, hs3, hs4⟩ := res5 h2
  by_cases d0 : d = 0
  ·subst d0
   have hVV3 := Lib.hid (show (if i < 1 ∨ R < i ∨ j < 1 ∨ C < j then errL 5 else lookP (heldL x) (i - 1, j - 1)) = V by rw [← hVV2.out, if_pos rfl])
   by_cases a1 : i < 1
   ·have t1 : decide (i < 1) = true := by simp; omega
    have y1 : i < 1 := by omega
    have z1 : decide (1 > i) = true := by simp; omega
    have hVe := Lib.hid (show V = errL 5 from by rw [← hVV3.out, if_pos (by omega)])
    go_wp2_with (go_at_call 20; refine (rverrA 5 _).mono ?_; rintro e w9 ⟨rfl, hb⟩; obtain ⟨hc, hf, hz⟩ := bkeep hb w2.heap.size (by first | omega | (simp <;> omega)))
    refine bodyPost_ret (v := .agg #[.int .i64 4, .int .i64 0, .string ⟨#[]⟩, .bool false, .int .i64 (errC 5)]) ?_ rfl ⟨by rw [hVe.out]; rfl, belq⟩
    simp [results, Tryz.results47, go_sem, *]
   ·have t1 : decide (i < 1) = false := by simp; omega
    have y1 : ¬ i < 1 := by omega
    have z1 : decide (1 > i) = false := by simp; omega
    go_wp2_with fail
    refine ((CR _).out).mono ?_
    rintro e w3 ⟨rfl, hb9⟩
    have h3 : Below (w.heap.size + 4) ((((w.alloc (.cells #[.bool x.many, .int .i64 x.v.t, .int .i64 x.v.n, .string x.v.s, .bool x.v.b, .int .i64 x.v.c, .int .i64 x.t, .int .i64 x.l, .int .i64 x.b, .int .i64 x.r, .slice x.A x.es.length x.cap] 36)).alloc (.cells #[.int .i64 u.t, .int .i64 u.n, .string u.s, .bool u.b, .int .i64 u.c] 26)).alloc (.cells #[.int .i64 v.t, .int .i64 v.n, .string v.s, .bool v.b, .int .i64 v.c] 26)).alloc (.cells #[.int .i64 0, .int .i64 0, .string ⟨#[]⟩, .bool false, .int .i64 0] 26)) w3 := h2.trans (hb9.mono (by omega))
    have hz_w3 := h3.size
    simp only [World.size_alloc] at hz_w3
    have g_w3 : Below w.heap.size w w3 := b0.trans (h3.mono (by omega))
    have l_w3 : w.heap.size + 3 < w3.heap.size := by omega
    have m_w3 : w.heap.size < w3.heap.size := by omega
    have k_w3 : w.heap.size + 2 < w3.heap.size := by omega
    clear hb9 h2 g_w2 l_w2 m_w2 k_w2 hz_w2
    clear hx0 hx1 hx2 hx3 hx4 hx5 hx6 hx7 hx8 hx9 hx10 hr0 hs0 hr1 hs1 hr2 hs2 hr3 hs3 hr4 hs4
    have hx0 : w3.cell? ⟨w.heap.size, 0, none⟩ = some (.bool x.many) := by rw [h3.cell (by dsimp only; omega), World.cell?_alloc_lt _ _ _ (by simp; omega), World.cell?_alloc_lt _ _ _ (by simp; omega), World.cell?_alloc_lt _ _ _ (by simp)]; exact c_at rfl rfl
    have hx1 : w3.cell? ⟨w.heap.size, 1, none⟩ = some (.int .i64 x.v.t) := by rw [h3.cell (by dsimp only; omega), World.cell?_alloc_lt _ _ _ (by simp; omega), World.cell?_alloc_lt _ _ _ (by simp; omega), World.cell?_alloc_lt _ _ _ (by simp)]; exact c_at rfl rfl
    have hx2 : w3.cell? ⟨w.heap.size, 2, none⟩ = some (.int .i64 x.v.n) := by rw [h3.cell (by dsimp only; omega), World.cell?_alloc_lt _ _ _ (by simp; omega), World.cell?_alloc_lt _ _ _ (by simp; omega), World.cell?_alloc_lt _ _ _ (by simp)]; exact c_at rfl rfl
    have hx3 : w3.cell? ⟨w.heap.size, 3, none⟩ = some (.string x.v.s) := by rw [h3.cell (by dsimp only; omega), World.cell?_alloc_lt _ _ _ (by simp; omega), World.cell?_alloc_lt _ _ _ (by simp; omega), World.cell?_alloc_lt _ _ _ (by simp)]; exact c_at rfl rfl
    have hx4 : w3.cell? ⟨w.heap.size, 4, none⟩ = some (.bool x.v.b) := by rw [h3.cell (by dsimp only; omega), World.cell?_alloc_lt _ _ _ (by simp; omega), World.cell?_alloc_lt _ _ _ (by simp; omega), World.cell?_alloc_lt _ _ _ (by simp)]; exact c_at rfl rfl
    have hx5 : w3.cell? ⟨w.heap.size, 5, none⟩ = some (.int .i64 x.v.c) := by rw [h3.cell (by dsimp only; omega), World.cell?_alloc_lt _ _ _ (by simp; omega), World.cell?_alloc_lt _ _ _ (by simp; omega), World.cell?_alloc_lt _ _ _ (by simp)]; exact c_at rfl rfl
    have hx6 : w3.cell? ⟨w.heap.size, 6, none⟩ = some (.int .i64 x.t) := by rw [h3.cell (by dsimp only; omega), World.cell?_alloc_lt _ _ _ (by simp; omega), World.cell?_alloc_lt _ _ _ (by simp; omega), World.cell?_alloc_lt _ _ _ (by simp)]; exact c_at rfl rfl
    have hx7 : w3.cell? ⟨w.heap.size, 7, none⟩ = some (.int .i64 x.l) := by rw [h3.cell (by dsimp only; omega), World.cell?_alloc_lt _ _ _ (by simp; omega), World.cell?_alloc_lt _ _ _ (by simp; omega), World.cell?_alloc_lt _ _ _ (by simp)]; exact c_at rfl rfl
    have hx8 : w3.cell? ⟨w.heap.size, 8, none⟩ = some (.int .i64 x.b) := by rw [h3.cell (by dsimp only; omega), World.cell?_alloc_lt _ _ _ (by simp; omega), World.cell?_alloc_lt _ _ _ (by simp; omega), World.cell?_alloc_lt _ _ _ (by simp)]; exact c_at rfl rfl
    have hx9 : w3.cell? ⟨w.heap.size, 9, none⟩ = some (.int .i64 x.r) := by rw [h3.cell (by dsimp only; omega), World.cell?_alloc_lt _ _ _ (by simp; omega), World.cell?_alloc_lt _ _ _ (by simp; omega), World.cell?_alloc_lt _ _ _ (by simp)]; exact c_at rfl rfl
    have hx10 : w3.cell? ⟨w.heap.size, 10, none⟩ = some (.slice x.A x.es.length x.cap) := by rw [h3.cell (by dsimp only; omega), World.cell?_alloc_lt _ _ _ (by simp; omega), World.cell?_alloc_lt _ _ _ (by simp; omega), World.cell?_alloc_lt _ _ _ (by simp)]; exact c_at rfl rfl
    obtain ⟨hr0, hr1, hr2, hr3, hr4, hs0, hs1, hs2, hs3, hs4⟩ := res5 h3
    by_cases a2 : R < i
    ·have t2 : decide (R < i) = true := by simp; omega
     have y2 : R < i := by omega
     have z2 : decide (i > R) = true := by simp; omega
     have hVe := Lib.hid (show V = errL 5 from by rw [← hVV3.out, if_pos (by omega)])
     go_wp2_with (go_at_call 20; refine (rverrA 5 _).mono ?_; rintro e w9 ⟨rfl, hb⟩; obtain ⟨hc, hf, hz⟩ := bkeep hb w3.heap.size (by first | omega | (simp <;> omega)))
     refine bodyPost_ret (v := .agg #[.int .i64 4, .int .i64 0, .string ⟨#[]⟩, .bool false, .int .i64 (errC 5)]) ?_ rfl ⟨by rw [hVe.out]; rfl, belq⟩
     simp [results, Tryz.results47, go_sem, *]
    ·have t2 : decide (R < i) = false := by simp; omega
     have y2 : ¬ R < i := by omega
     have z2 : decide (i > R) = false := by simp; omega
     by_cases a3 : j < 1
     ·have t3 : decide (j < 1) = true := by simp; omega
      have y3 : j < 1 := by omega
      have z3 : decide (1 > j) = true := by simp; omega
      have hVe := Lib.hid (show V = errL 5 from by rw [← hVV3.out, if_pos (by omega)])
      go_wp2_with (go_at_call 20; refine (rverrA 5 _).mono ?_; rintro e w9 ⟨rfl, hb⟩; obtain ⟨hc, hf, hz⟩ := bkeep hb w3.heap.size (by first | omega | (simp <;> omega)))
      refine bodyPost_ret (v := .agg #[.int .i64 4, .int .i64 0, .string ⟨#[]⟩, .bool false, .int .i64 (errC 5)]) ?_ rfl ⟨by rw [hVe.out]; rfl, belq⟩
      simp [results, Tryz.results47, go_sem, *]
     ·have t3 : decide (j < 1) = false := by simp; omega
      have y3 : ¬ j < 1 := by omega
      have z3 : decide (1 > j) = false := by simp; omega
      go_wp2_with fail
      refine ((CC _).out).mono ?_
      rintro e w4 ⟨rfl, hb9⟩
      have h4 : Below (w.heap.size + 4) ((((w.alloc (.cells #[.bool x.many, .int .i64 x.v.t, .int .i64 x.v.n, .string x.v.s, .bool x.v.b, .int .i64 x.v.c, .int .i64 x.t, .int .i64 x.l, .int .i64 x.b, .int .i64 x.r, .slice x.A x.es.length x.cap] 36)).alloc (.cells #[.int .i64 u.t, .int .i64 u.n, .string u.s, .bool u.b, .int .i64 u.c] 26)).alloc (.cells #[.int .i64 v.t, .int .i64 v.n, .string v.s, .bool v.b, .int .i64 v.c] 26)).alloc (.cells #[.int .i64 0, .int .i64 0, .string ⟨#[]⟩, .bool false, .int .i64 0] 26)) w4 := h3.trans (hb9.mono (by omega))
      have hz_w4 := h4.size
      simp only [World.size_alloc] at hz_w4
      have g_w4 : Below w.heap.size w w4 := b0.trans (h4.mono (by omega))
      have l_w4 : w.heap.size + 3 < w4.heap.size := by omega
      have m_w4 : w.heap.size < w4.heap.size := by omega
      have k_w4 : w.heap.size + 2 < w4.heap.size := by omega
      clear hb9 h3 g_w3 l_w3 m_w3 k_w3 hz_w3
      clear hx0 hx1 hx2 hx3 hx4 hx5 hx6 hx7 hx8 hx9 hx10 hr0 hs0 hr1 hs1 hr2 hs2 hr3 hs3 hr4 hs4
      have hx0 : w4.cell? ⟨w.heap.size, 0, none⟩ = some (.bool x.many) := by rw [h4.cell (by dsimp only; omega), World.cell?_alloc_lt _ _ _ (by simp; omega), World.cell?_alloc_lt _ _ _ (by simp; omega), World.cell?_alloc_lt _ _ _ (by simp)]; exact c_at rfl rfl
      have hx1 : w4.cell? ⟨w.heap.size, 1, none⟩ = some (.int .i64 x.v.t) := by rw [h4.cell (by dsimp only; omega), World.cell?_alloc_lt _ _ _ (by simp; omega), World.cell?_alloc_lt _ _ _ (by simp; omega), World.cell?_alloc_lt _ _ _ (by simp)]; exact c_at rfl rfl
      have hx2 : w4.cell? ⟨w.heap.size, 2, none⟩ = some (.int .i64 x.v.n) := by rw [h4.cell (by dsimp only; omega), World.cell?_alloc_lt _ _ _ (by simp; omega), World.cell?_alloc_lt _ _ _ (by simp; omega), World.cell?_alloc_lt _ _ _ (by simp)]; exact c_at rfl rfl
      have hx3 : w4.cell? ⟨w.heap.size, 3, none⟩ = some (.string x.v.s) := by rw [h4.cell (by dsimp only; omega), World.cell?_alloc_lt _ _ _ (by simp; omega), World.cell?_alloc_lt _ _ _ (by simp; omega), World.cell?_alloc_lt _ _ _ (by simp)]; exact c_at rfl rfl
      have hx4 : w4.cell? ⟨w.heap.size, 4, none⟩ = some (.bool x.v.b) := by rw [h4.cell (by dsimp only; omega), World.cell?_alloc_lt _ _ _ (by simp; omega), World.cell?_alloc_lt _ _ _ (by simp; omega), World.cell?_alloc_lt _ _ _ (by simp)]; exact c_at rfl rfl
      have hx5 : w4.cell? ⟨w.heap.size, 5, none⟩ = some (.int .i64 x.v.c) := by rw [h4.cell (by dsimp only; omega), World.cell?_alloc_lt _ _ _ (by simp; omega), World.cell?_alloc_lt _ _ _ (by simp; omega), World.cell?_alloc_lt _ _ _ (by simp)]; exact c_at rfl rfl
      have hx6 : w4.cell? ⟨w.heap.size, 6, none⟩ = some (.int .i64 x.t) := by rw [h4.cell (by dsimp only; omega), World.cell?_alloc_lt _ _ _ (by simp; omega), World.cell?_alloc_lt _ _ _ (by simp; omega), World.cell?_alloc_lt _ _ _ (by simp)]; exact c_at rfl rfl
      have hx7 : w4.cell? ⟨w.heap.size, 7, none⟩ = some (.int .i64 x.l) := by rw [h4.cell (by dsimp only; omega), World.cell?_alloc_lt _ _ _ (by simp; omega), World.cell?_alloc_lt _ _ _ (by simp; omega), World.cell?_alloc_lt _ _ _ (by simp)]; exact c_at rfl rfl
      have hx8 : w4.cell? ⟨w.heap.size, 8, none⟩ = some (.int .i64 x.b) := by rw [h4.cell (by dsimp only; omega), World.cell?_alloc_lt _ _ _ (by simp; omega), World.cell?_alloc_lt _ _ _ (by simp; omega), World.cell?_alloc_lt _ _ _ (by simp)]; exact c_at rfl rfl
      have hx9 : w4.cell? ⟨w.heap.size, 9, none⟩ = some (.int .i64 x.r) := by rw [h4.cell (by dsimp only; omega), World.cell?_alloc_lt _ _ _ (by simp; omega), World.cell?_alloc_lt _ _ _ (by simp; omega), World.cell?_alloc_lt _ _ _ (by simp)]; exact c_at rfl rfl
      have hx10 : w4.cell? ⟨w.heap.size, 10, none⟩ = some (.slice x.A x.es.length x.cap) := by rw [h4.cell (by dsimp only; omega), World.cell?_alloc_lt _ _ _ (by simp; omega), World.cell?_alloc_lt _ _ _ (by simp; omega), World.cell?_alloc_lt _ _ _ (by simp)]; exact c_at rfl rfl
      obtain ⟨hr0, hr1, hr2, hr3, hr4, hs0, hs1, hs2, hs3, hs4⟩ := res5 h4
      by_cases a4 : C < j
      ·have t4 : decide (C < j) = true := by simp; omega
       have y4 : C < j := by omega
       have z4 : decide (j > C) = true := by simp; omega
       have hVe := Lib.hid (show V = errL 5 from by rw [← hVV3.out, if_pos (by omega)])
       go_wp2_with (go_at_call 20; refine (rverrA 5 _).mono ?_; rintro e w9 ⟨rfl, hb⟩; obtain ⟨hc, hf, hz⟩ := bkeep hb w4.heap.size (by first | omega | (simp <;> omega)))
       refine bodyPost_ret (v := .agg #[.int .i64 4, .int .i64 0, .string ⟨#[]⟩, .bool false, .int .i64 (errC 5)]) ?_ rfl ⟨by rw [hVe.out]; rfl, belq⟩
       simp [results, Tryz.results47, go_sem, *]
      ·have t4 : decide (C < j) = false := by simp; omega
       have y4 : ¬ C < j := by omega
       have z4 : decide (j > C) = false := by simp; omega
       have CHk := CH (i - 1) (j - 1) w4 g_w4 (by omega) (by omega)
       obtain ⟨y, hy⟩ : ∃ y, hasW x (i - 1) (j - 1) = y := ⟨_, rfl⟩
       rw [hy] at CHk
       have hVe := Lib.hid (show V = y from by rw [← hVV3.out, if_neg (by omega), ← hy]; exact (has_look he'.out (i - 1, j - 1)).symm)
       have wi : IntKind.i64.wrap (i - 1) = i - 1 := IntWalk.i64_in _ (by omega)
       have wj : IntKind.i64.wrap (j - 1) = j - 1 := IntWalk.i64_in _ (by omega)
       clear hy
       go_wp2_with (refine CHk.out.mono ?_; rintro e w9 ⟨rfl, hb⟩; obtain ⟨hc, hf, hz⟩ := bkeep hb w4.heap.size (by first | omega | (simp <;> omega)))
       refine bodyPost_ret (v := .agg #[.int .i64 (y).t, .int .i64 (y).n, .string (y).s, .bool (y).b, .int .i64 (y).c]) ?_ rfl ⟨by rw [hVe.out], belq⟩
       simp [results, Tryz.results47, go_sem, *]
  ·have hVe := Lib.hid (show V = errL d from by rw [← hVV2.out, if_neg d0])
   have q9 : (d != 0) = true := by simpa using d0
   go_wp2_with (go_at_call 20; refine (rverrA d _).mono ?_; rintro e w9 ⟨rfl, hb⟩; obtain ⟨hc, hf, hz⟩ := bkeep hb w2.heap.size (by first | omega | (simp <;> omega)))
   refine bodyPost_ret (v := .agg #[.int .i64 4, .int .i64 0, .string ⟨#[]⟩, .bool false, .int .i64 (errC d)]) ?_ rfl ⟨by rw [hVe.out]; rfl, belq⟩
   simp [results, Tryz.results47, go_sem, *]
 ·have hVe := Lib.hid (show V = errL c from by rw [← hVV.out, if_neg c0])
  have q9 : (c != 0) = true := by simpa using c0
  go_wp2_with (go_at_call 20; refine (rverrA c _).mono ?_; rintro e w9 ⟨rfl, hb⟩; obtain ⟨hc, hf, hz⟩ := bkeep hb w1.heap.size (by first | omega | (simp <;> omega)))
  refine bodyPost_ret (v := .agg #[.int .i64 4, .int .i64 0, .string ⟨#[]⟩, .bool false, .int .i64 (errC c)]) ?_ rfl ⟨by rw [hVe.out]; rfl, belq⟩
  simp [results, Tryz.results47, go_sem, *]
end Go.Proofs.YtgmhifafbebjfaaGreatDoor
