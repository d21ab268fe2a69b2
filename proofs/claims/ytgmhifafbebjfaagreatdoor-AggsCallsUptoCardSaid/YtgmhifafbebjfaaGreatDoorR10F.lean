/-
 the document's aggs: place.
-/
import Derived.Test.YtgmhifafbebjfaaGreatDoorMg29
set_option maxRecDepth 100000
set_option maxHeartbeats 32000000
namespace Go.Proofs.YtgmhifafbebjfaaGreatDoor
open Go.RowKit

def placeR (v : VL) (x : AL) : Int × Int × Int := match firstF v x with | some i => ((i : Int), (nthL x i).1, (nthL x i).2) | none => (-1, 0, 0)
theorem r10place (v : VL) (x : AL) (hm : mayRectB x.t x.l x.b x.r = true) (he : entsOk x = true) (hl : rowsL x = 1 ∨ colsL x = 1) (w : World) (hin : x.In w w.heap.size) : Calls Tryz.prog 131 #[.agg #[.int .i64 v.t, .int .i64 v.n, .string v.s, .bool v.b, .int .i64 v.c], .agg #[.bool x.many, .int .i64 x.v.t, .int .i64 x.v.n, .string x.v.s, .bool x.v.b, .int .i64 x.v.c, .int .i64 x.t, .int .i64 x.l, .int .i64 x.b, .int .i64 x.r, .slice x.A x.es.length x.cap]] w fun e w' => e = .returned (.tuple #[.int .i64 (placeR v x).1, .int .i64 (placeR v x).2.1, .int .i64 (placeR v x).2.2]) ∧ Below w.heap.size w w' := by
 obtain ⟨q1, q2, q3, q4, q5, q6⟩ := rect_in2 hm
 obtain ⟨R, hRr⟩ : ∃ R, rowsL x = R := ⟨_, rfl⟩
 obtain ⟨C, hCc⟩ : ∃ C, colsL x = C := ⟨_, rfl⟩
 have hRb : 1 ≤ R ∧ R ≤ 4096 := by unfold rowsL at hRr; omega
 have hCb : 1 ≤ C ∧ C ≤ 256 := by unfold colsL at hCc; omega
 have CR : ∀ w, Hid (Calls Tryz.prog 49 #[.agg #[.bool x.many, .int .i64 x.v.t, .int .i64 x.v.n, .string x.v.s, .bool x.v.b, .int .i64 x.v.c, .int .i64 x.t, .int .i64 x.l, .int .i64 x.b, .int .i64 x.r, .slice x.A x.es.length x.cap]] w fun e w' => e = .returned (.int .i64 R) ∧ Below w.heap.size w w') := fun w => Lib.hid (by rw [← hRr]; exact r10rows x hm w)
 have CC : ∀ w, Hid (Calls Tryz.prog 50 #[.agg #[.bool x.many, .int .i64 x.v.t, .int .i64 x.v.n, .string x.v.s, .bool x.v.b, .int .i64 x.v.c, .int .i64 x.t, .int .i64 x.l, .int .i64 x.b, .int .i64 x.r, .slice x.A x.es.length x.cap]] w fun e w' => e = .returned (.int .i64 C) ∧ Below w.heap.size w w') := fun w => Lib.hid (by rw [← hCc]; exact r10cols x hm w)
 have CH : ∀ (u t : Int) (w1 : World), Below w.heap.size w w1 → -1000000 ≤ u ∧ u ≤ 1000000 → -1000000 ≤ t ∧ t ≤ 1000000 → Hid (Calls Tryz.prog 128 #[.agg #[.bool x.many, .int .i64 x.v.t, .int .i64 x.v.n, .string x.v.s, .bool x.v.b, .int .i64 x.v.c, .int .i64 x.t, .int .i64 x.l, .int .i64 x.b, .int .i64 x.r, .slice x.A x.es.length x.cap], .int .i64 u, .int .i64 t] w1 fun e w' => e = .returned (.agg #[.int .i64 ((hasW x u t)).t, .int .i64 ((hasW x u t)).n, .string ((hasW x u t)).s, .bool ((hasW x u t)).b, .int .i64 ((hasW x u t)).c]) ∧ Below w1.heap.size w1 w') := fun u t w1 h1 hu ht => Lib.hid (r10has x u t hm hu ht (by have := ent_len hm he; omega) w1 ((hin.below h1).mono h1.size))
 have hP1 : 1 ≤ R * C ∧ R * C ≤ 1048576 := ⟨by have := Int.mul_le_mul hRb.1 hCb.1 (by omega) (by omega); simpa using this, by have := Int.mul_le_mul hRb.2 hCb.2 (by omega) (by omega); simpa using this⟩
 obtain ⟨N, hN⟩ : ∃ N : Nat, R * C = (N : Int) := ⟨(R * C).toNat, by omega⟩
 have hw1 : IntKind.i64.wrap (R * C) = (N : Int) := by rw [hN]; exact IntWalk.i64_in _ (by omega)
 rw [hN] at hP1
 have hNN := Lib.hid (show rowsL x * colsL x = (N : Int) by rw [hRr, hCc, hN])
 have hN4 : (N : Int) ≤ 4096 := by
  rcases hl with h | h
  ·rw [← hN, ← hRr, h, Int.one_mul]; omega
  ·rw [← hN, ← hCc, h, Int.mul_one]; omega
 have hl' := Lib.hid hl
 have he' := Lib.hid he
 have hRr := Lib.hid hRr
 clear hCc hm hin q1 q2 q3 q4 q5 q6 hN hl he hCb
 go_enter Tryz.func131, Tryz.ntmps131
 go_wp2_with fail
 go_region_held3 (fun w' => w'.cell? ⟨w.heap.size, 0, none⟩ = some (.int .i64 v.t) ∧ w'.cell? ⟨w.heap.size, 1, none⟩ = some (.int .i64 v.n) ∧ w'.cell? ⟨w.heap.size, 2, none⟩ = some (.string v.s) ∧ w'.cell? ⟨w.heap.size, 3, none⟩ = some (.bool v.b) ∧ w'.cell? ⟨w.heap.size, 4, none⟩ = some (.int .i64 v.c) ∧ w'.cell? ⟨w.heap.size + 1, 0, none⟩ = some (.bool x.many) ∧ w'.cell? ⟨w.heap.size + 1, 1, none⟩ = some (.int .i64 x.v.t) ∧ w'.cell? ⟨w.heap.size + 1, 2, none⟩ = some (.int .i64 x.v.n) ∧ w'.cell? ⟨w.heap.size + 1, 3, none⟩ = some (.string x.v.s) ∧ w'.cell? ⟨w.heap.size + 1, 4, none⟩ = some (.bool x.v.b) ∧ w'.cell? ⟨w.heap.size + 1, 5, none⟩ = some (.int .i64 x.v.c) ∧ w'.cell? ⟨w.heap.size + 1, 6, none⟩ = some (.int .i64 x.t) ∧ w'.cell? ⟨w.heap.size + 1, 7, none⟩ = some (.int .i64 x.l) ∧ w'.cell? ⟨w.heap.size + 1, 8, none⟩ = some (.int .i64 x.b) ∧ w'.cell? ⟨w.heap.size + 1, 9, none⟩ = some (.int .i64 x.r) ∧ w'.cell? ⟨w.heap.size + 1, 10, none⟩ = some (.slice x.A x.es.length x.cap) ∧ Below (w.heap.size + 2) ((w.alloc (.cells #[.int .i64 v.t, .int .i64 v.n, .string v.s, .bool v.b, .int .i64 v.c] 26)).alloc (.cells #[.bool x.many, .int .i64 x.v.t, .int .i64 x.v.n, .string x.v.s, .bool x.v.b, .int .i64 x.v.c, .int .i64 x.t, .int .i64 x.l, .int .i64 x.b, .int .i64 x.r, .slice x.A x.es.length x.cap] 36)) w' ∧ Below w.heap.size w w' ∧ w.heap.size + 2 ≤ w'.heap.size)
  (first | ((go_split_ands; refine ⟨?_, ?_, ?_, ?_, ?_, ?_, ?_, ?_, ?_, ?_, ?_, ?_, ?_, ?_, ?_, ?_, ?_, ?_, ?_⟩ <;> first | (rw [hb.cell (by dsimp only; omega)]; assumption) | exact Below.trans (by assumption) (hb.mono (by omega)) | (have := hb.size; omega))) | ((refine ⟨?_, ?_, ?_, ?_, ?_, ?_, ?_, ?_, ?_, ?_, ?_, ?_, ?_, ?_, ?_, ?_, ?_, ?_, ?_⟩ <;> first | (simp [go_sem, *]; done) | exact belq | (simp; omega))))
  (first | (go_at_call 49; refine ((CR _).out).mono ?_; rintro e w1 ⟨rfl, hb⟩) | (go_at_call 50; refine ((CC _).out).mono ?_; rintro e w1 ⟨rfl, hb⟩))
 go_split_ands
 have hW : Hid (Below (w.heap.size + 2) ((w.alloc (.cells #[.int .i64 v.t, .int .i64 v.n, .string v.s, .bool v.b, .int .i64 v.c] 26)).alloc (.cells #[.bool x.many, .int .i64 x.v.t, .int .i64 x.v.n, .string x.v.s, .bool x.v.b, .int .i64 x.v.c, .int .i64 x.t, .int .i64 x.l, .int .i64 x.b, .int .i64 x.r, .slice x.A x.es.length x.cap] 36)) w1) := Lib.hid (by assumption)
 have hB : Hid (Below w.heap.size w w1) := Lib.hid (by assumption)
 have hz1 : w.heap.size + 2 ≤ w1.heap.size := by assumption
 clear CC
 go_wp2
 go_loopw [8] (fun i wr => ∃ k : Nat, k ≤ N ∧ i = .int .i64 (k : Int) ∧ Hid (∀ j : Nat, j < k → (lookP (heldL x) (nthL x j)).eqv v = false) ∧ Below w1.heap.size w1 wr) (fun i _ => N - (intOf i).toNat)
 case atStart => exact ⟨0, Nat.zero_le _, rfl, Lib.hid (fun j hj => absurd hj (Nat.not_lt_zero _)), Below.refl _ _⟩
 case round =>
  obtain ⟨k, hk, rfl, hno, hbr⟩ := hrel
  have hzr := hbr.size
  have g1 : Below w.heap.size w wr := hB.out.trans (hbr.mono (by omega))
  have hv0 : wr.cell? ⟨w.heap.size, 0, none⟩ = some (.int .i64 v.t) := by rw [hbr.cell (by dsimp only; omega), hW.out.cell (by dsimp only; omega), World.cell?_alloc_lt _ _ _ (by simp)]; exact c_at rfl rfl
  have hv1 : wr.cell? ⟨w.heap.size, 1, none⟩ = some (.int .i64 v.n) := by rw [hbr.cell (by dsimp only; omega), hW.out.cell (by dsimp only; omega), World.cell?_alloc_lt _ _ _ (by simp)]; exact c_at rfl rfl
  have hv2 : wr.cell? ⟨w.heap.size, 2, none⟩ = some (.string v.s) := by rw [hbr.cell (by dsimp only; omega), hW.out.cell (by dsimp only; omega), World.cell?_alloc_lt _ _ _ (by simp)]; exact c_at rfl rfl
  have hv3 : wr.cell? ⟨w.heap.size, 3, none⟩ = some (.bool v.b) := by rw [hbr.cell (by dsimp only; omega), hW.out.cell (by dsimp only; omega), World.cell?_alloc_lt _ _ _ (by simp)]; exact c_at rfl rfl
  have hv4 : wr.cell? ⟨w.heap.size, 4, none⟩ = some (.int .i64 v.c) := by rw [hbr.cell (by dsimp only; omega), hW.out.cell (by dsimp only; omega), World.cell?_alloc_lt _ _ _ (by simp)]; exact c_at rfl rfl
  have hx0 : wr.cell? ⟨w.heap.size + 1, 0, none⟩ = some (.bool x.many) := by rw [hbr.cell (by dsimp only; omega), hW.out.cell (by dsimp only; omega)]; exact c_at (by simp) rfl
  have hx1 : wr.cell? ⟨w.heap.size + 1, 1, none⟩ = some (.int .i64 x.v.t) := by rw [hbr.cell (by dsimp only; omega), hW.out.cell (by dsimp only; omega)]; exact c_at (by simp) rfl
  have hx2 : wr.cell? ⟨w.heap.size + 1, 2, none⟩ = some (.int .i64 x.v.n) := by rw [hbr.cell (by dsimp only; omega), hW.out.cell (by dsimp only; omega)]; exact c_at (by simp) rfl
  have hx3 : wr.cell? ⟨w.heap.size + 1, 3, none⟩ = some (.string x.v.s) := by rw [hbr.cell (by dsimp only; omega), hW.out.cell (by dsimp only; omega)]; exact c_at (by simp) rfl
  have hx4 : wr.cell? ⟨w.heap.size + 1, 4, none⟩ = some (.bool x.v.b) := by rw [hbr.cell (by dsimp only; omega), hW.out.cell (by dsimp only; omega)]; exact c_at (by simp) rfl
  have hx5 : wr.cell? ⟨w.heap.size + 1, 5, none⟩ = some (.int .i64 x.v.c) := by rw [hbr.cell (by dsimp only; omega), hW.out.cell (by dsimp only; omega)]; exact c_at (by simp) rfl
  have hx6 : wr.cell? ⟨w.heap.size + 1, 6, none⟩ = some (.int .i64 x.t) := by rw [hbr.cell (by dsimp only; omega), hW.out.cell (by dsimp only; omega)]; exact c_at (by simp) rfl
  have hx7 : wr.cell? ⟨w.heap.size + 1, 7, none⟩ = some (.int .i64 x.l) := by rw [hbr.cell (by dsimp only; omega), hW.out.cell (by dsimp only; omega)]; exact c_at (by simp) rfl
  have hx8 : wr.cell? ⟨w.heap.size + 1, 8, none⟩ = some (.int .i64 x.b) := by rw [hbr.cell (by dsimp only; omega), hW.out.cell (by dsimp only; omega)]; exact c_at (by simp) rfl
  have hx9 : wr.cell? ⟨w.heap.size + 1, 9, none⟩ = some (.int .i64 x.r) := by rw [hbr.cell (by dsimp only; omega), hW.out.cell (by dsimp only; omega)]; exact c_at (by simp) rfl
  have hx10 : wr.cell? ⟨w.heap.size + 1, 10, none⟩ = some (.slice x.A x.es.length x.cap) := by rw [hbr.cell (by dsimp only; omega), hW.out.cell (by dsimp only; omega)]; exact c_at (by simp) rfl
  have hl0 : w.heap.size < wr.heap.size := by omega
  have hl1 : w.heap.size + 1 < wr.heap.size := by omega
  by_cases hlt : k < N
  ·have hkl : (k : Int) < (N : Int) := by omega
   have hk0 : (0 : Int) ≤ (k : Int) := by omega
   have hwk : IntKind.i64.wrap ((k : Int) + 1) = (k : Int) + 1 := IntWalk.i64_in _ (by omega)
   by_cases h1 : R = 1
   ·have r0 : (R == 1) = true := by simp; omega
    have hnth := Lib.hid (show nthL x (k : Int) = (0, (k : Int)) by rw [nth_line hl'.out (by omega) (by rw [hNN.out]; omega), if_pos (by rw [hRr.out]; exact h1)])
    clear h1
    go_wp2_with fail
    refine (CR _).out.mono ?_
    rintro e w3 ⟨rfl, hb3⟩
    obtain ⟨gx0, gx1, gx2, gx3, gx4, gx5, gx6, gx7, gx8, gx9, gx10⟩ := mv11 hb3 hl1 hx0 hx1 hx2 hx3 hx4 hx5 hx6 hx7 hx8 hx9 hx10
    obtain ⟨gv0, gv1, gv2, gv3, gv4⟩ := mv5 hb3 hl0 hv0 hv1 hv2 hv3 hv4
    have g3 : Below w.heap.size w w3 := g1.trans (hb3.mono (by omega))
    have g4 := Lib.hid (hbr.trans (hb3.mono hzr))
    have z3 := hb3.size
    have hm0 : w.heap.size < w3.heap.size := by omega
    have hm1 : w.heap.size + 1 < w3.heap.size := by omega
    have CHk := CH 0 (k : Int) w3 g3 (by omega) (by omega)
    obtain ⟨y, hy⟩ : ∃ y, hasW x 0 (k : Int) = y := ⟨_, rfl⟩
    rw [hy] at CHk
    have hlk := Lib.hid (show lookP (heldL x) (nthL x (k : Int)) = y by rw [hnth.out, ← hy]; exact (has_look he'.out (0, (k : Int))).symm)
    clear hy g1 hb3 g3 hbr hx0 hx1 hx2 hx3 hx4 hx5 hx6 hx7 hx8 hx9 hx10 hv0 hv1 hv2 hv3 hv4
    go_wp2_with fail
    refine CHk.out.mono ?_
    rintro e w4 ⟨rfl, hb4⟩
    obtain ⟨iv0, iv1, iv2, iv3, iv4⟩ := mv5 hb4 hm0 gv0 gv1 gv2 gv3 gv4
    have z4 := hb4.size
    have g5 := Lib.hid (g4.out.trans (hb4.mono (by omega)))
    have hm4 : w.heap.size < w4.heap.size := by omega
    have hne4 : w.heap.size ≠ w4.heap.size := by omega
    clear hb4 g4 gx0 gx1 gx2 gx3 gx4 gx5 gx6 gx7 gx8 gx9 gx10 gv0 gv1 gv2 gv3 gv4
    go_wp2_with fail
    refine (rvsame_any y.t y.n y.s y.b y.c v.t v.n v.s v.b v.c _).mono ?_
    rintro e w5 ⟨rfl, hb5⟩
    have hz5 := hb5.size
    simp only [World.size_alloc] at hz5
    have g6 := Lib.hid ((g5.out.alloc (by omega) (.cells #[.int .i64 y.t, .int .i64 y.n, .string y.s, .bool y.b, .int .i64 y.c] 26)).trans (hb5.mono (by simp; omega)))
    have g7 : Below w.heap.size w w5 := hB.out.trans (g6.out.mono (by omega))
    obtain ⟨z, hz⟩ : ∃ z, y.eqv v = z := ⟨_, rfl⟩
    have hz' := Lib.hid hz
    unfold VL.eqv at hz
    rw [hz]
    cases z
    ·go_wp2
     go_roundw
     case rel => exact ⟨k + 1, by omega, by go_num, Lib.hid (fun j hj => by
      rcases Nat.lt_succ_iff_lt_or_eq.1 hj with h9 | h9
      ·exact hno.out j h9
      ·subst h9; rw [hlk.out]; exact hz'.out), g6.out⟩
     case measure => simp [intOf]; omega
    ·have hF := Lib.hid (show placeR v x = ((k : Int), 0, (k : Int)) by
      unfold placeR firstF
      rw [hNN.out, Int.toNat_natCast, Ffirst_some hlt (by rw [hlk.out]; exact hz'.out) hno.out]
      simp only
      rw [hnth.out])
     go_wp2
     refine bodyPost_ret (v := .tuple #[.int .i64 (k : Int), .int .i64 (0), .int .i64 ((k : Int))]) ?_ rfl ⟨by rw [hF.out], belq⟩
     simp [results, Tryz.results131, go_sem, *]
   ·have r0 : (R == 1) = false := by simp; omega
    have hnth := Lib.hid (show nthL x (k : Int) = ((k : Int), 0) by rw [nth_line hl'.out (by omega) (by rw [hNN.out]; omega), if_neg (by rw [hRr.out]; exact h1)])
    clear h1
    go_wp2_with fail
    refine (CR _).out.mono ?_
    rintro e w3 ⟨rfl, hb3⟩
    obtain ⟨gx0, gx1, gx2, gx3, gx4, gx5, gx6, gx7, gx8, gx9, gx10⟩ := mv11 hb3 hl1 hx0 hx1 hx2 hx3 hx4 hx5 hx6 hx7 hx8 hx9 hx10
    obtain ⟨gv0, gv1, gv2, gv3, gv4⟩ := mv5 hb3 hl0 hv0 hv1 hv2 hv3 hv4
    have g3 : Below w.heap.size w w3 := g1.trans (hb3.mono (by omega))
    have g4 := Lib.hid (hbr.trans (hb3.mono hzr))
    have z3 := hb3.size
    have hm0 : w.heap.size < w3.heap.size := by omega
    have hm1 : w.heap.size + 1 < w3.heap.size := by omega
    have CHk := CH (k : Int) 0 w3 g3 (by omega) (by omega)
    obtain ⟨y, hy⟩ : ∃ y, hasW x (k : Int) 0 = y := ⟨_, rfl⟩
    rw [hy] at CHk
    have hlk := Lib.hid (show lookP (heldL x) (nthL x (k : Int)) = y by rw [hnth.out, ← hy]; exact (has_look he'.out ((k : Int), 0)).symm)
    clear hy g1 hb3 g3 hbr hx0 hx1 hx2 hx3 hx4 hx5 hx6 hx7 hx8 hx9 hx10 hv0 hv1 hv2 hv3 hv4
    go_wp2_with fail
    refine CHk.out.mono ?_
    rintro e w4 ⟨rfl, hb4⟩
    obtain ⟨iv0, iv1, iv2, iv3, iv4⟩ := mv5 hb4 hm0 gv0 gv1 gv2 gv3 gv4
    have z4 := hb4.size
    have g5 := Lib.hid (g4.out.trans (hb4.mono (by omega)))
    have hm4 : w.heap.size < w4.heap.size := by omega
    have hne4 : w.heap.size ≠ w4.heap.size := by omega
    clear hb4 g4 gx0 gx1 gx2 gx3 gx4 gx5 gx6 gx7 gx8 gx9 gx10 gv0 gv1 gv2 gv3 gv4
    go_wp2_with fail
    refine (rvsame_any y.t y.n y.s y.b y.c v.t v.n v.s v.b v.c _).mono ?_
    rintro e w5 ⟨rfl, hb5⟩
    have hz5 := hb5.size
    simp only [World.size_alloc] at hz5
    have g6 := Lib.hid ((g5.out.alloc (by omega) (.cells #[.int .i64 y.t, .int .i64 y.n, .string y.s, .bool y.b, .int .i64 y.c] 26)).trans (hb5.mono (by simp; omega)))
    have g7 : Below w.heap.size w w5 := hB.out.trans (g6.out.mono (by omega))
    obtain ⟨z, hz⟩ : ∃ z, y.eqv v = z := ⟨_, rfl⟩
    have hz' := Lib.hid hz
    unfold VL.eqv at hz
    rw [hz]
    cases z
    ·go_wp2
     go_roundw
     case rel => exact ⟨k + 1, by omega, by go_num, Lib.hid (fun j hj => by
      rcases Nat.lt_succ_iff_lt_or_eq.1 hj with h9 | h9
      ·exact hno.out j h9
      ·subst h9; rw [hlk.out]; exact hz'.out), g6.out⟩
     case measure => simp [intOf]; omega
    ·have hF := Lib.hid (show placeR v x = ((k : Int), (k : Int), 0) by
      unfold placeR firstF
      rw [hNN.out, Int.toNat_natCast, Ffirst_some hlt (by rw [hlk.out]; exact hz'.out) hno.out]
      simp only
      rw [hnth.out])
     go_wp2
     refine bodyPost_ret (v := .tuple #[.int .i64 (k : Int), .int .i64 ((k : Int)), .int .i64 (0)]) ?_ rfl ⟨by rw [hF.out], belq⟩
     simp [results, Tryz.results131, go_sem, *]
  ·obtain rfl : k = N := by omega
   have hkl : ¬ (k : Int) < (k : Int) := by omega
   have hF := Lib.hid (show placeR v x = (-1, 0, 0) by
    unfold placeR firstF
    rw [hNN.out, Int.toNat_natCast, Ffirst_none hno.out])
   go_wp2
   refine bodyPost_ret (v := .tuple #[.int .i64 (-1), .int .i64 0, .int .i64 0]) ?_ rfl ⟨by rw [hF.out], belq⟩
   simp [results, Tryz.results131, go_sem, *]
end Go.Proofs.YtgmhifafbebjfaaGreatDoor
