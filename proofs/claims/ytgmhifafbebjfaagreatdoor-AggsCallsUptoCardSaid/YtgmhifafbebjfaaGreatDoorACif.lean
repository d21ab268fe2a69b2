/-
 aggs: countif.
-/
import Derived.Test.YtgmhifafbebjfaaGreatDoorMg21
set_option maxRecDepth 100000
set_option maxHeartbeats 32000000
namespace Go.Proofs.YtgmhifafbebjfaaGreatDoor
open Go.RowKit

theorem c_at {w : World} {C : Array Value} {T : TypeId} {b j : Nat} {v : Value} (hb : b = w.heap.size) (hv : C[j]? = some v) : (w.alloc (.cells C T)).cell? ⟨b, j, none⟩ = some v := by
 subst hb
 rw [cell_of_row _ w.heap.size _ C T (0, 0) (heap_alloc_new _ _)]
 exact hv
theorem f_at {w : World} {C : Array Value} {T : TypeId} {b j : Nat} (hb : b = w.heap.size) : (w.alloc (.cells C T)).frozen? ⟨b, j, none⟩ = false := by
 subst hb
 simp
def VL.eqv (v x : VL) : Bool := vEq v.t v.n v.s v.b v.c x.t x.n x.s x.b x.c
theorem acif_y (x : AL) (vn : Int) (vs : ByteArray) (vb : Bool) (vc : Int) (hm : mayRectB x.t x.l x.b x.r = true) (hlen : x.es.length ≤ 2932031007402) (w : World) (hin : x.In w w.heap.size) : Calls Tryz.prog 114 #[.agg #[.bool x.many, .int .i64 x.v.t, .int .i64 x.v.n, .string x.v.s, .bool x.v.b, .int .i64 x.v.c, .int .i64 x.t, .int .i64 x.l, .int .i64 x.b, .int .i64 x.r, .slice x.A x.es.length x.cap], .agg #[.int .i64 0, .int .i64 vn, .string vs, .bool vb, .int .i64 vc]] w fun e w' => e = .returned (.agg #[.int .i64 ((numL (((rowsL x * colsL x - (x.es.length : Int)) + (((x.es).countP fun e => e.v.eqv ⟨0, vn, vs, vb, vc⟩) : Nat)) * 10000))).t, .int .i64 ((numL (((rowsL x * colsL x - (x.es.length : Int)) + (((x.es).countP fun e => e.v.eqv ⟨0, vn, vs, vb, vc⟩) : Nat)) * 10000))).n, .string ((numL (((rowsL x * colsL x - (x.es.length : Int)) + (((x.es).countP fun e => e.v.eqv ⟨0, vn, vs, vb, vc⟩) : Nat)) * 10000))).s, .bool ((numL (((rowsL x * colsL x - (x.es.length : Int)) + (((x.es).countP fun e => e.v.eqv ⟨0, vn, vs, vb, vc⟩) : Nat)) * 10000))).b, .int .i64 ((numL (((rowsL x * colsL x - (x.es.length : Int)) + (((x.es).countP fun e => e.v.eqv ⟨0, vn, vs, vb, vc⟩) : Nat)) * 10000))).c]) ∧ Below w.heap.size w w' := by
 obtain ⟨r, hr⟩ : ∃ r, numL (((rowsL x * colsL x - (x.es.length : Int)) + (((x.es).countP fun e => e.v.eqv ⟨0, vn, vs, vb, vc⟩) : Nat)) * 10000) = r := ⟨_, rfl⟩
 rw [hr]
 have hR' := Lib.hid hin.2.1
 obtain ⟨q1, q2, q3, q4, q5, q6⟩ := rect_in hm
 obtain ⟨R, hRr⟩ : ∃ R, rowsL x = R := ⟨_, rfl⟩
 obtain ⟨C, hCc⟩ : ∃ C, colsL x = C := ⟨_, rfl⟩
 have hRb : 1 ≤ R ∧ R ≤ 1048576 := by unfold rowsL at hRr; omega
 have hCb : 1 ≤ C ∧ C ≤ 16384 := by unfold colsL at hCc; omega
 have CR : ∀ w, Hid (Calls Tryz.prog 123 #[.agg #[.bool x.many, .int .i64 x.v.t, .int .i64 x.v.n, .string x.v.s, .bool x.v.b, .int .i64 x.v.c, .int .i64 x.t, .int .i64 x.l, .int .i64 x.b, .int .i64 x.r, .slice x.A x.es.length x.cap]] w fun e w' => e = .returned (.int .i64 R) ∧ Below w.heap.size w w') := fun w => Lib.hid (by rw [← hRr]; exact arows_any x hm w)
 have CC : ∀ w, Hid (Calls Tryz.prog 125 #[.agg #[.bool x.many, .int .i64 x.v.t, .int .i64 x.v.n, .string x.v.s, .bool x.v.b, .int .i64 x.v.c, .int .i64 x.t, .int .i64 x.l, .int .i64 x.b, .int .i64 x.r, .slice x.A x.es.length x.cap]] w fun e w' => e = .returned (.int .i64 C) ∧ Below w.heap.size w w') := fun w => Lib.hid (by rw [← hCc]; exact acols_any x hm w)
 rw [hRr, hCc] at hr
 have hP1 : 1 ≤ R * C ∧ R * C ≤ 17179869184 := ⟨by have := Int.mul_le_mul hRb.1 hCb.1 (by omega) (by omega); simpa using this, by have := Int.mul_le_mul hRb.2 hCb.2 (by omega) (by omega); simpa using this⟩
 have hw1 : IntKind.i64.wrap (R * C) = R * C := IntWalk.i64_in _ (by omega)
 obtain ⟨n0, hn0⟩ : ∃ n0, R * C - (x.es.length : Int) = n0 := ⟨_, rfl⟩
 rw [hn0] at hr
 have hw2 : IntKind.i64.wrap (R * C - (x.es.length : Int)) = n0 := by rw [hn0]; exact IntWalk.i64_in _ (by omega)
 have hn1 : -2932031007402 ≤ n0 ∧ n0 ≤ 17179869184 := by omega
 have hr' := Lib.hid hr
 clear hRr hCc hm hr hin q1 q2 q3 q4 q5 q6 hn0
 go_enter Tryz.func114, Tryz.ntmps114
 go_wp2_with fail
 go_region_held3 (fun w' => w'.cell? ⟨w.heap.size, 0, none⟩ = some (.bool x.many) ∧ w'.cell? ⟨w.heap.size, 1, none⟩ = some (.int .i64 x.v.t) ∧ w'.cell? ⟨w.heap.size, 2, none⟩ = some (.int .i64 x.v.n) ∧ w'.cell? ⟨w.heap.size, 3, none⟩ = some (.string x.v.s) ∧ w'.cell? ⟨w.heap.size, 4, none⟩ = some (.bool x.v.b) ∧ w'.cell? ⟨w.heap.size, 5, none⟩ = some (.int .i64 x.v.c) ∧ w'.cell? ⟨w.heap.size, 6, none⟩ = some (.int .i64 x.t) ∧ w'.cell? ⟨w.heap.size, 7, none⟩ = some (.int .i64 x.l) ∧ w'.cell? ⟨w.heap.size, 8, none⟩ = some (.int .i64 x.b) ∧ w'.cell? ⟨w.heap.size, 9, none⟩ = some (.int .i64 x.r) ∧ w'.cell? ⟨w.heap.size, 10, none⟩ = some (.slice x.A x.es.length x.cap) ∧ Below (w.heap.size + 3) (((w.alloc (.cells #[.bool x.many, .int .i64 x.v.t, .int .i64 x.v.n, .string x.v.s, .bool x.v.b, .int .i64 x.v.c, .int .i64 x.t, .int .i64 x.l, .int .i64 x.b, .int .i64 x.r, .slice x.A x.es.length x.cap] 36)).alloc (.cells #[.int .i64 0, .int .i64 vn, .string vs, .bool vb, .int .i64 vc] 26)).alloc (.cells #[.int .i64 0, .int .i64 0, .string ⟨#[]⟩, .bool false, .int .i64 0] 26)) w' ∧ Below w.heap.size w w' ∧ w.heap.size + 3 ≤ w'.heap.size)
  (first | ((go_split_ands; refine ⟨?_, ?_, ?_, ?_, ?_, ?_, ?_, ?_, ?_, ?_, ?_, ?_, ?_, ?_⟩ <;> first | (rw [hb.cell (by dsimp only; omega)]; assumption) | exact Below.trans (by assumption) (hb.mono (by omega)) | (have := hb.size; omega))) | ((refine ⟨?_, ?_, ?_, ?_, ?_, ?_, ?_, ?_, ?_, ?_, ?_, ?_, ?_, ?_⟩ <;> first | (simp [go_sem, *]; done) | exact belq | (simp; omega))))
  (first | (go_at_call 123; refine ((CR _).out).mono ?_; rintro e w1 ⟨rfl, hb⟩) | (go_at_call 125; refine ((CC _).out).mono ?_; rintro e w1 ⟨rfl, hb⟩))
 go_split_ands
 have hW : Hid (Below (w.heap.size + 3) (((w.alloc (.cells #[.bool x.many, .int .i64 x.v.t, .int .i64 x.v.n, .string x.v.s, .bool x.v.b, .int .i64 x.v.c, .int .i64 x.t, .int .i64 x.l, .int .i64 x.b, .int .i64 x.r, .slice x.A x.es.length x.cap] 36)).alloc (.cells #[.int .i64 0, .int .i64 vn, .string vs, .bool vb, .int .i64 vc] 26)).alloc (.cells #[.int .i64 0, .int .i64 0, .string ⟨#[]⟩, .bool false, .int .i64 0] 26)) w1) := Lib.hid (by assumption)
 have hB : Hid (Below w.heap.size w w1) := Lib.hid (by assumption)
 have hz1 : w.heap.size + 3 ≤ w1.heap.size := by assumption
 rename_i _ hx
 clear CR CC
 go_wp2
 go_loopw [5, 23] (fun v i wr => ∃ k : Nat, k ≤ x.es.length ∧ i = .int .i64 (k : Int) ∧ v = .int .i64 (n0 + (((x.es.take k).countP fun e => e.v.eqv ⟨0, vn, vs, vb, vc⟩) : Nat)) ∧ Below w1.heap.size w1 wr) (fun _ i _ => x.es.length - (intOf i).toNat)
 case atStart => exact ⟨0, Nat.zero_le _, rfl, by simp, Below.refl _ _⟩
 case round =>
  obtain ⟨k, hk, rfl, rfl, hbr⟩ := hrel
  have hzr := hbr.size
  have g1 : Below w.heap.size w wr := hB.out.trans (hbr.mono (by omega))
  have hv0 : wr.cell? ⟨w.heap.size + 1, 0, none⟩ = some (.int .i64 0) := by rw [hbr.cell (by dsimp only; omega), hW.out.cell (by dsimp only; omega), World.cell?_alloc_lt _ _ _ (by simp)]; simp
  have hv1 : wr.cell? ⟨w.heap.size + 1, 1, none⟩ = some (.int .i64 vn) := by rw [hbr.cell (by dsimp only; omega), hW.out.cell (by dsimp only; omega), World.cell?_alloc_lt _ _ _ (by simp)]; simp
  have hv2 : wr.cell? ⟨w.heap.size + 1, 2, none⟩ = some (.string vs) := by rw [hbr.cell (by dsimp only; omega), hW.out.cell (by dsimp only; omega), World.cell?_alloc_lt _ _ _ (by simp)]; simp
  have hv3 : wr.cell? ⟨w.heap.size + 1, 3, none⟩ = some (.bool vb) := by rw [hbr.cell (by dsimp only; omega), hW.out.cell (by dsimp only; omega), World.cell?_alloc_lt _ _ _ (by simp)]; simp
  have hv4 : wr.cell? ⟨w.heap.size + 1, 4, none⟩ = some (.int .i64 vc) := by rw [hbr.cell (by dsimp only; omega), hW.out.cell (by dsimp only; omega), World.cell?_alloc_lt _ _ _ (by simp)]; simp
  have hl1 : w.heap.size + 1 < wr.heap.size := by omega
  have hn1 : w.heap.size + 1 ≠ wr.heap.size := by omega
  by_cases hlt : k < x.es.length
  ·obtain ⟨e, he⟩ : ∃ e, x.es[k]? = some e := ⟨_, List.getElem?_eq_getElem hlt⟩
   obtain ⟨ab, ao, hA2, hab, hcell⟩ := (hR'.out.below g1) k e.cs (by rw [List.getElem?_map, he]; rfl)
   have hx0 : wr.cell? ⟨ab, ao + k * 7, none⟩ = some (.int .i64 e.r) := hcell 0 _ rfl
   have hx1 : wr.cell? ⟨ab, ao + k * 7 + 1, none⟩ = some (.int .i64 e.c) := hcell 1 _ rfl
   have hx2 : wr.cell? ⟨ab, ao + k * 7 + 2, none⟩ = some (.int .i64 e.v.t) := hcell 2 _ rfl
   have hx3 : wr.cell? ⟨ab, ao + k * 7 + 3, none⟩ = some (.int .i64 e.v.n) := hcell 3 _ rfl
   have hx4 : wr.cell? ⟨ab, ao + k * 7 + 4, none⟩ = some (.string e.v.s) := hcell 4 _ rfl
   have hx5 : wr.cell? ⟨ab, ao + k * 7 + 5, none⟩ = some (.bool e.v.b) := hcell 5 _ rfl
   have hx6 : wr.cell? ⟨ab, ao + k * 7 + 6, none⟩ = some (.int .i64 e.v.c) := hcell 6 _ rfl
   have habr : ab < wr.heap.size := by omega
   have hkl : (k : Int) < (x.es.length : Int) := by omega
   have hne : ab ≠ wr.heap.size := by omega
   have hts : x.es.take (k + 1) = x.es.take k ++ [e] := by rw [List.take_add_one, he]; rfl
   obtain ⟨z, hz⟩ : ∃ z, e.v.eqv ⟨0, vn, vs, vb, vc⟩ = z := ⟨_, rfl⟩
   have hcnt : Hid ((((x.es.take (k + 1)).countP fun e => e.v.eqv ⟨0, vn, vs, vb, vc⟩) : Nat) = ((x.es.take k).countP fun e => e.v.eqv ⟨0, vn, vs, vb, vc⟩) + (if z = true then 1 else 0)) := Lib.hid (by
    rw [hts, List.countP_append, List.countP_singleton, hz])
   have hc0 : ((x.es.take k).countP fun e => e.v.eqv ⟨0, vn, vs, vb, vc⟩) ≤ k := Nat.le_trans List.countP_le_length (by rw [List.length_take]; omega)
   generalize ((x.es.take k).countP fun e => e.v.eqv ⟨0, vn, vs, vb, vc⟩) = q at *
   have hwq : IntKind.i64.wrap (n0 + (q : Int) + 1) = n0 + (q : Int) + 1 := IntWalk.i64_in _ (by omega)
   unfold VL.eqv at hz
   dsimp only at hz
   have hwB : w.heap.size ≤ w1.heap.size := by omega
   have g3 := Lib.hid (hbr.alloc (by omega) (.cells #[.int .i64 e.r, .int .i64 e.c, .int .i64 e.v.t, .int .i64 e.v.n, .string e.v.s, .bool e.v.b, .int .i64 e.v.c] 99))
   clear he hcell hts hbr g1
   rw [hA2]
   clear hA2
   cases z
   ·go_wp2
    exact ⟨⟨k + 1, by omega, by go_num, by rw [hcnt.out]; simp, g3.out⟩, by simp [intOf]; omega⟩
   ·go_wp2
    exact ⟨⟨k + 1, by omega, by go_num, by rw [hcnt.out]; simp [Int.add_assoc], g3.out⟩, by simp [intOf]; omega⟩
  ·obtain rfl : k = x.es.length := by omega
   have hkl : ¬ (x.es.length : Int) < (x.es.length : Int) := by omega
   rw [List.take_length]
   have hc0 : ((x.es.countP fun e => e.v.eqv ⟨0, vn, vs, vb, vc⟩) : Nat) ≤ x.es.length := List.countP_le_length
   have CW := awhole_any (n0 + ((x.es.countP fun e => e.v.eqv ⟨0, vn, vs, vb, vc⟩) : Nat)) (by omega) wr
   rw [hr'.out] at CW
   have CW := Lib.hid CW
   clear hr'
   generalize (x.es.countP fun e => e.v.eqv ⟨0, vn, vs, vb, vc⟩) = q at *
   have hwB : w.heap.size + 3 ≤ w1.heap.size := by omega
   go_wp2_with fail
   refine CW.out.mono ?_
   clear CW
   rintro e w3 ⟨rfl, hb3⟩
   have g8 : Below w.heap.size w w3 := g1.trans (hb3.mono (by omega))
   have g7 : Below w1.heap.size w1 w3 := hbr.trans (hb3.mono (by omega))
   have hr0 : w3.cell? ⟨w.heap.size + 2, 0, none⟩ = some (.int .i64 0) := by rw [g7.cell (by dsimp only; omega), hW.out.cell (by dsimp only; omega)]; exact c_at (by simp) rfl
   have hs0 : w3.frozen? ⟨w.heap.size + 2, 0, none⟩ = false := by rw [g7.frozen (by dsimp only; omega), hW.out.frozen (by dsimp only; omega)]; exact f_at (by simp)
   have hr1 : w3.cell? ⟨w.heap.size + 2, 1, none⟩ = some (.int .i64 0) := by rw [g7.cell (by dsimp only; omega), hW.out.cell (by dsimp only; omega)]; exact c_at (by simp) rfl
   have hs1 : w3.frozen? ⟨w.heap.size + 2, 1, none⟩ = false := by rw [g7.frozen (by dsimp only; omega), hW.out.frozen (by dsimp only; omega)]; exact f_at (by simp)
   have hr2 : w3.cell? ⟨w.heap.size + 2, 2, none⟩ = some (.string ⟨#[]⟩) := by rw [g7.cell (by dsimp only; omega), hW.out.cell (by dsimp only; omega)]; exact c_at (by simp) rfl
   have hs2 : w3.frozen? ⟨w.heap.size + 2, 2, none⟩ = false := by rw [g7.frozen (by dsimp only; omega), hW.out.frozen (by dsimp only; omega)]; exact f_at (by simp)
   have hr3 : w3.cell? ⟨w.heap.size + 2, 3, none⟩ = some (.bool false) := by rw [g7.cell (by dsimp only; omega), hW.out.cell (by dsimp only; omega)]; exact c_at (by simp) rfl
   have hs3 : w3.frozen? ⟨w.heap.size + 2, 3, none⟩ = false := by rw [g7.frozen (by dsimp only; omega), hW.out.frozen (by dsimp only; omega)]; exact f_at (by simp)
   have hr4 : w3.cell? ⟨w.heap.size + 2, 4, none⟩ = some (.int .i64 0) := by rw [g7.cell (by dsimp only; omega), hW.out.cell (by dsimp only; omega)]; exact c_at (by simp) rfl
   have hs4 : w3.frozen? ⟨w.heap.size + 2, 4, none⟩ = false := by rw [g7.frozen (by dsimp only; omega), hW.out.frozen (by dsimp only; omega)]; exact f_at (by simp)
   have z8 := hb3.size
   have l3 : w.heap.size + 2 < w3.heap.size := by omega
   clear hbr g7 hb3 g1
   go_wp2
   refine bodyPost_ret (v := .agg #[.int .i64 (r).t, .int .i64 (r).n, .string (r).s, .bool (r).b, .int .i64 (r).c]) ?_ rfl ⟨rfl, belq⟩
   simp [results, Tryz.results114, go_sem, *]
theorem acif_n (x : AL) (vt : Int) (ht : ¬ vt = 0) (vn : Int) (vs : ByteArray) (vb : Bool) (vc : Int) (hlen : x.es.length ≤ 2932031007402) (w : World) (hin : x.In w w.heap.size) : Calls Tryz.prog 114 #[.agg #[.bool x.many, .int .i64 x.v.t, .int .i64 x.v.n, .string x.v.s, .bool x.v.b, .int .i64 x.v.c, .int .i64 x.t, .int .i64 x.l, .int .i64 x.b, .int .i64 x.r, .slice x.A x.es.length x.cap], .agg #[.int .i64 vt, .int .i64 vn, .string vs, .bool vb, .int .i64 vc]] w fun e w' => e = .returned (.agg #[.int .i64 ((numL (((((x.es).countP fun e => e.v.eqv ⟨vt, vn, vs, vb, vc⟩) : Nat)) * 10000))).t, .int .i64 ((numL (((((x.es).countP fun e => e.v.eqv ⟨vt, vn, vs, vb, vc⟩) : Nat)) * 10000))).n, .string ((numL (((((x.es).countP fun e => e.v.eqv ⟨vt, vn, vs, vb, vc⟩) : Nat)) * 10000))).s, .bool ((numL (((((x.es).countP fun e => e.v.eqv ⟨vt, vn, vs, vb, vc⟩) : Nat)) * 10000))).b, .int .i64 ((numL (((((x.es).countP fun e => e.v.eqv ⟨vt, vn, vs, vb, vc⟩) : Nat)) * 10000))).c]) ∧ Below w.heap.size w w' := by
 obtain ⟨r, hr⟩ : ∃ r, numL (((((x.es).countP fun e => e.v.eqv ⟨vt, vn, vs, vb, vc⟩) : Nat)) * 10000) = r := ⟨_, rfl⟩
 rw [hr]
 have hR' := Lib.hid hin.2.1
 have hr' := Lib.hid hr
 clear hr hin
 have hB0 : Below w.heap.size w (((w.alloc (.cells #[.bool x.many, .int .i64 x.v.t, .int .i64 x.v.n, .string x.v.s, .bool x.v.b, .int .i64 x.v.c, .int .i64 x.t, .int .i64 x.l, .int .i64 x.b, .int .i64 x.r, .slice x.A x.es.length x.cap] 36)).alloc (.cells #[.int .i64 vt, .int .i64 vn, .string vs, .bool vb, .int .i64 vc] 26)).alloc (.cells #[.int .i64 0, .int .i64 0, .string ⟨#[]⟩, .bool false, .int .i64 0] 26)) := belq
 have hz0 : w.heap.size + 3 ≤ (((w.alloc (.cells #[.bool x.many, .int .i64 x.v.t, .int .i64 x.v.n, .string x.v.s, .bool x.v.b, .int .i64 x.v.c, .int .i64 x.t, .int .i64 x.l, .int .i64 x.b, .int .i64 x.r, .slice x.A x.es.length x.cap] 36)).alloc (.cells #[.int .i64 vt, .int .i64 vn, .string vs, .bool vb, .int .i64 vc] 26)).alloc (.cells #[.int .i64 0, .int .i64 0, .string ⟨#[]⟩, .bool false, .int .i64 0] 26)).heap.size := by simp
 have hW0 : Below (w.heap.size + 3) (((w.alloc (.cells #[.bool x.many, .int .i64 x.v.t, .int .i64 x.v.n, .string x.v.s, .bool x.v.b, .int .i64 x.v.c, .int .i64 x.t, .int .i64 x.l, .int .i64 x.b, .int .i64 x.r, .slice x.A x.es.length x.cap] 36)).alloc (.cells #[.int .i64 vt, .int .i64 vn, .string vs, .bool vb, .int .i64 vc] 26)).alloc (.cells #[.int .i64 0, .int .i64 0, .string ⟨#[]⟩, .bool false, .int .i64 0] 26)) (((w.alloc (.cells #[.bool x.many, .int .i64 x.v.t, .int .i64 x.v.n, .string x.v.s, .bool x.v.b, .int .i64 x.v.c, .int .i64 x.t, .int .i64 x.l, .int .i64 x.b, .int .i64 x.r, .slice x.A x.es.length x.cap] 36)).alloc (.cells #[.int .i64 vt, .int .i64 vn, .string vs, .bool vb, .int .i64 vc] 26)).alloc (.cells #[.int .i64 0, .int .i64 0, .string ⟨#[]⟩, .bool false, .int .i64 0] 26)) := Below.refl _ _
 go_enter Tryz.func114, Tryz.ntmps114
 go_wp2_with fail
 have hW : ∃ w1, w1 = (((w.alloc (.cells #[.bool x.many, .int .i64 x.v.t, .int .i64 x.v.n, .string x.v.s, .bool x.v.b, .int .i64 x.v.c, .int .i64 x.t, .int .i64 x.l, .int .i64 x.b, .int .i64 x.r, .slice x.A x.es.length x.cap] 36)).alloc (.cells #[.int .i64 vt, .int .i64 vn, .string vs, .bool vb, .int .i64 vc] 26)).alloc (.cells #[.int .i64 0, .int .i64 0, .string ⟨#[]⟩, .bool false, .int .i64 0] 26)) := ⟨_, rfl⟩
 obtain ⟨w1, hw1⟩ := hW
 rw [← hw1]
 rw [← hw1] at hB0 hz0
 have hW : Hid (Below (w.heap.size + 3) (((w.alloc (.cells #[.bool x.many, .int .i64 x.v.t, .int .i64 x.v.n, .string x.v.s, .bool x.v.b, .int .i64 x.v.c, .int .i64 x.t, .int .i64 x.l, .int .i64 x.b, .int .i64 x.r, .slice x.A x.es.length x.cap] 36)).alloc (.cells #[.int .i64 vt, .int .i64 vn, .string vs, .bool vb, .int .i64 vc] 26)).alloc (.cells #[.int .i64 0, .int .i64 0, .string ⟨#[]⟩, .bool false, .int .i64 0] 26)) w1) := Lib.hid (by rw [hw1]; exact hW0)
 have hB := Lib.hid hB0
 clear hW0 hB0 hw1
 go_loopw [5, 23] (fun v i wr => ∃ k : Nat, k ≤ x.es.length ∧ i = .int .i64 (k : Int) ∧ v = .int .i64 ((((x.es.take k).countP fun e => e.v.eqv ⟨vt, vn, vs, vb, vc⟩) : Nat)) ∧ Below w1.heap.size w1 wr) (fun _ i _ => x.es.length - (intOf i).toNat)
 case atStart => exact ⟨0, Nat.zero_le _, rfl, by simp, Below.refl _ _⟩
 case round =>
  obtain ⟨k, hk, rfl, rfl, hbr⟩ := hrel
  have hzr := hbr.size
  have g1 : Below w.heap.size w wr := hB.out.trans (hbr.mono (by omega))
  have hv0 : wr.cell? ⟨w.heap.size + 1, 0, none⟩ = some (.int .i64 vt) := by rw [hbr.cell (by dsimp only; omega), hW.out.cell (by dsimp only; omega), World.cell?_alloc_lt _ _ _ (by simp)]; simp
  have hv1 : wr.cell? ⟨w.heap.size + 1, 1, none⟩ = some (.int .i64 vn) := by rw [hbr.cell (by dsimp only; omega), hW.out.cell (by dsimp only; omega), World.cell?_alloc_lt _ _ _ (by simp)]; simp
  have hv2 : wr.cell? ⟨w.heap.size + 1, 2, none⟩ = some (.string vs) := by rw [hbr.cell (by dsimp only; omega), hW.out.cell (by dsimp only; omega), World.cell?_alloc_lt _ _ _ (by simp)]; simp
  have hv3 : wr.cell? ⟨w.heap.size + 1, 3, none⟩ = some (.bool vb) := by rw [hbr.cell (by dsimp only; omega), hW.out.cell (by dsimp only; omega), World.cell?_alloc_lt _ _ _ (by simp)]; simp
  have hv4 : wr.cell? ⟨w.heap.size + 1, 4, none⟩ = some (.int .i64 vc) := by rw [hbr.cell (by dsimp only; omega), hW.out.cell (by dsimp only; omega), World.cell?_alloc_lt _ _ _ (by simp)]; simp
  have hl1 : w.heap.size + 1 < wr.heap.size := by omega
  have hn1 : w.heap.size + 1 ≠ wr.heap.size := by omega
  by_cases hlt : k < x.es.length
  ·obtain ⟨e, he⟩ : ∃ e, x.es[k]? = some e := ⟨_, List.getElem?_eq_getElem hlt⟩
   obtain ⟨ab, ao, hA2, hab, hcell⟩ := (hR'.out.below g1) k e.cs (by rw [List.getElem?_map, he]; rfl)
   have hx0 : wr.cell? ⟨ab, ao + k * 7, none⟩ = some (.int .i64 e.r) := hcell 0 _ rfl
   have hx1 : wr.cell? ⟨ab, ao + k * 7 + 1, none⟩ = some (.int .i64 e.c) := hcell 1 _ rfl
   have hx2 : wr.cell? ⟨ab, ao + k * 7 + 2, none⟩ = some (.int .i64 e.v.t) := hcell 2 _ rfl
   have hx3 : wr.cell? ⟨ab, ao + k * 7 + 3, none⟩ = some (.int .i64 e.v.n) := hcell 3 _ rfl
   have hx4 : wr.cell? ⟨ab, ao + k * 7 + 4, none⟩ = some (.string e.v.s) := hcell 4 _ rfl
   have hx5 : wr.cell? ⟨ab, ao + k * 7 + 5, none⟩ = some (.bool e.v.b) := hcell 5 _ rfl
   have hx6 : wr.cell? ⟨ab, ao + k * 7 + 6, none⟩ = some (.int .i64 e.v.c) := hcell 6 _ rfl
   have habr : ab < wr.heap.size := by omega
   have hkl : (k : Int) < (x.es.length : Int) := by omega
   have hne : ab ≠ wr.heap.size := by omega
   have hts : x.es.take (k + 1) = x.es.take k ++ [e] := by rw [List.take_add_one, he]; rfl
   obtain ⟨z, hz⟩ : ∃ z, e.v.eqv ⟨vt, vn, vs, vb, vc⟩ = z := ⟨_, rfl⟩
   have hcnt : Hid ((((x.es.take (k + 1)).countP fun e => e.v.eqv ⟨vt, vn, vs, vb, vc⟩) : Nat) = ((x.es.take k).countP fun e => e.v.eqv ⟨vt, vn, vs, vb, vc⟩) + (if z = true then 1 else 0)) := Lib.hid (by
    rw [hts, List.countP_append, List.countP_singleton, hz])
   have hc0 : ((x.es.take k).countP fun e => e.v.eqv ⟨vt, vn, vs, vb, vc⟩) ≤ k := Nat.le_trans List.countP_le_length (by rw [List.length_take]; omega)
   generalize ((x.es.take k).countP fun e => e.v.eqv ⟨vt, vn, vs, vb, vc⟩) = q at *
   have hwq : IntKind.i64.wrap ((q : Int) + 1) = (q : Int) + 1 := IntWalk.i64_in _ (by omega)
   unfold VL.eqv at hz
   dsimp only at hz
   have hwB : w.heap.size ≤ w1.heap.size := by omega
   have g3 := Lib.hid (hbr.alloc (by omega) (.cells #[.int .i64 e.r, .int .i64 e.c, .int .i64 e.v.t, .int .i64 e.v.n, .string e.v.s, .bool e.v.b, .int .i64 e.v.c] 99))
   clear he hcell hts hbr g1
   rw [hA2]
   clear hA2
   cases z
   ·go_wp2
    exact ⟨⟨k + 1, by omega, by go_num, by rw [hcnt.out]; simp, g3.out⟩, by simp [intOf]; omega⟩
   ·go_wp2
    exact ⟨⟨k + 1, by omega, by go_num, by rw [hcnt.out]; simp, g3.out⟩, by simp [intOf]; omega⟩
  ·obtain rfl : k = x.es.length := by omega
   have hkl : ¬ (x.es.length : Int) < (x.es.length : Int) := by omega
   rw [List.take_length]
   have hc0 : ((x.es.countP fun e => e.v.eqv ⟨vt, vn, vs, vb, vc⟩) : Nat) ≤ x.es.length := List.countP_le_length
   have CW := awhole_any (((x.es.countP fun e => e.v.eqv ⟨vt, vn, vs, vb, vc⟩) : Nat)) (by omega) wr
   rw [hr'.out] at CW
   have CW := Lib.hid CW
   clear hr'
   generalize (x.es.countP fun e => e.v.eqv ⟨vt, vn, vs, vb, vc⟩) = q at *
   have hwB : w.heap.size + 3 ≤ w1.heap.size := by omega
   go_wp2_with fail
   refine CW.out.mono ?_
   clear CW
   rintro e w3 ⟨rfl, hb3⟩
   have g8 : Below w.heap.size w w3 := g1.trans (hb3.mono (by omega))
   have g7 : Below w1.heap.size w1 w3 := hbr.trans (hb3.mono (by omega))
   have hr0 : w3.cell? ⟨w.heap.size + 2, 0, none⟩ = some (.int .i64 0) := by rw [g7.cell (by dsimp only; omega), hW.out.cell (by dsimp only; omega)]; exact c_at (by simp) rfl
   have hs0 : w3.frozen? ⟨w.heap.size + 2, 0, none⟩ = false := by rw [g7.frozen (by dsimp only; omega), hW.out.frozen (by dsimp only; omega)]; exact f_at (by simp)
   have hr1 : w3.cell? ⟨w.heap.size + 2, 1, none⟩ = some (.int .i64 0) := by rw [g7.cell (by dsimp only; omega), hW.out.cell (by dsimp only; omega)]; exact c_at (by simp) rfl
   have hs1 : w3.frozen? ⟨w.heap.size + 2, 1, none⟩ = false := by rw [g7.frozen (by dsimp only; omega), hW.out.frozen (by dsimp only; omega)]; exact f_at (by simp)
   have hr2 : w3.cell? ⟨w.heap.size + 2, 2, none⟩ = some (.string ⟨#[]⟩) := by rw [g7.cell (by dsimp only; omega), hW.out.cell (by dsimp only; omega)]; exact c_at (by simp) rfl
   have hs2 : w3.frozen? ⟨w.heap.size + 2, 2, none⟩ = false := by rw [g7.frozen (by dsimp only; omega), hW.out.frozen (by dsimp only; omega)]; exact f_at (by simp)
   have hr3 : w3.cell? ⟨w.heap.size + 2, 3, none⟩ = some (.bool false) := by rw [g7.cell (by dsimp only; omega), hW.out.cell (by dsimp only; omega)]; exact c_at (by simp) rfl
   have hs3 : w3.frozen? ⟨w.heap.size + 2, 3, none⟩ = false := by rw [g7.frozen (by dsimp only; omega), hW.out.frozen (by dsimp only; omega)]; exact f_at (by simp)
   have hr4 : w3.cell? ⟨w.heap.size + 2, 4, none⟩ = some (.int .i64 0) := by rw [g7.cell (by dsimp only; omega), hW.out.cell (by dsimp only; omega)]; exact c_at (by simp) rfl
   have hs4 : w3.frozen? ⟨w.heap.size + 2, 4, none⟩ = false := by rw [g7.frozen (by dsimp only; omega), hW.out.frozen (by dsimp only; omega)]; exact f_at (by simp)
   have z8 := hb3.size
   have l3 : w.heap.size + 2 < w3.heap.size := by omega
   clear hbr g7 hb3 g1
   go_wp2
   refine bodyPost_ret (v := .agg #[.int .i64 (r).t, .int .i64 (r).n, .string (r).s, .bool (r).b, .int .i64 (r).c]) ?_ rfl ⟨rfl, belq⟩
   simp [results, Tryz.results114, go_sem, *]
def cifL (x : AL) (v : VL) : VL := numL (((if v.t = 0 then rowsL x * colsL x - (x.es.length : Int) else 0) + ((x.es.countP fun e => e.v.eqv v) : Nat)) * 10000)
theorem acif_any (x : AL) (v : VL) (hm : mayRectB x.t x.l x.b x.r = true) (hlen : x.es.length ≤ 2932031007402) (w : World) (hin : x.In w w.heap.size) : Calls Tryz.prog 114 #[.agg #[.bool x.many, .int .i64 x.v.t, .int .i64 x.v.n, .string x.v.s, .bool x.v.b, .int .i64 x.v.c, .int .i64 x.t, .int .i64 x.l, .int .i64 x.b, .int .i64 x.r, .slice x.A x.es.length x.cap], .agg #[.int .i64 v.t, .int .i64 v.n, .string v.s, .bool v.b, .int .i64 v.c]] w fun e w' => e = .returned (.agg #[.int .i64 ((cifL x v)).t, .int .i64 ((cifL x v)).n, .string ((cifL x v)).s, .bool ((cifL x v)).b, .int .i64 ((cifL x v)).c]) ∧ Below w.heap.size w w' := by
 obtain ⟨vt, vn, vs, vb, vc⟩ := v
 unfold cifL
 by_cases h : vt = 0
 ·subst h
  simp only [if_true]
  exact acif_y x vn vs vb vc hm hlen w hin
 ·simp only [if_neg h, Int.zero_add]
  exact acif_n x vt h vn vs vb vc hlen w hin
end Go.Proofs.YtgmhifafbebjfaaGreatDoor
