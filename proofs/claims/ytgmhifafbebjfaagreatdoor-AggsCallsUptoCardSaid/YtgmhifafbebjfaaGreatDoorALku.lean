/-
 aggs: lookup, two arguments (MATCH).
-/
import Derived.Test.YtgmhifafbebjfaaGreatDoorAHld
import Derived.Test.YtgmhifafbebjfaaGreatDoorAAlk
import Derived.Outline
import Derived.Deep.CutRange
import Derived.Deep.CutBlock
set_option maxRecDepth 100000
set_option maxHeartbeats 32000000
namespace Go.Proofs.YtgmhifafbebjfaaGreatDoor
open Go.RowKit

theorem cell_sc5 {w : World} {P b j : Nat} {a0 a1 a2 a3 a4 v : Value} (h : P ≠ b) (hc : w.cell? ⟨b, j, none⟩ = some v) : (((((w.setCell ⟨P, 0, none⟩ a0).setCell ⟨P, 1, none⟩ a1).setCell ⟨P, 2, none⟩ a2).setCell ⟨P, 3, none⟩ a3).setCell ⟨P, 4, none⟩ a4).cell? ⟨b, j, none⟩ = some v := by
 rw [World.cell?_setCell_far _ _ _ _ (by simpa using h), World.cell?_setCell_far _ _ _ _ (by simpa using h), World.cell?_setCell_far _ _ _ _ (by simpa using h), World.cell?_setCell_far _ _ _ _ (by simpa using h), World.cell?_setCell_far _ _ _ _ (by simpa using h)]
 exact hc
theorem size_sc5 {w : World} {n P : Nat} {a0 a1 a2 a3 a4 : Value} (h : n ≤ w.heap.size) : n ≤ (((((w.setCell ⟨P, 0, none⟩ a0).setCell ⟨P, 1, none⟩ a1).setCell ⟨P, 2, none⟩ a2).setCell ⟨P, 3, none⟩ a3).setCell ⟨P, 4, none⟩ a4).heap.size := by simpa using h
theorem size_sc11 {w : World} {n P : Nat} {a0 a1 a2 a3 a4 a5 a6 a7 a8 a9 a10 : Value} (h : n ≤ w.heap.size) : n ≤ (((((((((((w.setCell ⟨P, 0, none⟩ a0).setCell ⟨P, 1, none⟩ a1).setCell ⟨P, 2, none⟩ a2).setCell ⟨P, 3, none⟩ a3).setCell ⟨P, 4, none⟩ a4).setCell ⟨P, 5, none⟩ a5).setCell ⟨P, 6, none⟩ a6).setCell ⟨P, 7, none⟩ a7).setCell ⟨P, 8, none⟩ a8).setCell ⟨P, 9, none⟩ a9).setCell ⟨P, 10, none⟩ a10).heap.size := by simpa using h
theorem kfar11 {w : World} {P b : Nat} {a0 a1 a2 a3 a4 a5 a6 a7 a8 a9 a10 : Value} {o : Obj} (h : b ≠ P) (hc : w.heap[b]? = some o) : (((((((((((w.setCell ⟨P, 0, none⟩ a0).setCell ⟨P, 1, none⟩ a1).setCell ⟨P, 2, none⟩ a2).setCell ⟨P, 3, none⟩ a3).setCell ⟨P, 4, none⟩ a4).setCell ⟨P, 5, none⟩ a5).setCell ⟨P, 6, none⟩ a6).setCell ⟨P, 7, none⟩ a7).setCell ⟨P, 8, none⟩ a8).setCell ⟨P, 9, none⟩ a9).setCell ⟨P, 10, none⟩ a10).heap[b]? = some o := by
 rw [Below.heap_setCell _ _ _ _ (by simpa using h), Below.heap_setCell _ _ _ _ (by simpa using h), Below.heap_setCell _ _ _ _ (by simpa using h), Below.heap_setCell _ _ _ _ (by simpa using h), Below.heap_setCell _ _ _ _ (by simpa using h), Below.heap_setCell _ _ _ _ (by simpa using h), Below.heap_setCell _ _ _ _ (by simpa using h), Below.heap_setCell _ _ _ _ (by simpa using h), Below.heap_setCell _ _ _ _ (by simpa using h), Below.heap_setCell _ _ _ _ (by simpa using h), Below.heap_setCell _ _ _ _ (by simpa using h)]
 exact hc
theorem kfar5 {w : World} {P b : Nat} {a0 a1 a2 a3 a4 : Value} {o : Obj} (h : b ≠ P) (hc : w.heap[b]? = some o) : (((((w.setCell ⟨P, 0, none⟩ a0).setCell ⟨P, 1, none⟩ a1).setCell ⟨P, 2, none⟩ a2).setCell ⟨P, 3, none⟩ a3).setCell ⟨P, 4, none⟩ a4).heap[b]? = some o := by
 rw [Below.heap_setCell _ _ _ _ (by simpa using h), Below.heap_setCell _ _ _ _ (by simpa using h), Below.heap_setCell _ _ _ _ (by simpa using h), Below.heap_setCell _ _ _ _ (by simpa using h), Below.heap_setCell _ _ _ _ (by simpa using h)]
 exact hc
theorem row11 {w : World} {P : Nat} {a0 z0 a1 z1 a2 z2 a3 z3 a4 z4 a5 z5 a6 z6 a7 z7 a8 z8 a9 z9 a10 z10 : Value} {t : TypeId} (h : w.heap[P]? = some (.cells #[z0, z1, z2, z3, z4, z5, z6, z7, z8, z9, z10] t (0, 0))) : (((((((((((w.setCell ⟨P, 0, none⟩ a0).setCell ⟨P, 1, none⟩ a1).setCell ⟨P, 2, none⟩ a2).setCell ⟨P, 3, none⟩ a3).setCell ⟨P, 4, none⟩ a4).setCell ⟨P, 5, none⟩ a5).setCell ⟨P, 6, none⟩ a6).setCell ⟨P, 7, none⟩ a7).setCell ⟨P, 8, none⟩ a8).setCell ⟨P, 9, none⟩ a9).setCell ⟨P, 10, none⟩ a10).heap[P]? = some (.cells #[a0, a1, a2, a3, a4, a5, a6, a7, a8, a9, a10] t (0, 0)) := by
 have h9 := (row_set (j := 10) (v := a10) (row_set (j := 9) (v := a9) (row_set (j := 8) (v := a8) (row_set (j := 7) (v := a7) (row_set (j := 6) (v := a6) (row_set (j := 5) (v := a5) (row_set (j := 4) (v := a4) (row_set (j := 3) (v := a3) (row_set (j := 2) (v := a2) (row_set (j := 1) (v := a1) (row_set (j := 0) (v := a0) h)))))))))))
 simp only [List.setIfInBounds_toArray, List.set_cons_zero, List.set_cons_succ] at h9
 exact h9
theorem row5 {w : World} {P : Nat} {a0 z0 a1 z1 a2 z2 a3 z3 a4 z4 : Value} {t : TypeId} (h : w.heap[P]? = some (.cells #[z0, z1, z2, z3, z4] t (0, 0))) : (((((w.setCell ⟨P, 0, none⟩ a0).setCell ⟨P, 1, none⟩ a1).setCell ⟨P, 2, none⟩ a2).setCell ⟨P, 3, none⟩ a3).setCell ⟨P, 4, none⟩ a4).heap[P]? = some (.cells #[a0, a1, a2, a3, a4] t (0, 0)) := by
 have h9 := (row_set (j := 4) (v := a4) (row_set (j := 3) (v := a3) (row_set (j := 2) (v := a2) (row_set (j := 1) (v := a1) (row_set (j := 0) (v := a0) h)))))
 simp only [List.setIfInBounds_toArray, List.set_cons_zero, List.set_cons_succ] at h9
 exact h9
theorem below11 {w0 w : World} {B P : Nat} {a0 a1 a2 a3 a4 a5 a6 a7 a8 a9 a10 : Value} (h : Below B w0 w) (hP : B ≤ P) : Below B w0 (((((((((((w.setCell ⟨P, 0, none⟩ a0).setCell ⟨P, 1, none⟩ a1).setCell ⟨P, 2, none⟩ a2).setCell ⟨P, 3, none⟩ a3).setCell ⟨P, 4, none⟩ a4).setCell ⟨P, 5, none⟩ a5).setCell ⟨P, 6, none⟩ a6).setCell ⟨P, 7, none⟩ a7).setCell ⟨P, 8, none⟩ a8).setCell ⟨P, 9, none⟩ a9).setCell ⟨P, 10, none⟩ a10) := (((((((((((h.setCell (p := ⟨P, 0, none⟩) hP _).setCell (p := ⟨P, 1, none⟩) hP _).setCell (p := ⟨P, 2, none⟩) hP _).setCell (p := ⟨P, 3, none⟩) hP _).setCell (p := ⟨P, 4, none⟩) hP _).setCell (p := ⟨P, 5, none⟩) hP _).setCell (p := ⟨P, 6, none⟩) hP _).setCell (p := ⟨P, 7, none⟩) hP _).setCell (p := ⟨P, 8, none⟩) hP _).setCell (p := ⟨P, 9, none⟩) hP _).setCell (p := ⟨P, 10, none⟩) hP _)
theorem below5 {w0 w : World} {B P : Nat} {a0 a1 a2 a3 a4 : Value} (h : Below B w0 w) (hP : B ≤ P) : Below B w0 (((((w.setCell ⟨P, 0, none⟩ a0).setCell ⟨P, 1, none⟩ a1).setCell ⟨P, 2, none⟩ a2).setCell ⟨P, 3, none⟩ a3).setCell ⟨P, 4, none⟩ a4) := (((((h.setCell (p := ⟨P, 0, none⟩) hP _).setCell (p := ⟨P, 1, none⟩) hP _).setCell (p := ⟨P, 2, none⟩) hP _).setCell (p := ⟨P, 3, none⟩) hP _).setCell (p := ⟨P, 4, none⟩) hP _)
theorem cell_sc2 {w : World} {P b j : Nat} {a0 a1 v : Value} (h : P ≠ b) (hc : w.cell? ⟨b, j, none⟩ = some v) : ((w.setCell ⟨P, 0, none⟩ a0).setCell ⟨P, 1, none⟩ a1).cell? ⟨b, j, none⟩ = some v := by
 rw [World.cell?_setCell_far _ _ _ _ (by simpa using h), World.cell?_setCell_far _ _ _ _ (by simpa using h)]
 exact hc
theorem size_sc2 {w : World} {n P : Nat} {a0 a1 : Value} (h : n ≤ w.heap.size) : n ≤ ((w.setCell ⟨P, 0, none⟩ a0).setCell ⟨P, 1, none⟩ a1).heap.size := by simpa using h
theorem row2 {w : World} {P : Nat} {a0 z0 a1 z1 : Value} {t : TypeId} (h : w.heap[P]? = some (.cells #[z0, z1] t (0, 0))) : ((w.setCell ⟨P, 0, none⟩ a0).setCell ⟨P, 1, none⟩ a1).heap[P]? = some (.cells #[a0, a1] t (0, 0)) := by
 have h9 := (row_set (j := 1) (v := a1) (row_set (j := 0) (v := a0) h))
 simp only [List.setIfInBounds_toArray, List.set_cons_zero, List.set_cons_succ] at h9
 exact h9
theorem below2 {w0 w : World} {B P : Nat} {a0 a1 : Value} (h : Below B w0 w) (hP : B ≤ P) : Below B w0 ((w.setCell ⟨P, 0, none⟩ a0).setCell ⟨P, 1, none⟩ a1) := ((h.setCell (p := ⟨P, 0, none⟩) hP _).setCell (p := ⟨P, 1, none⟩) hP _)
def ResRow (w : World) (p : Nat) : Prop := ∃ c0 c1 c2 c3 c4, w.heap[p]? = some (.cells #[c0, c1, c2, c3, c4] 26 (0, 0))
theorem ResRow.below {w w1 : World} {p : Nat} (h : ResRow w p) (hb : Below w.heap.size w w1) (hp : p < w.heap.size) : ResRow w1 p := by
 obtain ⟨c0, c1, c2, c3, c4, h⟩ := h
 exact ⟨c0, c1, c2, c3, c4, (hb.block p hp).trans h⟩
theorem ResRow.of5 {w0 w : World} {a0 a1 a2 a3 a4 : Value} (h : w.heap[w0.heap.size]? = (w0.alloc (.cells #[a0, a1, a2, a3, a4] 26)).heap[w0.heap.size]?) : ResRow w.drew w0.heap.size := ⟨a0, a1, a2, a3, a4, h.trans (blk_new w0 #[a0, a1, a2, a3, a4] 26)⟩
def Ffirst (v : VL) (x : AL) (n : Nat) : Option Nat := (List.range n).find? fun i => (lookP (heldL x) (nthL x i)).eqv v
def firstF (v : VL) (x : AL) : Option Nat := Ffirst v x (rowsL x * colsL x).toNat
theorem Ffirst_some {v : VL} {x : AL} {n i : Nat} (hi : i < n) (h : (lookP (heldL x) (nthL x i)).eqv v = true) (hn : ∀ j : Nat, j < i → (lookP (heldL x) (nthL x j)).eqv v = false) : Ffirst v x n = some i := by
 unfold Ffirst
 rw [List.find?_range_eq_some]
 exact ⟨h, List.mem_range.2 hi, fun j hj => by simp [hn j hj]⟩
theorem Ffirst_none {v : VL} {x : AL} {n : Nat} (hn : ∀ j : Nat, j < n → (lookP (heldL x) (nthL x j)).eqv v = false) : Ffirst v x n = none := by
 unfold Ffirst
 rw [List.find?_eq_none]
 intro j hj
 simp [hn j (List.mem_range.1 hj)]
def lookR2 (v : VL) (x : AL) : VL := match firstF v x with | some i => numL (((i : Int) + 1) * 10000) | none => errL 6
def lookR3 (v : VL) (x y : AL) : VL := match firstF v x with | some i => lookP (heldL y) (nthL x i) | none => errL 6
theorem alook2 (x0 x1 : AL) (hm1 : mayRectB x1.t x1.l x1.b x1.r = true) (he1 : entsOk x1 = true) (text : Int) (w : World) (A : Option Addr) (cap : Nat) (hR : RdB w w.heap.size A 11 ([x0, x1].map AL.cs)) (hin : ∀ x ∈ [x0, x1], x.In w w.heap.size) : Calls Tryz.prog 117 #[.slice A 2 cap, .int .i64 text] w fun e w' => e = .returned (.agg #[.int .i64 ((if (decide (1 < rowsL x1) && decide (1 < colsL x1)) = true then errL 8 else lookR2 x0.v x1)).t, .int .i64 ((if (decide (1 < rowsL x1) && decide (1 < colsL x1)) = true then errL 8 else lookR2 x0.v x1)).n, .string ((if (decide (1 < rowsL x1) && decide (1 < colsL x1)) = true then errL 8 else lookR2 x0.v x1)).s, .bool ((if (decide (1 < rowsL x1) && decide (1 < colsL x1)) = true then errL 8 else lookR2 x0.v x1)).b, .int .i64 ((if (decide (1 < rowsL x1) && decide (1 < colsL x1)) = true then errL 8 else lookR2 x0.v x1)).c]) ∧ Below w.heap.size w w' := by
 have b0 : Below w.heap.size w (w.alloc (.cells #[.int .i64 0, .int .i64 0, .string ⟨#[]⟩, .bool false, .int .i64 0] 26)) := (Below.refl _ _).alloc (Nat.le_refl _) _
 obtain ⟨ab, ao, hA2, hab, hcell⟩ := hR 0 x0.cs rfl
 obtain rfl : A = some ⟨ab, ao, none⟩ := hA2
 obtain ⟨hx0_1, hx0_2, hx0_3, hx0_4, hx0_5⟩ := cs5_0 hcell
 have hcell1 : ∀ (j : Nat) (u : Value), x1.cs[j]? = some u → w.cell? ⟨ab, ao + 1 * 11 + j, none⟩ = some u := by
  obtain ⟨ab2, ao2, hA3, _, hcell1⟩ := hR 1 x1.cs rfl
  cases hA3
  exact hcell1
 obtain ⟨hx1_0, hx1_1, hx1_2, hx1_3, hx1_4, hx1_5, hx1_6, hx1_7, hx1_8, hx1_9, hx1_10⟩ := cs11_1 hcell1
 clear hcell1
 have hne : ab ≠ w.heap.size := by omega
 obtain ⟨q1, q2, q3, q4, q5, q6⟩ := rect_in hm1
 obtain ⟨R, hRr⟩ : ∃ R, rowsL x1 = R := ⟨_, rfl⟩
 obtain ⟨C, hCc⟩ : ∃ C, colsL x1 = C := ⟨_, rfl⟩
 have hRb : 1 ≤ R ∧ R ≤ 1048576 := by unfold rowsL at hRr; omega
 have hCb : 1 ≤ C ∧ C ≤ 16384 := by unfold colsL at hCc; omega
 have CR : ∀ w, Hid (Calls Tryz.prog 123 #[.agg #[.bool x1.many, .int .i64 x1.v.t, .int .i64 x1.v.n, .string x1.v.s, .bool x1.v.b, .int .i64 x1.v.c, .int .i64 x1.t, .int .i64 x1.l, .int .i64 x1.b, .int .i64 x1.r, .slice x1.A x1.es.length x1.cap]] w fun e w' => e = .returned (.int .i64 R) ∧ Below w.heap.size w w') := fun w => Lib.hid (by rw [← hRr]; exact arows_any x1 hm1 w)
 have CC : ∀ w, Hid (Calls Tryz.prog 125 #[.agg #[.bool x1.many, .int .i64 x1.v.t, .int .i64 x1.v.n, .string x1.v.s, .bool x1.v.b, .int .i64 x1.v.c, .int .i64 x1.t, .int .i64 x1.l, .int .i64 x1.b, .int .i64 x1.r, .slice x1.A x1.es.length x1.cap]] w fun e w' => e = .returned (.int .i64 C) ∧ Below w.heap.size w w') := fun w => Lib.hid (by rw [← hCc]; exact acols_any x1 hm1 w)
 have hin1 := Lib.hid (hin x1 (by simp))
 have CH : ∀ w1, Below w.heap.size w w1 → Hid (Calls Tryz.prog 181 #[.agg #[.bool x1.many, .int .i64 x1.v.t, .int .i64 x1.v.n, .string x1.v.s, .bool x1.v.b, .int .i64 x1.v.c, .int .i64 x1.t, .int .i64 x1.l, .int .i64 x1.b, .int .i64 x1.r, .slice x1.A x1.es.length x1.cap]] w1 fun e w' => (∃ b, e = .returned (.map (some b)) ∧ w1.heap.size ≤ b ∧ OwnP w' b (heldL x1)) ∧ Below w1.heap.size w1 w') := fun w1 h1 => Lib.hid (aheld_any x1 hm1 he1 w1 ((hin1.out.below h1).mono h1.size))
 obtain ⟨rs, hres⟩ : ∃ r, (if (decide (1 < rowsL x1) && decide (1 < colsL x1)) = true then errL 8 else lookR2 x0.v x1) = r := ⟨_, rfl⟩
 rw [hres]
 obtain ⟨bad, hbad0⟩ : ∃ bad, (decide (1 < rowsL x1) && decide (1 < colsL x1)) = bad := ⟨_, rfl⟩
 rw [hbad0] at hres
 have hres' := Lib.hid hres
 clear hres
 rw [hRr, hCc] at hbad0
 have hbad := Lib.hid hbad0
 have hP1 : 1 ≤ R * C ∧ R * C ≤ 17179869184 := ⟨by have := Int.mul_le_mul hRb.1 hCb.1 (by omega) (by omega); simpa using this, by have := Int.mul_le_mul hRb.2 hCb.2 (by omega) (by omega); simpa using this⟩
 obtain ⟨N, hN⟩ : ∃ N : Nat, R * C = (N : Int) := ⟨(R * C).toNat, by omega⟩
 have hwN : IntKind.i64.wrap (R * C) = (N : Int) := by rw [hN]; exact IntWalk.i64_in _ (by omega)
 have hNb : N ≤ 17179869184 := by omega
 have hfr : Hid (Ffirst x0.v x1 N = firstF x0.v x1) := Lib.hid (by unfold firstF; rw [hRr, hCc, hN, Int.toNat_natCast])
 have hRr' := Lib.hid hRr
 have hCc' := Lib.hid hCc
 clear hcell hR hin hbad0 hRr hCc hm1 he1 q1 q2 q3 q4 q5 q6 hN hP1
 go_enter Tryz.func117, Tryz.ntmps117
 go_upto_region 1 with (fail)
 go_cut [5, 6] from 10 to 16 (fun a b wc => ∃ P Q, a = .pointer (some ⟨P, 0, none⟩) ∧ b = .pointer (some ⟨Q, 0, none⟩) ∧ w.heap.size + 1 ≤ P ∧ w.heap.size + 1 ≤ Q ∧ wc.heap[P]? = some (.cells #[.int .i64 x0.v.t, .int .i64 x0.v.n, .string x0.v.s, .bool x0.v.b, .int .i64 x0.v.c] 26 (0, 0)) ∧ wc.heap[Q]? = some (.cells #[.bool x1.many, .int .i64 x1.v.t, .int .i64 x1.v.n, .string x1.v.s, .bool x1.v.b, .int .i64 x1.v.c, .int .i64 x1.t, .int .i64 x1.l, .int .i64 x1.b, .int .i64 x1.r, .slice x1.A x1.es.length x1.cap] 36 (0, 0)) ∧ Below (w.heap.size + 1) (w.alloc (.cells #[.int .i64 0, .int .i64 0, .string ⟨#[]⟩, .bool false, .int .i64 0] 26)) wc)
 case first =>
  have hC0 : ∀ w2, Below (w.heap.size + 1) (w.alloc (.cells #[.int .i64 0, .int .i64 0, .string ⟨#[]⟩, .bool false, .int .i64 0] 26)) w2 → w2.cell? ⟨ab, ao + 1, none⟩ = some (.int .i64 x0.v.t) ∧ w2.cell? ⟨ab, ao + 2, none⟩ = some (.int .i64 x0.v.n) ∧ w2.cell? ⟨ab, ao + 3, none⟩ = some (.string x0.v.s) ∧ w2.cell? ⟨ab, ao + 4, none⟩ = some (.bool x0.v.b) ∧ w2.cell? ⟨ab, ao + 5, none⟩ = some (.int .i64 x0.v.c) := fun w2 h => ⟨(h.cell (p := ⟨ab, ao + 1, none⟩) (by dsimp only; omega)).trans ((b0.cell (p := ⟨ab, ao + 1, none⟩) hab).trans hx0_1), (h.cell (p := ⟨ab, ao + 2, none⟩) (by dsimp only; omega)).trans ((b0.cell (p := ⟨ab, ao + 2, none⟩) hab).trans hx0_2), (h.cell (p := ⟨ab, ao + 3, none⟩) (by dsimp only; omega)).trans ((b0.cell (p := ⟨ab, ao + 3, none⟩) hab).trans hx0_3), (h.cell (p := ⟨ab, ao + 4, none⟩) (by dsimp only; omega)).trans ((b0.cell (p := ⟨ab, ao + 4, none⟩) hab).trans hx0_4), (h.cell (p := ⟨ab, ao + 5, none⟩) (by dsimp only; omega)).trans ((b0.cell (p := ⟨ab, ao + 5, none⟩) hab).trans hx0_5)⟩
  have hC1 : ∀ w2, Below (w.heap.size + 1) (w.alloc (.cells #[.int .i64 0, .int .i64 0, .string ⟨#[]⟩, .bool false, .int .i64 0] 26)) w2 → w2.cell? ⟨ab, ao + 11, none⟩ = some (.bool x1.many) ∧ w2.cell? ⟨ab, ao + 11 + 1, none⟩ = some (.int .i64 x1.v.t) ∧ w2.cell? ⟨ab, ao + 11 + 2, none⟩ = some (.int .i64 x1.v.n) ∧ w2.cell? ⟨ab, ao + 11 + 3, none⟩ = some (.string x1.v.s) ∧ w2.cell? ⟨ab, ao + 11 + 4, none⟩ = some (.bool x1.v.b) ∧ w2.cell? ⟨ab, ao + 11 + 5, none⟩ = some (.int .i64 x1.v.c) ∧ w2.cell? ⟨ab, ao + 11 + 6, none⟩ = some (.int .i64 x1.t) ∧ w2.cell? ⟨ab, ao + 11 + 7, none⟩ = some (.int .i64 x1.l) ∧ w2.cell? ⟨ab, ao + 11 + 8, none⟩ = some (.int .i64 x1.b) ∧ w2.cell? ⟨ab, ao + 11 + 9, none⟩ = some (.int .i64 x1.r) ∧ w2.cell? ⟨ab, ao + 11 + 10, none⟩ = some (.slice x1.A x1.es.length x1.cap) := fun w2 h => ⟨(h.cell (p := ⟨ab, ao + 11, none⟩) (by dsimp only; omega)).trans ((b0.cell (p := ⟨ab, ao + 11, none⟩) hab).trans hx1_0), (h.cell (p := ⟨ab, ao + 11 + 1, none⟩) (by dsimp only; omega)).trans ((b0.cell (p := ⟨ab, ao + 11 + 1, none⟩) hab).trans hx1_1), (h.cell (p := ⟨ab, ao + 11 + 2, none⟩) (by dsimp only; omega)).trans ((b0.cell (p := ⟨ab, ao + 11 + 2, none⟩) hab).trans hx1_2), (h.cell (p := ⟨ab, ao + 11 + 3, none⟩) (by dsimp only; omega)).trans ((b0.cell (p := ⟨ab, ao + 11 + 3, none⟩) hab).trans hx1_3), (h.cell (p := ⟨ab, ao + 11 + 4, none⟩) (by dsimp only; omega)).trans ((b0.cell (p := ⟨ab, ao + 11 + 4, none⟩) hab).trans hx1_4), (h.cell (p := ⟨ab, ao + 11 + 5, none⟩) (by dsimp only; omega)).trans ((b0.cell (p := ⟨ab, ao + 11 + 5, none⟩) hab).trans hx1_5), (h.cell (p := ⟨ab, ao + 11 + 6, none⟩) (by dsimp only; omega)).trans ((b0.cell (p := ⟨ab, ao + 11 + 6, none⟩) hab).trans hx1_6), (h.cell (p := ⟨ab, ao + 11 + 7, none⟩) (by dsimp only; omega)).trans ((b0.cell (p := ⟨ab, ao + 11 + 7, none⟩) hab).trans hx1_7), (h.cell (p := ⟨ab, ao + 11 + 8, none⟩) (by dsimp only; omega)).trans ((b0.cell (p := ⟨ab, ao + 11 + 8, none⟩) hab).trans hx1_8), (h.cell (p := ⟨ab, ao + 11 + 9, none⟩) (by dsimp only; omega)).trans ((b0.cell (p := ⟨ab, ao + 11 + 9, none⟩) hab).trans hx1_9), (h.cell (p := ⟨ab, ao + 11 + 10, none⟩) (by dsimp only; omega)).trans ((b0.cell (p := ⟨ab, ao + 11 + 10, none⟩) hab).trans hx1_10)⟩
  refine wp_region_noPanic ?_
  refine wp_region_held_drew (S := fun w' => Below (w.heap.size + 1) (w.alloc (.cells #[.int .i64 0, .int .i64 0, .string ⟨#[]⟩, .bool false, .int .i64 0] 26)) w' ∧ w.heap.size + 1 ≤ w'.heap.size) (by kernel_rfl) (by (try dsimp only); refine ⟨?_, ?_⟩ <;> first | exact Below.drew (Below.refl _ _) | (simp; done)) (fun hHeld => ?_)
  generalize (w.alloc (.cells #[.int .i64 0, .int .i64 0, .string ⟨#[]⟩, .bool false, .int .i64 0] 26)).drew = wz at *
  refine sqT 0 hHeld ?_
  refine sqT 1 hHeld ?_
  refine sqT 2 hHeld ?_
  refine wpAnyH_take (i := 3) (oi := ⟨_, _, _, _, _, _⟩) (v := ?v4) rfl (by kernel_rfl) (by kernel_rfl) (by kernel_rfl) (fun _ _ _ h => h) (Or.inl ⟨by rfl, ?hy4⟩) hHeld ?rest4
  case hy4 => (intro w2 hSw; (try dsimp only at hSw); go_split_ands; have hcc := hC0 w2 (by assumption); go_split_ands; go_simp; first | done | with_reducible rfl)
  refine sqT 4 hHeld ?_
  refine sqT 5 hHeld ?_
  refine wpAnyH_take (i := 6) (oi := ⟨_, _, _, _, _, _⟩) (v := ?v7) rfl (by kernel_rfl) (by kernel_rfl) (by kernel_rfl) (fun _ _ _ h => h) (Or.inl ⟨by rfl, ?hy7⟩) hHeld ?rest7
  case hy7 => (intro w2 hSw; (try dsimp only at hSw); go_split_ands; have hcc := hC1 w2 (by assumption); go_split_ands; go_simp; first | done | with_reducible rfl)
  try simp only [Act.put, List.setIfInBounds_toArray, List.set_cons_zero, List.set_cons_succ]
  refine wpAnyH_ready (rs := [7, 8]) (by kernel_rfl) (by simp) ?_
  refine AllReadyH.cons (o := ⟨_, _, _, _, _, _⟩) rfl (fun K hK => ?q_P) (AllReadyH.cons (o := ⟨_, _, _, _, _, _⟩) rfl (fun K hK => ?q_Q) AllReadyH.nil)
  case' q_P =>
   go_split_ands
   go_simp
   have hBq : Below (w.heap.size + 1) (w.alloc (.cells #[.int .i64 0, .int .i64 0, .string ⟨#[]⟩, .bool false, .int .i64 0] 26)) wz := by assumption
   have hZq : w.heap.size + 1 ≤ wz.heap.size := by assumption
   have hpP := blk_new wz #[.int .i64 0, .int .i64 0, .string ⟨#[]⟩, .bool false, .int .i64 0] 26
   have hzP : wz.heap.size < (wz.alloc (.cells #[.int .i64 0, .int .i64 0, .string ⟨#[]⟩, .bool false, .int .i64 0] 26)).heap.size := by simp
   refine hK.out _ _ ?_ (fun hHeld => ?_)
   ·((try dsimp only); refine ⟨?_, ?_⟩ <;> first | exact bx_cellp (by dsimp only; omega) (by assumption) | exact Below.alloc (by assumption) (by omega) _ | (simp; omega))
   clear hK K hBq
   try simp only [Act.put, List.setIfInBounds_toArray, List.set_cons_zero, List.set_cons_succ]
   generalize (wz.alloc (.cells #[.int .i64 0, .int .i64 0, .string ⟨#[]⟩, .bool false, .int .i64 0] 26)) = wn8 at *
   obtain ⟨P, hPe⟩ : ∃ b, wz.heap.size = b := ⟨_, rfl⟩
   rw [hPe] at hpP hzP ⊢
   have hlP : w.heap.size + 1 ≤ P := by omega
   clear hZq hPe
   refine wpAnyH_ready (rs := [8]) (by kernel_rfl) (by simp) ?_
   refine AllReadyH.cons (o := ⟨_, _, _, _, _, _⟩) rfl (fun K hK => ?qP_Q) AllReadyH.nil
   case' qP_Q =>
    go_split_ands
    go_simp
    have hBq : Below (w.heap.size + 1) (w.alloc (.cells #[.int .i64 0, .int .i64 0, .string ⟨#[]⟩, .bool false, .int .i64 0] 26)) wn8 := by assumption
    have hZq : w.heap.size + 1 ≤ wn8.heap.size := by assumption
    have hpQ := blk_new wn8 #[.bool false, .int .i64 0, .int .i64 0, .string ⟨#[]⟩, .bool false, .int .i64 0, .int .i64 0, .int .i64 0, .int .i64 0, .int .i64 0, .slice none 0 0] 36
    have hzQ : wn8.heap.size < (wn8.alloc (.cells #[.bool false, .int .i64 0, .int .i64 0, .string ⟨#[]⟩, .bool false, .int .i64 0, .int .i64 0, .int .i64 0, .int .i64 0, .int .i64 0, .slice none 0 0] 36)).heap.size := by simp
    have hyP := hzP
    have hpP := blk_alloc hpP (.cells #[.bool false, .int .i64 0, .int .i64 0, .string ⟨#[]⟩, .bool false, .int .i64 0, .int .i64 0, .int .i64 0, .int .i64 0, .int .i64 0, .slice none 0 0] 36)
    have hzP := Nat.lt_trans hzP hzQ
    refine hK.out _ _ ?_ (fun hHeld => ?_)
    ·((try dsimp only); refine ⟨?_, ?_⟩ <;> first | exact bx_cellp (by dsimp only; omega) (by assumption) | exact Below.alloc (by assumption) (by omega) _ | (simp; omega))
    clear hK K hBq
    try simp only [Act.put, List.setIfInBounds_toArray, List.set_cons_zero, List.set_cons_succ]
    generalize (wn8.alloc (.cells #[.bool false, .int .i64 0, .int .i64 0, .string ⟨#[]⟩, .bool false, .int .i64 0, .int .i64 0, .int .i64 0, .int .i64 0, .int .i64 0, .slice none 0 0] 36)) = wl at *
    obtain ⟨Q, hQe⟩ : ∃ b, wn8.heap.size = b := ⟨_, rfl⟩
    rw [hQe] at hpQ hzQ ⊢
    have hlQ : w.heap.size + 1 ≤ Q := by omega
    have hnePQ : P ≠ Q := by omega
    have hneQP : Q ≠ P := by omega
    clear hZq hQe hyP
  case' q_Q =>
   go_split_ands
   go_simp
   have hBq : Below (w.heap.size + 1) (w.alloc (.cells #[.int .i64 0, .int .i64 0, .string ⟨#[]⟩, .bool false, .int .i64 0] 26)) wz := by assumption
   have hZq : w.heap.size + 1 ≤ wz.heap.size := by assumption
   have hpQ := blk_new wz #[.bool false, .int .i64 0, .int .i64 0, .string ⟨#[]⟩, .bool false, .int .i64 0, .int .i64 0, .int .i64 0, .int .i64 0, .int .i64 0, .slice none 0 0] 36
   have hzQ : wz.heap.size < (wz.alloc (.cells #[.bool false, .int .i64 0, .int .i64 0, .string ⟨#[]⟩, .bool false, .int .i64 0, .int .i64 0, .int .i64 0, .int .i64 0, .int .i64 0, .slice none 0 0] 36)).heap.size := by simp
   refine hK.out _ _ ?_ (fun hHeld => ?_)
   ·((try dsimp only); refine ⟨?_, ?_⟩ <;> first | exact bx_cellp (by dsimp only; omega) (by assumption) | exact Below.alloc (by assumption) (by omega) _ | (simp; omega))
   clear hK K hBq
   try simp only [Act.put, List.setIfInBounds_toArray, List.set_cons_zero, List.set_cons_succ]
   generalize (wz.alloc (.cells #[.bool false, .int .i64 0, .int .i64 0, .string ⟨#[]⟩, .bool false, .int .i64 0, .int .i64 0, .int .i64 0, .int .i64 0, .int .i64 0, .slice none 0 0] 36)) = wn9 at *
   obtain ⟨Q, hQe⟩ : ∃ b, wz.heap.size = b := ⟨_, rfl⟩
   rw [hQe] at hpQ hzQ ⊢
   have hlQ : w.heap.size + 1 ≤ Q := by omega
   clear hZq hQe
   refine wpAnyH_ready (rs := [7]) (by kernel_rfl) (by simp) ?_
   refine AllReadyH.cons (o := ⟨_, _, _, _, _, _⟩) rfl (fun K hK => ?qQ_P) AllReadyH.nil
   case' qQ_P =>
    go_split_ands
    go_simp
    have hBq : Below (w.heap.size + 1) (w.alloc (.cells #[.int .i64 0, .int .i64 0, .string ⟨#[]⟩, .bool false, .int .i64 0] 26)) wn9 := by assumption
    have hZq : w.heap.size + 1 ≤ wn9.heap.size := by assumption
    have hpP := blk_new wn9 #[.int .i64 0, .int .i64 0, .string ⟨#[]⟩, .bool false, .int .i64 0] 26
    have hzP : wn9.heap.size < (wn9.alloc (.cells #[.int .i64 0, .int .i64 0, .string ⟨#[]⟩, .bool false, .int .i64 0] 26)).heap.size := by simp
    have hyQ := hzQ
    have hpQ := blk_alloc hpQ (.cells #[.int .i64 0, .int .i64 0, .string ⟨#[]⟩, .bool false, .int .i64 0] 26)
    have hzQ := Nat.lt_trans hzQ hzP
    refine hK.out _ _ ?_ (fun hHeld => ?_)
    ·((try dsimp only); refine ⟨?_, ?_⟩ <;> first | exact bx_cellp (by dsimp only; omega) (by assumption) | exact Below.alloc (by assumption) (by omega) _ | (simp; omega))
    clear hK K hBq
    try simp only [Act.put, List.setIfInBounds_toArray, List.set_cons_zero, List.set_cons_succ]
    generalize (wn9.alloc (.cells #[.int .i64 0, .int .i64 0, .string ⟨#[]⟩, .bool false, .int .i64 0] 26)) = wl at *
    obtain ⟨P, hPe⟩ : ∃ b, wn9.heap.size = b := ⟨_, rfl⟩
    rw [hPe] at hpP hzP ⊢
    have hlP : w.heap.size + 1 ≤ P := by omega
    have hneQP : Q ≠ P := by omega
    have hnePQ : P ≠ Q := by omega
    clear hZq hPe hyQ
  all_goals
   refine sqC 9 (fun K hK => ?_)
   go_split_ands
   have hcl0 : wl.cell? ⟨P, 0, none⟩ = some (.int .i64 0) := blk_cell hpP 0
   have hcl1 : wl.cell? ⟨P, 1, none⟩ = some (.int .i64 0) := blk_cell hpP 1
   have hcl2 : wl.cell? ⟨P, 2, none⟩ = some (.string ⟨#[]⟩) := blk_cell hpP 2
   have hcl3 : wl.cell? ⟨P, 3, none⟩ = some (.bool false) := blk_cell hpP 3
   have hcl4 : wl.cell? ⟨P, 4, none⟩ = some (.int .i64 0) := blk_cell hpP 4
   have hfz0 : wl.frozen? ⟨P, 0, none⟩ = false := blk_frozen hpP 0
   have hfz1 : wl.frozen? ⟨P, 1, none⟩ = false := blk_frozen hpP 1
   have hfz2 : wl.frozen? ⟨P, 2, none⟩ = false := blk_frozen hpP 2
   have hfz3 : wl.frozen? ⟨P, 3, none⟩ = false := blk_frozen hpP 3
   have hfz4 : wl.frozen? ⟨P, 4, none⟩ = false := blk_frozen hpP 4
   go_simp
   have hBq : Below (w.heap.size + 1) (w.alloc (.cells #[.int .i64 0, .int .i64 0, .string ⟨#[]⟩, .bool false, .int .i64 0] 26)) wl := by assumption
   have hZq : w.heap.size + 1 ≤ wl.heap.size := by assumption
   clear hcl0 hfz0 hcl1 hfz1 hcl2 hfz2 hcl3 hfz3 hcl4 hfz4
   obtain ⟨wn10, he_wn10⟩ : ∃ wq, wq = (((((wl.setCell ⟨P, 0, none⟩ (.int .i64 x0.v.t)).setCell ⟨P, 1, none⟩ (.int .i64 x0.v.n)).setCell ⟨P, 2, none⟩ (.string x0.v.s)).setCell ⟨P, 3, none⟩ (.bool x0.v.b)).setCell ⟨P, 4, none⟩ (.int .i64 x0.v.c)) := ⟨_, rfl⟩
   rw [← he_wn10]
   have hBf : Below (w.heap.size + 1) (w.alloc (.cells #[.int .i64 0, .int .i64 0, .string ⟨#[]⟩, .bool false, .int .i64 0] 26)) wn10 := by rw [he_wn10]; exact below5 hBq hlP
   have hZf : w.heap.size + 1 ≤ wn10.heap.size := by rw [he_wn10]; exact size_sc5 hZq
   have hpQ : wn10.heap[Q]? = some (.cells #[.bool false, .int .i64 0, .int .i64 0, .string ⟨#[]⟩, .bool false, .int .i64 0, .int .i64 0, .int .i64 0, .int .i64 0, .int .i64 0, .slice none 0 0] 36 (0, 0)) := by rw [he_wn10]; exact kfar5 hneQP hpQ
   have hpP : wn10.heap[P]? = some (.cells #[.int .i64 x0.v.t, .int .i64 x0.v.n, .string x0.v.s, .bool x0.v.b, .int .i64 x0.v.c] 26 (0, 0)) := by rw [he_wn10]; exact row5 hpP
   clear hBq hZq
   clear he_wn10
   refine hK.out _ _ ?_ (fun hHeld => ?_)
   ·exact kpA
   clear hK K
   try simp only [Act.put, List.setIfInBounds_toArray, List.set_cons_zero, List.set_cons_succ]
   refine sqC 10 (fun K hK => ?_)
   go_split_ands
   have hcl0 : wn10.cell? ⟨Q, 0, none⟩ = some (.bool false) := blk_cell hpQ 0
   have hcl1 : wn10.cell? ⟨Q, 1, none⟩ = some (.int .i64 0) := blk_cell hpQ 1
   have hcl2 : wn10.cell? ⟨Q, 2, none⟩ = some (.int .i64 0) := blk_cell hpQ 2
   have hcl3 : wn10.cell? ⟨Q, 3, none⟩ = some (.string ⟨#[]⟩) := blk_cell hpQ 3
   have hcl4 : wn10.cell? ⟨Q, 4, none⟩ = some (.bool false) := blk_cell hpQ 4
   have hcl5 : wn10.cell? ⟨Q, 5, none⟩ = some (.int .i64 0) := blk_cell hpQ 5
   have hcl6 : wn10.cell? ⟨Q, 6, none⟩ = some (.int .i64 0) := blk_cell hpQ 6
   have hcl7 : wn10.cell? ⟨Q, 7, none⟩ = some (.int .i64 0) := blk_cell hpQ 7
   have hcl8 : wn10.cell? ⟨Q, 8, none⟩ = some (.int .i64 0) := blk_cell hpQ 8
   have hcl9 : wn10.cell? ⟨Q, 9, none⟩ = some (.int .i64 0) := blk_cell hpQ 9
   have hcl10 : wn10.cell? ⟨Q, 10, none⟩ = some (.slice none 0 0) := blk_cell hpQ 10
   have hfz0 : wn10.frozen? ⟨Q, 0, none⟩ = false := blk_frozen hpQ 0
   have hfz1 : wn10.frozen? ⟨Q, 1, none⟩ = false := blk_frozen hpQ 1
   have hfz2 : wn10.frozen? ⟨Q, 2, none⟩ = false := blk_frozen hpQ 2
   have hfz3 : wn10.frozen? ⟨Q, 3, none⟩ = false := blk_frozen hpQ 3
   have hfz4 : wn10.frozen? ⟨Q, 4, none⟩ = false := blk_frozen hpQ 4
   have hfz5 : wn10.frozen? ⟨Q, 5, none⟩ = false := blk_frozen hpQ 5
   have hfz6 : wn10.frozen? ⟨Q, 6, none⟩ = false := blk_frozen hpQ 6
   have hfz7 : wn10.frozen? ⟨Q, 7, none⟩ = false := blk_frozen hpQ 7
   have hfz8 : wn10.frozen? ⟨Q, 8, none⟩ = false := blk_frozen hpQ 8
   have hfz9 : wn10.frozen? ⟨Q, 9, none⟩ = false := blk_frozen hpQ 9
   have hfz10 : wn10.frozen? ⟨Q, 10, none⟩ = false := blk_frozen hpQ 10
   go_simp
   have hBq : Below (w.heap.size + 1) (w.alloc (.cells #[.int .i64 0, .int .i64 0, .string ⟨#[]⟩, .bool false, .int .i64 0] 26)) wn10 := by assumption
   have hZq : w.heap.size + 1 ≤ wn10.heap.size := by assumption
   clear hcl0 hfz0 hcl1 hfz1 hcl2 hfz2 hcl3 hfz3 hcl4 hfz4 hcl5 hfz5 hcl6 hfz6 hcl7 hfz7 hcl8 hfz8 hcl9 hfz9 hcl10 hfz10
   obtain ⟨wn11, he_wn11⟩ : ∃ wq, wq = (((((((((((wn10.setCell ⟨Q, 0, none⟩ (.bool x1.many)).setCell ⟨Q, 1, none⟩ (.int .i64 x1.v.t)).setCell ⟨Q, 2, none⟩ (.int .i64 x1.v.n)).setCell ⟨Q, 3, none⟩ (.string x1.v.s)).setCell ⟨Q, 4, none⟩ (.bool x1.v.b)).setCell ⟨Q, 5, none⟩ (.int .i64 x1.v.c)).setCell ⟨Q, 6, none⟩ (.int .i64 x1.t)).setCell ⟨Q, 7, none⟩ (.int .i64 x1.l)).setCell ⟨Q, 8, none⟩ (.int .i64 x1.b)).setCell ⟨Q, 9, none⟩ (.int .i64 x1.r)).setCell ⟨Q, 10, none⟩ (.slice x1.A x1.es.length x1.cap)) := ⟨_, rfl⟩
   rw [← he_wn11]
   have hBf : Below (w.heap.size + 1) (w.alloc (.cells #[.int .i64 0, .int .i64 0, .string ⟨#[]⟩, .bool false, .int .i64 0] 26)) wn11 := by rw [he_wn11]; exact below11 hBq hlQ
   have hZf : w.heap.size + 1 ≤ wn11.heap.size := by rw [he_wn11]; exact size_sc11 hZq
   have hpP : wn11.heap[P]? = some (.cells #[.int .i64 x0.v.t, .int .i64 x0.v.n, .string x0.v.s, .bool x0.v.b, .int .i64 x0.v.c] 26 (0, 0)) := by rw [he_wn11]; exact kfar11 hnePQ hpP
   have hpQ : wn11.heap[Q]? = some (.cells #[.bool x1.many, .int .i64 x1.v.t, .int .i64 x1.v.n, .string x1.v.s, .bool x1.v.b, .int .i64 x1.v.c, .int .i64 x1.t, .int .i64 x1.l, .int .i64 x1.b, .int .i64 x1.r, .slice x1.A x1.es.length x1.cap] 36 (0, 0)) := by rw [he_wn11]; exact row11 hpQ
   clear hBq hZq
   clear he_wn11
   refine hK.out _ _ ?_ (fun hHeld => ?_)
   ·exact kpA
   clear hK K
   refine wpAnyH_done (by kernel_rfl) ?_ _
   refine NoPanic.normal ?_
   go_wp2
   go_meet
   case rel => exact ⟨P, Q, rfl, rfl, hlP, hlQ, hpP, hpQ, hBf⟩
 case rest =>
  obtain ⟨P, Q, rfl, rfl, hlP, hlQ, hpP, hpQ, hbc⟩ := hcut
  obtain ⟨wa, rfl⟩ : ∃ wa, wa = wc := ⟨_, rfl⟩
  have hPl := (Array.getElem?_eq_some_iff.1 hpP).1
  have hQl := (Array.getElem?_eq_some_iff.1 hpQ).1
  have hq0 : Below w.heap.size w wa := b0.trans (hbc.mono (by omega))
  have habc : ab < wa.heap.size := by omega
  have cq0 : wa.cell? ⟨Q, 0, none⟩ = some (.bool x1.many) := blk_cell hpQ 0
  have cq1 : wa.cell? ⟨Q, 1, none⟩ = some (.int .i64 x1.v.t) := blk_cell hpQ 1
  have cq2 : wa.cell? ⟨Q, 2, none⟩ = some (.int .i64 x1.v.n) := blk_cell hpQ 2
  have cq3 : wa.cell? ⟨Q, 3, none⟩ = some (.string x1.v.s) := blk_cell hpQ 3
  have cq4 : wa.cell? ⟨Q, 4, none⟩ = some (.bool x1.v.b) := blk_cell hpQ 4
  have cq5 : wa.cell? ⟨Q, 5, none⟩ = some (.int .i64 x1.v.c) := blk_cell hpQ 5
  have cq6 : wa.cell? ⟨Q, 6, none⟩ = some (.int .i64 x1.t) := blk_cell hpQ 6
  have cq7 : wa.cell? ⟨Q, 7, none⟩ = some (.int .i64 x1.l) := blk_cell hpQ 7
  have cq8 : wa.cell? ⟨Q, 8, none⟩ = some (.int .i64 x1.b) := blk_cell hpQ 8
  have cq9 : wa.cell? ⟨Q, 9, none⟩ = some (.int .i64 x1.r) := blk_cell hpQ 9
  have cq10 : wa.cell? ⟨Q, 10, none⟩ = some (.slice x1.A x1.es.length x1.cap) := blk_cell hpQ 10
  clear hx0_1 hx0_2 hx0_3 hx0_4 hx0_5 hx1_0 hx1_1 hx1_2 hx1_3 hx1_4 hx1_5 hx1_6 hx1_7 hx1_8 hx1_9 hx1_10
  go_upto_region 2 with (fail)
  go_cut [37] from 17 to 37 (fun c wd => c = .bool bad ∧ Below wa.heap.size wa wd)
  case first =>
   by_cases h1 : 1 < R
   ·by_cases h2 : 1 < C
    ·have hb1 : decide ((1 : Int) < R) = true := by simp; omega
     have hb2 : decide ((1 : Int) < C) = true := by simp; omega
     refine wp_region_noPanic ?_
     refine wp_region_held_drew (S := fun w' => w'.cell? ⟨Q, 0, none⟩ = some (.bool x1.many) ∧ w'.cell? ⟨Q, 1, none⟩ = some (.int .i64 x1.v.t) ∧ w'.cell? ⟨Q, 2, none⟩ = some (.int .i64 x1.v.n) ∧ w'.cell? ⟨Q, 3, none⟩ = some (.string x1.v.s) ∧ w'.cell? ⟨Q, 4, none⟩ = some (.bool x1.v.b) ∧ w'.cell? ⟨Q, 5, none⟩ = some (.int .i64 x1.v.c) ∧ w'.cell? ⟨Q, 6, none⟩ = some (.int .i64 x1.t) ∧ w'.cell? ⟨Q, 7, none⟩ = some (.int .i64 x1.l) ∧ w'.cell? ⟨Q, 8, none⟩ = some (.int .i64 x1.b) ∧ w'.cell? ⟨Q, 9, none⟩ = some (.int .i64 x1.r) ∧ w'.cell? ⟨Q, 10, none⟩ = some (.slice x1.A x1.es.length x1.cap) ∧ Below wa.heap.size wa w' ∧ wa.heap.size ≤ w'.heap.size) (by kernel_rfl) kpI (fun hHeld => ?_)
     generalize wa.drew = wz at *
     refine sqT 0 hHeld ?_
     refine sqC 1 (fun K hK => ?_)
     go_split_ands
     go_simp
     refine ((CR _).out).mono ?_
     rintro e w1 ⟨rfl, hb⟩
     refine hK.out _ _ ?_ (fun hHeld => ?_)
     ·exact kpB
     clear hK K hb
     refine sqT 2 hHeld ?_
     refine sqT 3 hHeld ?_
     refine sqT 4 hHeld ?_
     refine sqC 5 (fun K hK => ?_)
     go_split_ands
     go_simp
     refine ((CC _).out).mono ?_
     rintro e w1 ⟨rfl, hb⟩
     refine hK.out _ _ ?_ (fun hHeld => ?_)
     ·exact kpB
     clear hK K hb
     refine sqT 6 hHeld ?_
     refine sqT 7 hHeld ?_
     refine sqT 8 hHeld ?_
     refine sqS 9 hHeld ?_
     refine sqS 10 hHeld ?_
     refine sqS 11 hHeld ?_
     refine sqS 12 hHeld ?_
     refine sqS 13 hHeld ?_
     refine sqS 14 hHeld ?_
     refine sqS 15 hHeld ?_
     refine sqS 16 hHeld ?_
     refine sqS 17 hHeld ?_
     refine sqS 18 hHeld ?_
     refine sqS 19 hHeld ?_
     refine sqT 20 hHeld ?_
     refine wpAnyH_done (by kernel_rfl) ?_ _
     refine NoPanic.normal ?_
     go_split_ands
     go_wp2
     go_meet
     case rel => exact ⟨by rw [← hbad.out]; simp [*], by assumption⟩
    ·have hb1 : decide ((1 : Int) < R) = true := by simp; omega
     have hb2 : decide ((1 : Int) < C) = false := by simp; omega
     refine wp_region_noPanic ?_
     refine wp_region_held_drew (S := fun w' => w'.cell? ⟨Q, 0, none⟩ = some (.bool x1.many) ∧ w'.cell? ⟨Q, 1, none⟩ = some (.int .i64 x1.v.t) ∧ w'.cell? ⟨Q, 2, none⟩ = some (.int .i64 x1.v.n) ∧ w'.cell? ⟨Q, 3, none⟩ = some (.string x1.v.s) ∧ w'.cell? ⟨Q, 4, none⟩ = some (.bool x1.v.b) ∧ w'.cell? ⟨Q, 5, none⟩ = some (.int .i64 x1.v.c) ∧ w'.cell? ⟨Q, 6, none⟩ = some (.int .i64 x1.t) ∧ w'.cell? ⟨Q, 7, none⟩ = some (.int .i64 x1.l) ∧ w'.cell? ⟨Q, 8, none⟩ = some (.int .i64 x1.b) ∧ w'.cell? ⟨Q, 9, none⟩ = some (.int .i64 x1.r) ∧ w'.cell? ⟨Q, 10, none⟩ = some (.slice x1.A x1.es.length x1.cap) ∧ Below wa.heap.size wa w' ∧ wa.heap.size ≤ w'.heap.size) (by kernel_rfl) kpI (fun hHeld => ?_)
     generalize wa.drew = wz at *
     refine sqT 0 hHeld ?_
     refine sqC 1 (fun K hK => ?_)
     go_split_ands
     go_simp
     refine ((CR _).out).mono ?_
     rintro e w1 ⟨rfl, hb⟩
     refine hK.out _ _ ?_ (fun hHeld => ?_)
     ·exact kpB
     clear hK K hb
     refine sqT 2 hHeld ?_
     refine sqT 3 hHeld ?_
     refine sqT 4 hHeld ?_
     refine sqC 5 (fun K hK => ?_)
     go_split_ands
     go_simp
     refine ((CC _).out).mono ?_
     rintro e w1 ⟨rfl, hb⟩
     refine hK.out _ _ ?_ (fun hHeld => ?_)
     ·exact kpB
     clear hK K hb
     refine sqT 6 hHeld ?_
     refine sqT 7 hHeld ?_
     refine sqT 8 hHeld ?_
     refine sqT 9 hHeld ?_
     refine sqT 10 hHeld ?_
     refine sqT 11 hHeld ?_
     refine sqT 12 hHeld ?_
     refine sqS 13 hHeld ?_
     refine sqS 14 hHeld ?_
     refine sqS 15 hHeld ?_
     refine sqS 16 hHeld ?_
     refine sqS 17 hHeld ?_
     refine sqS 18 hHeld ?_
     refine sqT 19 hHeld ?_
     refine sqT 20 hHeld ?_
     refine wpAnyH_done (by kernel_rfl) ?_ _
     refine NoPanic.normal ?_
     go_split_ands
     go_wp2
     go_meet
     case rel => exact ⟨by rw [← hbad.out]; simp [*], by assumption⟩
   ·have hb1 : decide ((1 : Int) < R) = false := by simp; omega
    refine wp_region_noPanic ?_
    refine wp_region_held_drew (S := fun w' => w'.cell? ⟨Q, 0, none⟩ = some (.bool x1.many) ∧ w'.cell? ⟨Q, 1, none⟩ = some (.int .i64 x1.v.t) ∧ w'.cell? ⟨Q, 2, none⟩ = some (.int .i64 x1.v.n) ∧ w'.cell? ⟨Q, 3, none⟩ = some (.string x1.v.s) ∧ w'.cell? ⟨Q, 4, none⟩ = some (.bool x1.v.b) ∧ w'.cell? ⟨Q, 5, none⟩ = some (.int .i64 x1.v.c) ∧ w'.cell? ⟨Q, 6, none⟩ = some (.int .i64 x1.t) ∧ w'.cell? ⟨Q, 7, none⟩ = some (.int .i64 x1.l) ∧ w'.cell? ⟨Q, 8, none⟩ = some (.int .i64 x1.b) ∧ w'.cell? ⟨Q, 9, none⟩ = some (.int .i64 x1.r) ∧ w'.cell? ⟨Q, 10, none⟩ = some (.slice x1.A x1.es.length x1.cap) ∧ Below wa.heap.size wa w' ∧ wa.heap.size ≤ w'.heap.size) (by kernel_rfl) kpI (fun hHeld => ?_)
    generalize wa.drew = wz at *
    refine sqT 0 hHeld ?_
    refine sqC 1 (fun K hK => ?_)
    go_split_ands
    go_simp
    refine ((CR _).out).mono ?_
    rintro e w1 ⟨rfl, hb⟩
    refine hK.out _ _ ?_ (fun hHeld => ?_)
    ·exact kpB
    clear hK K hb
    refine sqT 2 hHeld ?_
    refine sqT 3 hHeld ?_
    refine sqS 4 hHeld ?_
    refine sqS 5 hHeld ?_
    refine sqS 6 hHeld ?_
    refine sqT 7 hHeld ?_
    refine sqT 8 hHeld ?_
    refine sqT 9 hHeld ?_
    refine sqT 10 hHeld ?_
    refine sqT 11 hHeld ?_
    refine sqT 12 hHeld ?_
    refine sqS 13 hHeld ?_
    refine sqS 14 hHeld ?_
    refine sqS 15 hHeld ?_
    refine sqS 16 hHeld ?_
    refine sqS 17 hHeld ?_
    refine sqS 18 hHeld ?_
    refine sqT 19 hHeld ?_
    refine sqT 20 hHeld ?_
    refine wpAnyH_done (by kernel_rfl) ?_ _
    refine NoPanic.normal ?_
    go_split_ands
    go_wp2
    go_meet
    case rel => exact ⟨by rw [← hbad.out]; simp [*], by assumption⟩
  case rest =>
   obtain ⟨wd, rfl⟩ : ∃ wd, wd = wc := ⟨_, rfl⟩
   obtain ⟨rfl, hbd⟩ := hcut
   have hq1 : Below w.heap.size w wd := hq0.trans (hbd.mono hq0.size)
   have hbw : Below (w.heap.size + 1) (w.alloc (.cells #[.int .i64 0, .int .i64 0, .string ⟨#[]⟩, .bool false, .int .i64 0] 26)) wd := hbc.trans (hbd.mono (by omega))
   obtain ⟨dq0, dq1, dq2, dq3, dq4, dq5, dq6, dq7, dq8, dq9, dq10⟩ := mv11 hbd hQl cq0 cq1 cq2 cq3 cq4 cq5 cq6 cq7 cq8 cq9 cq10
   obtain ⟨dv0, dv1, dv2, dv3, dv4⟩ := mv5 hbd hPl (blk_cell hpP 0) (blk_cell hpP 1) (blk_cell hpP 2) (blk_cell hpP 3) (blk_cell hpP 4)
   have hQd : Q < wd.heap.size := Nat.lt_of_lt_of_le hQl hbd.size
   have hPd : P < wd.heap.size := Nat.lt_of_lt_of_le hPl hbd.size
   have habd : ab < wd.heap.size := Nat.lt_of_lt_of_le habc hbd.size
   have hwd : w.heap.size < wd.heap.size := by omega
   clear hbd hpP hpQ cq0 cq1 cq2 cq3 cq4 cq5 cq6 cq7 cq8 cq9 cq10 hbc hq0
   cases bad
   ·have hre : Hid (lookR2 x0.v x1 = rs) := hres'
    go_wp2_with fail
    refine (CH _ hq1).out.mono ?_
    clear CH
    rintro e we ⟨⟨b, rfl, hbl, hown⟩, hbe⟩
    obtain ⟨eq0, eq1, eq2, eq3, eq4, eq5, eq6, eq7, eq8, eq9, eq10⟩ := mv11 hbe hQd dq0 dq1 dq2 dq3 dq4 dq5 dq6 dq7 dq8 dq9 dq10
    obtain ⟨ev0, ev1, ev2, ev3, ev4⟩ := mv5 hbe hPd dv0 dv1 dv2 dv3 dv4
    have hQe : Q < we.heap.size := Nat.lt_of_lt_of_le hQd hbe.size
    have hPe : P < we.heap.size := Nat.lt_of_lt_of_le hPd hbe.size
    have habe : ab < we.heap.size := Nat.lt_of_lt_of_le habd hbe.size
    have hwe : w.heap.size < we.heap.size := Nat.lt_of_lt_of_le hwd hbe.size
    have hbx : Below (w.heap.size + 1) (w.alloc (.cells #[.int .i64 0, .int .i64 0, .string ⟨#[]⟩, .bool false, .int .i64 0] 26)) we := hbw.trans (hbe.mono (by omega))
    have hq2 : Below w.heap.size w we := hq1.trans (hbe.mono hq1.size)
    have hown' := Lib.hid hown
    have hbe' := Lib.hid hbe
    clear hbe hown hbw hq1 hbl dq0 dq1 dq2 dq3 dq4 dq5 dq6 dq7 dq8 dq9 dq10 dv0 dv1 dv2 dv3 dv4
    go_upto_region 5 with (fail)
    refine wp_region_noPanic ?_
    refine wp_region_held_drew (S := fun w' => w'.cell? ⟨Q, 0, none⟩ = some (.bool x1.many) ∧ w'.cell? ⟨Q, 1, none⟩ = some (.int .i64 x1.v.t) ∧ w'.cell? ⟨Q, 2, none⟩ = some (.int .i64 x1.v.n) ∧ w'.cell? ⟨Q, 3, none⟩ = some (.string x1.v.s) ∧ w'.cell? ⟨Q, 4, none⟩ = some (.bool x1.v.b) ∧ w'.cell? ⟨Q, 5, none⟩ = some (.int .i64 x1.v.c) ∧ w'.cell? ⟨Q, 6, none⟩ = some (.int .i64 x1.t) ∧ w'.cell? ⟨Q, 7, none⟩ = some (.int .i64 x1.l) ∧ w'.cell? ⟨Q, 8, none⟩ = some (.int .i64 x1.b) ∧ w'.cell? ⟨Q, 9, none⟩ = some (.int .i64 x1.r) ∧ w'.cell? ⟨Q, 10, none⟩ = some (.slice x1.A x1.es.length x1.cap) ∧ Below we.heap.size we w' ∧ we.heap.size ≤ w'.heap.size) (by kernel_rfl) kpI (fun hHeld => ?_)
    generalize we.drew = wz at *
    refine sqT 0 hHeld ?_
    refine sqT 2 hHeld ?_
    refine sqT 5 hHeld ?_
    refine sqC 1 (fun K hK => ?_)
    go_split_ands
    go_simp
    refine ((CR _).out).mono ?_
    rintro e w1 ⟨rfl, hb⟩
    refine hK.out _ _ ?_ (fun hHeld => ?_)
    ·exact kpB
    clear hK K hb
    try simp only [Act.put, List.setIfInBounds_toArray, List.set_cons_zero, List.set_cons_succ]
    refine sqC 3 (fun K hK => ?_)
    go_split_ands
    go_simp
    refine ((CC _).out).mono ?_
    rintro e w1 ⟨rfl, hb⟩
    refine hK.out _ _ ?_ (fun hHeld => ?_)
    ·exact kpB
    clear hK K hb
    refine sqT 4 hHeld ?_
    refine wpAnyH_done (by kernel_rfl) ?_ _
    refine NoPanic.normal ?_
    go_split_ands
    have hbf : Below we.heap.size we w1 := by assumption
    obtain ⟨wf, rfl⟩ : ∃ wf, wf = w1 := ⟨_, rfl⟩
    obtain ⟨fq0, fq1, fq2, fq3, fq4, fq5, fq6, fq7, fq8, fq9, fq10⟩ := mv11 hbf hQe eq0 eq1 eq2 eq3 eq4 eq5 eq6 eq7 eq8 eq9 eq10
    obtain ⟨fv0, fv1, fv2, fv3, fv4⟩ := mv5 hbf hPe ev0 ev1 ev2 ev3 ev4
    have hzf : we.heap.size ≤ wf.heap.size := hbf.size
    have hbL : b < we.heap.size := hown'.out.lt
    have hownf := Lib.hid (hown'.out.below hbf)
    have hbg : Below (w.heap.size + 1) (w.alloc (.cells #[.int .i64 0, .int .i64 0, .string ⟨#[]⟩, .bool false, .int .i64 0] 26)) wf := hbx.trans (hbf.mono (by omega))
    have hq3 : Below w.heap.size w wf := hq2.trans (hbf.mono (by omega))
    have hQf : Q < wf.heap.size := by omega
    have hPf : P < wf.heap.size := by omega
    have hbf2 : b < wf.heap.size := by omega
    have hwf : w.heap.size < wf.heap.size := by omega
    have habf : ab < wf.heap.size := by omega
    have hC0 : ¬ C = 0 := by omega
    clear hbf hown' hbe' hbx hq2 eq0 eq1 eq2 eq3 eq4 eq5 eq6 eq7 eq8 eq9 eq10 ev0 ev1 ev2 ev3 ev4
    go_wp2
    go_loopw [46] (fun i wr => ∃ k : Nat, k ≤ N ∧ i = .int .i64 (k : Int) ∧ Hid (∀ j : Nat, j < k → (lookP (heldL x1) (nthL x1 j)).eqv x0.v = false) ∧ Below wf.heap.size wf wr) (fun i _ => N - (intOf i).toNat)
    case atStart => exact ⟨0, Nat.zero_le _, rfl, Lib.hid (fun j hj => absurd hj (Nat.not_lt_zero _)), Below.refl _ _⟩
    case round =>
     obtain ⟨k, hk, rfl, hno, hbr⟩ := hrel
     obtain ⟨gq0, gq1, gq2, gq3, gq4, gq5, gq6, gq7, gq8, gq9, gq10⟩ := mv11 hbr hQf fq0 fq1 fq2 fq3 fq4 fq5 fq6 fq7 fq8 fq9 fq10
     obtain ⟨gv0, gv1, gv2, gv3, gv4⟩ := mv5 hbr hPf fv0 fv1 fv2 fv3 fv4
     have hzr : wf.heap.size ≤ wr.heap.size := hbr.size
     have hownr := Lib.hid (hownf.out.below hbr)
     have hbh : Below (w.heap.size + 1) (w.alloc (.cells #[.int .i64 0, .int .i64 0, .string ⟨#[]⟩, .bool false, .int .i64 0] 26)) wr := hbg.trans (hbr.mono (by omega))
     have hq4 : Below w.heap.size w wr := hq3.trans (hbr.mono (by omega))
     have hQr : Q < wr.heap.size := by omega
     have hPr : P < wr.heap.size := by omega
     have hbr2 : b < wr.heap.size := by omega
     have hwr : w.heap.size < wr.heap.size := by omega
     have habr : ab < wr.heap.size := by omega
     clear hownf hbg hq3 fq0 fq1 fq2 fq3 fq4 fq5 fq6 fq7 fq8 fq9 fq10 fv0 fv1 fv2 fv3 fv4
     have hbr' := Lib.hid hbr
     clear hbr
     by_cases hlt : k < N
     ·have hkl : (k : Int) < (N : Int) := by omega
      obtain ⟨u, hu⟩ : ∃ u, (k : Int) / C = u := ⟨_, rfl⟩
      obtain ⟨v, hv⟩ : ∃ v, (k : Int) % C = v := ⟨_, rfl⟩
      have hub : 0 ≤ u ∧ u ≤ 17179869184 := by have h1 : 0 ≤ (k : Int) / C := Int.ediv_nonneg (by omega) (by omega); have h2 : (k : Int) / C ≤ k := Int.ediv_le_self _ (by omega); omega
      have hvb : 0 ≤ v ∧ v < C := by have h1 := Int.emod_nonneg (k : Int) (b := C) (by omega); have h2 := Int.emod_lt_of_pos (k : Int) (b := C) (by omega); omega
      have hqu : (k : Int).tdiv C = u := by rw [Int.tdiv_eq_ediv_of_nonneg (by omega)]; exact hu
      have hre_ : (k : Int).tmod C = v := by rw [Int.tmod_eq_emod_of_nonneg (by omega)]; exact hv
      have hwu : IntKind.i64.wrap u = u := IntWalk.i64_in _ (by omega)
      have hwv : IntKind.i64.wrap v = v := IntWalk.i64_in _ (by omega)
      have hnth : Hid (nthL x1 k = (u, v)) := Lib.hid (by unfold nthL; rw [hCc'.out, hu, hv])
      clear hu hv
      go_upto_region 8 with (fail)
      go_cut [9, 46] from 46 to 75 (fun a i wc => ∃ T, a = .pointer (some ⟨T, 0, none⟩) ∧ i = .int .i64 (k : Int) ∧ wr.heap.size ≤ T ∧ wc.heap[T]? = some (.cells #[.int .i64 u, .int .i64 v] 188 (0, 0)) ∧ Below wr.heap.size wr wc)
      case first =>
       refine wp_region_noPanic ?_
       refine wp_region_held_drew (S := fun w' => w'.cell? ⟨Q, 0, none⟩ = some (.bool x1.many) ∧ w'.cell? ⟨Q, 1, none⟩ = some (.int .i64 x1.v.t) ∧ w'.cell? ⟨Q, 2, none⟩ = some (.int .i64 x1.v.n) ∧ w'.cell? ⟨Q, 3, none⟩ = some (.string x1.v.s) ∧ w'.cell? ⟨Q, 4, none⟩ = some (.bool x1.v.b) ∧ w'.cell? ⟨Q, 5, none⟩ = some (.int .i64 x1.v.c) ∧ w'.cell? ⟨Q, 6, none⟩ = some (.int .i64 x1.t) ∧ w'.cell? ⟨Q, 7, none⟩ = some (.int .i64 x1.l) ∧ w'.cell? ⟨Q, 8, none⟩ = some (.int .i64 x1.b) ∧ w'.cell? ⟨Q, 9, none⟩ = some (.int .i64 x1.r) ∧ w'.cell? ⟨Q, 10, none⟩ = some (.slice x1.A x1.es.length x1.cap) ∧ Below wr.heap.size wr w' ∧ wr.heap.size ≤ w'.heap.size) (by kernel_rfl) kpI (fun hHeld => ?_)
       generalize wr.drew = wz at *
       refine sqT 0 hHeld ?_
       refine sqT 1 hHeld ?_
       refine sqT 4 hHeld ?_
       refine sqT 5 hHeld ?_
       refine wpAnyH_ready (rs := [2, 9]) (by kernel_rfl) (by simp) ?_
       refine AllReadyH.cons (o := ⟨_, _, _, _, _, _⟩) rfl (fun K hK => ?_) (AllReadyH.cons (o := ⟨_, _, _, _, _, _⟩) rfl (fun K hK => ?_) AllReadyH.nil)
       ·go_split_ands
        go_simp
        refine ((CC _).out).mono ?_
        rintro e w1 ⟨rfl, hb⟩
        refine hK.out _ _ ?_ (fun hHeld => ?_)
        ·exact kpB
        clear hK K hb
        refine sqT 3 hHeld ?_
        refine wpAnyH_ready (rs := [6, 9]) (by kernel_rfl) (by simp) ?_
        refine AllReadyH.cons (o := ⟨_, _, _, _, _, _⟩) rfl (fun K hK => ?_) (AllReadyH.cons (o := ⟨_, _, _, _, _, _⟩) rfl (fun K hK => ?_) AllReadyH.nil)
        ·go_split_ands
         go_simp
         refine ((CC _).out).mono ?_
         rintro e w1 ⟨rfl, hb⟩
         refine hK.out _ _ ?_ (fun hHeld => ?_)
         ·exact kpB
         clear hK K hb
         refine sqT 7 hHeld ?_
         refine sqT 8 hHeld ?_
         refine sqC 9 (fun K hK => ?_)
         go_split_ands
         go_simp
         have hZq : wr.heap.size ≤ w1.heap.size := by with_reducible assumption
         have hpT := blk_new w1 #[.int .i64 0, .int .i64 0] 188
         refine hK.out _ _ ?_ (fun hHeld => ?_)
         ·((try dsimp only); refine ⟨?_, ?_, ?_, ?_, ?_, ?_, ?_, ?_, ?_, ?_, ?_, ?_, ?_⟩ <;> first | exact bx_cellp (by dsimp only; omega) (by assumption) | exact Below.alloc (by assumption) (by omega) _ | (simp; omega))
         clear hK K
         try simp only [Act.put, List.setIfInBounds_toArray, List.set_cons_zero, List.set_cons_succ]
         generalize (w1.alloc (.cells #[.int .i64 0, .int .i64 0] 188)) = wn59 at *
         obtain ⟨T, hTe⟩ : ∃ b, w1.heap.size = b := ⟨_, rfl⟩
         rw [hTe] at hpT hZq ⊢
         have hlT := hZq
         clear hZq hTe
         refine sqC 10 (fun K hK => ?_)
         go_split_ands
         have hcl0 : wn59.cell? ⟨T, 0, none⟩ = some (.int .i64 0) := blk_cell hpT 0
         have hcl1 : wn59.cell? ⟨T, 1, none⟩ = some (.int .i64 0) := blk_cell hpT 1
         have hfz0 : wn59.frozen? ⟨T, 0, none⟩ = false := blk_frozen hpT 0
         have hfz1 : wn59.frozen? ⟨T, 1, none⟩ = false := blk_frozen hpT 1
         go_simp
         have hBq : Below wr.heap.size wr wn59 := by with_reducible assumption
         have hZq : wr.heap.size ≤ wn59.heap.size := by with_reducible assumption
         have hQT : T ≠ Q := by omega
         clear hcl0 hcl1 hfz0 hfz1
         obtain ⟨wq, he_wq⟩ : ∃ wq, wq = ((wn59.setCell ⟨T, 0, none⟩ (.int .i64 u)).setCell ⟨T, 1, none⟩ (.int .i64 v)) := ⟨_, rfl⟩
         rw [← he_wq]
         have hBf : Below wr.heap.size wr wq := by rw [he_wq]; exact below2 hBq hlT
         have hpF : wq.heap[T]? = some (.cells #[.int .i64 u, .int .i64 v] 188 (0, 0)) := by rw [he_wq]; exact row2 hpT
         have hZf : wr.heap.size ≤ wq.heap.size := by rw [he_wq]; exact size_sc2 hZq
         have hk0 : wq.cell? ⟨Q, 0, none⟩ = some (.bool x1.many) := by rw [he_wq]; exact cell_sc2 hQT (by with_reducible assumption)
         have hk1 : wq.cell? ⟨Q, 1, none⟩ = some (.int .i64 x1.v.t) := by rw [he_wq]; exact cell_sc2 hQT (by with_reducible assumption)
         have hk2 : wq.cell? ⟨Q, 2, none⟩ = some (.int .i64 x1.v.n) := by rw [he_wq]; exact cell_sc2 hQT (by with_reducible assumption)
         have hk3 : wq.cell? ⟨Q, 3, none⟩ = some (.string x1.v.s) := by rw [he_wq]; exact cell_sc2 hQT (by with_reducible assumption)
         have hk4 : wq.cell? ⟨Q, 4, none⟩ = some (.bool x1.v.b) := by rw [he_wq]; exact cell_sc2 hQT (by with_reducible assumption)
         have hk5 : wq.cell? ⟨Q, 5, none⟩ = some (.int .i64 x1.v.c) := by rw [he_wq]; exact cell_sc2 hQT (by with_reducible assumption)
         have hk6 : wq.cell? ⟨Q, 6, none⟩ = some (.int .i64 x1.t) := by rw [he_wq]; exact cell_sc2 hQT (by with_reducible assumption)
         have hk7 : wq.cell? ⟨Q, 7, none⟩ = some (.int .i64 x1.l) := by rw [he_wq]; exact cell_sc2 hQT (by with_reducible assumption)
         have hk8 : wq.cell? ⟨Q, 8, none⟩ = some (.int .i64 x1.b) := by rw [he_wq]; exact cell_sc2 hQT (by with_reducible assumption)
         have hk9 : wq.cell? ⟨Q, 9, none⟩ = some (.int .i64 x1.r) := by rw [he_wq]; exact cell_sc2 hQT (by with_reducible assumption)
         have hk10 : wq.cell? ⟨Q, 10, none⟩ = some (.slice x1.A x1.es.length x1.cap) := by rw [he_wq]; exact cell_sc2 hQT (by with_reducible assumption)
         clear hBq hZq hpT
         clear he_wq
         refine hK.out _ _ ?_ (fun hHeld => ?_)
         ·exact kpA
         clear hK K
         refine wpAnyH_done (by kernel_rfl) ?_ _
         refine NoPanic.normal ?_
         go_wp2
         go_meet
         case rel => exact ⟨T, rfl, rfl, hlT, hpF, hBf⟩
        ·go_split_ands
         go_simp
         have hZq : wr.heap.size ≤ w1.heap.size := by with_reducible assumption
         have hpT := blk_new w1 #[.int .i64 0, .int .i64 0] 188
         refine hK.out _ _ ?_ (fun hHeld => ?_)
         ·((try dsimp only); refine ⟨?_, ?_, ?_, ?_, ?_, ?_, ?_, ?_, ?_, ?_, ?_, ?_, ?_⟩ <;> first | exact bx_cellp (by dsimp only; omega) (by assumption) | exact Below.alloc (by assumption) (by omega) _ | (simp; omega))
         clear hK K
         try simp only [Act.put, List.setIfInBounds_toArray, List.set_cons_zero, List.set_cons_succ]
         generalize (w1.alloc (.cells #[.int .i64 0, .int .i64 0] 188)) = wn56 at *
         obtain ⟨T, hTe⟩ : ∃ b, w1.heap.size = b := ⟨_, rfl⟩
         rw [hTe] at hpT hZq ⊢
         have hlT := hZq
         clear hZq hTe
         refine sqC 6 (fun K hK => ?_)
         go_split_ands
         go_simp
         refine ((CC _).out).mono ?_
         rintro e w1 ⟨rfl, hb⟩
         have hpT := (hb.block T (Array.getElem?_eq_some_iff.1 hpT).1).trans hpT
         refine hK.out _ _ ?_ (fun hHeld => ?_)
         ·exact kpB
         clear hK K hb
         refine sqT 7 hHeld ?_
         refine sqT 8 hHeld ?_
         refine sqC 10 (fun K hK => ?_)
         go_split_ands
         have hcl0 : w1.cell? ⟨T, 0, none⟩ = some (.int .i64 0) := blk_cell hpT 0
         have hcl1 : w1.cell? ⟨T, 1, none⟩ = some (.int .i64 0) := blk_cell hpT 1
         have hfz0 : w1.frozen? ⟨T, 0, none⟩ = false := blk_frozen hpT 0
         have hfz1 : w1.frozen? ⟨T, 1, none⟩ = false := blk_frozen hpT 1
         go_simp
         have hBq : Below wr.heap.size wr w1 := by with_reducible assumption
         have hZq : wr.heap.size ≤ w1.heap.size := by with_reducible assumption
         have hQT : T ≠ Q := by omega
         clear hcl0 hcl1 hfz0 hfz1
         obtain ⟨wq, he_wq⟩ : ∃ wq, wq = ((w1.setCell ⟨T, 0, none⟩ (.int .i64 u)).setCell ⟨T, 1, none⟩ (.int .i64 v)) := ⟨_, rfl⟩
         rw [← he_wq]
         have hBf : Below wr.heap.size wr wq := by rw [he_wq]; exact below2 hBq hlT
         have hpF : wq.heap[T]? = some (.cells #[.int .i64 u, .int .i64 v] 188 (0, 0)) := by rw [he_wq]; exact row2 hpT
         have hZf : wr.heap.size ≤ wq.heap.size := by rw [he_wq]; exact size_sc2 hZq
         have hk0 : wq.cell? ⟨Q, 0, none⟩ = some (.bool x1.many) := by rw [he_wq]; exact cell_sc2 hQT (by with_reducible assumption)
         have hk1 : wq.cell? ⟨Q, 1, none⟩ = some (.int .i64 x1.v.t) := by rw [he_wq]; exact cell_sc2 hQT (by with_reducible assumption)
         have hk2 : wq.cell? ⟨Q, 2, none⟩ = some (.int .i64 x1.v.n) := by rw [he_wq]; exact cell_sc2 hQT (by with_reducible assumption)
         have hk3 : wq.cell? ⟨Q, 3, none⟩ = some (.string x1.v.s) := by rw [he_wq]; exact cell_sc2 hQT (by with_reducible assumption)
         have hk4 : wq.cell? ⟨Q, 4, none⟩ = some (.bool x1.v.b) := by rw [he_wq]; exact cell_sc2 hQT (by with_reducible assumption)
         have hk5 : wq.cell? ⟨Q, 5, none⟩ = some (.int .i64 x1.v.c) := by rw [he_wq]; exact cell_sc2 hQT (by with_reducible assumption)
         have hk6 : wq.cell? ⟨Q, 6, none⟩ = some (.int .i64 x1.t) := by rw [he_wq]; exact cell_sc2 hQT (by with_reducible assumption)
         have hk7 : wq.cell? ⟨Q, 7, none⟩ = some (.int .i64 x1.l) := by rw [he_wq]; exact cell_sc2 hQT (by with_reducible assumption)
         have hk8 : wq.cell? ⟨Q, 8, none⟩ = some (.int .i64 x1.b) := by rw [he_wq]; exact cell_sc2 hQT (by with_reducible assumption)
         have hk9 : wq.cell? ⟨Q, 9, none⟩ = some (.int .i64 x1.r) := by rw [he_wq]; exact cell_sc2 hQT (by with_reducible assumption)
         have hk10 : wq.cell? ⟨Q, 10, none⟩ = some (.slice x1.A x1.es.length x1.cap) := by rw [he_wq]; exact cell_sc2 hQT (by with_reducible assumption)
         clear hBq hZq hpT
         clear he_wq
         refine hK.out _ _ ?_ (fun hHeld => ?_)
         ·exact kpA
         clear hK K
         refine wpAnyH_done (by kernel_rfl) ?_ _
         refine NoPanic.normal ?_
         go_wp2
         go_meet
         case rel => exact ⟨T, rfl, rfl, hlT, hpF, hBf⟩
       ·go_split_ands
        go_simp
        have hZq : wr.heap.size ≤ wz.heap.size := by with_reducible assumption
        have hpT := blk_new wz #[.int .i64 0, .int .i64 0] 188
        refine hK.out _ _ ?_ (fun hHeld => ?_)
        ·((try dsimp only); refine ⟨?_, ?_, ?_, ?_, ?_, ?_, ?_, ?_, ?_, ?_, ?_, ?_, ?_⟩ <;> first | exact bx_cellp (by dsimp only; omega) (by assumption) | exact Below.alloc (by assumption) (by omega) _ | (simp; omega))
        clear hK K
        try simp only [Act.put, List.setIfInBounds_toArray, List.set_cons_zero, List.set_cons_succ]
        generalize (wz.alloc (.cells #[.int .i64 0, .int .i64 0] 188)) = wn52 at *
        obtain ⟨T, hTe⟩ : ∃ b, wz.heap.size = b := ⟨_, rfl⟩
        rw [hTe] at hpT hZq ⊢
        have hlT := hZq
        clear hZq hTe
        refine sqC 2 (fun K hK => ?_)
        go_split_ands
        go_simp
        refine ((CC _).out).mono ?_
        rintro e w1 ⟨rfl, hb⟩
        have hpT := (hb.block T (Array.getElem?_eq_some_iff.1 hpT).1).trans hpT
        refine hK.out _ _ ?_ (fun hHeld => ?_)
        ·exact kpB
        clear hK K hb
        refine sqT 3 hHeld ?_
        refine sqC 6 (fun K hK => ?_)
        go_split_ands
        go_simp
        refine ((CC _).out).mono ?_
        rintro e w1 ⟨rfl, hb⟩
        have hpT := (hb.block T (Array.getElem?_eq_some_iff.1 hpT).1).trans hpT
        refine hK.out _ _ ?_ (fun hHeld => ?_)
        ·exact kpB
        clear hK K hb
        refine sqT 7 hHeld ?_
        refine sqT 8 hHeld ?_
        refine sqC 10 (fun K hK => ?_)
        go_split_ands
        have hcl0 : w1.cell? ⟨T, 0, none⟩ = some (.int .i64 0) := blk_cell hpT 0
        have hcl1 : w1.cell? ⟨T, 1, none⟩ = some (.int .i64 0) := blk_cell hpT 1
        have hfz0 : w1.frozen? ⟨T, 0, none⟩ = false := blk_frozen hpT 0
        have hfz1 : w1.frozen? ⟨T, 1, none⟩ = false := blk_frozen hpT 1
        go_simp
        have hBq : Below wr.heap.size wr w1 := by with_reducible assumption
        have hZq : wr.heap.size ≤ w1.heap.size := by with_reducible assumption
        have hQT : T ≠ Q := by omega
        clear hcl0 hcl1 hfz0 hfz1
        obtain ⟨wq, he_wq⟩ : ∃ wq, wq = ((w1.setCell ⟨T, 0, none⟩ (.int .i64 u)).setCell ⟨T, 1, none⟩ (.int .i64 v)) := ⟨_, rfl⟩
        rw [← he_wq]
        have hBf : Below wr.heap.size wr wq := by rw [he_wq]; exact below2 hBq hlT
        have hpF : wq.heap[T]? = some (.cells #[.int .i64 u, .int .i64 v] 188 (0, 0)) := by rw [he_wq]; exact row2 hpT
        have hZf : wr.heap.size ≤ wq.heap.size := by rw [he_wq]; exact size_sc2 hZq
        have hk0 : wq.cell? ⟨Q, 0, none⟩ = some (.bool x1.many) := by rw [he_wq]; exact cell_sc2 hQT (by with_reducible assumption)
        have hk1 : wq.cell? ⟨Q, 1, none⟩ = some (.int .i64 x1.v.t) := by rw [he_wq]; exact cell_sc2 hQT (by with_reducible assumption)
        have hk2 : wq.cell? ⟨Q, 2, none⟩ = some (.int .i64 x1.v.n) := by rw [he_wq]; exact cell_sc2 hQT (by with_reducible assumption)
        have hk3 : wq.cell? ⟨Q, 3, none⟩ = some (.string x1.v.s) := by rw [he_wq]; exact cell_sc2 hQT (by with_reducible assumption)
        have hk4 : wq.cell? ⟨Q, 4, none⟩ = some (.bool x1.v.b) := by rw [he_wq]; exact cell_sc2 hQT (by with_reducible assumption)
        have hk5 : wq.cell? ⟨Q, 5, none⟩ = some (.int .i64 x1.v.c) := by rw [he_wq]; exact cell_sc2 hQT (by with_reducible assumption)
        have hk6 : wq.cell? ⟨Q, 6, none⟩ = some (.int .i64 x1.t) := by rw [he_wq]; exact cell_sc2 hQT (by with_reducible assumption)
        have hk7 : wq.cell? ⟨Q, 7, none⟩ = some (.int .i64 x1.l) := by rw [he_wq]; exact cell_sc2 hQT (by with_reducible assumption)
        have hk8 : wq.cell? ⟨Q, 8, none⟩ = some (.int .i64 x1.b) := by rw [he_wq]; exact cell_sc2 hQT (by with_reducible assumption)
        have hk9 : wq.cell? ⟨Q, 9, none⟩ = some (.int .i64 x1.r) := by rw [he_wq]; exact cell_sc2 hQT (by with_reducible assumption)
        have hk10 : wq.cell? ⟨Q, 10, none⟩ = some (.slice x1.A x1.es.length x1.cap) := by rw [he_wq]; exact cell_sc2 hQT (by with_reducible assumption)
        clear hBq hZq hpT
        clear he_wq
        refine hK.out _ _ ?_ (fun hHeld => ?_)
        ·exact kpA
        clear hK K
        refine wpAnyH_done (by kernel_rfl) ?_ _
        refine NoPanic.normal ?_
        go_wp2
        go_meet
        case rel => exact ⟨T, rfl, rfl, hlT, hpF, hBf⟩
      case rest =>
       obtain ⟨T, rfl, rfl, hlT, hpT, hbc⟩ := hcut
       obtain ⟨iv0, iv1, iv2, iv3, iv4⟩ := mv5 hbc hPr gv0 gv1 gv2 gv3 gv4
       have it0 : wc.cell? ⟨T, 0, none⟩ = some (.int .i64 u) := blk_cell hpT 0
       have it1 : wc.cell? ⟨T, 1, none⟩ = some (.int .i64 v) := blk_cell hpT 1
       have hzc : wr.heap.size ≤ wc.heap.size := hbc.size
       have hTc : T < wc.heap.size := (Array.getElem?_eq_some_iff.1 hpT).1
       have hownc := hownr.out.below hbc
       have hbi : Below (w.heap.size + 1) (w.alloc (.cells #[.int .i64 0, .int .i64 0, .string ⟨#[]⟩, .bool false, .int .i64 0] 26)) wc := hbh.trans (hbc.mono (by omega))
       have hq5 : Below w.heap.size w wc := hq4.trans (hbc.mono (by omega))
       have hbm : Below wf.heap.size wf wc := hbr'.out.trans (hbc.mono (by omega))
       have hwc : w.heap.size < wc.heap.size := by omega
       have hpb : plB (u, v) := by unfold plB; dsimp only; omega
       obtain ⟨y, hy⟩ : ∃ y, lookP (heldL x1) (u, v) = y := ⟨_, rfl⟩
       have hrunA := fun w2 (h : Below wc.heap.size wc w2) => run_lookP (hownc.below h) hpb
       rw [hy] at hrunA
       unfold vlV at hrunA
       dsimp only at hrunA
       obtain ⟨z, hz⟩ : ∃ z, y.eqv x0.v = z := ⟨_, rfl⟩
       have hyz : Hid ((lookP (heldL x1) (nthL x1 k)).eqv x0.v = z) := Lib.hid (by rw [hnth.out, hy]; exact hz)
       unfold VL.eqv at hz
       have hpb' := Lib.hid hpb
       have hownc' := Lib.hid hownc
       have hbm' := Lib.hid hbm
       have hbc' := Lib.hid hbc
       clear hy hownc hpb hbm hbc hownr hbh hq4 hbr' gq0 gq1 gq2 gq3 gq4 gq5 gq6 gq7 gq8 gq9 gq10 gv0 gv1 gv2 gv3 gv4
       go_upto_region 9 with (fail)
       refine wp_region_noPanic ?_
       refine wp_region_held_drew (S := fun w' => w'.cell? ⟨P, 0, none⟩ = some (.int .i64 x0.v.t) ∧ w'.cell? ⟨P, 1, none⟩ = some (.int .i64 x0.v.n) ∧ w'.cell? ⟨P, 2, none⟩ = some (.string x0.v.s) ∧ w'.cell? ⟨P, 3, none⟩ = some (.bool x0.v.b) ∧ w'.cell? ⟨P, 4, none⟩ = some (.int .i64 x0.v.c) ∧ w'.cell? ⟨T, 0, none⟩ = some (.int .i64 u) ∧ w'.cell? ⟨T, 1, none⟩ = some (.int .i64 v) ∧ Below wc.heap.size wc w') (by kernel_rfl) kpI (fun hHeld => ?_)
       generalize wc.drew = wz at *
       refine sqT 0 hHeld ?_
       refine sqT 1 hHeld ?_
       refine wpAnyH_take (i := 2) (oi := ⟨_, _, _, _, _, _⟩) (v := .agg #[.int .i64 y.t, .int .i64 y.n, .string y.s, .bool y.b, .int .i64 y.c]) rfl (by kernel_rfl) (by kernel_rfl) (by kernel_rfl) (fun _ _ _ h => h) (Or.inl ⟨by rfl, ?hyL⟩) hHeld ?restL
       case hyL => (intro w2 hSw; (try dsimp only at hSw); go_split_ands; have hrun := hrunA w2 (by with_reducible assumption); go_simp; first | done | exact hrun)
       refine sqT 3 hHeld ?_
       refine sqT 4 hHeld ?_
       refine wpAnyH_done (by kernel_rfl) ?_ _
       refine NoPanic.normal ?_
       go_split_ands
       have hbz : Below wc.heap.size wc wz := by with_reducible assumption
       clear hrunA
       have hwz : w.heap.size < wz.heap.size := Nat.lt_of_lt_of_le hwc hbz.size
       have hq6 : Below w.heap.size w wz := hq5.trans (hbz.mono (by omega))
       cases z
       ·go_wp2
        exact ⟨⟨k + 1, by omega, by go_num, Lib.hid (fun j hj => by rcases Nat.lt_succ_iff_lt_or_eq.1 hj with h | rfl; exact hno.out j h; exact hyz.out), hbm'.out.trans (hbz.mono (by omega))⟩, by simp [intOf]; omega⟩
       ·have hbj := hbi.trans (hbz.mono (by omega))
        have hFs := Ffirst_some (v := x0.v) (x := x1) hlt hyz.out hno.out
        rw [hfr.out] at hFs
        have hFs' := Lib.hid hFs
        clear hFs
        have hre2 : Hid (numL (((k : Int) + 1) * 10000) = rs) := Lib.hid (by rw [← hre.out]; unfold lookR2; rw [hFs'.out])
        clear hre hFs'
        have hwk : IntKind.i64.wrap ((k : Int) + 1) = (k : Int) + 1 := IntWalk.i64_in _ (by omega)
        go_wp2_with fail
        refine (awhole_any ((k : Int) + 1) (by omega) _).mono ?_
        rintro e w8 ⟨rfl, hb8⟩
        obtain ⟨gc8, gf8, gz8⟩ := bkeep hb8 (w.heap.size + 1) (by first | omega | (simp <;> omega))
        obtain ⟨yy, hyy⟩ : ∃ yy, numL (((k : Int) + 1) * 10000) = yy := ⟨_, rfl⟩
        rw [hyy] at hre2 ⊢
        obtain ⟨hr0, hr1, hr2, hr3, hr4, hs0, hs1, hs2, hs3, hs4⟩ := res5 hbj
        go_wp2
        refine bodyPost_ret (v := .agg #[.int .i64 (yy).t, .int .i64 (yy).n, .string (yy).s, .bool (yy).b, .int .i64 (yy).c]) ?_ rfl ⟨by rw [hre2.out], belq⟩
        simp [results, Tryz.results117, go_sem, *]
     ·obtain rfl : k = N := by omega
      have hkl : ¬ (k : Int) < (k : Int) := by omega
      obtain ⟨hr0, hr1, hr2, hr3, hr4, hs0, hs1, hs2, hs3, hs4⟩ := res5 hbh
      have hFn := Ffirst_none (v := x0.v) (x := x1) hno.out
      rw [hfr.out] at hFn
      have hFn' := Lib.hid hFn
      have hre2 : Hid (errL 6 = rs) := Lib.hid (by rw [← hre.out]; unfold lookR2; rw [hFn])
      clear hFn hre
      go_wp2_with (go_at_call 11; refine (verr_any 6 _).mono ?_; rintro e w9 ⟨rfl, hb9⟩; obtain ⟨gc9, gf9, gz9⟩ := bkeep hb9 (w.heap.size + 1) (by first | omega | (simp <;> omega)))
      refine bodyPost_ret (v := .agg #[.int .i64 ((errL 6)).t, .int .i64 ((errL 6)).n, .string ((errL 6)).s, .bool ((errL 6)).b, .int .i64 ((errL 6)).c]) ?_ rfl ⟨by rw [hre2.out], belq⟩
      simp [results, Tryz.results117, go_sem, errL, *]
   ·have hr0 : wd.cell? ⟨w.heap.size, 0, none⟩ = some (.int .i64 0) := (hbw.cell (p := ⟨w.heap.size, 0, none⟩) (by dsimp only; omega)).trans (c_at rfl rfl)
    have hr1 : wd.cell? ⟨w.heap.size, 1, none⟩ = some (.int .i64 0) := (hbw.cell (p := ⟨w.heap.size, 1, none⟩) (by dsimp only; omega)).trans (c_at rfl rfl)
    have hr2 : wd.cell? ⟨w.heap.size, 2, none⟩ = some (.string ⟨#[]⟩) := (hbw.cell (p := ⟨w.heap.size, 2, none⟩) (by dsimp only; omega)).trans (c_at rfl rfl)
    have hr3 : wd.cell? ⟨w.heap.size, 3, none⟩ = some (.bool false) := (hbw.cell (p := ⟨w.heap.size, 3, none⟩) (by dsimp only; omega)).trans (c_at rfl rfl)
    have hr4 : wd.cell? ⟨w.heap.size, 4, none⟩ = some (.int .i64 0) := (hbw.cell (p := ⟨w.heap.size, 4, none⟩) (by dsimp only; omega)).trans (c_at rfl rfl)
    have hs0 : wd.frozen? ⟨w.heap.size, 0, none⟩ = false := (hbw.frozen (p := ⟨w.heap.size, 0, none⟩) (by dsimp only; omega)).trans (f_at rfl)
    have hs1 : wd.frozen? ⟨w.heap.size, 1, none⟩ = false := (hbw.frozen (p := ⟨w.heap.size, 1, none⟩) (by dsimp only; omega)).trans (f_at rfl)
    have hs2 : wd.frozen? ⟨w.heap.size, 2, none⟩ = false := (hbw.frozen (p := ⟨w.heap.size, 2, none⟩) (by dsimp only; omega)).trans (f_at rfl)
    have hs3 : wd.frozen? ⟨w.heap.size, 3, none⟩ = false := (hbw.frozen (p := ⟨w.heap.size, 3, none⟩) (by dsimp only; omega)).trans (f_at rfl)
    have hs4 : wd.frozen? ⟨w.heap.size, 4, none⟩ = false := (hbw.frozen (p := ⟨w.heap.size, 4, none⟩) (by dsimp only; omega)).trans (f_at rfl)
    go_wp2_with (go_at_call 11; refine (verr_any 8 _).mono ?_; rintro e w9 ⟨rfl, hb9⟩; obtain ⟨gc9, gf9, gz9⟩ := bkeep hb9 (w.heap.size + 1) (by first | omega | (simp <;> omega)))
    have hre : errL 8 = rs := hres'.out
    refine bodyPost_ret (v := .agg #[.int .i64 ((errL 8)).t, .int .i64 ((errL 8)).n, .string ((errL 8)).s, .bool ((errL 8)).b, .int .i64 ((errL 8)).c]) ?_ rfl ⟨by rw [← hre], belq⟩
    simp [results, Tryz.results117, go_sem, errL, *]
end Go.Proofs.YtgmhifafbebjfaaGreatDoor
