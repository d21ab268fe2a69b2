/-
 steps that stand in many texts, told once; Contracts of the functions of package addr that only compute (May, MayRect, In, Before), and of the document's own.
-/
import Derived.Test.YtgmhifafbebjfaaGreatDoorMg0
set_option maxRecDepth 100000
set_option maxHeartbeats 32000000
namespace Go.Proofs.YtgmhifafbebjfaaGreatDoor
open Go.RowKit
theorem belq {p : Prop} (h : p := by (repeat (first | (with_reducible exact Below.refl _ _) | (with_reducible refine Below.alloc ?_ (by first | omega | (dsimp only; omega) | (simp <;> omega)) _) | (with_reducible refine Below.setCell ?_ (by first | omega | (dsimp only; omega) | (simp <;> omega)) _) | (with_reducible refine Below.drew ?_) | (with_reducible refine below_drewN ?_ _) | (with_reducible refine Below.trans ?_ (Below.mono (by assumption) (by first | omega | (dsimp only; omega) | (simp <;> omega))))))) : p := h
section
variable {P : Program} {ops : Array Oper} {Q : Exit → Act → World → Prop} {md : Region.Mode} {S : World → Prop}
theorem sqT (i : Nat) {d : Option Nat} {op : Op} {ty : TypeId} {ps : String} {af : Array Edge} {g : Option (Nat × Bool)} {v : Value} {fuel : Nat} {listed l' : Array Bool} {a a' : Act} {w : World} (hS : S w)
  (h : wpAnyH P md ops Q S fuel l' a' w) (hi : ops[i]? = some ⟨d, op, ty, ps, af, g⟩ := by rfl) (hs : Region.noSelect ops = true := by kernel_rfl) (hf : Region.free md ops listed i = true := by kernel_rfl) (hr : (Region.ready md ops listed).contains i = true := by kernel_rfl)
  (hw : Region.wanted ⟨d, op, ty, ps, af, g⟩ (yielded ops a.tmps) = true := by rfl)
  (hy : ∀ w, S w → (execOp a.eval ⟨d, op, ty, ps, af, g⟩).run P w = .ok (.value v) w := by (intro w2 hSw; (try dsimp only at hSw); go_split_ands; go_simp; first | done | with_reducible rfl))
  (hQ : ∀ c a0 w, Q (.panic c) (a0.put d v) w → Q (.panic c) a0 w := by exact fun _ _ _ h => h)
  (ha : a.put d v = a' := by ((try simp only [Act.put, List.setIfInBounds_toArray, List.set_cons_zero, List.set_cons_succ]); rfl)) (hl : listed.setIfInBounds i true = l' := by ((try simp only [List.setIfInBounds_toArray, List.set_cons_zero, List.set_cons_succ]); rfl)) : wpAnyH P md ops Q S (fuel + 1) listed a w := by
 subst ha hl
 exact wpAnyH_take hi hs hf hr hQ (.inl ⟨hw, hy⟩) hS h
theorem sqS (i : Nat) {d : Option Nat} {op : Op} {ty : TypeId} {ps : String} {af : Array Edge} {g : Option (Nat × Bool)} {fuel : Nat} {listed l' : Array Bool} {a a' : Act} {w : World} (hS : S w)
  (h : wpAnyH P md ops Q S fuel l' a' w) (hi : ops[i]? = some ⟨d, op, ty, ps, af, g⟩ := by rfl) (hs : Region.noSelect ops = true := by kernel_rfl) (hf : Region.free md ops listed i = true := by kernel_rfl) (hr : (Region.ready md ops listed).contains i = true := by kernel_rfl)
  (hw : Region.wanted ⟨d, op, ty, ps, af, g⟩ (yielded ops a.tmps) = false := by rfl)
  (hQ : ∀ c a0 w, Q (.panic c) (a0.put d undef) w → Q (.panic c) a0 w := by exact fun _ _ _ h => h)
  (ha : a.put d undef = a' := by ((try simp only [Act.put, List.setIfInBounds_toArray, List.set_cons_zero, List.set_cons_succ]); rfl)) (hl : listed.setIfInBounds i true = l' := by ((try simp only [List.setIfInBounds_toArray, List.set_cons_zero, List.set_cons_succ]); rfl)) : wpAnyH P md ops Q S (fuel + 1) listed a w := by
 subst ha hl
 exact wpAnyH_take hi hs hf hr hQ (.inr ⟨hw, rfl⟩) hS h
theorem sqC (i : Nat) {d : Option Nat} {op : Op} {ty : TypeId} {ps : String} {af : Array Edge} {g : Option (Nat × Bool)} {fuel : Nat} {listed : Array Bool} {a : Act} {w : World}
  (h : ∀ K' : Act → World → Prop, Shut (∀ a w, S w → (S w → wpAnyH P md ops Q S fuel (listed.setIfInBounds i true) a w) → K' a w) → if Region.wanted ⟨d, op, ty, ps, af, g⟩ (yielded ops a.tmps) = true then Oper.wp P ⟨d, op, ty, ps, af, g⟩ a w K' Q else K' (a.put d undef) w)
  (hr : Region.ready md ops listed = [i] := by kernel_rfl) (ho : ops[i]? = some ⟨d, op, ty, ps, af, g⟩ := by rfl) : wpAnyH P md ops Q S (fuel + 1) listed a w :=
 wpAnyH_ready hr (by simp) (AllReadyH.cons ho h AllReadyH.nil)
end
theorem kpB {p : Prop} (h : p := by ((try dsimp only); (repeat' apply And.intro) <;> first | (rw [hb.cell (by dsimp only; omega)]; assumption) | exact Below.trans (by assumption) (hb.mono (by omega)) | (have := hb.size; omega))) : p := h
theorem kpA {p : Prop} (h : p := by ((try dsimp only); (repeat' apply And.intro) <;> with_reducible assumption)) : p := h
theorem kpI {p : Prop} (h : p := by ((try dsimp only); (repeat' apply And.intro) <;> first | assumption | exact Below.drew (Below.refl _ _) | exact Nat.le_refl _)) : p := h
theorem res5 {w0 W : World} {T : TypeId} {n : Nat} (h : Below (n + 1) (w0.alloc (.cells #[.int .i64 0, .int .i64 0, .string ⟨#[]⟩, .bool false, .int .i64 0] T)) W) (hn : w0.heap.size = n := by simp) : W.cell? ⟨n, 0, none⟩ = some (.int .i64 0) ∧ W.cell? ⟨n, 1, none⟩ = some (.int .i64 0) ∧ W.cell? ⟨n, 2, none⟩ = some (.string ⟨#[]⟩) ∧ W.cell? ⟨n, 3, none⟩ = some (.bool false) ∧ W.cell? ⟨n, 4, none⟩ = some (.int .i64 0) ∧ W.frozen? ⟨n, 0, none⟩ = false ∧ W.frozen? ⟨n, 1, none⟩ = false ∧ W.frozen? ⟨n, 2, none⟩ = false ∧ W.frozen? ⟨n, 3, none⟩ = false ∧ W.frozen? ⟨n, 4, none⟩ = false := by
 have q1 : ∀ (j : Nat) (v : Value), (#[.int .i64 0, .int .i64 0, .string ⟨#[]⟩, .bool false, .int .i64 0] : Array Value)[j]? = some v → (w0.alloc (.cells #[.int .i64 0, .int .i64 0, .string ⟨#[]⟩, .bool false, .int .i64 0] T)).cell? ⟨n, j, none⟩ = some v := fun j v hv => by
  subst hn
  rw [cell_of_row _ w0.heap.size _ #[.int .i64 0, .int .i64 0, .string ⟨#[]⟩, .bool false, .int .i64 0] T (0, 0) (heap_alloc_new _ _)]
  exact hv
 have q2 : ∀ j, (w0.alloc (.cells #[.int .i64 0, .int .i64 0, .string ⟨#[]⟩, .bool false, .int .i64 0] T)).frozen? ⟨n, j, none⟩ = false := fun j => by subst hn; simp
 exact ⟨(h.cell (p := ⟨n, 0, none⟩) (by dsimp only; omega)).trans (q1 0 _ rfl), (h.cell (p := ⟨n, 1, none⟩) (by dsimp only; omega)).trans (q1 1 _ rfl), (h.cell (p := ⟨n, 2, none⟩) (by dsimp only; omega)).trans (q1 2 _ rfl), (h.cell (p := ⟨n, 3, none⟩) (by dsimp only; omega)).trans (q1 3 _ rfl), (h.cell (p := ⟨n, 4, none⟩) (by dsimp only; omega)).trans (q1 4 _ rfl), (h.frozen (p := ⟨n, 0, none⟩) (by dsimp only; omega)).trans (q2 0), (h.frozen (p := ⟨n, 1, none⟩) (by dsimp only; omega)).trans (q2 1), (h.frozen (p := ⟨n, 2, none⟩) (by dsimp only; omega)).trans (q2 2), (h.frozen (p := ⟨n, 3, none⟩) (by dsimp only; omega)).trans (q2 3), (h.frozen (p := ⟨n, 4, none⟩) (by dsimp only; omega)).trans (q2 4)⟩
theorem mv5 {B : Nat} {W W' : World} {b o0 o1 o2 o3 o4 : Nat} {v0 v1 v2 v3 v4 : Value} (h : Below B W W') (hb : b < B) (s0 : W.cell? ⟨b, o0, none⟩ = some v0) (s1 : W.cell? ⟨b, o1, none⟩ = some v1) (s2 : W.cell? ⟨b, o2, none⟩ = some v2) (s3 : W.cell? ⟨b, o3, none⟩ = some v3) (s4 : W.cell? ⟨b, o4, none⟩ = some v4) : W'.cell? ⟨b, o0, none⟩ = some v0 ∧ W'.cell? ⟨b, o1, none⟩ = some v1 ∧ W'.cell? ⟨b, o2, none⟩ = some v2 ∧ W'.cell? ⟨b, o3, none⟩ = some v3 ∧ W'.cell? ⟨b, o4, none⟩ = some v4 := ⟨(h.cell (p := ⟨b, o0, none⟩) hb).trans s0, (h.cell (p := ⟨b, o1, none⟩) hb).trans s1, (h.cell (p := ⟨b, o2, none⟩) hb).trans s2, (h.cell (p := ⟨b, o3, none⟩) hb).trans s3, (h.cell (p := ⟨b, o4, none⟩) hb).trans s4⟩
theorem mv11 {B : Nat} {W W' : World} {b o0 o1 o2 o3 o4 o5 o6 o7 o8 o9 o10 : Nat} {v0 v1 v2 v3 v4 v5 v6 v7 v8 v9 v10 : Value} (h : Below B W W') (hb : b < B) (s0 : W.cell? ⟨b, o0, none⟩ = some v0) (s1 : W.cell? ⟨b, o1, none⟩ = some v1) (s2 : W.cell? ⟨b, o2, none⟩ = some v2) (s3 : W.cell? ⟨b, o3, none⟩ = some v3) (s4 : W.cell? ⟨b, o4, none⟩ = some v4) (s5 : W.cell? ⟨b, o5, none⟩ = some v5) (s6 : W.cell? ⟨b, o6, none⟩ = some v6) (s7 : W.cell? ⟨b, o7, none⟩ = some v7) (s8 : W.cell? ⟨b, o8, none⟩ = some v8) (s9 : W.cell? ⟨b, o9, none⟩ = some v9) (s10 : W.cell? ⟨b, o10, none⟩ = some v10) : W'.cell? ⟨b, o0, none⟩ = some v0 ∧ W'.cell? ⟨b, o1, none⟩ = some v1 ∧ W'.cell? ⟨b, o2, none⟩ = some v2 ∧ W'.cell? ⟨b, o3, none⟩ = some v3 ∧ W'.cell? ⟨b, o4, none⟩ = some v4 ∧ W'.cell? ⟨b, o5, none⟩ = some v5 ∧ W'.cell? ⟨b, o6, none⟩ = some v6 ∧ W'.cell? ⟨b, o7, none⟩ = some v7 ∧ W'.cell? ⟨b, o8, none⟩ = some v8 ∧ W'.cell? ⟨b, o9, none⟩ = some v9 ∧ W'.cell? ⟨b, o10, none⟩ = some v10 := ⟨(h.cell (p := ⟨b, o0, none⟩) hb).trans s0, (h.cell (p := ⟨b, o1, none⟩) hb).trans s1, (h.cell (p := ⟨b, o2, none⟩) hb).trans s2, (h.cell (p := ⟨b, o3, none⟩) hb).trans s3, (h.cell (p := ⟨b, o4, none⟩) hb).trans s4, (h.cell (p := ⟨b, o5, none⟩) hb).trans s5, (h.cell (p := ⟨b, o6, none⟩) hb).trans s6, (h.cell (p := ⟨b, o7, none⟩) hb).trans s7, (h.cell (p := ⟨b, o8, none⟩) hb).trans s8, (h.cell (p := ⟨b, o9, none⟩) hb).trans s9, (h.cell (p := ⟨b, o10, none⟩) hb).trans s10⟩
theorem res5a {w0 W : World} {T : TypeId} {n B : Nat} (h : Below B (w0.alloc (.cells #[.int .i64 0, .int .i64 0, .string ⟨#[]⟩, .bool false, .int .i64 0] T)) W) (hn : w0.heap.size = n := by simp) (hB : n + 1 ≤ B := by first | omega | (simp; done) | (simp; omega)) : W.cell? ⟨n, 0, none⟩ = some (.int .i64 0) ∧ W.cell? ⟨n, 1, none⟩ = some (.int .i64 0) ∧ W.cell? ⟨n, 2, none⟩ = some (.string ⟨#[]⟩) ∧ W.cell? ⟨n, 3, none⟩ = some (.bool false) ∧ W.cell? ⟨n, 4, none⟩ = some (.int .i64 0) ∧ W.frozen? ⟨n, 0, none⟩ = false ∧ W.frozen? ⟨n, 1, none⟩ = false ∧ W.frozen? ⟨n, 2, none⟩ = false ∧ W.frozen? ⟨n, 3, none⟩ = false ∧ W.frozen? ⟨n, 4, none⟩ = false := res5 (h.mono hB) hn
theorem res5b {w0 W : World} {T : TypeId} {n B : Nat} {O : Obj} (h : Below B ((w0.alloc (.cells #[.int .i64 0, .int .i64 0, .string ⟨#[]⟩, .bool false, .int .i64 0] T)).alloc O) W) (hn : w0.heap.size = n := by simp) (hB : n + 1 ≤ B := by first | omega | (simp; done) | (simp; omega)) : W.cell? ⟨n, 0, none⟩ = some (.int .i64 0) ∧ W.cell? ⟨n, 1, none⟩ = some (.int .i64 0) ∧ W.cell? ⟨n, 2, none⟩ = some (.string ⟨#[]⟩) ∧ W.cell? ⟨n, 3, none⟩ = some (.bool false) ∧ W.cell? ⟨n, 4, none⟩ = some (.int .i64 0) ∧ W.frozen? ⟨n, 0, none⟩ = false ∧ W.frozen? ⟨n, 1, none⟩ = false ∧ W.frozen? ⟨n, 2, none⟩ = false ∧ W.frozen? ⟨n, 3, none⟩ = false ∧ W.frozen? ⟨n, 4, none⟩ = false := res5 (((Below.refl _ _).alloc (by simp; omega) O).trans (h.mono hB)) hn
theorem hk1 {p : Prop} (h : p := by (go_split_ands; (repeat' apply And.intro) <;> first | (rw [hb.cell (by dsimp only; omega)]; assumption) | exact ResAt.below (by assumption) hb (by omega) | exact Below.trans (by assumption) (hb.mono (by omega)) | (have := hb.size; omega))) : p := h

def inB (t l b r row col : Int) : Bool := decide (t ≤ row) && decide (row ≤ b) && decide (l ≤ col) && decide (col ≤ r)
def mayB (row col : Int) : Bool := decide (1 ≤ row) && decide (row ≤ 4096) && decide (1 ≤ col) && decide (col ≤ 256)
def mayRectB (t l b r : Int) : Bool := mayB t l && mayB b r && decide (t ≤ b) && decide (l ≤ r)
def befB (r c r' c' : Int) : Bool := decide (r < r') || (decide (r = r') && decide (c < c'))

theorem may_any (a b : Int) (w : World) :
  Calls Tryz.prog 137 #[.agg #[.int .i64 a, .int .i64 b]] w
   fun e w' => e = .returned (.bool (mayB a b)) ∧ Below w.heap.size w w' := by
 go_enter Tryz.func137, Tryz.ntmps137
 go_wp2
 all_goals go_ret
 all_goals refine ⟨congrArg (fun b => Ending.returned (Value.bool b)) (Bool.eq_iff_iff.2 ?_), belq⟩
 all_goals simp [mayB]
 all_goals omega
theorem rmay_any (a b : Int) (w : World) :
  Calls Tryz.prog 204 #[.agg #[.int .i64 a, .int .i64 b]] w
   fun e w' => e = .returned (.bool (mayB a b)) ∧ Below w.heap.size w w' := by
 go_enter Tryz.func204, Tryz.ntmps204
 go_wp2
 all_goals go_ret
 all_goals refine ⟨congrArg (fun b => Ending.returned (Value.bool b)) (Bool.eq_iff_iff.2 ?_), belq⟩
 all_goals simp [mayB]
 all_goals omega
theorem first_any (t l b r : Int) (w : World) :
  Calls Tryz.prog 138 #[.agg #[.int .i64 t, .int .i64 l, .int .i64 b, .int .i64 r]] w
   fun e w' => e = .returned (.agg #[.int .i64 t, .int .i64 l]) ∧ Below w.heap.size w w' := by
 go_enter Tryz.func138, Tryz.ntmps138
 go_wp2
 exact bodyPost_ret (v := .agg #[.int .i64 t, .int .i64 l]) (by simp [results, Tryz.results138, go_sem]) rfl ⟨rfl, belq⟩
theorem last_any (t l b r : Int) (w : World) :
  Calls Tryz.prog 139 #[.agg #[.int .i64 t, .int .i64 l, .int .i64 b, .int .i64 r]] w
   fun e w' => e = .returned (.agg #[.int .i64 b, .int .i64 r]) ∧ Below w.heap.size w w' := by
 go_enter Tryz.func139, Tryz.ntmps139
 go_wp2
 exact bodyPost_ret (v := .agg #[.int .i64 b, .int .i64 r]) (by simp [results, Tryz.results139, go_sem]) rfl ⟨rfl, belq⟩
theorem mayRect0 (t l b r : Int) (h1 : mayB t l = true) (h2 : mayB b r = true) (w : World) :
  Calls Tryz.prog 60 #[.agg #[.int .i64 t, .int .i64 l, .int .i64 b, .int .i64 r]] w
   fun e w' => e = .returned (.bool (mayRectB t l b r)) ∧ Below w.heap.size w w' := by
 go_enter Tryz.func60, Tryz.ntmps60
 go_wp2_with (first | (go_at_call 138; refine (first_any _ _ _ _ _).mono ?_; rintro e w1 ⟨rfl, hb⟩; obtain ⟨hc, hf, hz⟩ := bkeep hb (w.heap.size + 1) (by first | omega | (simp <;> omega))) | (go_at_call 139; refine (last_any _ _ _ _ _).mono ?_; rintro e w1 ⟨rfl, hb⟩; obtain ⟨hc, hf, hz⟩ := bkeep hb (w.heap.size + 1) (by first | omega | (simp <;> omega))) | (go_at_call 137; refine (may_any _ _ _).mono ?_; rintro e w1 ⟨rfl, hb⟩; obtain ⟨hc, hf, hz⟩ := bkeep hb (w.heap.size + 1) (by first | omega | (simp <;> omega))))
 all_goals go_ret
 all_goals refine ⟨congrArg (fun b => Ending.returned (Value.bool b)) (Bool.eq_iff_iff.2 ?_), belq⟩
 all_goals simp [mayRectB, h1, h2]
 all_goals omega
theorem mayRect1 (t l b r : Int) (h1 : mayB t l = true) (h2 : mayB b r = false) (w : World) :
  Calls Tryz.prog 60 #[.agg #[.int .i64 t, .int .i64 l, .int .i64 b, .int .i64 r]] w
   fun e w' => e = .returned (.bool (mayRectB t l b r)) ∧ Below w.heap.size w w' := by
 go_enter Tryz.func60, Tryz.ntmps60
 go_wp2_with (first | (go_at_call 138; refine (first_any _ _ _ _ _).mono ?_; rintro e w1 ⟨rfl, hb⟩; obtain ⟨hc, hf, hz⟩ := bkeep hb (w.heap.size + 1) (by first | omega | (simp <;> omega))) | (go_at_call 139; refine (last_any _ _ _ _ _).mono ?_; rintro e w1 ⟨rfl, hb⟩; obtain ⟨hc, hf, hz⟩ := bkeep hb (w.heap.size + 1) (by first | omega | (simp <;> omega))) | (go_at_call 137; refine (may_any _ _ _).mono ?_; rintro e w1 ⟨rfl, hb⟩; obtain ⟨hc, hf, hz⟩ := bkeep hb (w.heap.size + 1) (by first | omega | (simp <;> omega))))
 all_goals go_ret
 all_goals refine ⟨congrArg (fun b => Ending.returned (Value.bool b)) (Bool.eq_iff_iff.2 ?_), belq⟩
 all_goals simp [mayRectB, h1, h2]
 all_goals omega
theorem mayRect2 (t l b r : Int) (h1 : mayB t l = false) (w : World) :
  Calls Tryz.prog 60 #[.agg #[.int .i64 t, .int .i64 l, .int .i64 b, .int .i64 r]] w
   fun e w' => e = .returned (.bool (mayRectB t l b r)) ∧ Below w.heap.size w w' := by
 go_enter Tryz.func60, Tryz.ntmps60
 go_wp2_with (first | (go_at_call 138; refine (first_any _ _ _ _ _).mono ?_; rintro e w1 ⟨rfl, hb⟩; obtain ⟨hc, hf, hz⟩ := bkeep hb (w.heap.size + 1) (by first | omega | (simp <;> omega))) | (go_at_call 139; refine (last_any _ _ _ _ _).mono ?_; rintro e w1 ⟨rfl, hb⟩; obtain ⟨hc, hf, hz⟩ := bkeep hb (w.heap.size + 1) (by first | omega | (simp <;> omega))) | (go_at_call 137; refine (may_any _ _ _).mono ?_; rintro e w1 ⟨rfl, hb⟩; obtain ⟨hc, hf, hz⟩ := bkeep hb (w.heap.size + 1) (by first | omega | (simp <;> omega))))
 all_goals go_ret
 all_goals refine ⟨congrArg (fun b => Ending.returned (Value.bool b)) (Bool.eq_iff_iff.2 ?_), belq⟩
 all_goals simp [mayRectB, h1]
 all_goals omega
theorem mayRect_any (t l b r : Int) (w : World) :
  Calls Tryz.prog 60 #[.agg #[.int .i64 t, .int .i64 l, .int .i64 b, .int .i64 r]] w
   fun e w' => e = .returned (.bool (mayRectB t l b r)) ∧ Below w.heap.size w w' := by
 cases h1 : mayB t l
 ·exact mayRect2 t l b r h1 w
 ·cases h2 : mayB b r
  ·exact mayRect1 t l b r h1 h2 w
  ·exact mayRect0 t l b r h1 h2 w
theorem rmayRect0 (t l b r : Int) (h1 : mayB t l = true) (h2 : mayB b r = true) (w : World) :
  Calls Tryz.prog 161 #[.agg #[.int .i64 t, .int .i64 l, .int .i64 b, .int .i64 r]] w
   fun e w' => e = .returned (.bool (mayRectB t l b r)) ∧ Below w.heap.size w w' := by
 go_enter Tryz.func161, Tryz.ntmps161
 go_wp2_with (go_at_call 204; refine (rmay_any _ _ _).mono ?_; rintro e w1 ⟨rfl, hb⟩; obtain ⟨hc, hf, hz⟩ := bkeep hb (w.heap.size + 1) (by first | omega | (simp <;> omega)))
 all_goals go_ret
 all_goals refine ⟨congrArg (fun b => Ending.returned (Value.bool b)) (Bool.eq_iff_iff.2 ?_), belq⟩
 all_goals simp [mayRectB, h1, h2]
 all_goals omega
theorem rmayRect1 (t l b r : Int) (h1 : mayB t l = true) (h2 : mayB b r = false) (w : World) :
  Calls Tryz.prog 161 #[.agg #[.int .i64 t, .int .i64 l, .int .i64 b, .int .i64 r]] w
   fun e w' => e = .returned (.bool (mayRectB t l b r)) ∧ Below w.heap.size w w' := by
 go_enter Tryz.func161, Tryz.ntmps161
 go_wp2_with (go_at_call 204; refine (rmay_any _ _ _).mono ?_; rintro e w1 ⟨rfl, hb⟩; obtain ⟨hc, hf, hz⟩ := bkeep hb (w.heap.size + 1) (by first | omega | (simp <;> omega)))
 all_goals go_ret
 all_goals refine ⟨congrArg (fun b => Ending.returned (Value.bool b)) (Bool.eq_iff_iff.2 ?_), belq⟩
 all_goals simp [mayRectB, h1, h2]
 all_goals omega
theorem rmayRect2 (t l b r : Int) (h1 : mayB t l = false) (w : World) :
  Calls Tryz.prog 161 #[.agg #[.int .i64 t, .int .i64 l, .int .i64 b, .int .i64 r]] w
   fun e w' => e = .returned (.bool (mayRectB t l b r)) ∧ Below w.heap.size w w' := by
 go_enter Tryz.func161, Tryz.ntmps161
 go_wp2_with (go_at_call 204; refine (rmay_any _ _ _).mono ?_; rintro e w1 ⟨rfl, hb⟩; obtain ⟨hc, hf, hz⟩ := bkeep hb (w.heap.size + 1) (by first | omega | (simp <;> omega)))
 all_goals go_ret
 all_goals refine ⟨congrArg (fun b => Ending.returned (Value.bool b)) (Bool.eq_iff_iff.2 ?_), belq⟩
 all_goals simp [mayRectB, h1]
 all_goals omega
theorem rmayRect_any (t l b r : Int) (w : World) :
  Calls Tryz.prog 161 #[.agg #[.int .i64 t, .int .i64 l, .int .i64 b, .int .i64 r]] w
   fun e w' => e = .returned (.bool (mayRectB t l b r)) ∧ Below w.heap.size w w' := by
 cases h1 : mayB t l
 ·exact rmayRect2 t l b r h1 w
 ·cases h2 : mayB b r
  ·exact rmayRect1 t l b r h1 h2 w
  ·exact rmayRect0 t l b r h1 h2 w
end Go.Proofs.YtgmhifafbebjfaaGreatDoor
