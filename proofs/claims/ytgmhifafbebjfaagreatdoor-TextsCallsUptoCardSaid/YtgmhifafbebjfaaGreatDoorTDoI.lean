/-
  texts: FIND.
-/
import Derived.Test.YtgmhifafbebjfaaGreatDoorTDoA
namespace Go.Proofs.YtgmhifafbebjfaaGreatDoor
open Go.RowKit

set_option maxRecDepth 100000 in
set_option maxHeartbeats 1000000 in
theorem tdo_FINDx (t s : ByteArray) (_hs : s.size ≤ 1048576) (n : Int) (_hn : -922337203685477 ≤ n ∧ n ≤ 922337203685477) (h : n < 1) (text : Int) (vs vn : Value) (w : World) (hS : RdStr w vs [t, s]) (hN : RdInt w vn [n]) : Calls Tryz.prog 75 #[.agg #[vs, vn, .int .i64 text]] w fun e w' => e = .returned (.agg #[.int .i64 (errL 8).t, .int .i64 (errL 8).n, .string (errL 8).s, .bool (errL 8).b, .int .i64 (errL 8).c]) ∧ Below w.heap.size w w' := by
  obtain ⟨A1, cap1, rfl, hR1⟩ := hS
  obtain ⟨A2, cap2, rfl, hR2⟩ := hN
  obtain ⟨sb, so, hA1, hsb, _⟩ := hR1 0 [.string t] rfl
  subst hA1
  have hs0 : w.cell? ⟨sb, so, none⟩ = some (.string t) := by
    obtain ⟨b9, o9, e9, _, h9⟩ := hR1 0 [.string t] rfl
    injection e9 with e9
    injection e9 with e1 e2 _
    subst e1 e2
    simpa using h9 0 _ rfl
  have hs1 : w.cell? ⟨sb, so + 1, none⟩ = some (.string s) := by
    obtain ⟨b9, o9, e9, _, h9⟩ := hR1 1 [.string s] rfl
    injection e9 with e9
    injection e9 with e1 e2 _
    subst e1 e2
    simpa using h9 0 _ rfl
  have hsn : sb ≠ w.heap.size := by omega
  have hsl : sb < w.heap.size + 1 := by omega
  obtain ⟨nb, no, hA2, hnb, _⟩ := hR2 0 [.int .i64 n] rfl
  subst hA2
  have hn0 : w.cell? ⟨nb, no, none⟩ = some (.int .i64 n) := by
    obtain ⟨b9, o9, e9, _, h9⟩ := hR2 0 [.int .i64 n] rfl
    injection e9 with e9
    injection e9 with e1 e2 _
    subst e1 e2
    simpa using h9 0 _ rfl
  have hnn : nb ≠ w.heap.size := by omega
  have hnl : nb < w.heap.size + 1 := by omega
  clear hR1 hR2
  simp only [List.length_cons, List.length_nil, Nat.zero_add, Nat.reduceAdd]
  go_enter Tryz.func75, Tryz.ntmps75
  go_wp2_with (go_at_call 11; refine (verr_any 8 _).mono ?_; rintro e w1 ⟨rfl, hb⟩; obtain ⟨hc, hf, hz⟩ := bkeep hb (w.heap.size + 2) (by first | omega | (simp <;> omega)))
  refine bodyPost_ret (v := .agg #[.int .i64 4, .int .i64 0, .string ⟨#[]⟩, .bool false, .int .i64 (errC 8)]) ?_ rfl ⟨rfl, by (repeat (first | (with_reducible exact Below.refl _ _) | (with_reducible refine Below.alloc ?_ (by first | omega | (dsimp only; omega) | (simp <;> omega)) _) | (with_reducible refine Below.setCell ?_ (by first | omega | (dsimp only; omega) | (simp <;> omega)) _) | (with_reducible refine Below.drew ?_) | (with_reducible refine below_drewN ?_ _) | (with_reducible refine Below.trans ?_ (Below.mono (by assumption) (by first | omega | (dsimp only; omega) | (simp <;> omega))))))⟩
  simp [results, Tryz.results75, go_sem, *]
set_option maxRecDepth 100000 in
set_option maxHeartbeats 1000000 in
theorem tdo_FINDm (t s : ByteArray) (hs : s.size ≤ 1048576) (n : Int) (_hn : -922337203685477 ≤ n ∧ n ≤ 922337203685477) (h1 : 1 ≤ n) (h : (s.size : Int) + 1 < n) (text : Int) (vs vn : Value) (w : World) (hS : RdStr w vs [t, s]) (hN : RdInt w vn [n]) : Calls Tryz.prog 75 #[.agg #[vs, vn, .int .i64 text]] w fun e w' => e = .returned (.agg #[.int .i64 (errL 6).t, .int .i64 (errL 6).n, .string (errL 6).s, .bool (errL 6).b, .int .i64 (errL 6).c]) ∧ Below w.heap.size w w' := by
  obtain ⟨A1, cap1, rfl, hR1⟩ := hS
  obtain ⟨A2, cap2, rfl, hR2⟩ := hN
  obtain ⟨sb, so, hA1, hsb, _⟩ := hR1 0 [.string t] rfl
  subst hA1
  have hs0 : w.cell? ⟨sb, so, none⟩ = some (.string t) := by
    obtain ⟨b9, o9, e9, _, h9⟩ := hR1 0 [.string t] rfl
    injection e9 with e9
    injection e9 with e1 e2 _
    subst e1 e2
    simpa using h9 0 _ rfl
  have hs1 : w.cell? ⟨sb, so + 1, none⟩ = some (.string s) := by
    obtain ⟨b9, o9, e9, _, h9⟩ := hR1 1 [.string s] rfl
    injection e9 with e9
    injection e9 with e1 e2 _
    subst e1 e2
    simpa using h9 0 _ rfl
  have hsn : sb ≠ w.heap.size := by omega
  have hsl : sb < w.heap.size + 1 := by omega
  obtain ⟨nb, no, hA2, hnb, _⟩ := hR2 0 [.int .i64 n] rfl
  subst hA2
  have hn0 : w.cell? ⟨nb, no, none⟩ = some (.int .i64 n) := by
    obtain ⟨b9, o9, e9, _, h9⟩ := hR2 0 [.int .i64 n] rfl
    injection e9 with e9
    injection e9 with e1 e2 _
    subst e1 e2
    simpa using h9 0 _ rfl
  have hnn : nb ≠ w.heap.size := by omega
  have hnl : nb < w.heap.size + 1 := by omega
  clear hR1 hR2
  simp only [List.length_cons, List.length_nil, Nat.zero_add, Nat.reduceAdd]
  have h0 : ¬ n < 1 := by omega
  go_enter Tryz.func75, Tryz.ntmps75
  go_wp2_with (go_at_call 11; refine (verr_any 6 _).mono ?_; rintro e w1 ⟨rfl, hb⟩; obtain ⟨hc, hf, hz⟩ := bkeep hb (w.heap.size + 2) (by first | omega | (simp <;> omega)))
  refine bodyPost_ret (v := .agg #[.int .i64 4, .int .i64 0, .string ⟨#[]⟩, .bool false, .int .i64 (errC 6)]) ?_ rfl ⟨rfl, by (repeat (first | (with_reducible exact Below.refl _ _) | (with_reducible refine Below.alloc ?_ (by first | omega | (dsimp only; omega) | (simp <;> omega)) _) | (with_reducible refine Below.setCell ?_ (by first | omega | (dsimp only; omega) | (simp <;> omega)) _) | (with_reducible refine Below.drew ?_) | (with_reducible refine below_drewN ?_ _) | (with_reducible refine Below.trans ?_ (Below.mono (by assumption) (by first | omega | (dsimp only; omega) | (simp <;> omega))))))⟩
  simp [results, Tryz.results75, go_sem, *]
set_option maxRecDepth 100000 in
set_option maxHeartbeats 1000000 in
theorem tdo_FINDn0 (t s : ByteArray) (hs : s.size ≤ 1048576) (i : Int) (hi : Lib.index s.data.toList t.data.toList = i) (h0 : i < 0) (mx : Int) (text : Int) (vs vn : Value) (w : World) (hS : RdStr w vs [t, s]) (hN : RdInt w vn []) (hmx : w.cell? ⟨2, 0, none⟩ = some (.int .i64 mx)) : Calls Tryz.prog 75 #[.agg #[vs, vn, .int .i64 text]] w fun e w' => e = .returned (.agg #[.int .i64 (errL 6).t, .int .i64 (errL 6).n, .string (errL 6).s, .bool (errL 6).b, .int .i64 (errL 6).c]) ∧ Below w.heap.size w w' := by
  obtain ⟨A1, cap1, rfl, hR1⟩ := hS
  obtain ⟨A2, cap2, rfl, hR2⟩ := hN
  obtain ⟨sb, so, hA1, hsb, _⟩ := hR1 0 [.string t] rfl
  subst hA1
  have hs0 : w.cell? ⟨sb, so, none⟩ = some (.string t) := by
    obtain ⟨b9, o9, e9, _, h9⟩ := hR1 0 [.string t] rfl
    injection e9 with e9
    injection e9 with e1 e2 _
    subst e1 e2
    simpa using h9 0 _ rfl
  have hs1 : w.cell? ⟨sb, so + 1, none⟩ = some (.string s) := by
    obtain ⟨b9, o9, e9, _, h9⟩ := hR1 1 [.string s] rfl
    injection e9 with e9
    injection e9 with e1 e2 _
    subst e1 e2
    simpa using h9 0 _ rfl
  have hsn : sb ≠ w.heap.size := by omega
  have hsl : sb < w.heap.size + 1 := by omega
  clear hR1 hR2
  simp only [List.length_cons, List.length_nil, Nat.zero_add, Nat.reduceAdd]
  have hG : 2 < w.heap.size := World.block_lt_of_cell? _ _ hmx
  have hm1 : ((w.alloc (.cells #[.slice (some ⟨sb, so, none⟩) 2 cap1, .slice A2 0 cap2, .int .i64 text] 47)).alloc (.cells #[.int .i64 0, .int .i64 0, .string ⟨#[]⟩, .bool false, .int .i64 0] 26)).cell? ⟨2, 0, none⟩ = some (.int .i64 mx) := (((((Below.refl w.heap.size w).alloc (Nat.le_refl _) (.cells #[.slice (some ⟨sb, so, none⟩) 2 cap1, .slice A2 0 cap2, .int .i64 text] 47)).alloc (by simp) (.cells #[.int .i64 0, .int .i64 0, .string ⟨#[]⟩, .bool false, .int .i64 0] 26))).cell (p := ⟨2, 0, none⟩) hG).trans hmx
  have hwz : IntKind.i64.wrap ((s.size : Int) + 1) = (s.size : Int) + 1 := IntWalk.i64_in _ (by omega)
  have hb1 : ¬ (s.size : Int) + 1 < 1 := by omega
  have hdl : s.size < 4294967281 := by omega
  have CI : ∀ k, Calls Tryz.prog 147 #[.string s, .string t] (((w.alloc (.cells #[.slice (some ⟨sb, so, none⟩) 2 cap1, .slice A2 0 cap2, .int .i64 text] 47)).alloc (.cells #[.int .i64 0, .int .i64 0, .string ⟨#[]⟩, .bool false, .int .i64 0] 26)).drewN k) fun e w' => e = .returned (.int .i64 i) ∧ w' = ((w.alloc (.cells #[.slice (some ⟨sb, so, none⟩) 2 cap1, .slice A2 0 cap2, .int .i64 text] 47)).alloc (.cells #[.int .i64 0, .int .i64 0, .string ⟨#[]⟩, .bool false, .int .i64 0] 26)).drewN k := fun k => by
    have h9 := Tryz.strings_Index s t mx (((w.alloc (.cells #[.slice (some ⟨sb, so, none⟩) 2 cap1, .slice A2 0 cap2, .int .i64 text] 47)).alloc (.cells #[.int .i64 0, .int .i64 0, .string ⟨#[]⟩, .bool false, .int .i64 0] 26)).drewN k) hdl hm1
    rwa [hi] at h9
  have CI' := Lib.hid CI
  clear CI hi hdl hm1 hmx hG
  go_enter Tryz.func75, Tryz.ntmps75
  go_upto_region 8 with (fail)
  go_quiet ((go_at_call 147; exact Calls.quiet_of_same (CI'.out _)))
  clear CI'
  have y0 : (((w.alloc (.cells #[.slice (some ⟨sb, so, none⟩) 2 cap1, .slice A2 0 cap2, .int .i64 text] 47)).alloc (.cells #[.int .i64 0, .int .i64 0, .string ⟨#[]⟩, .bool false, .int .i64 0] 26)).drewN nq).cell? ⟨w.heap.size, 0, none⟩ = some (.slice (some ⟨sb, so, none⟩) 2 cap1) := by simp
  have y1 : (((w.alloc (.cells #[.slice (some ⟨sb, so, none⟩) 2 cap1, .slice A2 0 cap2, .int .i64 text] 47)).alloc (.cells #[.int .i64 0, .int .i64 0, .string ⟨#[]⟩, .bool false, .int .i64 0] 26)).drewN nq).cell? ⟨w.heap.size, 1, none⟩ = some (.slice A2 0 cap2) := by simp
  have y2 : (((w.alloc (.cells #[.slice (some ⟨sb, so, none⟩) 2 cap1, .slice A2 0 cap2, .int .i64 text] 47)).alloc (.cells #[.int .i64 0, .int .i64 0, .string ⟨#[]⟩, .bool false, .int .i64 0] 26)).drewN nq).cell? ⟨w.heap.size, 2, none⟩ = some (.int .i64 text) := by simp
  have z0 : (((w.alloc (.cells #[.slice (some ⟨sb, so, none⟩) 2 cap1, .slice A2 0 cap2, .int .i64 text] 47)).alloc (.cells #[.int .i64 0, .int .i64 0, .string ⟨#[]⟩, .bool false, .int .i64 0] 26)).drewN nq).cell? ⟨sb, so, none⟩ = some (.string t) := (((((Below.refl w.heap.size w).alloc (Nat.le_refl _) (.cells #[.slice (some ⟨sb, so, none⟩) 2 cap1, .slice A2 0 cap2, .int .i64 text] 47)).alloc (by simp) (.cells #[.int .i64 0, .int .i64 0, .string ⟨#[]⟩, .bool false, .int .i64 0] 26))).cell (p := ⟨sb, so, none⟩) hsb).trans hs0
  have z1 : (((w.alloc (.cells #[.slice (some ⟨sb, so, none⟩) 2 cap1, .slice A2 0 cap2, .int .i64 text] 47)).alloc (.cells #[.int .i64 0, .int .i64 0, .string ⟨#[]⟩, .bool false, .int .i64 0] 26)).drewN nq).cell? ⟨sb, so + 1, none⟩ = some (.string s) := (((((Below.refl w.heap.size w).alloc (Nat.le_refl _) (.cells #[.slice (some ⟨sb, so, none⟩) 2 cap1, .slice A2 0 cap2, .int .i64 text] 47)).alloc (by simp) (.cells #[.int .i64 0, .int .i64 0, .string ⟨#[]⟩, .bool false, .int .i64 0] 26))).cell (p := ⟨sb, so + 1, none⟩) hsb).trans hs1
  have hr1 : ResAt (((w.alloc (.cells #[.slice (some ⟨sb, so, none⟩) 2 cap1, .slice A2 0 cap2, .int .i64 text] 47)).alloc (.cells #[.int .i64 0, .int .i64 0, .string ⟨#[]⟩, .bool false, .int .i64 0] 26)).drewN nq) (w.heap.size + 1) 5 := by
    have h9 := ResAt.new5 (w.alloc (.cells #[.slice (some ⟨sb, so, none⟩) 2 cap1, .slice A2 0 cap2, .int .i64 text] 47)) (.int .i64 0) (.int .i64 0) (.string ⟨#[]⟩) (.bool false) (.int .i64 0) 26
    rw [World.size_alloc] at h9
    exact h9
  have hq1 : Below w.heap.size w (((w.alloc (.cells #[.slice (some ⟨sb, so, none⟩) 2 cap1, .slice A2 0 cap2, .int .i64 text] 47)).alloc (.cells #[.int .i64 0, .int .i64 0, .string ⟨#[]⟩, .bool false, .int .i64 0] 26)).drewN nq) := by (repeat (first | (with_reducible exact Below.refl _ _) | (with_reducible refine Below.alloc ?_ (by first | omega | (dsimp only; omega) | (simp <;> omega)) _) | (with_reducible refine Below.setCell ?_ (by first | omega | (dsimp only; omega) | (simp <;> omega)) _) | (with_reducible refine Below.drew ?_) | (with_reducible refine below_drewN ?_ _) | (with_reducible refine Below.trans ?_ (Below.mono (by assumption) (by first | omega | (dsimp only; omega) | (simp <;> omega))))))
  have hz1 : w.heap.size + 2 ≤ (((w.alloc (.cells #[.slice (some ⟨sb, so, none⟩) 2 cap1, .slice A2 0 cap2, .int .i64 text] 47)).alloc (.cells #[.int .i64 0, .int .i64 0, .string ⟨#[]⟩, .bool false, .int .i64 0] 26)).drewN nq).heap.size := by simp
  generalize (((w.alloc (.cells #[.slice (some ⟨sb, so, none⟩) 2 cap1, .slice A2 0 cap2, .int .i64 text] 47)).alloc (.cells #[.int .i64 0, .int .i64 0, .string ⟨#[]⟩, .bool false, .int .i64 0] 26)).drewN nq) = w1 at *
  clear hs0 hs1
  go_wp2_with fail
  refine (verr_any 6 _).mono ?_
  rintro e w2 ⟨rfl, hb1⟩
  have y0 := (hb1.cell (p := ⟨w.heap.size, 0, none⟩) (by dsimp only; omega)).trans y0
  have y1 := (hb1.cell (p := ⟨w.heap.size, 1, none⟩) (by dsimp only; omega)).trans y1
  have y2 := (hb1.cell (p := ⟨w.heap.size, 2, none⟩) (by dsimp only; omega)).trans y2
  have z0 := (hb1.cell (p := ⟨sb, so, none⟩) (by dsimp only; omega)).trans z0
  have z1 := (hb1.cell (p := ⟨sb, so + 1, none⟩) (by dsimp only; omega)).trans z1
  have hr1 := hr1.below hb1 (by omega)
  have hq1 := hq1.trans (hb1.mono (by omega))
  have hz1 : w.heap.size + 2 ≤ w2.heap.size := by have := hb1.size; omega
  clear hb1
  go_wp2
  try simp only [resAt_setCell] at *
  refine bodyPost_ret (v := .agg #[.int .i64 4, .int .i64 0, .string ⟨#[]⟩, .bool false, .int .i64 (errC 6)]) ?_ rfl ⟨rfl, by first | assumption | (go_split_ands; first | assumption | ((repeat (first | (with_reducible exact Below.refl _ _) | (with_reducible refine Below.alloc ?_ (by first | omega | (dsimp only; omega) | (simp <;> omega)) _) | (with_reducible refine Below.setCell ?_ (by first | omega | (dsimp only; omega) | (simp <;> omega)) _) | (with_reducible refine Below.drew ?_) | (with_reducible refine below_drewN ?_ _) | (with_reducible refine Below.trans ?_ (Below.mono (by assumption) (by first | omega | (dsimp only; omega) | (simp <;> omega)))))); done)) | ((repeat (first | (with_reducible exact Below.refl _ _) | (with_reducible refine Below.alloc ?_ (by first | omega | (dsimp only; omega) | (simp <;> omega)) _) | (with_reducible refine Below.setCell ?_ (by first | omega | (dsimp only; omega) | (simp <;> omega)) _) | (with_reducible refine Below.drew ?_) | (with_reducible refine below_drewN ?_ _) | (with_reducible refine Below.trans ?_ (Below.mono (by assumption) (by first | omega | (dsimp only; omega) | (simp <;> omega)))))); done)⟩
  simp [results, Tryz.results75, go_sem, *]
set_option maxRecDepth 100000 in
set_option maxHeartbeats 1000000 in
theorem tdo_FINDy0 (t s : ByteArray) (hs : s.size ≤ 1048576) (i : Int) (hi : Lib.index s.data.toList t.data.toList = i) (h0 : 0 ≤ i) (hix : i ≤ s.size) (mx : Int) (text : Int) (vs vn : Value) (w : World) (hS : RdStr w vs [t, s]) (hN : RdInt w vn []) (hmx : w.cell? ⟨2, 0, none⟩ = some (.int .i64 mx)) : Calls Tryz.prog 75 #[.agg #[vs, vn, .int .i64 text]] w fun e w' => e = .returned (.agg #[.int .i64 (numL ((1 + i) * 10000)).t, .int .i64 (numL ((1 + i) * 10000)).n, .string (numL ((1 + i) * 10000)).s, .bool (numL ((1 + i) * 10000)).b, .int .i64 (numL ((1 + i) * 10000)).c]) ∧ Below w.heap.size w w' := by
  obtain ⟨A1, cap1, rfl, hR1⟩ := hS
  obtain ⟨A2, cap2, rfl, hR2⟩ := hN
  obtain ⟨sb, so, hA1, hsb, _⟩ := hR1 0 [.string t] rfl
  subst hA1
  have hs0 : w.cell? ⟨sb, so, none⟩ = some (.string t) := by
    obtain ⟨b9, o9, e9, _, h9⟩ := hR1 0 [.string t] rfl
    injection e9 with e9
    injection e9 with e1 e2 _
    subst e1 e2
    simpa using h9 0 _ rfl
  have hs1 : w.cell? ⟨sb, so + 1, none⟩ = some (.string s) := by
    obtain ⟨b9, o9, e9, _, h9⟩ := hR1 1 [.string s] rfl
    injection e9 with e9
    injection e9 with e1 e2 _
    subst e1 e2
    simpa using h9 0 _ rfl
  have hsn : sb ≠ w.heap.size := by omega
  have hsl : sb < w.heap.size + 1 := by omega
  clear hR1 hR2
  simp only [List.length_cons, List.length_nil, Nat.zero_add, Nat.reduceAdd]
  have hG : 2 < w.heap.size := World.block_lt_of_cell? _ _ hmx
  have hm1 : ((w.alloc (.cells #[.slice (some ⟨sb, so, none⟩) 2 cap1, .slice A2 0 cap2, .int .i64 text] 47)).alloc (.cells #[.int .i64 0, .int .i64 0, .string ⟨#[]⟩, .bool false, .int .i64 0] 26)).cell? ⟨2, 0, none⟩ = some (.int .i64 mx) := (((((Below.refl w.heap.size w).alloc (Nat.le_refl _) (.cells #[.slice (some ⟨sb, so, none⟩) 2 cap1, .slice A2 0 cap2, .int .i64 text] 47)).alloc (by simp) (.cells #[.int .i64 0, .int .i64 0, .string ⟨#[]⟩, .bool false, .int .i64 0] 26))).cell (p := ⟨2, 0, none⟩) hG).trans hmx
  have hwz : IntKind.i64.wrap ((s.size : Int) + 1) = (s.size : Int) + 1 := IntWalk.i64_in _ (by omega)
  have hb1 : ¬ (s.size : Int) + 1 < 1 := by omega
  have hdl : s.size < 4294967281 := by omega
  have hwi : IntKind.i64.wrap (1 + i) = 1 + i := IntWalk.i64_in _ (by omega)
  have hi0 : ¬ i < 0 := by omega
  have CI : ∀ k, Calls Tryz.prog 147 #[.string s, .string t] (((w.alloc (.cells #[.slice (some ⟨sb, so, none⟩) 2 cap1, .slice A2 0 cap2, .int .i64 text] 47)).alloc (.cells #[.int .i64 0, .int .i64 0, .string ⟨#[]⟩, .bool false, .int .i64 0] 26)).drewN k) fun e w' => e = .returned (.int .i64 i) ∧ w' = ((w.alloc (.cells #[.slice (some ⟨sb, so, none⟩) 2 cap1, .slice A2 0 cap2, .int .i64 text] 47)).alloc (.cells #[.int .i64 0, .int .i64 0, .string ⟨#[]⟩, .bool false, .int .i64 0] 26)).drewN k := fun k => by
    have h9 := Tryz.strings_Index s t mx (((w.alloc (.cells #[.slice (some ⟨sb, so, none⟩) 2 cap1, .slice A2 0 cap2, .int .i64 text] 47)).alloc (.cells #[.int .i64 0, .int .i64 0, .string ⟨#[]⟩, .bool false, .int .i64 0] 26)).drewN k) hdl hm1
    rwa [hi] at h9
  have CI' := Lib.hid CI
  clear CI hi hdl hm1 hmx hG
  go_enter Tryz.func75, Tryz.ntmps75
  go_upto_region 8 with (fail)
  go_quiet ((go_at_call 147; exact Calls.quiet_of_same (CI'.out _)))
  clear CI'
  have y0 : (((w.alloc (.cells #[.slice (some ⟨sb, so, none⟩) 2 cap1, .slice A2 0 cap2, .int .i64 text] 47)).alloc (.cells #[.int .i64 0, .int .i64 0, .string ⟨#[]⟩, .bool false, .int .i64 0] 26)).drewN nq).cell? ⟨w.heap.size, 0, none⟩ = some (.slice (some ⟨sb, so, none⟩) 2 cap1) := by simp
  have y1 : (((w.alloc (.cells #[.slice (some ⟨sb, so, none⟩) 2 cap1, .slice A2 0 cap2, .int .i64 text] 47)).alloc (.cells #[.int .i64 0, .int .i64 0, .string ⟨#[]⟩, .bool false, .int .i64 0] 26)).drewN nq).cell? ⟨w.heap.size, 1, none⟩ = some (.slice A2 0 cap2) := by simp
  have y2 : (((w.alloc (.cells #[.slice (some ⟨sb, so, none⟩) 2 cap1, .slice A2 0 cap2, .int .i64 text] 47)).alloc (.cells #[.int .i64 0, .int .i64 0, .string ⟨#[]⟩, .bool false, .int .i64 0] 26)).drewN nq).cell? ⟨w.heap.size, 2, none⟩ = some (.int .i64 text) := by simp
  have z0 : (((w.alloc (.cells #[.slice (some ⟨sb, so, none⟩) 2 cap1, .slice A2 0 cap2, .int .i64 text] 47)).alloc (.cells #[.int .i64 0, .int .i64 0, .string ⟨#[]⟩, .bool false, .int .i64 0] 26)).drewN nq).cell? ⟨sb, so, none⟩ = some (.string t) := (((((Below.refl w.heap.size w).alloc (Nat.le_refl _) (.cells #[.slice (some ⟨sb, so, none⟩) 2 cap1, .slice A2 0 cap2, .int .i64 text] 47)).alloc (by simp) (.cells #[.int .i64 0, .int .i64 0, .string ⟨#[]⟩, .bool false, .int .i64 0] 26))).cell (p := ⟨sb, so, none⟩) hsb).trans hs0
  have z1 : (((w.alloc (.cells #[.slice (some ⟨sb, so, none⟩) 2 cap1, .slice A2 0 cap2, .int .i64 text] 47)).alloc (.cells #[.int .i64 0, .int .i64 0, .string ⟨#[]⟩, .bool false, .int .i64 0] 26)).drewN nq).cell? ⟨sb, so + 1, none⟩ = some (.string s) := (((((Below.refl w.heap.size w).alloc (Nat.le_refl _) (.cells #[.slice (some ⟨sb, so, none⟩) 2 cap1, .slice A2 0 cap2, .int .i64 text] 47)).alloc (by simp) (.cells #[.int .i64 0, .int .i64 0, .string ⟨#[]⟩, .bool false, .int .i64 0] 26))).cell (p := ⟨sb, so + 1, none⟩) hsb).trans hs1
  have hr1 : ResAt (((w.alloc (.cells #[.slice (some ⟨sb, so, none⟩) 2 cap1, .slice A2 0 cap2, .int .i64 text] 47)).alloc (.cells #[.int .i64 0, .int .i64 0, .string ⟨#[]⟩, .bool false, .int .i64 0] 26)).drewN nq) (w.heap.size + 1) 5 := by
    have h9 := ResAt.new5 (w.alloc (.cells #[.slice (some ⟨sb, so, none⟩) 2 cap1, .slice A2 0 cap2, .int .i64 text] 47)) (.int .i64 0) (.int .i64 0) (.string ⟨#[]⟩) (.bool false) (.int .i64 0) 26
    rw [World.size_alloc] at h9
    exact h9
  have hq1 : Below w.heap.size w (((w.alloc (.cells #[.slice (some ⟨sb, so, none⟩) 2 cap1, .slice A2 0 cap2, .int .i64 text] 47)).alloc (.cells #[.int .i64 0, .int .i64 0, .string ⟨#[]⟩, .bool false, .int .i64 0] 26)).drewN nq) := by (repeat (first | (with_reducible exact Below.refl _ _) | (with_reducible refine Below.alloc ?_ (by first | omega | (dsimp only; omega) | (simp <;> omega)) _) | (with_reducible refine Below.setCell ?_ (by first | omega | (dsimp only; omega) | (simp <;> omega)) _) | (with_reducible refine Below.drew ?_) | (with_reducible refine below_drewN ?_ _) | (with_reducible refine Below.trans ?_ (Below.mono (by assumption) (by first | omega | (dsimp only; omega) | (simp <;> omega))))))
  have hz1 : w.heap.size + 2 ≤ (((w.alloc (.cells #[.slice (some ⟨sb, so, none⟩) 2 cap1, .slice A2 0 cap2, .int .i64 text] 47)).alloc (.cells #[.int .i64 0, .int .i64 0, .string ⟨#[]⟩, .bool false, .int .i64 0] 26)).drewN nq).heap.size := by simp
  generalize (((w.alloc (.cells #[.slice (some ⟨sb, so, none⟩) 2 cap1, .slice A2 0 cap2, .int .i64 text] 47)).alloc (.cells #[.int .i64 0, .int .i64 0, .string ⟨#[]⟩, .bool false, .int .i64 0] 26)).drewN nq) = w1 at *
  clear hs0 hs1
  go_wp2_with fail
  refine (twhole_any (1 + i) (by omega) _).mono ?_
  rintro e w2 ⟨rfl, hb1⟩
  have y0 := (hb1.cell (p := ⟨w.heap.size, 0, none⟩) (by dsimp only; omega)).trans y0
  have y1 := (hb1.cell (p := ⟨w.heap.size, 1, none⟩) (by dsimp only; omega)).trans y1
  have y2 := (hb1.cell (p := ⟨w.heap.size, 2, none⟩) (by dsimp only; omega)).trans y2
  have z0 := (hb1.cell (p := ⟨sb, so, none⟩) (by dsimp only; omega)).trans z0
  have z1 := (hb1.cell (p := ⟨sb, so + 1, none⟩) (by dsimp only; omega)).trans z1
  have hr1 := hr1.below hb1 (by omega)
  have hq1 := hq1.trans (hb1.mono (by omega))
  have hz1 : w.heap.size + 2 ≤ w2.heap.size := by have := hb1.size; omega
  clear hb1
  go_wp2
  try simp only [resAt_setCell] at *
  refine bodyPost_ret (v := .agg #[.int .i64 (numL ((1 + i) * 10000)).t, .int .i64 (numL ((1 + i) * 10000)).n, .string (numL ((1 + i) * 10000)).s, .bool (numL ((1 + i) * 10000)).b, .int .i64 (numL ((1 + i) * 10000)).c]) ?_ rfl ⟨rfl, by first | assumption | (go_split_ands; first | assumption | ((repeat (first | (with_reducible exact Below.refl _ _) | (with_reducible refine Below.alloc ?_ (by first | omega | (dsimp only; omega) | (simp <;> omega)) _) | (with_reducible refine Below.setCell ?_ (by first | omega | (dsimp only; omega) | (simp <;> omega)) _) | (with_reducible refine Below.drew ?_) | (with_reducible refine below_drewN ?_ _) | (with_reducible refine Below.trans ?_ (Below.mono (by assumption) (by first | omega | (dsimp only; omega) | (simp <;> omega)))))); done)) | ((repeat (first | (with_reducible exact Below.refl _ _) | (with_reducible refine Below.alloc ?_ (by first | omega | (dsimp only; omega) | (simp <;> omega)) _) | (with_reducible refine Below.setCell ?_ (by first | omega | (dsimp only; omega) | (simp <;> omega)) _) | (with_reducible refine Below.drew ?_) | (with_reducible refine below_drewN ?_ _) | (with_reducible refine Below.trans ?_ (Below.mono (by assumption) (by first | omega | (dsimp only; omega) | (simp <;> omega)))))); done)⟩
  simp [results, Tryz.results75, go_sem, *]
set_option maxRecDepth 100000 in
set_option maxHeartbeats 1000000 in
theorem tdo_FINDn1 (t s : ByteArray) (hs : s.size ≤ 1048576) (n : Int) (hn : -922337203685477 ≤ n ∧ n ≤ 922337203685477) (h1 : 1 ≤ n) (h2 : n ≤ (s.size : Int) + 1) (i : Int) (hi : Lib.index (s.extract (n.toNat - 1) s.size).data.toList t.data.toList = i) (h0 : i < 0) (mx : Int) (text : Int) (vs vn : Value) (w : World) (hS : RdStr w vs [t, s]) (hN : RdInt w vn [n]) (hmx : w.cell? ⟨2, 0, none⟩ = some (.int .i64 mx)) : Calls Tryz.prog 75 #[.agg #[vs, vn, .int .i64 text]] w fun e w' => e = .returned (.agg #[.int .i64 (errL 6).t, .int .i64 (errL 6).n, .string (errL 6).s, .bool (errL 6).b, .int .i64 (errL 6).c]) ∧ Below w.heap.size w w' := by
  obtain ⟨A1, cap1, rfl, hR1⟩ := hS
  obtain ⟨A2, cap2, rfl, hR2⟩ := hN
  obtain ⟨sb, so, hA1, hsb, _⟩ := hR1 0 [.string t] rfl
  subst hA1
  have hs0 : w.cell? ⟨sb, so, none⟩ = some (.string t) := by
    obtain ⟨b9, o9, e9, _, h9⟩ := hR1 0 [.string t] rfl
    injection e9 with e9
    injection e9 with e1 e2 _
    subst e1 e2
    simpa using h9 0 _ rfl
  have hs1 : w.cell? ⟨sb, so + 1, none⟩ = some (.string s) := by
    obtain ⟨b9, o9, e9, _, h9⟩ := hR1 1 [.string s] rfl
    injection e9 with e9
    injection e9 with e1 e2 _
    subst e1 e2
    simpa using h9 0 _ rfl
  have hsn : sb ≠ w.heap.size := by omega
  have hsl : sb < w.heap.size + 1 := by omega
  obtain ⟨nb, no, hA2, hnb, _⟩ := hR2 0 [.int .i64 n] rfl
  subst hA2
  have hn0 : w.cell? ⟨nb, no, none⟩ = some (.int .i64 n) := by
    obtain ⟨b9, o9, e9, _, h9⟩ := hR2 0 [.int .i64 n] rfl
    injection e9 with e9
    injection e9 with e1 e2 _
    subst e1 e2
    simpa using h9 0 _ rfl
  have hnn : nb ≠ w.heap.size := by omega
  have hnl : nb < w.heap.size + 1 := by omega
  clear hR1 hR2
  simp only [List.length_cons, List.length_nil, Nat.zero_add, Nat.reduceAdd]
  have hG : 2 < w.heap.size := World.block_lt_of_cell? _ _ hmx
  have hm1 : ((w.alloc (.cells #[.slice (some ⟨sb, so, none⟩) 2 cap1, .slice (some ⟨nb, no, none⟩) 1 cap2, .int .i64 text] 47)).alloc (.cells #[.int .i64 0, .int .i64 0, .string ⟨#[]⟩, .bool false, .int .i64 0] 26)).cell? ⟨2, 0, none⟩ = some (.int .i64 mx) := (((((Below.refl w.heap.size w).alloc (Nat.le_refl _) (.cells #[.slice (some ⟨sb, so, none⟩) 2 cap1, .slice (some ⟨nb, no, none⟩) 1 cap2, .int .i64 text] 47)).alloc (by simp) (.cells #[.int .i64 0, .int .i64 0, .string ⟨#[]⟩, .bool false, .int .i64 0] 26))).cell (p := ⟨2, 0, none⟩) hG).trans hmx
  have hx : IntKind.i64.wrap (n - 1) = n - 1 := IntWalk.i64_in _ (by omega)
  have hb0 : ¬ n < 1 := by omega
  have hb1 : ¬ (s.size : Int) + 1 < n := by omega
  have hb2 : 0 ≤ n - 1 := by omega
  have hb3 : n - 1 ≤ (s.size : Int) := by omega
  have hwz : IntKind.i64.wrap ((s.size : Int) + 1) = (s.size : Int) + 1 := IntWalk.i64_in _ (by omega)
  have hdl : (s.extract (n.toNat - 1) s.size).size < 4294967281 := by have := ext_size_le s (n.toNat - 1) s.size; omega
  have CI : ∀ k, Calls Tryz.prog 147 #[.string (s.extract (n.toNat - 1) s.size), .string t] (((w.alloc (.cells #[.slice (some ⟨sb, so, none⟩) 2 cap1, .slice (some ⟨nb, no, none⟩) 1 cap2, .int .i64 text] 47)).alloc (.cells #[.int .i64 0, .int .i64 0, .string ⟨#[]⟩, .bool false, .int .i64 0] 26)).drewN k) fun e w' => e = .returned (.int .i64 i) ∧ w' = ((w.alloc (.cells #[.slice (some ⟨sb, so, none⟩) 2 cap1, .slice (some ⟨nb, no, none⟩) 1 cap2, .int .i64 text] 47)).alloc (.cells #[.int .i64 0, .int .i64 0, .string ⟨#[]⟩, .bool false, .int .i64 0] 26)).drewN k := fun k => by
    have h9 := Tryz.strings_Index (s.extract (n.toNat - 1) s.size) t mx (((w.alloc (.cells #[.slice (some ⟨sb, so, none⟩) 2 cap1, .slice (some ⟨nb, no, none⟩) 1 cap2, .int .i64 text] 47)).alloc (.cells #[.int .i64 0, .int .i64 0, .string ⟨#[]⟩, .bool false, .int .i64 0] 26)).drewN k) hdl hm1
    rwa [hi] at h9
  have CI' := Lib.hid CI
  clear CI hi hdl hm1 hmx hG
  go_enter Tryz.func75, Tryz.ntmps75
  go_upto_region 8 with (fail)
  go_quiet ((go_at_call 147; exact Calls.quiet_of_same (CI'.out _)))
  clear CI'
  have y0 : (((w.alloc (.cells #[.slice (some ⟨sb, so, none⟩) 2 cap1, .slice (some ⟨nb, no, none⟩) 1 cap2, .int .i64 text] 47)).alloc (.cells #[.int .i64 0, .int .i64 0, .string ⟨#[]⟩, .bool false, .int .i64 0] 26)).drewN nq).cell? ⟨w.heap.size, 0, none⟩ = some (.slice (some ⟨sb, so, none⟩) 2 cap1) := by simp
  have y1 : (((w.alloc (.cells #[.slice (some ⟨sb, so, none⟩) 2 cap1, .slice (some ⟨nb, no, none⟩) 1 cap2, .int .i64 text] 47)).alloc (.cells #[.int .i64 0, .int .i64 0, .string ⟨#[]⟩, .bool false, .int .i64 0] 26)).drewN nq).cell? ⟨w.heap.size, 1, none⟩ = some (.slice (some ⟨nb, no, none⟩) 1 cap2) := by simp
  have y2 : (((w.alloc (.cells #[.slice (some ⟨sb, so, none⟩) 2 cap1, .slice (some ⟨nb, no, none⟩) 1 cap2, .int .i64 text] 47)).alloc (.cells #[.int .i64 0, .int .i64 0, .string ⟨#[]⟩, .bool false, .int .i64 0] 26)).drewN nq).cell? ⟨w.heap.size, 2, none⟩ = some (.int .i64 text) := by simp
  have z0 : (((w.alloc (.cells #[.slice (some ⟨sb, so, none⟩) 2 cap1, .slice (some ⟨nb, no, none⟩) 1 cap2, .int .i64 text] 47)).alloc (.cells #[.int .i64 0, .int .i64 0, .string ⟨#[]⟩, .bool false, .int .i64 0] 26)).drewN nq).cell? ⟨sb, so, none⟩ = some (.string t) := (((((Below.refl w.heap.size w).alloc (Nat.le_refl _) (.cells #[.slice (some ⟨sb, so, none⟩) 2 cap1, .slice (some ⟨nb, no, none⟩) 1 cap2, .int .i64 text] 47)).alloc (by simp) (.cells #[.int .i64 0, .int .i64 0, .string ⟨#[]⟩, .bool false, .int .i64 0] 26))).cell (p := ⟨sb, so, none⟩) hsb).trans hs0
  have z1 : (((w.alloc (.cells #[.slice (some ⟨sb, so, none⟩) 2 cap1, .slice (some ⟨nb, no, none⟩) 1 cap2, .int .i64 text] 47)).alloc (.cells #[.int .i64 0, .int .i64 0, .string ⟨#[]⟩, .bool false, .int .i64 0] 26)).drewN nq).cell? ⟨sb, so + 1, none⟩ = some (.string s) := (((((Below.refl w.heap.size w).alloc (Nat.le_refl _) (.cells #[.slice (some ⟨sb, so, none⟩) 2 cap1, .slice (some ⟨nb, no, none⟩) 1 cap2, .int .i64 text] 47)).alloc (by simp) (.cells #[.int .i64 0, .int .i64 0, .string ⟨#[]⟩, .bool false, .int .i64 0] 26))).cell (p := ⟨sb, so + 1, none⟩) hsb).trans hs1
  have v0 : (((w.alloc (.cells #[.slice (some ⟨sb, so, none⟩) 2 cap1, .slice (some ⟨nb, no, none⟩) 1 cap2, .int .i64 text] 47)).alloc (.cells #[.int .i64 0, .int .i64 0, .string ⟨#[]⟩, .bool false, .int .i64 0] 26)).drewN nq).cell? ⟨nb, no, none⟩ = some (.int .i64 n) := (((((Below.refl w.heap.size w).alloc (Nat.le_refl _) (.cells #[.slice (some ⟨sb, so, none⟩) 2 cap1, .slice (some ⟨nb, no, none⟩) 1 cap2, .int .i64 text] 47)).alloc (by simp) (.cells #[.int .i64 0, .int .i64 0, .string ⟨#[]⟩, .bool false, .int .i64 0] 26))).cell (p := ⟨nb, no, none⟩) hnb).trans hn0
  have hr1 : ResAt (((w.alloc (.cells #[.slice (some ⟨sb, so, none⟩) 2 cap1, .slice (some ⟨nb, no, none⟩) 1 cap2, .int .i64 text] 47)).alloc (.cells #[.int .i64 0, .int .i64 0, .string ⟨#[]⟩, .bool false, .int .i64 0] 26)).drewN nq) (w.heap.size + 1) 5 := by
    have h9 := ResAt.new5 (w.alloc (.cells #[.slice (some ⟨sb, so, none⟩) 2 cap1, .slice (some ⟨nb, no, none⟩) 1 cap2, .int .i64 text] 47)) (.int .i64 0) (.int .i64 0) (.string ⟨#[]⟩) (.bool false) (.int .i64 0) 26
    rw [World.size_alloc] at h9
    exact h9
  have hq1 : Below w.heap.size w (((w.alloc (.cells #[.slice (some ⟨sb, so, none⟩) 2 cap1, .slice (some ⟨nb, no, none⟩) 1 cap2, .int .i64 text] 47)).alloc (.cells #[.int .i64 0, .int .i64 0, .string ⟨#[]⟩, .bool false, .int .i64 0] 26)).drewN nq) := by (repeat (first | (with_reducible exact Below.refl _ _) | (with_reducible refine Below.alloc ?_ (by first | omega | (dsimp only; omega) | (simp <;> omega)) _) | (with_reducible refine Below.setCell ?_ (by first | omega | (dsimp only; omega) | (simp <;> omega)) _) | (with_reducible refine Below.drew ?_) | (with_reducible refine below_drewN ?_ _) | (with_reducible refine Below.trans ?_ (Below.mono (by assumption) (by first | omega | (dsimp only; omega) | (simp <;> omega))))))
  have hz1 : w.heap.size + 2 ≤ (((w.alloc (.cells #[.slice (some ⟨sb, so, none⟩) 2 cap1, .slice (some ⟨nb, no, none⟩) 1 cap2, .int .i64 text] 47)).alloc (.cells #[.int .i64 0, .int .i64 0, .string ⟨#[]⟩, .bool false, .int .i64 0] 26)).drewN nq).heap.size := by simp
  generalize (((w.alloc (.cells #[.slice (some ⟨sb, so, none⟩) 2 cap1, .slice (some ⟨nb, no, none⟩) 1 cap2, .int .i64 text] 47)).alloc (.cells #[.int .i64 0, .int .i64 0, .string ⟨#[]⟩, .bool false, .int .i64 0] 26)).drewN nq) = w1 at *
  clear hs0 hs1 hn0
  go_wp2_with fail
  refine (verr_any 6 _).mono ?_
  rintro e w2 ⟨rfl, hb9⟩
  have y0 := (hb9.cell (p := ⟨w.heap.size, 0, none⟩) (by dsimp only; omega)).trans y0
  have y1 := (hb9.cell (p := ⟨w.heap.size, 1, none⟩) (by dsimp only; omega)).trans y1
  have y2 := (hb9.cell (p := ⟨w.heap.size, 2, none⟩) (by dsimp only; omega)).trans y2
  have z0 := (hb9.cell (p := ⟨sb, so, none⟩) (by dsimp only; omega)).trans z0
  have z1 := (hb9.cell (p := ⟨sb, so + 1, none⟩) (by dsimp only; omega)).trans z1
  have v0 := (hb9.cell (p := ⟨nb, no, none⟩) (by dsimp only; omega)).trans v0
  have hr1 := hr1.below hb9 (by omega)
  have hq1 := hq1.trans (hb9.mono (by omega))
  have hz1 : w.heap.size + 2 ≤ w2.heap.size := by have := hb9.size; omega
  clear hb9
  go_wp2
  try simp only [resAt_setCell] at *
  refine bodyPost_ret (v := .agg #[.int .i64 4, .int .i64 0, .string ⟨#[]⟩, .bool false, .int .i64 (errC 6)]) ?_ rfl ⟨rfl, by first | assumption | (go_split_ands; first | assumption | ((repeat (first | (with_reducible exact Below.refl _ _) | (with_reducible refine Below.alloc ?_ (by first | omega | (dsimp only; omega) | (simp <;> omega)) _) | (with_reducible refine Below.setCell ?_ (by first | omega | (dsimp only; omega) | (simp <;> omega)) _) | (with_reducible refine Below.drew ?_) | (with_reducible refine below_drewN ?_ _) | (with_reducible refine Below.trans ?_ (Below.mono (by assumption) (by first | omega | (dsimp only; omega) | (simp <;> omega)))))); done)) | ((repeat (first | (with_reducible exact Below.refl _ _) | (with_reducible refine Below.alloc ?_ (by first | omega | (dsimp only; omega) | (simp <;> omega)) _) | (with_reducible refine Below.setCell ?_ (by first | omega | (dsimp only; omega) | (simp <;> omega)) _) | (with_reducible refine Below.drew ?_) | (with_reducible refine below_drewN ?_ _) | (with_reducible refine Below.trans ?_ (Below.mono (by assumption) (by first | omega | (dsimp only; omega) | (simp <;> omega)))))); done)⟩
  simp [results, Tryz.results75, go_sem, *]
set_option maxRecDepth 100000 in
set_option maxHeartbeats 1000000 in
theorem tdo_FINDy1 (t s : ByteArray) (hs : s.size ≤ 1048576) (n : Int) (hn : -922337203685477 ≤ n ∧ n ≤ 922337203685477) (h1 : 1 ≤ n) (h2 : n ≤ (s.size : Int) + 1) (i : Int) (hi : Lib.index (s.extract (n.toNat - 1) s.size).data.toList t.data.toList = i) (h0 : 0 ≤ i) (hix : i ≤ s.size) (mx : Int) (text : Int) (vs vn : Value) (w : World) (hS : RdStr w vs [t, s]) (hN : RdInt w vn [n]) (hmx : w.cell? ⟨2, 0, none⟩ = some (.int .i64 mx)) : Calls Tryz.prog 75 #[.agg #[vs, vn, .int .i64 text]] w fun e w' => e = .returned (.agg #[.int .i64 (numL ((n + i) * 10000)).t, .int .i64 (numL ((n + i) * 10000)).n, .string (numL ((n + i) * 10000)).s, .bool (numL ((n + i) * 10000)).b, .int .i64 (numL ((n + i) * 10000)).c]) ∧ Below w.heap.size w w' := by
  obtain ⟨A1, cap1, rfl, hR1⟩ := hS
  obtain ⟨A2, cap2, rfl, hR2⟩ := hN
  obtain ⟨sb, so, hA1, hsb, _⟩ := hR1 0 [.string t] rfl
  subst hA1
  have hs0 : w.cell? ⟨sb, so, none⟩ = some (.string t) := by
    obtain ⟨b9, o9, e9, _, h9⟩ := hR1 0 [.string t] rfl
    injection e9 with e9
    injection e9 with e1 e2 _
    subst e1 e2
    simpa using h9 0 _ rfl
  have hs1 : w.cell? ⟨sb, so + 1, none⟩ = some (.string s) := by
    obtain ⟨b9, o9, e9, _, h9⟩ := hR1 1 [.string s] rfl
    injection e9 with e9
    injection e9 with e1 e2 _
    subst e1 e2
    simpa using h9 0 _ rfl
  have hsn : sb ≠ w.heap.size := by omega
  have hsl : sb < w.heap.size + 1 := by omega
  obtain ⟨nb, no, hA2, hnb, _⟩ := hR2 0 [.int .i64 n] rfl
  subst hA2
  have hn0 : w.cell? ⟨nb, no, none⟩ = some (.int .i64 n) := by
    obtain ⟨b9, o9, e9, _, h9⟩ := hR2 0 [.int .i64 n] rfl
    injection e9 with e9
    injection e9 with e1 e2 _
    subst e1 e2
    simpa using h9 0 _ rfl
  have hnn : nb ≠ w.heap.size := by omega
  have hnl : nb < w.heap.size + 1 := by omega
  clear hR1 hR2
  simp only [List.length_cons, List.length_nil, Nat.zero_add, Nat.reduceAdd]
  have hG : 2 < w.heap.size := World.block_lt_of_cell? _ _ hmx
  have hm1 : ((w.alloc (.cells #[.slice (some ⟨sb, so, none⟩) 2 cap1, .slice (some ⟨nb, no, none⟩) 1 cap2, .int .i64 text] 47)).alloc (.cells #[.int .i64 0, .int .i64 0, .string ⟨#[]⟩, .bool false, .int .i64 0] 26)).cell? ⟨2, 0, none⟩ = some (.int .i64 mx) := (((((Below.refl w.heap.size w).alloc (Nat.le_refl _) (.cells #[.slice (some ⟨sb, so, none⟩) 2 cap1, .slice (some ⟨nb, no, none⟩) 1 cap2, .int .i64 text] 47)).alloc (by simp) (.cells #[.int .i64 0, .int .i64 0, .string ⟨#[]⟩, .bool false, .int .i64 0] 26))).cell (p := ⟨2, 0, none⟩) hG).trans hmx
  have hx : IntKind.i64.wrap (n - 1) = n - 1 := IntWalk.i64_in _ (by omega)
  have hb0 : ¬ n < 1 := by omega
  have hb1 : ¬ (s.size : Int) + 1 < n := by omega
  have hb2 : 0 ≤ n - 1 := by omega
  have hb3 : n - 1 ≤ (s.size : Int) := by omega
  have hwz : IntKind.i64.wrap ((s.size : Int) + 1) = (s.size : Int) + 1 := IntWalk.i64_in _ (by omega)
  have hdl : (s.extract (n.toNat - 1) s.size).size < 4294967281 := by have := ext_size_le s (n.toNat - 1) s.size; omega
  have hwi : IntKind.i64.wrap (n + i) = n + i := IntWalk.i64_in _ (by omega)
  have hi0 : ¬ i < 0 := by omega
  have CI : ∀ k, Calls Tryz.prog 147 #[.string (s.extract (n.toNat - 1) s.size), .string t] (((w.alloc (.cells #[.slice (some ⟨sb, so, none⟩) 2 cap1, .slice (some ⟨nb, no, none⟩) 1 cap2, .int .i64 text] 47)).alloc (.cells #[.int .i64 0, .int .i64 0, .string ⟨#[]⟩, .bool false, .int .i64 0] 26)).drewN k) fun e w' => e = .returned (.int .i64 i) ∧ w' = ((w.alloc (.cells #[.slice (some ⟨sb, so, none⟩) 2 cap1, .slice (some ⟨nb, no, none⟩) 1 cap2, .int .i64 text] 47)).alloc (.cells #[.int .i64 0, .int .i64 0, .string ⟨#[]⟩, .bool false, .int .i64 0] 26)).drewN k := fun k => by
    have h9 := Tryz.strings_Index (s.extract (n.toNat - 1) s.size) t mx (((w.alloc (.cells #[.slice (some ⟨sb, so, none⟩) 2 cap1, .slice (some ⟨nb, no, none⟩) 1 cap2, .int .i64 text] 47)).alloc (.cells #[.int .i64 0, .int .i64 0, .string ⟨#[]⟩, .bool false, .int .i64 0] 26)).drewN k) hdl hm1
    rwa [hi] at h9
  have CI' := Lib.hid CI
  clear CI hi hdl hm1 hmx hG
  go_enter Tryz.func75, Tryz.ntmps75
  go_upto_region 8 with (fail)
  go_quiet ((go_at_call 147; exact Calls.quiet_of_same (CI'.out _)))
  clear CI'
  have y0 : (((w.alloc (.cells #[.slice (some ⟨sb, so, none⟩) 2 cap1, .slice (some ⟨nb, no, none⟩) 1 cap2, .int .i64 text] 47)).alloc (.cells #[.int .i64 0, .int .i64 0, .string ⟨#[]⟩, .bool false, .int .i64 0] 26)).drewN nq).cell? ⟨w.heap.size, 0, none⟩ = some (.slice (some ⟨sb, so, none⟩) 2 cap1) := by simp
  have y1 : (((w.alloc (.cells #[.slice (some ⟨sb, so, none⟩) 2 cap1, .slice (some ⟨nb, no, none⟩) 1 cap2, .int .i64 text] 47)).alloc (.cells #[.int .i64 0, .int .i64 0, .string ⟨#[]⟩, .bool false, .int .i64 0] 26)).drewN nq).cell? ⟨w.heap.size, 1, none⟩ = some (.slice (some ⟨nb, no, none⟩) 1 cap2) := by simp
  have y2 : (((w.alloc (.cells #[.slice (some ⟨sb, so, none⟩) 2 cap1, .slice (some ⟨nb, no, none⟩) 1 cap2, .int .i64 text] 47)).alloc (.cells #[.int .i64 0, .int .i64 0, .string ⟨#[]⟩, .bool false, .int .i64 0] 26)).drewN nq).cell? ⟨w.heap.size, 2, none⟩ = some (.int .i64 text) := by simp
  have z0 : (((w.alloc (.cells #[.slice (some ⟨sb, so, none⟩) 2 cap1, .slice (some ⟨nb, no, none⟩) 1 cap2, .int .i64 text] 47)).alloc (.cells #[.int .i64 0, .int .i64 0, .string ⟨#[]⟩, .bool false, .int .i64 0] 26)).drewN nq).cell? ⟨sb, so, none⟩ = some (.string t) := (((((Below.refl w.heap.size w).alloc (Nat.le_refl _) (.cells #[.slice (some ⟨sb, so, none⟩) 2 cap1, .slice (some ⟨nb, no, none⟩) 1 cap2, .int .i64 text] 47)).alloc (by simp) (.cells #[.int .i64 0, .int .i64 0, .string ⟨#[]⟩, .bool false, .int .i64 0] 26))).cell (p := ⟨sb, so, none⟩) hsb).trans hs0
  have z1 : (((w.alloc (.cells #[.slice (some ⟨sb, so, none⟩) 2 cap1, .slice (some ⟨nb, no, none⟩) 1 cap2, .int .i64 text] 47)).alloc (.cells #[.int .i64 0, .int .i64 0, .string ⟨#[]⟩, .bool false, .int .i64 0] 26)).drewN nq).cell? ⟨sb, so + 1, none⟩ = some (.string s) := (((((Below.refl w.heap.size w).alloc (Nat.le_refl _) (.cells #[.slice (some ⟨sb, so, none⟩) 2 cap1, .slice (some ⟨nb, no, none⟩) 1 cap2, .int .i64 text] 47)).alloc (by simp) (.cells #[.int .i64 0, .int .i64 0, .string ⟨#[]⟩, .bool false, .int .i64 0] 26))).cell (p := ⟨sb, so + 1, none⟩) hsb).trans hs1
  have v0 : (((w.alloc (.cells #[.slice (some ⟨sb, so, none⟩) 2 cap1, .slice (some ⟨nb, no, none⟩) 1 cap2, .int .i64 text] 47)).alloc (.cells #[.int .i64 0, .int .i64 0, .string ⟨#[]⟩, .bool false, .int .i64 0] 26)).drewN nq).cell? ⟨nb, no, none⟩ = some (.int .i64 n) := (((((Below.refl w.heap.size w).alloc (Nat.le_refl _) (.cells #[.slice (some ⟨sb, so, none⟩) 2 cap1, .slice (some ⟨nb, no, none⟩) 1 cap2, .int .i64 text] 47)).alloc (by simp) (.cells #[.int .i64 0, .int .i64 0, .string ⟨#[]⟩, .bool false, .int .i64 0] 26))).cell (p := ⟨nb, no, none⟩) hnb).trans hn0
  have hr1 : ResAt (((w.alloc (.cells #[.slice (some ⟨sb, so, none⟩) 2 cap1, .slice (some ⟨nb, no, none⟩) 1 cap2, .int .i64 text] 47)).alloc (.cells #[.int .i64 0, .int .i64 0, .string ⟨#[]⟩, .bool false, .int .i64 0] 26)).drewN nq) (w.heap.size + 1) 5 := by
    have h9 := ResAt.new5 (w.alloc (.cells #[.slice (some ⟨sb, so, none⟩) 2 cap1, .slice (some ⟨nb, no, none⟩) 1 cap2, .int .i64 text] 47)) (.int .i64 0) (.int .i64 0) (.string ⟨#[]⟩) (.bool false) (.int .i64 0) 26
    rw [World.size_alloc] at h9
    exact h9
  have hq1 : Below w.heap.size w (((w.alloc (.cells #[.slice (some ⟨sb, so, none⟩) 2 cap1, .slice (some ⟨nb, no, none⟩) 1 cap2, .int .i64 text] 47)).alloc (.cells #[.int .i64 0, .int .i64 0, .string ⟨#[]⟩, .bool false, .int .i64 0] 26)).drewN nq) := by (repeat (first | (with_reducible exact Below.refl _ _) | (with_reducible refine Below.alloc ?_ (by first | omega | (dsimp only; omega) | (simp <;> omega)) _) | (with_reducible refine Below.setCell ?_ (by first | omega | (dsimp only; omega) | (simp <;> omega)) _) | (with_reducible refine Below.drew ?_) | (with_reducible refine below_drewN ?_ _) | (with_reducible refine Below.trans ?_ (Below.mono (by assumption) (by first | omega | (dsimp only; omega) | (simp <;> omega))))))
  have hz1 : w.heap.size + 2 ≤ (((w.alloc (.cells #[.slice (some ⟨sb, so, none⟩) 2 cap1, .slice (some ⟨nb, no, none⟩) 1 cap2, .int .i64 text] 47)).alloc (.cells #[.int .i64 0, .int .i64 0, .string ⟨#[]⟩, .bool false, .int .i64 0] 26)).drewN nq).heap.size := by simp
  generalize (((w.alloc (.cells #[.slice (some ⟨sb, so, none⟩) 2 cap1, .slice (some ⟨nb, no, none⟩) 1 cap2, .int .i64 text] 47)).alloc (.cells #[.int .i64 0, .int .i64 0, .string ⟨#[]⟩, .bool false, .int .i64 0] 26)).drewN nq) = w1 at *
  clear hs0 hs1 hn0
  go_wp2_with fail
  refine (twhole_any (n + i) (by omega) _).mono ?_
  rintro e w2 ⟨rfl, hb9⟩
  have y0 := (hb9.cell (p := ⟨w.heap.size, 0, none⟩) (by dsimp only; omega)).trans y0
  have y1 := (hb9.cell (p := ⟨w.heap.size, 1, none⟩) (by dsimp only; omega)).trans y1
  have y2 := (hb9.cell (p := ⟨w.heap.size, 2, none⟩) (by dsimp only; omega)).trans y2
  have z0 := (hb9.cell (p := ⟨sb, so, none⟩) (by dsimp only; omega)).trans z0
  have z1 := (hb9.cell (p := ⟨sb, so + 1, none⟩) (by dsimp only; omega)).trans z1
  have v0 := (hb9.cell (p := ⟨nb, no, none⟩) (by dsimp only; omega)).trans v0
  have hr1 := hr1.below hb9 (by omega)
  have hq1 := hq1.trans (hb9.mono (by omega))
  have hz1 : w.heap.size + 2 ≤ w2.heap.size := by have := hb9.size; omega
  clear hb9
  go_wp2
  try simp only [resAt_setCell] at *
  refine bodyPost_ret (v := .agg #[.int .i64 (numL ((n + i) * 10000)).t, .int .i64 (numL ((n + i) * 10000)).n, .string (numL ((n + i) * 10000)).s, .bool (numL ((n + i) * 10000)).b, .int .i64 (numL ((n + i) * 10000)).c]) ?_ rfl ⟨rfl, by first | assumption | (go_split_ands; first | assumption | ((repeat (first | (with_reducible exact Below.refl _ _) | (with_reducible refine Below.alloc ?_ (by first | omega | (dsimp only; omega) | (simp <;> omega)) _) | (with_reducible refine Below.setCell ?_ (by first | omega | (dsimp only; omega) | (simp <;> omega)) _) | (with_reducible refine Below.drew ?_) | (with_reducible refine below_drewN ?_ _) | (with_reducible refine Below.trans ?_ (Below.mono (by assumption) (by first | omega | (dsimp only; omega) | (simp <;> omega)))))); done)) | ((repeat (first | (with_reducible exact Below.refl _ _) | (with_reducible refine Below.alloc ?_ (by first | omega | (dsimp only; omega) | (simp <;> omega)) _) | (with_reducible refine Below.setCell ?_ (by first | omega | (dsimp only; omega) | (simp <;> omega)) _) | (with_reducible refine Below.drew ?_) | (with_reducible refine below_drewN ?_ _) | (with_reducible refine Below.trans ?_ (Below.mono (by assumption) (by first | omega | (dsimp only; omega) | (simp <;> omega)))))); done)⟩
  simp [results, Tryz.results75, go_sem, *]
end Go.Proofs.YtgmhifafbebjfaaGreatDoor
