/-
  texts: SUBST.
-/
import Derived.Test.YtgmhifafbebjfaaGreatDoorTDoG
namespace Go.Proofs.YtgmhifafbebjfaaGreatDoor
open Go.RowKit

def lenOf : Value → Nat
  | .string s => s.size
  | _ => 0
/-- a text with one for another -/
def substS (s t u : ByteArray) : ByteArray := ⟨(substL t.data.toList u.data.toList (s.size + 1) s.data.toList).toArray⟩
theorem cut_any (r t p q : ByteArray) (z : Bool) (hc : Lib.cut r.data.toList t.data.toList = (p.data.toList, q.data.toList, z)) (hr : r.size < 4294967281) (mx : Int) (w : World) (hm : w.cell? ⟨2, 0, none⟩ = some (.int .i64 mx)) : Calls Tryz.prog 148 #[.string r, .string t] w fun e w' => e = .returned (.tuple #[.string p, .string q, .bool z]) ∧ Below w.heap.size w w' := by
  have := Tryz.strings_Cut r t mx w hr hm
  rw [hc] at this
  refine this.mono ?_
  rintro e w' ⟨rfl, n, rfl⟩
  exact ⟨by simp, below_drewN (Below.refl _ _) _⟩
theorem cut_ex (r t : ByteArray) : ∃ (p q : ByteArray) (z : Bool), Lib.cut r.data.toList t.data.toList = (p.data.toList, q.data.toList, z) := ⟨⟨(Lib.cut r.data.toList t.data.toList).1.toArray⟩, ⟨(Lib.cut r.data.toList t.data.toList).2.1.toArray⟩, (Lib.cut r.data.toList t.data.toList).2.2, by simp⟩
theorem told_long (text : Int) (d : ByteArray) (h : text < (d.size : Int)) : toldT text d = errL 7 := by unfold toldT; rw [if_pos h]
theorem subst_no {s t u p q : List UInt8} {k : Nat} (hc : Lib.cut s t = (p, q, false)) : substL t u (k + 1) s = p := by
  rw [substL, hc]; rfl
theorem subst_yes {s t u p q : List UInt8} {k : Nat} (hc : Lib.cut s t = (p, q, true)) : substL t u (k + 1) s = p ++ u ++ substL t u k q := by
  rw [substL, hc]; rfl
theorem cut_found {s t p q : List UInt8} (hc : Lib.cut s t = (p, q, true)) : s.length = p.length + t.length + q.length := by
  have h := cut_yes (s := s) (t := t) (by rw [hc])
  rw [hc] at h
  have := congrArg List.length h
  simpa [Nat.add_assoc] using this
theorem cut_none {s t p q : List UInt8} (hc : Lib.cut s t = (p, q, false)) : p = s := by
  have h := cut_no (s := s) (t := t) (by rw [hc]; simp)
  rw [hc] at h
  exact h
set_option maxRecDepth 100000 in
set_option maxHeartbeats 1000000 in
theorem tdo_SUBSTx (s u : ByteArray) (text : Int) (vs vn : Value) (w : World) (hS : RdStr w vs [s, (⟨#[]⟩ : ByteArray), u]) (hN : RdInt w vn []) : Calls Tryz.prog 76 #[.agg #[vs, vn, .int .i64 text]] w fun e w' => e = .returned (.agg #[.int .i64 (errL 8).t, .int .i64 (errL 8).n, .string (errL 8).s, .bool (errL 8).b, .int .i64 (errL 8).c]) ∧ Below w.heap.size w w' := by
  obtain ⟨A1, cap1, rfl, hR1⟩ := hS
  obtain ⟨A2, cap2, rfl, hR2⟩ := hN
  obtain ⟨sb, so, hA1, hsb, _⟩ := hR1 0 [.string s] rfl
  subst hA1
  have hs0 : w.cell? ⟨sb, so, none⟩ = some (.string s) := by
    obtain ⟨b9, o9, e9, _, h9⟩ := hR1 0 [.string s] rfl
    injection e9 with e9
    injection e9 with e1 e2 _
    subst e1 e2
    simpa using h9 0 _ rfl
  have hs1 : w.cell? ⟨sb, so + 1, none⟩ = some (.string (⟨#[]⟩ : ByteArray)) := by
    obtain ⟨b9, o9, e9, _, h9⟩ := hR1 1 [.string (⟨#[]⟩ : ByteArray)] rfl
    injection e9 with e9
    injection e9 with e1 e2 _
    subst e1 e2
    simpa using h9 0 _ rfl
  have hs2 : w.cell? ⟨sb, so + 2, none⟩ = some (.string u) := by
    obtain ⟨b9, o9, e9, _, h9⟩ := hR1 2 [.string u] rfl
    injection e9 with e9
    injection e9 with e1 e2 _
    subst e1 e2
    simpa using h9 0 _ rfl
  have hsn : sb ≠ w.heap.size := by omega
  have hsl : sb < w.heap.size + 1 := by omega
  clear hR1 hR2
  simp only [List.length_cons, List.length_nil, Nat.zero_add, Nat.reduceAdd]
  go_enter Tryz.func76, Tryz.ntmps76
  go_upto_region 1 with (fail)
  go_quiet (fail)
  have y0 : (((w.alloc (.cells #[.slice (some ⟨sb, so, none⟩) 3 cap1, .slice A2 0 cap2, .int .i64 text] 47)).alloc (.cells #[.int .i64 0, .int .i64 0, .string ⟨#[]⟩, .bool false, .int .i64 0] 26)).drewN nq).cell? ⟨w.heap.size, 0, none⟩ = some (.slice (some ⟨sb, so, none⟩) 3 cap1) := by simp
  have y1 : (((w.alloc (.cells #[.slice (some ⟨sb, so, none⟩) 3 cap1, .slice A2 0 cap2, .int .i64 text] 47)).alloc (.cells #[.int .i64 0, .int .i64 0, .string ⟨#[]⟩, .bool false, .int .i64 0] 26)).drewN nq).cell? ⟨w.heap.size, 1, none⟩ = some (.slice A2 0 cap2) := by simp
  have y2 : (((w.alloc (.cells #[.slice (some ⟨sb, so, none⟩) 3 cap1, .slice A2 0 cap2, .int .i64 text] 47)).alloc (.cells #[.int .i64 0, .int .i64 0, .string ⟨#[]⟩, .bool false, .int .i64 0] 26)).drewN nq).cell? ⟨w.heap.size, 2, none⟩ = some (.int .i64 text) := by simp
  have z0 : (((w.alloc (.cells #[.slice (some ⟨sb, so, none⟩) 3 cap1, .slice A2 0 cap2, .int .i64 text] 47)).alloc (.cells #[.int .i64 0, .int .i64 0, .string ⟨#[]⟩, .bool false, .int .i64 0] 26)).drewN nq).cell? ⟨sb, so, none⟩ = some (.string s) := (((((Below.refl w.heap.size w).alloc (Nat.le_refl _) (.cells #[.slice (some ⟨sb, so, none⟩) 3 cap1, .slice A2 0 cap2, .int .i64 text] 47)).alloc (by simp) (.cells #[.int .i64 0, .int .i64 0, .string ⟨#[]⟩, .bool false, .int .i64 0] 26))).cell (p := ⟨sb, so, none⟩) hsb).trans hs0
  have z1 : (((w.alloc (.cells #[.slice (some ⟨sb, so, none⟩) 3 cap1, .slice A2 0 cap2, .int .i64 text] 47)).alloc (.cells #[.int .i64 0, .int .i64 0, .string ⟨#[]⟩, .bool false, .int .i64 0] 26)).drewN nq).cell? ⟨sb, so + 1, none⟩ = some (.string (⟨#[]⟩ : ByteArray)) := (((((Below.refl w.heap.size w).alloc (Nat.le_refl _) (.cells #[.slice (some ⟨sb, so, none⟩) 3 cap1, .slice A2 0 cap2, .int .i64 text] 47)).alloc (by simp) (.cells #[.int .i64 0, .int .i64 0, .string ⟨#[]⟩, .bool false, .int .i64 0] 26))).cell (p := ⟨sb, so + 1, none⟩) hsb).trans hs1
  have z2 : (((w.alloc (.cells #[.slice (some ⟨sb, so, none⟩) 3 cap1, .slice A2 0 cap2, .int .i64 text] 47)).alloc (.cells #[.int .i64 0, .int .i64 0, .string ⟨#[]⟩, .bool false, .int .i64 0] 26)).drewN nq).cell? ⟨sb, so + 2, none⟩ = some (.string u) := (((((Below.refl w.heap.size w).alloc (Nat.le_refl _) (.cells #[.slice (some ⟨sb, so, none⟩) 3 cap1, .slice A2 0 cap2, .int .i64 text] 47)).alloc (by simp) (.cells #[.int .i64 0, .int .i64 0, .string ⟨#[]⟩, .bool false, .int .i64 0] 26))).cell (p := ⟨sb, so + 2, none⟩) hsb).trans hs2
  have hr1 : ResAt (((w.alloc (.cells #[.slice (some ⟨sb, so, none⟩) 3 cap1, .slice A2 0 cap2, .int .i64 text] 47)).alloc (.cells #[.int .i64 0, .int .i64 0, .string ⟨#[]⟩, .bool false, .int .i64 0] 26)).drewN nq) (w.heap.size + 1) 5 := by
    have h9 := ResAt.new5 (w.alloc (.cells #[.slice (some ⟨sb, so, none⟩) 3 cap1, .slice A2 0 cap2, .int .i64 text] 47)) (.int .i64 0) (.int .i64 0) (.string ⟨#[]⟩) (.bool false) (.int .i64 0) 26
    rw [World.size_alloc] at h9
    exact h9
  have hq1 : Below w.heap.size w (((w.alloc (.cells #[.slice (some ⟨sb, so, none⟩) 3 cap1, .slice A2 0 cap2, .int .i64 text] 47)).alloc (.cells #[.int .i64 0, .int .i64 0, .string ⟨#[]⟩, .bool false, .int .i64 0] 26)).drewN nq) := by (repeat (first | (with_reducible exact Below.refl _ _) | (with_reducible refine Below.alloc ?_ (by first | omega | (dsimp only; omega) | (simp <;> omega)) _) | (with_reducible refine Below.setCell ?_ (by first | omega | (dsimp only; omega) | (simp <;> omega)) _) | (with_reducible refine Below.drew ?_) | (with_reducible refine below_drewN ?_ _) | (with_reducible refine Below.trans ?_ (Below.mono (by assumption) (by first | omega | (dsimp only; omega) | (simp <;> omega))))))
  have hz1 : w.heap.size + 2 ≤ (((w.alloc (.cells #[.slice (some ⟨sb, so, none⟩) 3 cap1, .slice A2 0 cap2, .int .i64 text] 47)).alloc (.cells #[.int .i64 0, .int .i64 0, .string ⟨#[]⟩, .bool false, .int .i64 0] 26)).drewN nq).heap.size := by simp
  generalize (((w.alloc (.cells #[.slice (some ⟨sb, so, none⟩) 3 cap1, .slice A2 0 cap2, .int .i64 text] 47)).alloc (.cells #[.int .i64 0, .int .i64 0, .string ⟨#[]⟩, .bool false, .int .i64 0] 26)).drewN nq) = w1 at *
  clear hs0 hs1 hs2
  go_wp2_with fail
  refine (verr_any 8 _).mono ?_
  rintro e w2 ⟨rfl, hb1⟩
  have y0 := (hb1.cell (p := ⟨w.heap.size, 0, none⟩) (by dsimp only; omega)).trans y0
  have y1 := (hb1.cell (p := ⟨w.heap.size, 1, none⟩) (by dsimp only; omega)).trans y1
  have y2 := (hb1.cell (p := ⟨w.heap.size, 2, none⟩) (by dsimp only; omega)).trans y2
  have z0 := (hb1.cell (p := ⟨sb, so, none⟩) (by dsimp only; omega)).trans z0
  have z1 := (hb1.cell (p := ⟨sb, so + 1, none⟩) (by dsimp only; omega)).trans z1
  have z2 := (hb1.cell (p := ⟨sb, so + 2, none⟩) (by dsimp only; omega)).trans z2
  have hr1 := hr1.below hb1 (by omega)
  have hq1 := hq1.trans (hb1.mono (by omega))
  have hz1 : w.heap.size + 2 ≤ w2.heap.size := by have := hb1.size; omega
  clear hb1
  go_wp2
  try simp only [resAt_setCell] at *
  refine bodyPost_ret (v := .agg #[.int .i64 4, .int .i64 0, .string ⟨#[]⟩, .bool false, .int .i64 (errC 8)]) ?_ rfl ⟨rfl, by first | assumption | (go_split_ands; first | assumption | ((repeat (first | (with_reducible exact Below.refl _ _) | (with_reducible refine Below.alloc ?_ (by first | omega | (dsimp only; omega) | (simp <;> omega)) _) | (with_reducible refine Below.setCell ?_ (by first | omega | (dsimp only; omega) | (simp <;> omega)) _) | (with_reducible refine Below.drew ?_) | (with_reducible refine below_drewN ?_ _) | (with_reducible refine Below.trans ?_ (Below.mono (by assumption) (by first | omega | (dsimp only; omega) | (simp <;> omega)))))); done)) | ((repeat (first | (with_reducible exact Below.refl _ _) | (with_reducible refine Below.alloc ?_ (by first | omega | (dsimp only; omega) | (simp <;> omega)) _) | (with_reducible refine Below.setCell ?_ (by first | omega | (dsimp only; omega) | (simp <;> omega)) _) | (with_reducible refine Below.drew ?_) | (with_reducible refine below_drewN ?_ _) | (with_reducible refine Below.trans ?_ (Below.mono (by assumption) (by first | omega | (dsimp only; omega) | (simp <;> omega)))))); done)⟩
  simp [results, Tryz.results76, go_sem, *]
set_option maxRecDepth 100000 in
set_option maxHeartbeats 2000000 in
theorem tdo_SUBST1 (s t u : ByteArray) (hs : s.size < 4294967281) (hu : t.size < 4294967281 → u.size ≤ 4294967296) (hne : ¬ t = ⟨#[]⟩) (mx : Int) (text : Int) (ht : 0 ≤ text ∧ text ≤ 1024) (vs vn : Value) (w : World) (hS : RdStr w vs [s, t, u]) (hN : RdInt w vn []) (hmx : w.cell? ⟨2, 0, none⟩ = some (.int .i64 mx)) : Calls Tryz.prog 76 #[.agg #[vs, vn, .int .i64 text]] w fun e w' => e = .returned (.agg #[.int .i64 (toldT text (substS s t u)).t, .int .i64 (toldT text (substS s t u)).n, .string (toldT text (substS s t u)).s, .bool (toldT text (substS s t u)).b, .int .i64 (toldT text (substS s t u)).c]) ∧ Below w.heap.size w w' := by
  obtain ⟨A1, cap1, rfl, hR1⟩ := hS
  obtain ⟨A2, cap2, rfl, hR2⟩ := hN
  obtain ⟨sb, so, hA1, hsb, _⟩ := hR1 0 [.string s] rfl
  subst hA1
  have hs0 : w.cell? ⟨sb, so, none⟩ = some (.string s) := by
    obtain ⟨b9, o9, e9, _, h9⟩ := hR1 0 [.string s] rfl
    injection e9 with e9
    injection e9 with e1 e2 _
    subst e1 e2
    simpa using h9 0 _ rfl
  have hs1 : w.cell? ⟨sb, so + 1, none⟩ = some (.string t) := by
    obtain ⟨b9, o9, e9, _, h9⟩ := hR1 1 [.string t] rfl
    injection e9 with e9
    injection e9 with e1 e2 _
    subst e1 e2
    simpa using h9 0 _ rfl
  have hs2 : w.cell? ⟨sb, so + 2, none⟩ = some (.string u) := by
    obtain ⟨b9, o9, e9, _, h9⟩ := hR1 2 [.string u] rfl
    injection e9 with e9
    injection e9 with e1 e2 _
    subst e1 e2
    simpa using h9 0 _ rfl
  have hsn : sb ≠ w.heap.size := by omega
  have hsl : sb < w.heap.size + 1 := by omega
  clear hR1 hR2
  simp only [List.length_cons, List.length_nil, Nat.zero_add, Nat.reduceAdd]
  obtain ⟨d, hd⟩ : ∃ d, substS s t u = d := ⟨_, rfl⟩
  have hdl : substL t.data.toList u.data.toList (s.size + 1) s.data.toList = d.data.toList := by rw [← hd]; simp [substS]
  rw [hd]
  have hdl' := Lib.hid hdl
  clear hd hdl
  have htl : 0 < t.data.toList.length := by
    rcases Nat.eq_zero_or_pos t.data.toList.length with h | h
    · exact absurd (ByteArray.size_eq_zero_iff.1 (show t.size = 0 from h)) hne
    · exact h
  have hG : 2 < w.heap.size := World.block_lt_of_cell? _ _ hmx
  have hu' := Lib.hid hu
  clear hu
  go_enter Tryz.func76, Tryz.ntmps76
  go_upto_region 1 with (fail)
  go_quiet (fail)
  have hR1 : ∃ cs, (((w.alloc (.cells #[.slice (some ⟨sb, so, none⟩) 3 cap1, .slice A2 0 cap2, .int .i64 text] 47)).alloc (.cells #[.int .i64 0, .int .i64 0, .string ⟨#[]⟩, .bool false, .int .i64 0] 26)).drewN nq).heap[w.heap.size + 1]? = some (.cells cs 26 (0, 0)) := by
    have h8 := heap_alloc_new (w.alloc (.cells #[.slice (some ⟨sb, so, none⟩) 3 cap1, .slice A2 0 cap2, .int .i64 text] 47)) (.cells #[.int .i64 0, .int .i64 0, .string ⟨#[]⟩, .bool false, .int .i64 0] 26)
    simp only [World.size_alloc] at h8
    exact ⟨_, h8⟩
  have y0 : (((w.alloc (.cells #[.slice (some ⟨sb, so, none⟩) 3 cap1, .slice A2 0 cap2, .int .i64 text] 47)).alloc (.cells #[.int .i64 0, .int .i64 0, .string ⟨#[]⟩, .bool false, .int .i64 0] 26)).drewN nq).cell? ⟨w.heap.size, 0, none⟩ = some (.slice (some ⟨sb, so, none⟩) 3 cap1) := by simp
  have y1 : (((w.alloc (.cells #[.slice (some ⟨sb, so, none⟩) 3 cap1, .slice A2 0 cap2, .int .i64 text] 47)).alloc (.cells #[.int .i64 0, .int .i64 0, .string ⟨#[]⟩, .bool false, .int .i64 0] 26)).drewN nq).cell? ⟨w.heap.size, 1, none⟩ = some (.slice A2 0 cap2) := by simp
  have y2 : (((w.alloc (.cells #[.slice (some ⟨sb, so, none⟩) 3 cap1, .slice A2 0 cap2, .int .i64 text] 47)).alloc (.cells #[.int .i64 0, .int .i64 0, .string ⟨#[]⟩, .bool false, .int .i64 0] 26)).drewN nq).cell? ⟨w.heap.size, 2, none⟩ = some (.int .i64 text) := by simp
  have z0 : (((w.alloc (.cells #[.slice (some ⟨sb, so, none⟩) 3 cap1, .slice A2 0 cap2, .int .i64 text] 47)).alloc (.cells #[.int .i64 0, .int .i64 0, .string ⟨#[]⟩, .bool false, .int .i64 0] 26)).drewN nq).cell? ⟨sb, so, none⟩ = some (.string s) := (((((Below.refl w.heap.size w).alloc (Nat.le_refl _) (.cells #[.slice (some ⟨sb, so, none⟩) 3 cap1, .slice A2 0 cap2, .int .i64 text] 47)).alloc (by simp) (.cells #[.int .i64 0, .int .i64 0, .string ⟨#[]⟩, .bool false, .int .i64 0] 26))).cell (p := ⟨sb, so, none⟩) hsb).trans hs0
  have z1 : (((w.alloc (.cells #[.slice (some ⟨sb, so, none⟩) 3 cap1, .slice A2 0 cap2, .int .i64 text] 47)).alloc (.cells #[.int .i64 0, .int .i64 0, .string ⟨#[]⟩, .bool false, .int .i64 0] 26)).drewN nq).cell? ⟨sb, so + 1, none⟩ = some (.string t) := (((((Below.refl w.heap.size w).alloc (Nat.le_refl _) (.cells #[.slice (some ⟨sb, so, none⟩) 3 cap1, .slice A2 0 cap2, .int .i64 text] 47)).alloc (by simp) (.cells #[.int .i64 0, .int .i64 0, .string ⟨#[]⟩, .bool false, .int .i64 0] 26))).cell (p := ⟨sb, so + 1, none⟩) hsb).trans hs1
  have z2 : (((w.alloc (.cells #[.slice (some ⟨sb, so, none⟩) 3 cap1, .slice A2 0 cap2, .int .i64 text] 47)).alloc (.cells #[.int .i64 0, .int .i64 0, .string ⟨#[]⟩, .bool false, .int .i64 0] 26)).drewN nq).cell? ⟨sb, so + 2, none⟩ = some (.string u) := (((((Below.refl w.heap.size w).alloc (Nat.le_refl _) (.cells #[.slice (some ⟨sb, so, none⟩) 3 cap1, .slice A2 0 cap2, .int .i64 text] 47)).alloc (by simp) (.cells #[.int .i64 0, .int .i64 0, .string ⟨#[]⟩, .bool false, .int .i64 0] 26))).cell (p := ⟨sb, so + 2, none⟩) hsb).trans hs2
  have hr1 : ResAt (((w.alloc (.cells #[.slice (some ⟨sb, so, none⟩) 3 cap1, .slice A2 0 cap2, .int .i64 text] 47)).alloc (.cells #[.int .i64 0, .int .i64 0, .string ⟨#[]⟩, .bool false, .int .i64 0] 26)).drewN nq) (w.heap.size + 1) 5 := by
    have h9 := ResAt.new5 (w.alloc (.cells #[.slice (some ⟨sb, so, none⟩) 3 cap1, .slice A2 0 cap2, .int .i64 text] 47)) (.int .i64 0) (.int .i64 0) (.string ⟨#[]⟩) (.bool false) (.int .i64 0) 26
    rw [World.size_alloc] at h9
    exact h9
  have hq1 : Below w.heap.size w (((w.alloc (.cells #[.slice (some ⟨sb, so, none⟩) 3 cap1, .slice A2 0 cap2, .int .i64 text] 47)).alloc (.cells #[.int .i64 0, .int .i64 0, .string ⟨#[]⟩, .bool false, .int .i64 0] 26)).drewN nq) := by (repeat (first | (with_reducible exact Below.refl _ _) | (with_reducible refine Below.alloc ?_ (by first | omega | (dsimp only; omega) | (simp <;> omega)) _) | (with_reducible refine Below.setCell ?_ (by first | omega | (dsimp only; omega) | (simp <;> omega)) _) | (with_reducible refine Below.drew ?_) | (with_reducible refine below_drewN ?_ _) | (with_reducible refine Below.trans ?_ (Below.mono (by assumption) (by first | omega | (dsimp only; omega) | (simp <;> omega))))))
  have hz1 : w.heap.size + 2 ≤ (((w.alloc (.cells #[.slice (some ⟨sb, so, none⟩) 3 cap1, .slice A2 0 cap2, .int .i64 text] 47)).alloc (.cells #[.int .i64 0, .int .i64 0, .string ⟨#[]⟩, .bool false, .int .i64 0] 26)).drewN nq).heap.size := by simp
  generalize (((w.alloc (.cells #[.slice (some ⟨sb, so, none⟩) 3 cap1, .slice A2 0 cap2, .int .i64 text] 47)).alloc (.cells #[.int .i64 0, .int .i64 0, .string ⟨#[]⟩, .bool false, .int .i64 0] 26)).drewN nq) = w1 at *
  clear hs0 hs1 hs2
  have hz0 := hz1
  clear z0 z1 z2 hz1
  go_wp2_with fail
  have hB0 : BR (w1.alloc (.cells #[.pointer none, .slice none 0 0] 153)) (w.heap.size + 1) w1.heap.size [] := by
    obtain ⟨cs, h8⟩ := hR1
    exact ⟨⟨cs, (Lib.alloc_old _ _ _ (by omega)).trans h8⟩, Lib.IsBuilderF.of (Lib.fresh_isBuilder 153 5 w1), by omega⟩
  have hbr0 : Below w1.heap.size w1 (w1.alloc (.cells #[.pointer none, .slice none 0 0] 153)) := (Below.refl _ _).alloc (Nat.le_refl _) _
  clear hR1
  generalize (w1.alloc (.cells #[.pointer none, .slice none 0 0] 153)) = w2 at *
  go_loopw [3] (fun v wr => ∃ (r : ByteArray) (acc : List UInt8) (k : Nat), v = .string r ∧ r.size < k ∧ r.size < 4294967281 ∧ BR wr (w.heap.size + 1) w1.heap.size acc ∧ Hid ((acc.length : Int) ≤ text) ∧ Hid (acc ++ substL t.data.toList u.data.toList k r.data.toList = d.data.toList) ∧ Below w1.heap.size w1 wr) (fun v _ => lenOf v)
  case atStart => exact ⟨s, [], s.size + 1, rfl, by omega, hs, hB0, Lib.hid ht.1, hdl', hbr0⟩
  case round =>
    clear hB0 hbr0 hdl'
    obtain ⟨r, acc, k, rfl, hk, hr32, hBr, hal, heq, hbr⟩ := hrel
    have hz1 : w1.heap.size ≤ wr.heap.size := hbr.size
    have hmr : wr.cell? ⟨2, 0, none⟩ = some (.int .i64 mx) := ((hq1.trans (hbr.mono (by omega))).cell (p := ⟨2, 0, none⟩) hG).trans hmx
    have hzb := hz0; have kk := (And.intro ((hbr.cell (p := ⟨w.heap.size, 0, none⟩) (by dsimp only; omega)).trans y0) (And.intro ((hbr.cell (p := ⟨w.heap.size, 1, none⟩) (by dsimp only; omega)).trans y1) (And.intro ((hbr.cell (p := ⟨w.heap.size, 2, none⟩) (by dsimp only; omega)).trans y2) (And.intro (hr1.below hbr (by omega)) (And.intro (hq1.trans (hbr.mono (by omega))) (show w1.heap.size ≤ wr.heap.size by have := hbr.size; omega))))))
    clear y0 y1 y2 hr1 hq1 hz1
    obtain ⟨y0, y1, y2, hr1, hq1, hz1⟩ := kk
    obtain ⟨p, q, z, hc⟩ := cut_ex r t
    obtain ⟨k, rfl⟩ : ∃ k', k = k' + 1 := ⟨k - 1, by omega⟩
    obtain ⟨m, hm⟩ : ∃ m, acc.length = m := ⟨_, rfl⟩
    have hmt : (m : Int) ≤ text := by rw [← hm]; exact hal.out
    have CC := Lib.hid (cut_any r t p q z hc hr32 mx wr hmr)
    clear hal hmr
    cases z
    · have hpr : p.size = r.size := congrArg List.length (cut_none hc)
      have hdd : Hid (acc ++ p.data.toList = d.data.toList) := Lib.hid (by rw [← subst_no (u := u.data.toList) (k := k) hc]; exact heq.out)
      have hds : d.size = m + p.size := by
        have := congrArg List.length hdd.out
        rw [List.length_append, hm] at this
        exact this.symm
      clear heq
      have hw1 : IntKind.i64.wrap ((m : Int) + (p.size : Int)) = (m : Int) + (p.size : Int) := IntWalk.i64_in _ (by omega)
      have hm' := Lib.hid hm
      clear hm hc
      go_wp2_with fail
      refine CC.out.mono ?_
      rintro e w3 ⟨rfl, hb3⟩
      clear CC
      have hzr := hz1
      have kk := (And.intro ((hb3.cell (p := ⟨w.heap.size, 0, none⟩) (by dsimp only; omega)).trans y0) (And.intro ((hb3.cell (p := ⟨w.heap.size, 1, none⟩) (by dsimp only; omega)).trans y1) (And.intro ((hb3.cell (p := ⟨w.heap.size, 2, none⟩) (by dsimp only; omega)).trans y2) (And.intro (hr1.below hb3 (by omega)) (And.intro (hq1.trans (hb3.mono (by omega))) (show w1.heap.size ≤ w3.heap.size by have := hb3.size; omega))))))
      clear y0 y1 y2 hr1 hq1 hz1
      obtain ⟨y0, y1, y2, hr1, hq1, hz1⟩ := kk
      have hB := hBr.later hb3
      have hbr2 := hbr.trans (hb3.mono hzr)
      clear hb3 hbr hzr hBr
      have hbr := hbr2
      clear hbr2
      by_cases hbig : text < (m : Int) + (p.size : Int)
      · go_wp2_with fail
        go_quiet ((go_at_call 149; exact Calls.quiet_of_same (blen_any _ m _ hm'.out _ (isB_drewN hB.isb _))))
        have hb0 : Below w3.heap.size w3 (w3.drewN nq) := below_drewN (Below.refl _ _) _
        have hzr := hz1
        have kk := (And.intro ((hb0.cell (p := ⟨w.heap.size, 0, none⟩) (by dsimp only; omega)).trans y0) (And.intro ((hb0.cell (p := ⟨w.heap.size, 1, none⟩) (by dsimp only; omega)).trans y1) (And.intro ((hb0.cell (p := ⟨w.heap.size, 2, none⟩) (by dsimp only; omega)).trans y2) (And.intro (hr1.below hb0 (by omega)) (And.intro (hq1.trans (hb0.mono (by omega))) (show w1.heap.size ≤ (w3.drewN nq).heap.size by have := hb0.size; omega))))))
        clear y0 y1 y2 hr1 hq1 hz1
        obtain ⟨y0, y1, y2, hr1, hq1, hz1⟩ := kk
        have hB' := hB.later hb0
        clear hB
        have hbr2 := hbr.trans (hb0.mono hzr)
        clear hb0 hbr hzr
        have hbr := hbr2
        clear hbr2
        generalize w3.drewN nq = w4 at *
        clear hbr
        go_wp2_with fail
        refine (verr_any 7 _).mono ?_
        rintro e w9 ⟨rfl, hb1⟩
        have kk := (And.intro ((hb1.cell (p := ⟨w.heap.size, 0, none⟩) (by dsimp only; omega)).trans y0) (And.intro ((hb1.cell (p := ⟨w.heap.size, 1, none⟩) (by dsimp only; omega)).trans y1) (And.intro ((hb1.cell (p := ⟨w.heap.size, 2, none⟩) (by dsimp only; omega)).trans y2) (And.intro (hr1.below hb1 (by omega)) (And.intro (hq1.trans (hb1.mono (by omega))) (show w1.heap.size ≤ w9.heap.size by have := hb1.size; omega))))))
        clear y0 y1 y2 hr1 hq1 hz1
        obtain ⟨y0, y1, y2, hr1, hq1, hz1⟩ := kk
        clear hb1
        go_wp2
        rw [told_long text d (by omega)]
        try simp only [resAt_setCell] at *
        refine bodyPost_ret (v := .agg #[.int .i64 4, .int .i64 0, .string ⟨#[]⟩, .bool false, .int .i64 (errC 7)]) ?_ rfl ⟨rfl, by first | assumption | (go_split_ands; first | assumption | ((repeat (first | (with_reducible exact Below.refl _ _) | (with_reducible refine Below.alloc ?_ (by first | omega | (dsimp only; omega) | (simp <;> omega)) _) | (with_reducible refine Below.setCell ?_ (by first | omega | (dsimp only; omega) | (simp <;> omega)) _) | (with_reducible refine Below.drew ?_) | (with_reducible refine below_drewN ?_ _) | (with_reducible refine Below.trans ?_ (Below.mono (by assumption) (by first | omega | (dsimp only; omega) | (simp <;> omega)))))); done)) | ((repeat (first | (with_reducible exact Below.refl _ _) | (with_reducible refine Below.alloc ?_ (by first | omega | (dsimp only; omega) | (simp <;> omega)) _) | (with_reducible refine Below.setCell ?_ (by first | omega | (dsimp only; omega) | (simp <;> omega)) _) | (with_reducible refine Below.drew ?_) | (with_reducible refine below_drewN ?_ _) | (with_reducible refine Below.trans ?_ (Below.mono (by assumption) (by first | omega | (dsimp only; omega) | (simp <;> omega)))))); done)⟩
        simp [results, Tryz.results76, go_sem, *]
      · go_wp2_with fail
        go_quiet ((go_at_call 149; exact Calls.quiet_of_same (blen_any _ m _ hm'.out _ (isB_drewN hB.isb _))))
        have hb0 : Below w3.heap.size w3 (w3.drewN nq) := below_drewN (Below.refl _ _) _
        have hzr := hz1
        have kk := (And.intro ((hb0.cell (p := ⟨w.heap.size, 0, none⟩) (by dsimp only; omega)).trans y0) (And.intro ((hb0.cell (p := ⟨w.heap.size, 1, none⟩) (by dsimp only; omega)).trans y1) (And.intro ((hb0.cell (p := ⟨w.heap.size, 2, none⟩) (by dsimp only; omega)).trans y2) (And.intro (hr1.below hb0 (by omega)) (And.intro (hq1.trans (hb0.mono (by omega))) (show w1.heap.size ≤ (w3.drewN nq).heap.size by have := hb0.size; omega))))))
        clear y0 y1 y2 hr1 hq1 hz1
        obtain ⟨y0, y1, y2, hr1, hq1, hz1⟩ := kk
        have hB' := hB.later hb0
        clear hB
        have hbr2 := hbr.trans (hb0.mono hzr)
        clear hb0 hbr hzr
        have hbr := hbr2
        clear hbr2
        generalize w3.drewN nq = w4 at *
        go_wp2_with fail
        refine (bwrite_any w1.heap.size (acc) p (by rw [hm'.out]; omega) w4 (by omega) hB'.isb).mono ?_
        rintro e w5 ⟨rfl, hB9, hb9⟩
        have kk := (And.intro ((hb9.cell (p := ⟨w.heap.size, 0, none⟩) (by dsimp only; omega)).trans y0) (And.intro ((hb9.cell (p := ⟨w.heap.size, 1, none⟩) (by dsimp only; omega)).trans y1) (And.intro ((hb9.cell (p := ⟨w.heap.size, 2, none⟩) (by dsimp only; omega)).trans y2) (And.intro (hr1.below hb9 (by omega)) (And.intro (hq1.trans (hb9.mono (by omega))) (show w1.heap.size ≤ w5.heap.size by have := hb9.size; omega))))))
        clear y0 y1 y2 hr1 hq1 hz1
        obtain ⟨y0, y1, y2, hr1, hq1, hz1⟩ := kk
        have hB'2 := hB'.told hb9 hB9
        have hbr2 := hbr.trans hb9
        clear hb9 hB9 hbr hB'
        have hbr := hbr2
        clear hbr2
        have hx : (⟨(acc ++ p.data.toList).toArray⟩ : ByteArray) = d := by rw [hdd.out]
        have hx' := Lib.hid hx
        clear hx hbr
        go_wp2_with fail
        first | (go_loud (go_region_held3 (fun w' => w'.cell? ⟨w.heap.size, 0, none⟩ = some (.slice (some ⟨sb, so, none⟩) 3 cap1) ∧ w'.cell? ⟨w.heap.size, 1, none⟩ = some (.slice A2 0 cap2) ∧ w'.cell? ⟨w.heap.size, 2, none⟩ = some (.int .i64 text) ∧ ResAt w' (w.heap.size + 1) 5 ∧ Below w.heap.size w w' ∧ w1.heap.size ≤ w'.heap.size ∧ BR w' (w.heap.size + 1) (w1.heap.size) (acc ++ p.data.toList))
          (first | (go_split_ands; exact ⟨(by simp [go_sem, *]), (by simp [go_sem, *]), (by simp [go_sem, *]), (by first | (with_reducible exact ResAt.drew (ResAt.new5 _ _ _ _ _ _ _)) | (repeat (first | (with_reducible assumption) | (with_reducible refine ResAt.setCell ?_ _ _) | (with_reducible refine ResAt.drew ?_)))), (by (repeat (first | (with_reducible exact Below.refl _ _) | (with_reducible refine Below.alloc ?_ (by first | omega | (dsimp only; omega) | (simp <;> omega)) _) | (with_reducible refine Below.setCell ?_ (by first | omega | (dsimp only; omega) | (simp <;> omega)) _) | (with_reducible refine Below.drew ?_) | (with_reducible refine below_drewN ?_ _) | (with_reducible refine Below.trans ?_ (Below.mono (by assumption) (by first | omega | (dsimp only; omega) | (simp <;> omega))))))), (by first | (simp; done) | (simp; omega)), (by (repeat (first | (with_reducible assumption) | (with_reducible refine BR.setCell ?_ _ _ rfl rfl) | (with_reducible refine BR.drew ?_))))⟩) | (exact ⟨(by simp [go_sem, *]), (by simp [go_sem, *]), (by simp [go_sem, *]), (by first | (with_reducible exact ResAt.drew (ResAt.new5 _ _ _ _ _ _ _)) | (repeat (first | (with_reducible assumption) | (with_reducible refine ResAt.setCell ?_ _ _) | (with_reducible refine ResAt.drew ?_)))), (by (repeat (first | (with_reducible exact Below.refl _ _) | (with_reducible refine Below.alloc ?_ (by first | omega | (dsimp only; omega) | (simp <;> omega)) _) | (with_reducible refine Below.setCell ?_ (by first | omega | (dsimp only; omega) | (simp <;> omega)) _) | (with_reducible refine Below.drew ?_) | (with_reducible refine below_drewN ?_ _) | (with_reducible refine Below.trans ?_ (Below.mono (by assumption) (by first | omega | (dsimp only; omega) | (simp <;> omega))))))), (by first | (simp; done) | (simp; omega)), (by (repeat (first | (with_reducible assumption) | (with_reducible refine BR.setCell ?_ _ _ rfl rfl) | (with_reducible refine BR.drew ?_))))⟩) | (go_split_ands; exact ⟨(by rw [hb.cell (by dsimp only; omega)]; assumption), (by rw [hb.cell (by dsimp only; omega)]; assumption), (by rw [hb.cell (by dsimp only; omega)]; assumption), (ResAt.below (by assumption) hb (by omega)), (Below.trans (by assumption) (hb.mono (by omega))), (by have := hb.size; omega), (by first | exact BR.told (by assumption) hb hF | exact BR.later (by assumption) hb)⟩))
          (first | (go_at_call 151; go_split_ands; refine (bstring_any w1.heap.size (acc ++ p.data.toList) d hx'.out _ (by omega) (BR.isb (by assumption))).mono ?_; rintro e w1 ⟨rfl, hF, hb⟩) | (go_at_call 143; refine (ttold_any _ _ _ _ _ _ text d (by omega) _).mono ?_; rintro e w1 ⟨rfl, hb⟩)))) | fail "region"
        go_split_ands
        go_wp2
        try simp only [resAt_setCell] at *
        refine bodyPost_ret (v := .agg #[.int .i64 (toldT text d).t, .int .i64 (toldT text d).n, .string (toldT text d).s, .bool (toldT text d).b, .int .i64 (toldT text d).c]) ?_ rfl ⟨rfl, by first | assumption | (go_split_ands; first | assumption | ((repeat (first | (with_reducible exact Below.refl _ _) | (with_reducible refine Below.alloc ?_ (by first | omega | (dsimp only; omega) | (simp <;> omega)) _) | (with_reducible refine Below.setCell ?_ (by first | omega | (dsimp only; omega) | (simp <;> omega)) _) | (with_reducible refine Below.drew ?_) | (with_reducible refine below_drewN ?_ _) | (with_reducible refine Below.trans ?_ (Below.mono (by assumption) (by first | omega | (dsimp only; omega) | (simp <;> omega)))))); done)) | ((repeat (first | (with_reducible exact Below.refl _ _) | (with_reducible refine Below.alloc ?_ (by first | omega | (dsimp only; omega) | (simp <;> omega)) _) | (with_reducible refine Below.setCell ?_ (by first | omega | (dsimp only; omega) | (simp <;> omega)) _) | (with_reducible refine Below.drew ?_) | (with_reducible refine below_drewN ?_ _) | (with_reducible refine Below.trans ?_ (Below.mono (by assumption) (by first | omega | (dsimp only; omega) | (simp <;> omega)))))); done)⟩
        simp [results, Tryz.results76, go_sem, *]
    · have hcl := cut_found hc
      have hps : p.data.toList.length = p.size := rfl
      have hqs : q.data.toList.length = q.size := rfl
      have hrs : r.data.toList.length = r.size := rfl
      have hus : u.data.toList.length = u.size := rfl
      have hts : t.data.toList.length = t.size := rfl
      have hu9 := hu'.out (by omega)
      have hdd : Hid (acc ++ p.data.toList ++ u.data.toList ++ substL t.data.toList u.data.toList k q.data.toList = d.data.toList) := Lib.hid (by rw [← heq.out, subst_yes (u := u.data.toList) (k := k) hc]; simp [List.append_assoc])
      have hds : m + p.size + u.size ≤ d.size := by
        have := congrArg List.length hdd.out
        rw [List.length_append, List.length_append, List.length_append, hm] at this
        have h7 : d.data.toList.length = d.size := rfl
        omega
      clear heq
      have hw1 : IntKind.i64.wrap ((m : Int) + (p.size : Int)) = (m : Int) + (p.size : Int) := IntWalk.i64_in _ (by omega)
      have hm' := Lib.hid hm
      have hm2 : Hid ((acc ++ p.data.toList ++ u.data.toList).length = m + p.size + u.size) := Lib.hid (by rw [List.length_append, List.length_append, hm]; rfl)
      obtain ⟨m2, hmm⟩ : ∃ m2, m + p.size + u.size = m2 := ⟨_, rfl⟩
      rw [hmm] at hm2 hds
      clear hm hc
      go_wp2_with fail
      refine CC.out.mono ?_
      rintro e w3 ⟨rfl, hb3⟩
      clear CC
      have hzr := hz1
      have kk := (And.intro ((hb3.cell (p := ⟨w.heap.size, 0, none⟩) (by dsimp only; omega)).trans y0) (And.intro ((hb3.cell (p := ⟨w.heap.size, 1, none⟩) (by dsimp only; omega)).trans y1) (And.intro ((hb3.cell (p := ⟨w.heap.size, 2, none⟩) (by dsimp only; omega)).trans y2) (And.intro (hr1.below hb3 (by omega)) (And.intro (hq1.trans (hb3.mono (by omega))) (show w1.heap.size ≤ w3.heap.size by have := hb3.size; omega))))))
      clear y0 y1 y2 hr1 hq1 hz1
      obtain ⟨y0, y1, y2, hr1, hq1, hz1⟩ := kk
      have hB := hBr.later hb3
      have hbr2 := hbr.trans (hb3.mono hzr)
      clear hb3 hbr hzr hBr
      have hbr := hbr2
      clear hbr2
      by_cases hbig : text < (m : Int) + (p.size : Int)
      · go_wp2_with fail
        go_quiet ((go_at_call 149; exact Calls.quiet_of_same (blen_any _ m _ hm'.out _ (isB_drewN hB.isb _))))
        have hb0 : Below w3.heap.size w3 (w3.drewN nq) := below_drewN (Below.refl _ _) _
        have hzr := hz1
        have kk := (And.intro ((hb0.cell (p := ⟨w.heap.size, 0, none⟩) (by dsimp only; omega)).trans y0) (And.intro ((hb0.cell (p := ⟨w.heap.size, 1, none⟩) (by dsimp only; omega)).trans y1) (And.intro ((hb0.cell (p := ⟨w.heap.size, 2, none⟩) (by dsimp only; omega)).trans y2) (And.intro (hr1.below hb0 (by omega)) (And.intro (hq1.trans (hb0.mono (by omega))) (show w1.heap.size ≤ (w3.drewN nq).heap.size by have := hb0.size; omega))))))
        clear y0 y1 y2 hr1 hq1 hz1
        obtain ⟨y0, y1, y2, hr1, hq1, hz1⟩ := kk
        have hB' := hB.later hb0
        clear hB
        have hbr2 := hbr.trans (hb0.mono hzr)
        clear hb0 hbr hzr
        have hbr := hbr2
        clear hbr2
        generalize w3.drewN nq = w4 at *
        clear hbr
        go_wp2_with fail
        refine (verr_any 7 _).mono ?_
        rintro e w9 ⟨rfl, hb1⟩
        have kk := (And.intro ((hb1.cell (p := ⟨w.heap.size, 0, none⟩) (by dsimp only; omega)).trans y0) (And.intro ((hb1.cell (p := ⟨w.heap.size, 1, none⟩) (by dsimp only; omega)).trans y1) (And.intro ((hb1.cell (p := ⟨w.heap.size, 2, none⟩) (by dsimp only; omega)).trans y2) (And.intro (hr1.below hb1 (by omega)) (And.intro (hq1.trans (hb1.mono (by omega))) (show w1.heap.size ≤ w9.heap.size by have := hb1.size; omega))))))
        clear y0 y1 y2 hr1 hq1 hz1
        obtain ⟨y0, y1, y2, hr1, hq1, hz1⟩ := kk
        clear hb1
        go_wp2
        rw [told_long text d (by omega)]
        try simp only [resAt_setCell] at *
        refine bodyPost_ret (v := .agg #[.int .i64 4, .int .i64 0, .string ⟨#[]⟩, .bool false, .int .i64 (errC 7)]) ?_ rfl ⟨rfl, by first | assumption | (go_split_ands; first | assumption | ((repeat (first | (with_reducible exact Below.refl _ _) | (with_reducible refine Below.alloc ?_ (by first | omega | (dsimp only; omega) | (simp <;> omega)) _) | (with_reducible refine Below.setCell ?_ (by first | omega | (dsimp only; omega) | (simp <;> omega)) _) | (with_reducible refine Below.drew ?_) | (with_reducible refine below_drewN ?_ _) | (with_reducible refine Below.trans ?_ (Below.mono (by assumption) (by first | omega | (dsimp only; omega) | (simp <;> omega)))))); done)) | ((repeat (first | (with_reducible exact Below.refl _ _) | (with_reducible refine Below.alloc ?_ (by first | omega | (dsimp only; omega) | (simp <;> omega)) _) | (with_reducible refine Below.setCell ?_ (by first | omega | (dsimp only; omega) | (simp <;> omega)) _) | (with_reducible refine Below.drew ?_) | (with_reducible refine below_drewN ?_ _) | (with_reducible refine Below.trans ?_ (Below.mono (by assumption) (by first | omega | (dsimp only; omega) | (simp <;> omega)))))); done)⟩
        simp [results, Tryz.results76, go_sem, *]
      · go_wp2_with fail
        go_quiet ((go_at_call 149; exact Calls.quiet_of_same (blen_any _ m _ hm'.out _ (isB_drewN hB.isb _))))
        have hb0 : Below w3.heap.size w3 (w3.drewN nq) := below_drewN (Below.refl _ _) _
        have hzr := hz1
        have kk := (And.intro ((hb0.cell (p := ⟨w.heap.size, 0, none⟩) (by dsimp only; omega)).trans y0) (And.intro ((hb0.cell (p := ⟨w.heap.size, 1, none⟩) (by dsimp only; omega)).trans y1) (And.intro ((hb0.cell (p := ⟨w.heap.size, 2, none⟩) (by dsimp only; omega)).trans y2) (And.intro (hr1.below hb0 (by omega)) (And.intro (hq1.trans (hb0.mono (by omega))) (show w1.heap.size ≤ (w3.drewN nq).heap.size by have := hb0.size; omega))))))
        clear y0 y1 y2 hr1 hq1 hz1
        obtain ⟨y0, y1, y2, hr1, hq1, hz1⟩ := kk
        have hB' := hB.later hb0
        clear hB
        have hbr2 := hbr.trans (hb0.mono hzr)
        clear hb0 hbr hzr
        have hbr := hbr2
        clear hbr2
        generalize w3.drewN nq = w4 at *
        go_wp2_with fail
        refine (bwrite_any w1.heap.size (acc) p (by rw [hm'.out]; omega) w4 (by omega) hB'.isb).mono ?_
        rintro e w5 ⟨rfl, hB9, hb9⟩
        have kk := (And.intro ((hb9.cell (p := ⟨w.heap.size, 0, none⟩) (by dsimp only; omega)).trans y0) (And.intro ((hb9.cell (p := ⟨w.heap.size, 1, none⟩) (by dsimp only; omega)).trans y1) (And.intro ((hb9.cell (p := ⟨w.heap.size, 2, none⟩) (by dsimp only; omega)).trans y2) (And.intro (hr1.below hb9 (by omega)) (And.intro (hq1.trans (hb9.mono (by omega))) (show w1.heap.size ≤ w5.heap.size by have := hb9.size; omega))))))
        clear y0 y1 y2 hr1 hq1 hz1
        obtain ⟨y0, y1, y2, hr1, hq1, hz1⟩ := kk
        have hB'2 := hB'.told hb9 hB9
        have hbr2 := hbr.trans hb9
        clear hb9 hB9 hbr hB'
        have hbr := hbr2
        clear hbr2
        go_wp2_with fail
        refine (bwrite_any w1.heap.size (acc ++ p.data.toList) u (by rw [List.length_append, hm'.out]; omega) w5 (by omega) hB'2.isb).mono ?_
        rintro e w6 ⟨rfl, hB9, hb9⟩
        have kk := (And.intro ((hb9.cell (p := ⟨w.heap.size, 0, none⟩) (by dsimp only; omega)).trans y0) (And.intro ((hb9.cell (p := ⟨w.heap.size, 1, none⟩) (by dsimp only; omega)).trans y1) (And.intro ((hb9.cell (p := ⟨w.heap.size, 2, none⟩) (by dsimp only; omega)).trans y2) (And.intro (hr1.below hb9 (by omega)) (And.intro (hq1.trans (hb9.mono (by omega))) (show w1.heap.size ≤ w6.heap.size by have := hb9.size; omega))))))
        clear y0 y1 y2 hr1 hq1 hz1
        obtain ⟨y0, y1, y2, hr1, hq1, hz1⟩ := kk
        have hB'22 := hB'2.told hb9 hB9
        have hbr2 := hbr.trans hb9
        clear hb9 hB9 hbr hB'2
        have hbr := hbr2
        clear hbr2
        by_cases hbig2 : text < (m2 : Int)
        · go_wp2_with fail
          go_quiet ((go_at_call 149; exact Calls.quiet_of_same (blen_any _ m2 _ hm2.out _ (isB_drewN hB'22.isb _))))
          have hb0 : Below w6.heap.size w6 (w6.drewN nq) := below_drewN (Below.refl _ _) _
          have hzr := hz1
          have kk := (And.intro ((hb0.cell (p := ⟨w.heap.size, 0, none⟩) (by dsimp only; omega)).trans y0) (And.intro ((hb0.cell (p := ⟨w.heap.size, 1, none⟩) (by dsimp only; omega)).trans y1) (And.intro ((hb0.cell (p := ⟨w.heap.size, 2, none⟩) (by dsimp only; omega)).trans y2) (And.intro (hr1.below hb0 (by omega)) (And.intro (hq1.trans (hb0.mono (by omega))) (show w1.heap.size ≤ (w6.drewN nq).heap.size by have := hb0.size; omega))))))
          clear y0 y1 y2 hr1 hq1 hz1
          obtain ⟨y0, y1, y2, hr1, hq1, hz1⟩ := kk
          have hB'22' := hB'22.later hb0
          clear hB'22
          have hbr2 := hbr.trans (hb0.mono hzr)
          clear hb0 hbr hzr
          have hbr := hbr2
          clear hbr2
          generalize w6.drewN nq = w7 at *
          clear hbr
          go_wp2_with fail
          refine (verr_any 7 _).mono ?_
          rintro e w9 ⟨rfl, hb1⟩
          have kk := (And.intro ((hb1.cell (p := ⟨w.heap.size, 0, none⟩) (by dsimp only; omega)).trans y0) (And.intro ((hb1.cell (p := ⟨w.heap.size, 1, none⟩) (by dsimp only; omega)).trans y1) (And.intro ((hb1.cell (p := ⟨w.heap.size, 2, none⟩) (by dsimp only; omega)).trans y2) (And.intro (hr1.below hb1 (by omega)) (And.intro (hq1.trans (hb1.mono (by omega))) (show w1.heap.size ≤ w9.heap.size by have := hb1.size; omega))))))
          clear y0 y1 y2 hr1 hq1 hz1
          obtain ⟨y0, y1, y2, hr1, hq1, hz1⟩ := kk
          clear hb1
          go_wp2
          rw [told_long text d (by omega)]
          try simp only [resAt_setCell] at *
          refine bodyPost_ret (v := .agg #[.int .i64 4, .int .i64 0, .string ⟨#[]⟩, .bool false, .int .i64 (errC 7)]) ?_ rfl ⟨rfl, by first | assumption | (go_split_ands; first | assumption | ((repeat (first | (with_reducible exact Below.refl _ _) | (with_reducible refine Below.alloc ?_ (by first | omega | (dsimp only; omega) | (simp <;> omega)) _) | (with_reducible refine Below.setCell ?_ (by first | omega | (dsimp only; omega) | (simp <;> omega)) _) | (with_reducible refine Below.drew ?_) | (with_reducible refine below_drewN ?_ _) | (with_reducible refine Below.trans ?_ (Below.mono (by assumption) (by first | omega | (dsimp only; omega) | (simp <;> omega)))))); done)) | ((repeat (first | (with_reducible exact Below.refl _ _) | (with_reducible refine Below.alloc ?_ (by first | omega | (dsimp only; omega) | (simp <;> omega)) _) | (with_reducible refine Below.setCell ?_ (by first | omega | (dsimp only; omega) | (simp <;> omega)) _) | (with_reducible refine Below.drew ?_) | (with_reducible refine below_drewN ?_ _) | (with_reducible refine Below.trans ?_ (Below.mono (by assumption) (by first | omega | (dsimp only; omega) | (simp <;> omega)))))); done)⟩
          simp [results, Tryz.results76, go_sem, *]
        · go_wp2_with fail
          go_quiet ((go_at_call 149; exact Calls.quiet_of_same (blen_any _ m2 _ hm2.out _ (isB_drewN hB'22.isb _))))
          have hb0 : Below w6.heap.size w6 (w6.drewN nq) := below_drewN (Below.refl _ _) _
          have hzr := hz1
          have kk := (And.intro ((hb0.cell (p := ⟨w.heap.size, 0, none⟩) (by dsimp only; omega)).trans y0) (And.intro ((hb0.cell (p := ⟨w.heap.size, 1, none⟩) (by dsimp only; omega)).trans y1) (And.intro ((hb0.cell (p := ⟨w.heap.size, 2, none⟩) (by dsimp only; omega)).trans y2) (And.intro (hr1.below hb0 (by omega)) (And.intro (hq1.trans (hb0.mono (by omega))) (show w1.heap.size ≤ (w6.drewN nq).heap.size by have := hb0.size; omega))))))
          clear y0 y1 y2 hr1 hq1 hz1
          obtain ⟨y0, y1, y2, hr1, hq1, hz1⟩ := kk
          have hB'22' := hB'22.later hb0
          clear hB'22
          have hbr2 := hbr.trans (hb0.mono hzr)
          clear hb0 hbr hzr
          have hbr := hbr2
          clear hbr2
          generalize w6.drewN nq = w7 at *
          go_wp2
          go_roundw
          case rel =>
            refine ⟨q, acc ++ p.data.toList ++ u.data.toList, k, rfl, by omega, by omega, hB'22', Lib.hid (by rw [hm2.out]; omega), Lib.hid hdd.out, hbr⟩
          case measure => simp only [lenOf]; omega
end Go.Proofs.YtgmhifafbebjfaaGreatDoor
