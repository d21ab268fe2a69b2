/-
  texts: REPT.
-/
import Derived.Test.YtgmhifafbebjfaaGreatDoorTDoA
namespace Go.Proofs.YtgmhifafbebjfaaGreatDoor
open Go.RowKit

/-- a text several times -/
def repS (s : ByteArray) (n : Nat) : ByteArray := ⟨(Lib.repeatL s.data.toList n).toArray⟩
theorem tdiv_in (text : Int) (ht : 0 ≤ text ∧ text ≤ 1024) (m : Nat) : 0 ≤ text.tdiv (m : Int) ∧ text.tdiv (m : Int) ≤ 1024 := by
  rw [Int.tdiv_eq_ediv_of_nonneg ht.1]
  exact ⟨Int.ediv_nonneg ht.1 (by omega), Int.le_trans (Int.ediv_le_self _ ht.1) ht.2⟩
theorem tdiv_wrap (text : Int) (ht : 0 ≤ text ∧ text ≤ 1024) (m : Nat) : wrap64 (text.tdiv (m : Int)) = text.tdiv (m : Int) := by
  have := tdiv_in text ht m
  rw [← IntWalk.i64_left]
  exact IntWalk.i64_in _ (by omega)
theorem repS_size (s : ByteArray) (m : Nat) : (repS s m).size = m * s.size := by
  show (Lib.repeatL s.data.toList m).toArray.size = _
  rw [List.size_toArray, Lib.repeatL_length]
  simp
theorem rep_fits (text : Int) (_ht : 0 ≤ text ∧ text ≤ 1024) (a m : Nat) (ha : 0 < a) (h : (m : Int) ≤ text / (a : Int)) : (m : Int) * (a : Int) ≤ text := (Int.le_ediv_iff_mul_le (by omega)).1 h
set_option maxRecDepth 100000 in
set_option maxHeartbeats 1000000 in
theorem tdo_REPTx (s : ByteArray) (n : Int) (hn : -922337203685477 ≤ n ∧ n ≤ 922337203685477) (h : n < 0) (text : Int) (vs vn : Value) (w : World) (hS : RdStr w vs [s]) (hN : RdInt w vn [n]) : Calls Tryz.prog 74 #[.agg #[vs, vn, .int .i64 text]] w fun e w' => e = .returned (.agg #[.int .i64 (errL 8).t, .int .i64 (errL 8).n, .string (errL 8).s, .bool (errL 8).b, .int .i64 (errL 8).c]) ∧ Below w.heap.size w w' := by
  obtain ⟨A1, cap1, rfl, hR1⟩ := hS
  obtain ⟨A2, cap2, rfl, hR2⟩ := hN
  obtain ⟨sb, so, hA1, hsb, _⟩ := hR1 0 [.string s] rfl
  subst hA1
  have hs0 : w.cell? ⟨sb, so, none⟩ = some (.string s) := by
    obtain ⟨b9, o9, e9, _, h9⟩ := hR1 0 [.string s] rfl
    injection e9 with e9
    injection e9 with e1 e2 _
    subst e1 e2
    simpa using h9 0 _ rfl
  have hsn : sb ≠ w.heap.size := by omega
  have hsl : sb < w.heap.size + 1 := by omega
  obtain ⟨nb, no, hA2, hnb, _⟩ := hR2 0 [.int .i64 n] rfl
  subst hA2
  have hn0 : w.cell? ⟨nb, no, none⟩ = some (.int .i64 n) := by
    obtain ⟨b9, o9, e9, _, h9⟩ := hR2 0 [.int .i64 n] rfl
    injection e9 with e9
    injection e9 with e1 e2 _
    subst e1 e2
    simpa using h9 0 _ rfl
  have hnn : nb ≠ w.heap.size := by omega
  have hnl : nb < w.heap.size + 1 := by omega
  clear hR1 hR2
  simp only [List.length_cons, List.length_nil, Nat.zero_add]
  go_enter Tryz.func74, Tryz.ntmps74
  go_upto_region 1 with (fail)
  go_quiet (fail)
  have y0 : (((w.alloc (.cells #[.slice (some ⟨sb, so, none⟩) 1 cap1, .slice (some ⟨nb, no, none⟩) 1 cap2, .int .i64 text] 47)).alloc (.cells #[.int .i64 0, .int .i64 0, .string ⟨#[]⟩, .bool false, .int .i64 0] 26)).drewN nq).cell? ⟨w.heap.size, 0, none⟩ = some (.slice (some ⟨sb, so, none⟩) 1 cap1) := by simp
  have y1 : (((w.alloc (.cells #[.slice (some ⟨sb, so, none⟩) 1 cap1, .slice (some ⟨nb, no, none⟩) 1 cap2, .int .i64 text] 47)).alloc (.cells #[.int .i64 0, .int .i64 0, .string ⟨#[]⟩, .bool false, .int .i64 0] 26)).drewN nq).cell? ⟨w.heap.size, 1, none⟩ = some (.slice (some ⟨nb, no, none⟩) 1 cap2) := by simp
  have y2 : (((w.alloc (.cells #[.slice (some ⟨sb, so, none⟩) 1 cap1, .slice (some ⟨nb, no, none⟩) 1 cap2, .int .i64 text] 47)).alloc (.cells #[.int .i64 0, .int .i64 0, .string ⟨#[]⟩, .bool false, .int .i64 0] 26)).drewN nq).cell? ⟨w.heap.size, 2, none⟩ = some (.int .i64 text) := by simp
  have z0 : (((w.alloc (.cells #[.slice (some ⟨sb, so, none⟩) 1 cap1, .slice (some ⟨nb, no, none⟩) 1 cap2, .int .i64 text] 47)).alloc (.cells #[.int .i64 0, .int .i64 0, .string ⟨#[]⟩, .bool false, .int .i64 0] 26)).drewN nq).cell? ⟨sb, so, none⟩ = some (.string s) := (((((Below.refl w.heap.size w).alloc (Nat.le_refl _) (.cells #[.slice (some ⟨sb, so, none⟩) 1 cap1, .slice (some ⟨nb, no, none⟩) 1 cap2, .int .i64 text] 47)).alloc (by simp) (.cells #[.int .i64 0, .int .i64 0, .string ⟨#[]⟩, .bool false, .int .i64 0] 26))).cell (p := ⟨sb, so, none⟩) hsb).trans hs0
  have v0 : (((w.alloc (.cells #[.slice (some ⟨sb, so, none⟩) 1 cap1, .slice (some ⟨nb, no, none⟩) 1 cap2, .int .i64 text] 47)).alloc (.cells #[.int .i64 0, .int .i64 0, .string ⟨#[]⟩, .bool false, .int .i64 0] 26)).drewN nq).cell? ⟨nb, no, none⟩ = some (.int .i64 n) := (((((Below.refl w.heap.size w).alloc (Nat.le_refl _) (.cells #[.slice (some ⟨sb, so, none⟩) 1 cap1, .slice (some ⟨nb, no, none⟩) 1 cap2, .int .i64 text] 47)).alloc (by simp) (.cells #[.int .i64 0, .int .i64 0, .string ⟨#[]⟩, .bool false, .int .i64 0] 26))).cell (p := ⟨nb, no, none⟩) hnb).trans hn0
  have hr1 : ResAt (((w.alloc (.cells #[.slice (some ⟨sb, so, none⟩) 1 cap1, .slice (some ⟨nb, no, none⟩) 1 cap2, .int .i64 text] 47)).alloc (.cells #[.int .i64 0, .int .i64 0, .string ⟨#[]⟩, .bool false, .int .i64 0] 26)).drewN nq) (w.heap.size + 1) 5 := by
    have h9 := ResAt.new5 (w.alloc (.cells #[.slice (some ⟨sb, so, none⟩) 1 cap1, .slice (some ⟨nb, no, none⟩) 1 cap2, .int .i64 text] 47)) (.int .i64 0) (.int .i64 0) (.string ⟨#[]⟩) (.bool false) (.int .i64 0) 26
    rw [World.size_alloc] at h9
    exact h9
  have hq1 : Below w.heap.size w (((w.alloc (.cells #[.slice (some ⟨sb, so, none⟩) 1 cap1, .slice (some ⟨nb, no, none⟩) 1 cap2, .int .i64 text] 47)).alloc (.cells #[.int .i64 0, .int .i64 0, .string ⟨#[]⟩, .bool false, .int .i64 0] 26)).drewN nq) := by (repeat (first | (with_reducible exact Below.refl _ _) | (with_reducible refine Below.alloc ?_ (by first | omega | (dsimp only; omega) | (simp <;> omega)) _) | (with_reducible refine Below.setCell ?_ (by first | omega | (dsimp only; omega) | (simp <;> omega)) _) | (with_reducible refine Below.drew ?_) | (with_reducible refine below_drewN ?_ _) | (with_reducible refine Below.trans ?_ (Below.mono (by assumption) (by first | omega | (dsimp only; omega) | (simp <;> omega))))))
  have hz1 : w.heap.size + 2 ≤ (((w.alloc (.cells #[.slice (some ⟨sb, so, none⟩) 1 cap1, .slice (some ⟨nb, no, none⟩) 1 cap2, .int .i64 text] 47)).alloc (.cells #[.int .i64 0, .int .i64 0, .string ⟨#[]⟩, .bool false, .int .i64 0] 26)).drewN nq).heap.size := by simp
  generalize (((w.alloc (.cells #[.slice (some ⟨sb, so, none⟩) 1 cap1, .slice (some ⟨nb, no, none⟩) 1 cap2, .int .i64 text] 47)).alloc (.cells #[.int .i64 0, .int .i64 0, .string ⟨#[]⟩, .bool false, .int .i64 0] 26)).drewN nq) = w1 at *
  clear hs0 hn0
  go_wp2_with fail
  refine (verr_any 8 _).mono ?_
  rintro e w2 ⟨rfl, hb1⟩
  have y0 := (hb1.cell (p := ⟨w.heap.size, 0, none⟩) (by dsimp only; omega)).trans y0
  have y1 := (hb1.cell (p := ⟨w.heap.size, 1, none⟩) (by dsimp only; omega)).trans y1
  have y2 := (hb1.cell (p := ⟨w.heap.size, 2, none⟩) (by dsimp only; omega)).trans y2
  have z0 := (hb1.cell (p := ⟨sb, so, none⟩) (by dsimp only; omega)).trans z0
  have v0 := (hb1.cell (p := ⟨nb, no, none⟩) (by dsimp only; omega)).trans v0
  have hr1 := hr1.below hb1 (by omega)
  have hq1 := hq1.trans (hb1.mono (by omega))
  have hz1 : w.heap.size + 2 ≤ w2.heap.size := by have := hb1.size; omega
  clear hb1
  go_wp2
  try simp only [resAt_setCell] at *
  refine bodyPost_ret (v := .agg #[.int .i64 4, .int .i64 0, .string ⟨#[]⟩, .bool false, .int .i64 (errC 8)]) ?_ rfl ⟨rfl, by first | assumption | (go_split_ands; first | assumption | ((repeat (first | (with_reducible exact Below.refl _ _) | (with_reducible refine Below.alloc ?_ (by first | omega | (dsimp only; omega) | (simp <;> omega)) _) | (with_reducible refine Below.setCell ?_ (by first | omega | (dsimp only; omega) | (simp <;> omega)) _) | (with_reducible refine Below.drew ?_) | (with_reducible refine below_drewN ?_ _) | (with_reducible refine Below.trans ?_ (Below.mono (by assumption) (by first | omega | (dsimp only; omega) | (simp <;> omega)))))); done)) | ((repeat (first | (with_reducible exact Below.refl _ _) | (with_reducible refine Below.alloc ?_ (by first | omega | (dsimp only; omega) | (simp <;> omega)) _) | (with_reducible refine Below.setCell ?_ (by first | omega | (dsimp only; omega) | (simp <;> omega)) _) | (with_reducible refine Below.drew ?_) | (with_reducible refine below_drewN ?_ _) | (with_reducible refine Below.trans ?_ (Below.mono (by assumption) (by first | omega | (dsimp only; omega) | (simp <;> omega)))))); done)⟩
  simp [results, Tryz.results74, go_sem, *]
set_option maxRecDepth 100000 in
set_option maxHeartbeats 1000000 in
theorem tdo_REPTl (s : ByteArray) (n : Int) (hn : -922337203685477 ≤ n ∧ n ≤ 922337203685477) (h : 0 < n) (hp : 0 < s.size) (text : Int) (ht : 0 ≤ text ∧ text ≤ 1024) (hq : text / (s.size : Int) < n) (vs vn : Value) (w : World) (hS : RdStr w vs [s]) (hN : RdInt w vn [n]) : Calls Tryz.prog 74 #[.agg #[vs, vn, .int .i64 text]] w fun e w' => e = .returned (.agg #[.int .i64 (errL 7).t, .int .i64 (errL 7).n, .string (errL 7).s, .bool (errL 7).b, .int .i64 (errL 7).c]) ∧ Below w.heap.size w w' := by
  obtain ⟨A1, cap1, rfl, hR1⟩ := hS
  obtain ⟨A2, cap2, rfl, hR2⟩ := hN
  obtain ⟨sb, so, hA1, hsb, _⟩ := hR1 0 [.string s] rfl
  subst hA1
  have hs0 : w.cell? ⟨sb, so, none⟩ = some (.string s) := by
    obtain ⟨b9, o9, e9, _, h9⟩ := hR1 0 [.string s] rfl
    injection e9 with e9
    injection e9 with e1 e2 _
    subst e1 e2
    simpa using h9 0 _ rfl
  have hsn : sb ≠ w.heap.size := by omega
  have hsl : sb < w.heap.size + 1 := by omega
  obtain ⟨nb, no, hA2, hnb, _⟩ := hR2 0 [.int .i64 n] rfl
  subst hA2
  have hn0 : w.cell? ⟨nb, no, none⟩ = some (.int .i64 n) := by
    obtain ⟨b9, o9, e9, _, h9⟩ := hR2 0 [.int .i64 n] rfl
    injection e9 with e9
    injection e9 with e1 e2 _
    subst e1 e2
    simpa using h9 0 _ rfl
  have hnn : nb ≠ w.heap.size := by omega
  have hnl : nb < w.heap.size + 1 := by omega
  clear hR1 hR2
  simp only [List.length_cons, List.length_nil, Nat.zero_add]
  have h0 : ¬ n < 0 := by omega
  have hnz : ¬ n = 0 := by omega
  have hne : ¬ s = ⟨#[]⟩ := by rintro rfl; exact absurd hp (by decide)
  have hwq := tdiv_wrap text ht s.size

  go_enter Tryz.func74, Tryz.ntmps74
  go_upto_region 1 with (fail)
  go_quiet (fail)
  have y0 : (((w.alloc (.cells #[.slice (some ⟨sb, so, none⟩) 1 cap1, .slice (some ⟨nb, no, none⟩) 1 cap2, .int .i64 text] 47)).alloc (.cells #[.int .i64 0, .int .i64 0, .string ⟨#[]⟩, .bool false, .int .i64 0] 26)).drewN nq).cell? ⟨w.heap.size, 0, none⟩ = some (.slice (some ⟨sb, so, none⟩) 1 cap1) := by simp
  have y1 : (((w.alloc (.cells #[.slice (some ⟨sb, so, none⟩) 1 cap1, .slice (some ⟨nb, no, none⟩) 1 cap2, .int .i64 text] 47)).alloc (.cells #[.int .i64 0, .int .i64 0, .string ⟨#[]⟩, .bool false, .int .i64 0] 26)).drewN nq).cell? ⟨w.heap.size, 1, none⟩ = some (.slice (some ⟨nb, no, none⟩) 1 cap2) := by simp
  have y2 : (((w.alloc (.cells #[.slice (some ⟨sb, so, none⟩) 1 cap1, .slice (some ⟨nb, no, none⟩) 1 cap2, .int .i64 text] 47)).alloc (.cells #[.int .i64 0, .int .i64 0, .string ⟨#[]⟩, .bool false, .int .i64 0] 26)).drewN nq).cell? ⟨w.heap.size, 2, none⟩ = some (.int .i64 text) := by simp
  have z0 : (((w.alloc (.cells #[.slice (some ⟨sb, so, none⟩) 1 cap1, .slice (some ⟨nb, no, none⟩) 1 cap2, .int .i64 text] 47)).alloc (.cells #[.int .i64 0, .int .i64 0, .string ⟨#[]⟩, .bool false, .int .i64 0] 26)).drewN nq).cell? ⟨sb, so, none⟩ = some (.string s) := (((((Below.refl w.heap.size w).alloc (Nat.le_refl _) (.cells #[.slice (some ⟨sb, so, none⟩) 1 cap1, .slice (some ⟨nb, no, none⟩) 1 cap2, .int .i64 text] 47)).alloc (by simp) (.cells #[.int .i64 0, .int .i64 0, .string ⟨#[]⟩, .bool false, .int .i64 0] 26))).cell (p := ⟨sb, so, none⟩) hsb).trans hs0
  have v0 : (((w.alloc (.cells #[.slice (some ⟨sb, so, none⟩) 1 cap1, .slice (some ⟨nb, no, none⟩) 1 cap2, .int .i64 text] 47)).alloc (.cells #[.int .i64 0, .int .i64 0, .string ⟨#[]⟩, .bool false, .int .i64 0] 26)).drewN nq).cell? ⟨nb, no, none⟩ = some (.int .i64 n) := (((((Below.refl w.heap.size w).alloc (Nat.le_refl _) (.cells #[.slice (some ⟨sb, so, none⟩) 1 cap1, .slice (some ⟨nb, no, none⟩) 1 cap2, .int .i64 text] 47)).alloc (by simp) (.cells #[.int .i64 0, .int .i64 0, .string ⟨#[]⟩, .bool false, .int .i64 0] 26))).cell (p := ⟨nb, no, none⟩) hnb).trans hn0
  have hr1 : ResAt (((w.alloc (.cells #[.slice (some ⟨sb, so, none⟩) 1 cap1, .slice (some ⟨nb, no, none⟩) 1 cap2, .int .i64 text] 47)).alloc (.cells #[.int .i64 0, .int .i64 0, .string ⟨#[]⟩, .bool false, .int .i64 0] 26)).drewN nq) (w.heap.size + 1) 5 := by
    have h9 := ResAt.new5 (w.alloc (.cells #[.slice (some ⟨sb, so, none⟩) 1 cap1, .slice (some ⟨nb, no, none⟩) 1 cap2, .int .i64 text] 47)) (.int .i64 0) (.int .i64 0) (.string ⟨#[]⟩) (.bool false) (.int .i64 0) 26
    rw [World.size_alloc] at h9
    exact h9
  have hq1 : Below w.heap.size w (((w.alloc (.cells #[.slice (some ⟨sb, so, none⟩) 1 cap1, .slice (some ⟨nb, no, none⟩) 1 cap2, .int .i64 text] 47)).alloc (.cells #[.int .i64 0, .int .i64 0, .string ⟨#[]⟩, .bool false, .int .i64 0] 26)).drewN nq) := by (repeat (first | (with_reducible exact Below.refl _ _) | (with_reducible refine Below.alloc ?_ (by first | omega | (dsimp only; omega) | (simp <;> omega)) _) | (with_reducible refine Below.setCell ?_ (by first | omega | (dsimp only; omega) | (simp <;> omega)) _) | (with_reducible refine Below.drew ?_) | (with_reducible refine below_drewN ?_ _) | (with_reducible refine Below.trans ?_ (Below.mono (by assumption) (by first | omega | (dsimp only; omega) | (simp <;> omega))))))
  have hz1 : w.heap.size + 2 ≤ (((w.alloc (.cells #[.slice (some ⟨sb, so, none⟩) 1 cap1, .slice (some ⟨nb, no, none⟩) 1 cap2, .int .i64 text] 47)).alloc (.cells #[.int .i64 0, .int .i64 0, .string ⟨#[]⟩, .bool false, .int .i64 0] 26)).drewN nq).heap.size := by simp
  generalize (((w.alloc (.cells #[.slice (some ⟨sb, so, none⟩) 1 cap1, .slice (some ⟨nb, no, none⟩) 1 cap2, .int .i64 text] 47)).alloc (.cells #[.int .i64 0, .int .i64 0, .string ⟨#[]⟩, .bool false, .int .i64 0] 26)).drewN nq) = w1 at *
  clear hs0 hn0
  go_wp2_with fail
  refine (verr_any 7 _).mono ?_
  rintro e w2 ⟨rfl, hb1⟩
  have y0 := (hb1.cell (p := ⟨w.heap.size, 0, none⟩) (by dsimp only; omega)).trans y0
  have y1 := (hb1.cell (p := ⟨w.heap.size, 1, none⟩) (by dsimp only; omega)).trans y1
  have y2 := (hb1.cell (p := ⟨w.heap.size, 2, none⟩) (by dsimp only; omega)).trans y2
  have z0 := (hb1.cell (p := ⟨sb, so, none⟩) (by dsimp only; omega)).trans z0
  have v0 := (hb1.cell (p := ⟨nb, no, none⟩) (by dsimp only; omega)).trans v0
  have hr1 := hr1.below hb1 (by omega)
  have hq1 := hq1.trans (hb1.mono (by omega))
  have hz1 : w.heap.size + 2 ≤ w2.heap.size := by have := hb1.size; omega
  clear hb1
  go_wp2
  try simp only [resAt_setCell] at *
  refine bodyPost_ret (v := .agg #[.int .i64 4, .int .i64 0, .string ⟨#[]⟩, .bool false, .int .i64 (errC 7)]) ?_ rfl ⟨rfl, by first | assumption | (go_split_ands; first | assumption | ((repeat (first | (with_reducible exact Below.refl _ _) | (with_reducible refine Below.alloc ?_ (by first | omega | (dsimp only; omega) | (simp <;> omega)) _) | (with_reducible refine Below.setCell ?_ (by first | omega | (dsimp only; omega) | (simp <;> omega)) _) | (with_reducible refine Below.drew ?_) | (with_reducible refine below_drewN ?_ _) | (with_reducible refine Below.trans ?_ (Below.mono (by assumption) (by first | omega | (dsimp only; omega) | (simp <;> omega)))))); done)) | ((repeat (first | (with_reducible exact Below.refl _ _) | (with_reducible refine Below.alloc ?_ (by first | omega | (dsimp only; omega) | (simp <;> omega)) _) | (with_reducible refine Below.setCell ?_ (by first | omega | (dsimp only; omega) | (simp <;> omega)) _) | (with_reducible refine Below.drew ?_) | (with_reducible refine below_drewN ?_ _) | (with_reducible refine Below.trans ?_ (Below.mono (by assumption) (by first | omega | (dsimp only; omega) | (simp <;> omega)))))); done)⟩
  simp [results, Tryz.results74, go_sem, *]
set_option maxRecDepth 100000 in
set_option maxHeartbeats 1000000 in
theorem tdo_REPT1 (s : ByteArray) (m : Nat) (h : 0 < m) (hp : 0 < s.size) (text : Int) (ht : 0 ≤ text ∧ text ≤ 1024) (hq : (m : Int) ≤ text / (s.size : Int)) (vs vn : Value) (w : World) (hS : RdStr w vs [s]) (hN : RdInt w vn [(m : Int)]) : Calls Tryz.prog 74 #[.agg #[vs, vn, .int .i64 text]] w fun e w' => e = .returned (.agg #[.int .i64 (toldT text (repS s m)).t, .int .i64 (toldT text (repS s m)).n, .string (toldT text (repS s m)).s, .bool (toldT text (repS s m)).b, .int .i64 (toldT text (repS s m)).c]) ∧ Below w.heap.size w w' := by
  obtain ⟨A1, cap1, rfl, hR1⟩ := hS
  obtain ⟨A2, cap2, rfl, hR2⟩ := hN
  obtain ⟨sb, so, hA1, hsb, _⟩ := hR1 0 [.string s] rfl
  subst hA1
  have hs0 : w.cell? ⟨sb, so, none⟩ = some (.string s) := by
    obtain ⟨b9, o9, e9, _, h9⟩ := hR1 0 [.string s] rfl
    injection e9 with e9
    injection e9 with e1 e2 _
    subst e1 e2
    simpa using h9 0 _ rfl
  have hsn : sb ≠ w.heap.size := by omega
  have hsl : sb < w.heap.size + 1 := by omega
  obtain ⟨nb, no, hA2, hnb, _⟩ := hR2 0 [.int .i64 (m : Int)] rfl
  subst hA2
  have hn0 : w.cell? ⟨nb, no, none⟩ = some (.int .i64 (m : Int)) := by
    obtain ⟨b9, o9, e9, _, h9⟩ := hR2 0 [.int .i64 (m : Int)] rfl
    injection e9 with e9
    injection e9 with e1 e2 _
    subst e1 e2
    simpa using h9 0 _ rfl
  have hnn : nb ≠ w.heap.size := by omega
  have hnl : nb < w.heap.size + 1 := by omega
  clear hR1 hR2
  simp only [List.length_cons, List.length_nil, Nat.zero_add]
  have hf := rep_fits text ht s.size m hp hq
  have hf2 : m * s.size ≤ 1024 := by
    have h9 : ((m * s.size : Nat) : Int) ≤ 1024 := by rw [Int.natCast_mul]; omega
    omega
  have hf3 : s.size * m ≤ 1024 := by rw [Nat.mul_comm]; exact hf2
  have hm : m ≤ 1024 := Nat.le_trans (Nat.le_mul_of_pos_right m hp) hf2
  obtain ⟨d, hd⟩ : ∃ d, repS s m = d := ⟨_, rfl⟩
  have hdl : d.size ≤ 1024 := by rw [← hd, repS_size]; exact hf2
  have CR : ∀ w : World, Calls Tryz.prog 77 #[.string s, .int .i64 (m : Int)] w fun e w' => e = .returned (.string d) ∧ Below w.heap.size w w' := fun w => by
    have := Tryz.strings_Repeat s m w (by omega) (by omega)
    rw [← hd]; exact this
  rw [hd]
  have CR' := Lib.hid CR
  have hnz : ¬ (m : Int) = 0 := by omega
  have h0 : ¬ (m : Int) < 0 := by omega
  have hne : ¬ s = ⟨#[]⟩ := by rintro rfl; exact absurd hp (by decide)
  have hq2 : ¬ text / (s.size : Int) < (m : Int) := by omega
  clear hd CR hf hf2 hf3
  go_enter Tryz.func74, Tryz.ntmps74
  go_upto_region 1 with (fail)
  go_quiet (fail)
  have y0 : (((w.alloc (.cells #[.slice (some ⟨sb, so, none⟩) 1 cap1, .slice (some ⟨nb, no, none⟩) 1 cap2, .int .i64 text] 47)).alloc (.cells #[.int .i64 0, .int .i64 0, .string ⟨#[]⟩, .bool false, .int .i64 0] 26)).drewN nq).cell? ⟨w.heap.size, 0, none⟩ = some (.slice (some ⟨sb, so, none⟩) 1 cap1) := by simp
  have y1 : (((w.alloc (.cells #[.slice (some ⟨sb, so, none⟩) 1 cap1, .slice (some ⟨nb, no, none⟩) 1 cap2, .int .i64 text] 47)).alloc (.cells #[.int .i64 0, .int .i64 0, .string ⟨#[]⟩, .bool false, .int .i64 0] 26)).drewN nq).cell? ⟨w.heap.size, 1, none⟩ = some (.slice (some ⟨nb, no, none⟩) 1 cap2) := by simp
  have y2 : (((w.alloc (.cells #[.slice (some ⟨sb, so, none⟩) 1 cap1, .slice (some ⟨nb, no, none⟩) 1 cap2, .int .i64 text] 47)).alloc (.cells #[.int .i64 0, .int .i64 0, .string ⟨#[]⟩, .bool false, .int .i64 0] 26)).drewN nq).cell? ⟨w.heap.size, 2, none⟩ = some (.int .i64 text) := by simp
  have z0 : (((w.alloc (.cells #[.slice (some ⟨sb, so, none⟩) 1 cap1, .slice (some ⟨nb, no, none⟩) 1 cap2, .int .i64 text] 47)).alloc (.cells #[.int .i64 0, .int .i64 0, .string ⟨#[]⟩, .bool false, .int .i64 0] 26)).drewN nq).cell? ⟨sb, so, none⟩ = some (.string s) := (((((Below.refl w.heap.size w).alloc (Nat.le_refl _) (.cells #[.slice (some ⟨sb, so, none⟩) 1 cap1, .slice (some ⟨nb, no, none⟩) 1 cap2, .int .i64 text] 47)).alloc (by simp) (.cells #[.int .i64 0, .int .i64 0, .string ⟨#[]⟩, .bool false, .int .i64 0] 26))).cell (p := ⟨sb, so, none⟩) hsb).trans hs0
  have v0 : (((w.alloc (.cells #[.slice (some ⟨sb, so, none⟩) 1 cap1, .slice (some ⟨nb, no, none⟩) 1 cap2, .int .i64 text] 47)).alloc (.cells #[.int .i64 0, .int .i64 0, .string ⟨#[]⟩, .bool false, .int .i64 0] 26)).drewN nq).cell? ⟨nb, no, none⟩ = some (.int .i64 (m : Int)) := (((((Below.refl w.heap.size w).alloc (Nat.le_refl _) (.cells #[.slice (some ⟨sb, so, none⟩) 1 cap1, .slice (some ⟨nb, no, none⟩) 1 cap2, .int .i64 text] 47)).alloc (by simp) (.cells #[.int .i64 0, .int .i64 0, .string ⟨#[]⟩, .bool false, .int .i64 0] 26))).cell (p := ⟨nb, no, none⟩) hnb).trans hn0
  have hr1 : ResAt (((w.alloc (.cells #[.slice (some ⟨sb, so, none⟩) 1 cap1, .slice (some ⟨nb, no, none⟩) 1 cap2, .int .i64 text] 47)).alloc (.cells #[.int .i64 0, .int .i64 0, .string ⟨#[]⟩, .bool false, .int .i64 0] 26)).drewN nq) (w.heap.size + 1) 5 := by
    have h9 := ResAt.new5 (w.alloc (.cells #[.slice (some ⟨sb, so, none⟩) 1 cap1, .slice (some ⟨nb, no, none⟩) 1 cap2, .int .i64 text] 47)) (.int .i64 0) (.int .i64 0) (.string ⟨#[]⟩) (.bool false) (.int .i64 0) 26
    rw [World.size_alloc] at h9
    exact h9
  have hq1 : Below w.heap.size w (((w.alloc (.cells #[.slice (some ⟨sb, so, none⟩) 1 cap1, .slice (some ⟨nb, no, none⟩) 1 cap2, .int .i64 text] 47)).alloc (.cells #[.int .i64 0, .int .i64 0, .string ⟨#[]⟩, .bool false, .int .i64 0] 26)).drewN nq) := by (repeat (first | (with_reducible exact Below.refl _ _) | (with_reducible refine Below.alloc ?_ (by first | omega | (dsimp only; omega) | (simp <;> omega)) _) | (with_reducible refine Below.setCell ?_ (by first | omega | (dsimp only; omega) | (simp <;> omega)) _) | (with_reducible refine Below.drew ?_) | (with_reducible refine below_drewN ?_ _) | (with_reducible refine Below.trans ?_ (Below.mono (by assumption) (by first | omega | (dsimp only; omega) | (simp <;> omega))))))
  have hz1 : w.heap.size + 2 ≤ (((w.alloc (.cells #[.slice (some ⟨sb, so, none⟩) 1 cap1, .slice (some ⟨nb, no, none⟩) 1 cap2, .int .i64 text] 47)).alloc (.cells #[.int .i64 0, .int .i64 0, .string ⟨#[]⟩, .bool false, .int .i64 0] 26)).drewN nq).heap.size := by simp
  generalize (((w.alloc (.cells #[.slice (some ⟨sb, so, none⟩) 1 cap1, .slice (some ⟨nb, no, none⟩) 1 cap2, .int .i64 text] 47)).alloc (.cells #[.int .i64 0, .int .i64 0, .string ⟨#[]⟩, .bool false, .int .i64 0] 26)).drewN nq) = w1 at *
  clear hs0 hn0
  go_wp2_with fail
  first | (go_loud (go_region_held3 (fun w' => w'.cell? ⟨w.heap.size, 0, none⟩ = some (.slice (some ⟨sb, so, none⟩) 1 cap1) ∧ w'.cell? ⟨w.heap.size, 1, none⟩ = some (.slice (some ⟨nb, no, none⟩) 1 cap2) ∧ w'.cell? ⟨w.heap.size, 2, none⟩ = some (.int .i64 text) ∧ w'.cell? ⟨sb, so, none⟩ = some (.string s) ∧ w'.cell? ⟨nb, no, none⟩ = some (.int .i64 (m : Int)) ∧ ResAt w' (w.heap.size + 1) 5 ∧ Below w.heap.size w w' ∧ w.heap.size + 1 + 1 ≤ w'.heap.size)
    (first | (go_split_ands; exact ⟨(by simp [go_sem, *]), (by simp [go_sem, *]), (by simp [go_sem, *]), (by simp [go_sem, *]), (by simp [go_sem, *]), (by first | (with_reducible exact ResAt.drew (ResAt.new5 _ _ _ _ _ _ _)) | (repeat (first | (with_reducible assumption) | (with_reducible refine ResAt.setCell ?_ _ _) | (with_reducible refine ResAt.drew ?_)))), (by (repeat (first | (with_reducible exact Below.refl _ _) | (with_reducible refine Below.alloc ?_ (by first | omega | (dsimp only; omega) | (simp <;> omega)) _) | (with_reducible refine Below.setCell ?_ (by first | omega | (dsimp only; omega) | (simp <;> omega)) _) | (with_reducible refine Below.drew ?_) | (with_reducible refine below_drewN ?_ _) | (with_reducible refine Below.trans ?_ (Below.mono (by assumption) (by first | omega | (dsimp only; omega) | (simp <;> omega))))))), (by first | (simp; done) | (simp; omega))⟩) | (exact ⟨(by simp [go_sem, *]), (by simp [go_sem, *]), (by simp [go_sem, *]), (by simp [go_sem, *]), (by simp [go_sem, *]), (by first | (with_reducible exact ResAt.drew (ResAt.new5 _ _ _ _ _ _ _)) | (repeat (first | (with_reducible assumption) | (with_reducible refine ResAt.setCell ?_ _ _) | (with_reducible refine ResAt.drew ?_)))), (by (repeat (first | (with_reducible exact Below.refl _ _) | (with_reducible refine Below.alloc ?_ (by first | omega | (dsimp only; omega) | (simp <;> omega)) _) | (with_reducible refine Below.setCell ?_ (by first | omega | (dsimp only; omega) | (simp <;> omega)) _) | (with_reducible refine Below.drew ?_) | (with_reducible refine below_drewN ?_ _) | (with_reducible refine Below.trans ?_ (Below.mono (by assumption) (by first | omega | (dsimp only; omega) | (simp <;> omega))))))), (by first | (simp; done) | (simp; omega))⟩) | (go_split_ands; exact ⟨(by rw [hb.cell (by dsimp only; omega)]; assumption), (by rw [hb.cell (by dsimp only; omega)]; assumption), (by rw [hb.cell (by dsimp only; omega)]; assumption), (by rw [hb.cell (by dsimp only; omega)]; assumption), (by rw [hb.cell (by dsimp only; omega)]; assumption), (ResAt.below (by assumption) hb (by omega)), (Below.trans (by assumption) (hb.mono (by omega))), (by have := hb.size; omega)⟩))
    (first | (go_at_call 77; refine (CR'.out _).mono ?_; rintro e w1 ⟨rfl, hb⟩) | (go_at_call 143; refine (ttold_any _ _ _ _ _ _ text d (by omega) _).mono ?_; rintro e w1 ⟨rfl, hb⟩)))) | fail "region"
  go_split_ands
  go_wp2
  try simp only [resAt_setCell] at *
  refine bodyPost_ret (v := .agg #[.int .i64 (toldT text d).t, .int .i64 (toldT text d).n, .string (toldT text d).s, .bool (toldT text d).b, .int .i64 (toldT text d).c]) ?_ rfl ⟨rfl, by first | assumption | (go_split_ands; first | assumption | ((repeat (first | (with_reducible exact Below.refl _ _) | (with_reducible refine Below.alloc ?_ (by first | omega | (dsimp only; omega) | (simp <;> omega)) _) | (with_reducible refine Below.setCell ?_ (by first | omega | (dsimp only; omega) | (simp <;> omega)) _) | (with_reducible refine Below.drew ?_) | (with_reducible refine below_drewN ?_ _) | (with_reducible refine Below.trans ?_ (Below.mono (by assumption) (by first | omega | (dsimp only; omega) | (simp <;> omega)))))); done)) | ((repeat (first | (with_reducible exact Below.refl _ _) | (with_reducible refine Below.alloc ?_ (by first | omega | (dsimp only; omega) | (simp <;> omega)) _) | (with_reducible refine Below.setCell ?_ (by first | omega | (dsimp only; omega) | (simp <;> omega)) _) | (with_reducible refine Below.drew ?_) | (with_reducible refine below_drewN ?_ _) | (with_reducible refine Below.trans ?_ (Below.mono (by assumption) (by first | omega | (dsimp only; omega) | (simp <;> omega)))))); done)⟩
  simp [results, Tryz.results74, go_sem, *]
set_option maxRecDepth 100000 in
set_option maxHeartbeats 1000000 in
theorem tdo_REPT0s (n : Int) (hn : -922337203685477 ≤ n ∧ n ≤ 922337203685477) (h : 0 ≤ n) (text : Int) (vs vn : Value) (w : World) (hS : RdStr w vs [(⟨#[]⟩ : ByteArray)]) (hN : RdInt w vn [n]) : Calls Tryz.prog 74 #[.agg #[vs, vn, .int .i64 text]] w fun e w' => e = .returned (.agg #[.int .i64 (toldT text ⟨#[]⟩).t, .int .i64 (toldT text ⟨#[]⟩).n, .string (toldT text ⟨#[]⟩).s, .bool (toldT text ⟨#[]⟩).b, .int .i64 (toldT text ⟨#[]⟩).c]) ∧ Below w.heap.size w w' := by
  obtain ⟨A1, cap1, rfl, hR1⟩ := hS
  obtain ⟨A2, cap2, rfl, hR2⟩ := hN
  obtain ⟨sb, so, hA1, hsb, _⟩ := hR1 0 [.string (⟨#[]⟩ : ByteArray)] rfl
  subst hA1
  have hs0 : w.cell? ⟨sb, so, none⟩ = some (.string (⟨#[]⟩ : ByteArray)) := by
    obtain ⟨b9, o9, e9, _, h9⟩ := hR1 0 [.string (⟨#[]⟩ : ByteArray)] rfl
    injection e9 with e9
    injection e9 with e1 e2 _
    subst e1 e2
    simpa using h9 0 _ rfl
  have hsn : sb ≠ w.heap.size := by omega
  have hsl : sb < w.heap.size + 1 := by omega
  obtain ⟨nb, no, hA2, hnb, _⟩ := hR2 0 [.int .i64 n] rfl
  subst hA2
  have hn0 : w.cell? ⟨nb, no, none⟩ = some (.int .i64 n) := by
    obtain ⟨b9, o9, e9, _, h9⟩ := hR2 0 [.int .i64 n] rfl
    injection e9 with e9
    injection e9 with e1 e2 _
    subst e1 e2
    simpa using h9 0 _ rfl
  have hnn : nb ≠ w.heap.size := by omega
  have hnl : nb < w.heap.size + 1 := by omega
  clear hR1 hR2
  simp only [List.length_cons, List.length_nil, Nat.zero_add]
  have h0 : ¬ n < 0 := by omega
  go_enter Tryz.func74, Tryz.ntmps74
  go_upto_region 1 with (fail)
  go_quiet (fail)
  have y0 : (((w.alloc (.cells #[.slice (some ⟨sb, so, none⟩) 1 cap1, .slice (some ⟨nb, no, none⟩) 1 cap2, .int .i64 text] 47)).alloc (.cells #[.int .i64 0, .int .i64 0, .string ⟨#[]⟩, .bool false, .int .i64 0] 26)).drewN nq).cell? ⟨w.heap.size, 0, none⟩ = some (.slice (some ⟨sb, so, none⟩) 1 cap1) := by simp
  have y1 : (((w.alloc (.cells #[.slice (some ⟨sb, so, none⟩) 1 cap1, .slice (some ⟨nb, no, none⟩) 1 cap2, .int .i64 text] 47)).alloc (.cells #[.int .i64 0, .int .i64 0, .string ⟨#[]⟩, .bool false, .int .i64 0] 26)).drewN nq).cell? ⟨w.heap.size, 1, none⟩ = some (.slice (some ⟨nb, no, none⟩) 1 cap2) := by simp
  have y2 : (((w.alloc (.cells #[.slice (some ⟨sb, so, none⟩) 1 cap1, .slice (some ⟨nb, no, none⟩) 1 cap2, .int .i64 text] 47)).alloc (.cells #[.int .i64 0, .int .i64 0, .string ⟨#[]⟩, .bool false, .int .i64 0] 26)).drewN nq).cell? ⟨w.heap.size, 2, none⟩ = some (.int .i64 text) := by simp
  have z0 : (((w.alloc (.cells #[.slice (some ⟨sb, so, none⟩) 1 cap1, .slice (some ⟨nb, no, none⟩) 1 cap2, .int .i64 text] 47)).alloc (.cells #[.int .i64 0, .int .i64 0, .string ⟨#[]⟩, .bool false, .int .i64 0] 26)).drewN nq).cell? ⟨sb, so, none⟩ = some (.string (⟨#[]⟩ : ByteArray)) := (((((Below.refl w.heap.size w).alloc (Nat.le_refl _) (.cells #[.slice (some ⟨sb, so, none⟩) 1 cap1, .slice (some ⟨nb, no, none⟩) 1 cap2, .int .i64 text] 47)).alloc (by simp) (.cells #[.int .i64 0, .int .i64 0, .string ⟨#[]⟩, .bool false, .int .i64 0] 26))).cell (p := ⟨sb, so, none⟩) hsb).trans hs0
  have v0 : (((w.alloc (.cells #[.slice (some ⟨sb, so, none⟩) 1 cap1, .slice (some ⟨nb, no, none⟩) 1 cap2, .int .i64 text] 47)).alloc (.cells #[.int .i64 0, .int .i64 0, .string ⟨#[]⟩, .bool false, .int .i64 0] 26)).drewN nq).cell? ⟨nb, no, none⟩ = some (.int .i64 n) := (((((Below.refl w.heap.size w).alloc (Nat.le_refl _) (.cells #[.slice (some ⟨sb, so, none⟩) 1 cap1, .slice (some ⟨nb, no, none⟩) 1 cap2, .int .i64 text] 47)).alloc (by simp) (.cells #[.int .i64 0, .int .i64 0, .string ⟨#[]⟩, .bool false, .int .i64 0] 26))).cell (p := ⟨nb, no, none⟩) hnb).trans hn0
  have hr1 : ResAt (((w.alloc (.cells #[.slice (some ⟨sb, so, none⟩) 1 cap1, .slice (some ⟨nb, no, none⟩) 1 cap2, .int .i64 text] 47)).alloc (.cells #[.int .i64 0, .int .i64 0, .string ⟨#[]⟩, .bool false, .int .i64 0] 26)).drewN nq) (w.heap.size + 1) 5 := by
    have h9 := ResAt.new5 (w.alloc (.cells #[.slice (some ⟨sb, so, none⟩) 1 cap1, .slice (some ⟨nb, no, none⟩) 1 cap2, .int .i64 text] 47)) (.int .i64 0) (.int .i64 0) (.string ⟨#[]⟩) (.bool false) (.int .i64 0) 26
    rw [World.size_alloc] at h9
    exact h9
  have hq1 : Below w.heap.size w (((w.alloc (.cells #[.slice (some ⟨sb, so, none⟩) 1 cap1, .slice (some ⟨nb, no, none⟩) 1 cap2, .int .i64 text] 47)).alloc (.cells #[.int .i64 0, .int .i64 0, .string ⟨#[]⟩, .bool false, .int .i64 0] 26)).drewN nq) := by (repeat (first | (with_reducible exact Below.refl _ _) | (with_reducible refine Below.alloc ?_ (by first | omega | (dsimp only; omega) | (simp <;> omega)) _) | (with_reducible refine Below.setCell ?_ (by first | omega | (dsimp only; omega) | (simp <;> omega)) _) | (with_reducible refine Below.drew ?_) | (with_reducible refine below_drewN ?_ _) | (with_reducible refine Below.trans ?_ (Below.mono (by assumption) (by first | omega | (dsimp only; omega) | (simp <;> omega))))))
  have hz1 : w.heap.size + 2 ≤ (((w.alloc (.cells #[.slice (some ⟨sb, so, none⟩) 1 cap1, .slice (some ⟨nb, no, none⟩) 1 cap2, .int .i64 text] 47)).alloc (.cells #[.int .i64 0, .int .i64 0, .string ⟨#[]⟩, .bool false, .int .i64 0] 26)).drewN nq).heap.size := by simp
  generalize (((w.alloc (.cells #[.slice (some ⟨sb, so, none⟩) 1 cap1, .slice (some ⟨nb, no, none⟩) 1 cap2, .int .i64 text] 47)).alloc (.cells #[.int .i64 0, .int .i64 0, .string ⟨#[]⟩, .bool false, .int .i64 0] 26)).drewN nq) = w1 at *
  clear hs0 hn0
  go_wp2_with fail
  refine (ttold_any _ _ _ _ _ _ text ⟨#[]⟩ (by decide) _).mono ?_
  rintro e w2 ⟨rfl, hb1⟩
  have y0 := (hb1.cell (p := ⟨w.heap.size, 0, none⟩) (by dsimp only; omega)).trans y0
  have y1 := (hb1.cell (p := ⟨w.heap.size, 1, none⟩) (by dsimp only; omega)).trans y1
  have y2 := (hb1.cell (p := ⟨w.heap.size, 2, none⟩) (by dsimp only; omega)).trans y2
  have z0 := (hb1.cell (p := ⟨sb, so, none⟩) (by dsimp only; omega)).trans z0
  have v0 := (hb1.cell (p := ⟨nb, no, none⟩) (by dsimp only; omega)).trans v0
  have hr1 := hr1.below hb1 (by omega)
  have hq1 := hq1.trans (hb1.mono (by omega))
  have hz1 : w.heap.size + 2 ≤ w2.heap.size := by have := hb1.size; omega
  clear hb1
  go_wp2
  try simp only [resAt_setCell] at *
  refine bodyPost_ret (v := .agg #[.int .i64 (toldT text ⟨#[]⟩).t, .int .i64 (toldT text ⟨#[]⟩).n, .string (toldT text ⟨#[]⟩).s, .bool (toldT text ⟨#[]⟩).b, .int .i64 (toldT text ⟨#[]⟩).c]) ?_ rfl ⟨rfl, by first | assumption | (go_split_ands; first | assumption | ((repeat (first | (with_reducible exact Below.refl _ _) | (with_reducible refine Below.alloc ?_ (by first | omega | (dsimp only; omega) | (simp <;> omega)) _) | (with_reducible refine Below.setCell ?_ (by first | omega | (dsimp only; omega) | (simp <;> omega)) _) | (with_reducible refine Below.drew ?_) | (with_reducible refine below_drewN ?_ _) | (with_reducible refine Below.trans ?_ (Below.mono (by assumption) (by first | omega | (dsimp only; omega) | (simp <;> omega)))))); done)) | ((repeat (first | (with_reducible exact Below.refl _ _) | (with_reducible refine Below.alloc ?_ (by first | omega | (dsimp only; omega) | (simp <;> omega)) _) | (with_reducible refine Below.setCell ?_ (by first | omega | (dsimp only; omega) | (simp <;> omega)) _) | (with_reducible refine Below.drew ?_) | (with_reducible refine below_drewN ?_ _) | (with_reducible refine Below.trans ?_ (Below.mono (by assumption) (by first | omega | (dsimp only; omega) | (simp <;> omega)))))); done)⟩
  simp [results, Tryz.results74, go_sem, *]
set_option maxRecDepth 100000 in
set_option maxHeartbeats 1000000 in
theorem tdo_REPT0n (s : ByteArray) (h : ¬ s = ⟨#[]⟩) (text : Int) (vs vn : Value) (w : World) (hS : RdStr w vs [s]) (hN : RdInt w vn [(0 : Int)]) : Calls Tryz.prog 74 #[.agg #[vs, vn, .int .i64 text]] w fun e w' => e = .returned (.agg #[.int .i64 (toldT text ⟨#[]⟩).t, .int .i64 (toldT text ⟨#[]⟩).n, .string (toldT text ⟨#[]⟩).s, .bool (toldT text ⟨#[]⟩).b, .int .i64 (toldT text ⟨#[]⟩).c]) ∧ Below w.heap.size w w' := by
  obtain ⟨A1, cap1, rfl, hR1⟩ := hS
  obtain ⟨A2, cap2, rfl, hR2⟩ := hN
  obtain ⟨sb, so, hA1, hsb, _⟩ := hR1 0 [.string s] rfl
  subst hA1
  have hs0 : w.cell? ⟨sb, so, none⟩ = some (.string s) := by
    obtain ⟨b9, o9, e9, _, h9⟩ := hR1 0 [.string s] rfl
    injection e9 with e9
    injection e9 with e1 e2 _
    subst e1 e2
    simpa using h9 0 _ rfl
  have hsn : sb ≠ w.heap.size := by omega
  have hsl : sb < w.heap.size + 1 := by omega
  obtain ⟨nb, no, hA2, hnb, _⟩ := hR2 0 [.int .i64 (0 : Int)] rfl
  subst hA2
  have hn0 : w.cell? ⟨nb, no, none⟩ = some (.int .i64 (0 : Int)) := by
    obtain ⟨b9, o9, e9, _, h9⟩ := hR2 0 [.int .i64 (0 : Int)] rfl
    injection e9 with e9
    injection e9 with e1 e2 _
    subst e1 e2
    simpa using h9 0 _ rfl
  have hnn : nb ≠ w.heap.size := by omega
  have hnl : nb < w.heap.size + 1 := by omega
  clear hR1 hR2
  simp only [List.length_cons, List.length_nil, Nat.zero_add]
  go_enter Tryz.func74, Tryz.ntmps74
  go_upto_region 1 with (fail)
  go_quiet (fail)
  have y0 : (((w.alloc (.cells #[.slice (some ⟨sb, so, none⟩) 1 cap1, .slice (some ⟨nb, no, none⟩) 1 cap2, .int .i64 text] 47)).alloc (.cells #[.int .i64 0, .int .i64 0, .string ⟨#[]⟩, .bool false, .int .i64 0] 26)).drewN nq).cell? ⟨w.heap.size, 0, none⟩ = some (.slice (some ⟨sb, so, none⟩) 1 cap1) := by simp
  have y1 : (((w.alloc (.cells #[.slice (some ⟨sb, so, none⟩) 1 cap1, .slice (some ⟨nb, no, none⟩) 1 cap2, .int .i64 text] 47)).alloc (.cells #[.int .i64 0, .int .i64 0, .string ⟨#[]⟩, .bool false, .int .i64 0] 26)).drewN nq).cell? ⟨w.heap.size, 1, none⟩ = some (.slice (some ⟨nb, no, none⟩) 1 cap2) := by simp
  have y2 : (((w.alloc (.cells #[.slice (some ⟨sb, so, none⟩) 1 cap1, .slice (some ⟨nb, no, none⟩) 1 cap2, .int .i64 text] 47)).alloc (.cells #[.int .i64 0, .int .i64 0, .string ⟨#[]⟩, .bool false, .int .i64 0] 26)).drewN nq).cell? ⟨w.heap.size, 2, none⟩ = some (.int .i64 text) := by simp
  have z0 : (((w.alloc (.cells #[.slice (some ⟨sb, so, none⟩) 1 cap1, .slice (some ⟨nb, no, none⟩) 1 cap2, .int .i64 text] 47)).alloc (.cells #[.int .i64 0, .int .i64 0, .string ⟨#[]⟩, .bool false, .int .i64 0] 26)).drewN nq).cell? ⟨sb, so, none⟩ = some (.string s) := (((((Below.refl w.heap.size w).alloc (Nat.le_refl _) (.cells #[.slice (some ⟨sb, so, none⟩) 1 cap1, .slice (some ⟨nb, no, none⟩) 1 cap2, .int .i64 text] 47)).alloc (by simp) (.cells #[.int .i64 0, .int .i64 0, .string ⟨#[]⟩, .bool false, .int .i64 0] 26))).cell (p := ⟨sb, so, none⟩) hsb).trans hs0
  have v0 : (((w.alloc (.cells #[.slice (some ⟨sb, so, none⟩) 1 cap1, .slice (some ⟨nb, no, none⟩) 1 cap2, .int .i64 text] 47)).alloc (.cells #[.int .i64 0, .int .i64 0, .string ⟨#[]⟩, .bool false, .int .i64 0] 26)).drewN nq).cell? ⟨nb, no, none⟩ = some (.int .i64 (0 : Int)) := (((((Below.refl w.heap.size w).alloc (Nat.le_refl _) (.cells #[.slice (some ⟨sb, so, none⟩) 1 cap1, .slice (some ⟨nb, no, none⟩) 1 cap2, .int .i64 text] 47)).alloc (by simp) (.cells #[.int .i64 0, .int .i64 0, .string ⟨#[]⟩, .bool false, .int .i64 0] 26))).cell (p := ⟨nb, no, none⟩) hnb).trans hn0
  have hr1 : ResAt (((w.alloc (.cells #[.slice (some ⟨sb, so, none⟩) 1 cap1, .slice (some ⟨nb, no, none⟩) 1 cap2, .int .i64 text] 47)).alloc (.cells #[.int .i64 0, .int .i64 0, .string ⟨#[]⟩, .bool false, .int .i64 0] 26)).drewN nq) (w.heap.size + 1) 5 := by
    have h9 := ResAt.new5 (w.alloc (.cells #[.slice (some ⟨sb, so, none⟩) 1 cap1, .slice (some ⟨nb, no, none⟩) 1 cap2, .int .i64 text] 47)) (.int .i64 0) (.int .i64 0) (.string ⟨#[]⟩) (.bool false) (.int .i64 0) 26
    rw [World.size_alloc] at h9
    exact h9
  have hq1 : Below w.heap.size w (((w.alloc (.cells #[.slice (some ⟨sb, so, none⟩) 1 cap1, .slice (some ⟨nb, no, none⟩) 1 cap2, .int .i64 text] 47)).alloc (.cells #[.int .i64 0, .int .i64 0, .string ⟨#[]⟩, .bool false, .int .i64 0] 26)).drewN nq) := by (repeat (first | (with_reducible exact Below.refl _ _) | (with_reducible refine Below.alloc ?_ (by first | omega | (dsimp only; omega) | (simp <;> omega)) _) | (with_reducible refine Below.setCell ?_ (by first | omega | (dsimp only; omega) | (simp <;> omega)) _) | (with_reducible refine Below.drew ?_) | (with_reducible refine below_drewN ?_ _) | (with_reducible refine Below.trans ?_ (Below.mono (by assumption) (by first | omega | (dsimp only; omega) | (simp <;> omega))))))
  have hz1 : w.heap.size + 2 ≤ (((w.alloc (.cells #[.slice (some ⟨sb, so, none⟩) 1 cap1, .slice (some ⟨nb, no, none⟩) 1 cap2, .int .i64 text] 47)).alloc (.cells #[.int .i64 0, .int .i64 0, .string ⟨#[]⟩, .bool false, .int .i64 0] 26)).drewN nq).heap.size := by simp
  generalize (((w.alloc (.cells #[.slice (some ⟨sb, so, none⟩) 1 cap1, .slice (some ⟨nb, no, none⟩) 1 cap2, .int .i64 text] 47)).alloc (.cells #[.int .i64 0, .int .i64 0, .string ⟨#[]⟩, .bool false, .int .i64 0] 26)).drewN nq) = w1 at *
  clear hs0 hn0
  go_wp2_with fail
  refine (ttold_any _ _ _ _ _ _ text ⟨#[]⟩ (by decide) _).mono ?_
  rintro e w2 ⟨rfl, hb1⟩
  have y0 := (hb1.cell (p := ⟨w.heap.size, 0, none⟩) (by dsimp only; omega)).trans y0
  have y1 := (hb1.cell (p := ⟨w.heap.size, 1, none⟩) (by dsimp only; omega)).trans y1
  have y2 := (hb1.cell (p := ⟨w.heap.size, 2, none⟩) (by dsimp only; omega)).trans y2
  have z0 := (hb1.cell (p := ⟨sb, so, none⟩) (by dsimp only; omega)).trans z0
  have v0 := (hb1.cell (p := ⟨nb, no, none⟩) (by dsimp only; omega)).trans v0
  have hr1 := hr1.below hb1 (by omega)
  have hq1 := hq1.trans (hb1.mono (by omega))
  have hz1 : w.heap.size + 2 ≤ w2.heap.size := by have := hb1.size; omega
  clear hb1
  go_wp2
  try simp only [resAt_setCell] at *
  refine bodyPost_ret (v := .agg #[.int .i64 (toldT text ⟨#[]⟩).t, .int .i64 (toldT text ⟨#[]⟩).n, .string (toldT text ⟨#[]⟩).s, .bool (toldT text ⟨#[]⟩).b, .int .i64 (toldT text ⟨#[]⟩).c]) ?_ rfl ⟨rfl, by first | assumption | (go_split_ands; first | assumption | ((repeat (first | (with_reducible exact Below.refl _ _) | (with_reducible refine Below.alloc ?_ (by first | omega | (dsimp only; omega) | (simp <;> omega)) _) | (with_reducible refine Below.setCell ?_ (by first | omega | (dsimp only; omega) | (simp <;> omega)) _) | (with_reducible refine Below.drew ?_) | (with_reducible refine below_drewN ?_ _) | (with_reducible refine Below.trans ?_ (Below.mono (by assumption) (by first | omega | (dsimp only; omega) | (simp <;> omega)))))); done)) | ((repeat (first | (with_reducible exact Below.refl _ _) | (with_reducible refine Below.alloc ?_ (by first | omega | (dsimp only; omega) | (simp <;> omega)) _) | (with_reducible refine Below.setCell ?_ (by first | omega | (dsimp only; omega) | (simp <;> omega)) _) | (with_reducible refine Below.drew ?_) | (with_reducible refine below_drewN ?_ _) | (with_reducible refine Below.trans ?_ (Below.mono (by assumption) (by first | omega | (dsimp only; omega) | (simp <;> omega)))))); done)⟩
  simp [results, Tryz.results74, go_sem, *]
end Go.Proofs.YtgmhifafbebjfaaGreatDoor
