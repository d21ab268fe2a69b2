/-
  texts: LEN, MID.
-/
import Derived.Test.YtgmhifafbebjfaaGreatDoorTCallK
import Derived.IntWalk
namespace Go.Proofs.YtgmhifafbebjfaaGreatDoor
open Go.RowKit

def txtL (s : ByteArray) : VL := ⟨2, 0, s, false, 0⟩
def boolL (b : Bool) : VL := ⟨3, 0, ⟨#[]⟩, b, 0⟩
def toldT (text : Int) (s : ByteArray) : VL := if text < (s.size : Int) then errL 7 else txtL s
set_option maxHeartbeats 400000 in
theorem ttold_any (A1 A2 : Option Addr) (n1 c1 n2 c2 : Nat) (text : Int) (s : ByteArray) (_hs : s.size ≤ 9223372036854775807) (w : World) : Calls Tryz.prog 143 #[.agg #[.slice A1 n1 c1, .slice A2 n2 c2, .int .i64 text], .string s] w fun e w' => e = .returned (.agg #[.int .i64 (toldT text s).t, .int .i64 (toldT text s).n, .string (toldT text s).s, .bool (toldT text s).b, .int .i64 (toldT text s).c]) ∧ Below w.heap.size w w' := by
  unfold toldT
  by_cases h : text < (s.size : Int)
  · rw [if_pos h]
    go_enter Tryz.func143, Tryz.ntmps143
    go_wp2_with (go_at_call 11; refine (verr_any 7 _).mono ?_; rintro e w1 ⟨rfl, hb⟩; obtain ⟨hc, hf, hz⟩ := bkeep hb (w.heap.size + 2) (by first | omega | (simp <;> omega)))
    refine bodyPost_ret (v := .agg #[.int .i64 4, .int .i64 0, .string ⟨#[]⟩, .bool false, .int .i64 (errC 7)]) ?_ rfl ⟨rfl, by (repeat (first | (with_reducible exact Below.refl _ _) | (with_reducible refine Below.alloc ?_ (by first | omega | (dsimp only; omega) | (simp <;> omega)) _) | (with_reducible refine Below.setCell ?_ (by first | omega | (dsimp only; omega) | (simp <;> omega)) _) | (with_reducible refine Below.drew ?_) | (with_reducible refine below_drewN ?_ _) | (with_reducible refine Below.trans ?_ (Below.mono (by assumption) (by first | omega | (dsimp only; omega) | (simp <;> omega))))))⟩
    simp [results, Tryz.results143, go_sem, *]
  · rw [if_neg h]
    go_enter Tryz.func143, Tryz.ntmps143
    go_wp2_with (go_at_call 184; refine (vtxt_any s _).mono ?_; rintro e w1 ⟨rfl, hb⟩; obtain ⟨hc, hf, hz⟩ := bkeep hb (w.heap.size + 2) (by first | omega | (simp <;> omega)))
    refine bodyPost_ret (v := .agg #[.int .i64 (txtL s).t, .int .i64 (txtL s).n, .string (txtL s).s, .bool (txtL s).b, .int .i64 (txtL s).c]) ?_ rfl ⟨rfl, by (repeat (first | (with_reducible exact Below.refl _ _) | (with_reducible refine Below.alloc ?_ (by first | omega | (dsimp only; omega) | (simp <;> omega)) _) | (with_reducible refine Below.setCell ?_ (by first | omega | (dsimp only; omega) | (simp <;> omega)) _) | (with_reducible refine Below.drew ?_) | (with_reducible refine below_drewN ?_ _) | (with_reducible refine Below.trans ?_ (Below.mono (by assumption) (by first | omega | (dsimp only; omega) | (simp <;> omega))))))⟩
    simp [results, Tryz.results143, go_sem, txtL, *]
set_option maxHeartbeats 400000 in
theorem twhole_any (n : Int) (hn : -922337203685477 ≤ n ∧ n ≤ 922337203685477) (w : World) : Calls Tryz.prog 65 #[.int .i64 n] w fun e w' => e = .returned (.agg #[.int .i64 (numL (n * 10000)).t, .int .i64 (numL (n * 10000)).n, .string (numL (n * 10000)).s, .bool (numL (n * 10000)).b, .int .i64 (numL (n * 10000)).c]) ∧ Below w.heap.size w w' := by
  go_enter Tryz.func65, Tryz.ntmps65
  go_wp2_with (go_at_call 141; refine (vnum_any (n * 10000) (by omega) _).mono ?_; rintro e w1 ⟨rfl, hb⟩; obtain ⟨hc, hf, hz⟩ := bkeep hb (w.heap.size + 1) (by first | omega | (simp <;> omega)))
  refine bodyPost_ret (v := .agg #[.int .i64 (numL (n * 10000)).t, .int .i64 (numL (n * 10000)).n, .string (numL (n * 10000)).s, .bool (numL (n * 10000)).b, .int .i64 (numL (n * 10000)).c]) ?_ rfl ⟨rfl, by (repeat (first | (with_reducible exact Below.refl _ _) | (with_reducible refine Below.alloc ?_ (by first | omega | (dsimp only; omega) | (simp <;> omega)) _) | (with_reducible refine Below.setCell ?_ (by first | omega | (dsimp only; omega) | (simp <;> omega)) _) | (with_reducible refine Below.drew ?_) | (with_reducible refine below_drewN ?_ _) | (with_reducible refine Below.trans ?_ (Below.mono (by assumption) (by first | omega | (dsimp only; omega) | (simp <;> omega))))))⟩
  simp [results, Tryz.results65, go_sem, numL, *]
def midD (s : ByteArray) (a : Int) : ByteArray := s.extract (min (a - 1) (s.size : Int)).toNat s.size
def cutD (d : ByteArray) (b : Int) : ByteArray := d.extract 0 (min b (d.size : Int)).toNat
theorem ext_size_le (s : ByteArray) (a b : Nat) : (s.extract a b).size ≤ s.size := by rw [ByteArray.size_extract]; omega
set_option maxRecDepth 100000 in
set_option maxHeartbeats 1000000 in
theorem tdo_LEN (s : ByteArray) (hs : s.size ≤ 1048576) (text : Int) (vs vn : Value) (w : World) (hS : RdStr w vs [s]) (hN : RdInt w vn []) : Calls Tryz.prog 64 #[.agg #[vs, vn, .int .i64 text]] w fun e w' => e = .returned (.agg #[.int .i64 (numL ((s.size : Int) * 10000)).t, .int .i64 (numL ((s.size : Int) * 10000)).n, .string (numL ((s.size : Int) * 10000)).s, .bool (numL ((s.size : Int) * 10000)).b, .int .i64 (numL ((s.size : Int) * 10000)).c]) ∧ Below w.heap.size w w' := by
  obtain ⟨A1, cap1, rfl, hR1⟩ := hS
  obtain ⟨A2, cap2, rfl, hR2⟩ := hN
  obtain ⟨sb, so, hA1, hsb, _⟩ := hR1 0 [.string s] rfl
  subst hA1
  have hs0 : w.cell? ⟨sb, so, none⟩ = some (.string s) := by
    obtain ⟨b9, o9, e9, _, h9⟩ := hR1 0 [.string s] rfl
    injection e9 with e9
    injection e9 with e1 e2 _
    subst e1 e2
    simpa using h9 0 _ rfl
  have hsn : sb ≠ w.heap.size := by omega
  have hsl : sb < w.heap.size + 1 := by omega
  clear hR1 hR2
  simp only [List.length_cons, List.length_nil, Nat.zero_add]
  go_enter Tryz.func64, Tryz.ntmps64
  go_wp2_with (go_at_call 65; refine (twhole_any (s.size : Int) (by omega) _).mono ?_; rintro e w1 ⟨rfl, hb⟩; obtain ⟨hc, hf, hz⟩ := bkeep hb (w.heap.size + 2) (by first | omega | (simp <;> omega)))
  refine bodyPost_ret (v := .agg #[.int .i64 (numL ((s.size : Int) * 10000)).t, .int .i64 (numL ((s.size : Int) * 10000)).n, .string (numL ((s.size : Int) * 10000)).s, .bool (numL ((s.size : Int) * 10000)).b, .int .i64 (numL ((s.size : Int) * 10000)).c]) ?_ rfl ⟨rfl, by (repeat (first | (with_reducible exact Below.refl _ _) | (with_reducible refine Below.alloc ?_ (by first | omega | (dsimp only; omega) | (simp <;> omega)) _) | (with_reducible refine Below.setCell ?_ (by first | omega | (dsimp only; omega) | (simp <;> omega)) _) | (with_reducible refine Below.drew ?_) | (with_reducible refine below_drewN ?_ _) | (with_reducible refine Below.trans ?_ (Below.mono (by assumption) (by first | omega | (dsimp only; omega) | (simp <;> omega))))))⟩
  simp [results, Tryz.results64, go_sem, *]
set_option maxRecDepth 100000 in
set_option maxHeartbeats 1000000 in
theorem tdo_MIDx (s : ByteArray) (_hs : s.size ≤ 1048576) (a b : Int) (hb : -922337203685477 ≤ b ∧ b ≤ 922337203685477) (ha : -922337203685477 ≤ a ∧ a ≤ 922337203685477) (h : a < 1 ∨ b < 0) (text : Int) (vs vn : Value) (w : World) (hS : RdStr w vs [s]) (hN : RdInt w vn [a, b]) : Calls Tryz.prog 68 #[.agg #[vs, vn, .int .i64 text]] w fun e w' => e = .returned (.agg #[.int .i64 (errL 8).t, .int .i64 (errL 8).n, .string (errL 8).s, .bool (errL 8).b, .int .i64 (errL 8).c]) ∧ Below w.heap.size w w' := by
  obtain ⟨A1, cap1, rfl, hR1⟩ := hS
  obtain ⟨A2, cap2, rfl, hR2⟩ := hN
  obtain ⟨sb, so, hA1, hsb, _⟩ := hR1 0 [.string s] rfl
  subst hA1
  have hs0 : w.cell? ⟨sb, so, none⟩ = some (.string s) := by
    obtain ⟨b9, o9, e9, _, h9⟩ := hR1 0 [.string s] rfl
    injection e9 with e9
    injection e9 with e1 e2 _
    subst e1 e2
    simpa using h9 0 _ rfl
  have hsn : sb ≠ w.heap.size := by omega
  have hsl : sb < w.heap.size + 1 := by omega
  obtain ⟨nb, no, hA2, hnb, _⟩ := hR2 0 [.int .i64 a] rfl
  subst hA2
  have hn0 : w.cell? ⟨nb, no, none⟩ = some (.int .i64 a) := by
    obtain ⟨b9, o9, e9, _, h9⟩ := hR2 0 [.int .i64 a] rfl
    injection e9 with e9
    injection e9 with e1 e2 _
    subst e1 e2
    simpa using h9 0 _ rfl
  have hn1 : w.cell? ⟨nb, no + 1, none⟩ = some (.int .i64 b) := by
    obtain ⟨b9, o9, e9, _, h9⟩ := hR2 1 [.int .i64 b] rfl
    injection e9 with e9
    injection e9 with e1 e2 _
    subst e1 e2
    simpa using h9 0 _ rfl
  have hnn : nb ≠ w.heap.size := by omega
  have hnl : nb < w.heap.size + 1 := by omega
  clear hR1 hR2
  simp only [List.length_cons, List.length_nil, Nat.zero_add, Nat.reduceAdd]
  by_cases h1 : a < 1
  · clear h
    go_enter Tryz.func68, Tryz.ntmps68
    go_wp2_with (go_at_call 11; refine (verr_any 8 _).mono ?_; rintro e w1 ⟨rfl, hb⟩; obtain ⟨hc, hf, hz⟩ := bkeep hb (w.heap.size + 2) (by first | omega | (simp <;> omega)))
    refine bodyPost_ret (v := .agg #[.int .i64 4, .int .i64 0, .string ⟨#[]⟩, .bool false, .int .i64 (errC 8)]) ?_ rfl ⟨rfl, by (repeat (first | (with_reducible exact Below.refl _ _) | (with_reducible refine Below.alloc ?_ (by first | omega | (dsimp only; omega) | (simp <;> omega)) _) | (with_reducible refine Below.setCell ?_ (by first | omega | (dsimp only; omega) | (simp <;> omega)) _) | (with_reducible refine Below.drew ?_) | (with_reducible refine below_drewN ?_ _) | (with_reducible refine Below.trans ?_ (Below.mono (by assumption) (by first | omega | (dsimp only; omega) | (simp <;> omega))))))⟩
    simp [results, Tryz.results68, go_sem, *]
  · have h2 : b < 0 := by omega
    clear h
    go_enter Tryz.func68, Tryz.ntmps68
    go_wp2_with (go_at_call 11; refine (verr_any 8 _).mono ?_; rintro e w1 ⟨rfl, hb⟩; obtain ⟨hc, hf, hz⟩ := bkeep hb (w.heap.size + 2) (by first | omega | (simp <;> omega)))
    refine bodyPost_ret (v := .agg #[.int .i64 4, .int .i64 0, .string ⟨#[]⟩, .bool false, .int .i64 (errC 8)]) ?_ rfl ⟨rfl, by (repeat (first | (with_reducible exact Below.refl _ _) | (with_reducible refine Below.alloc ?_ (by first | omega | (dsimp only; omega) | (simp <;> omega)) _) | (with_reducible refine Below.setCell ?_ (by first | omega | (dsimp only; omega) | (simp <;> omega)) _) | (with_reducible refine Below.drew ?_) | (with_reducible refine below_drewN ?_ _) | (with_reducible refine Below.trans ?_ (Below.mono (by assumption) (by first | omega | (dsimp only; omega) | (simp <;> omega))))))⟩
    simp [results, Tryz.results68, go_sem, *]
set_option maxRecDepth 100000 in
set_option maxHeartbeats 1000000 in
theorem tdo_MID (s : ByteArray) (hs : s.size ≤ 1048576) (a b : Int) (hb : -922337203685477 ≤ b ∧ b ≤ 922337203685477) (ha : -922337203685477 ≤ a ∧ a ≤ 922337203685477) (h1 : 1 ≤ a) (h2 : 0 ≤ b) (text : Int) (vs vn : Value) (w : World) (hS : RdStr w vs [s]) (hN : RdInt w vn [a, b]) : Calls Tryz.prog 68 #[.agg #[vs, vn, .int .i64 text]] w fun e w' => e = .returned (.agg #[.int .i64 (toldT text (cutD (midD s a) b)).t, .int .i64 (toldT text (cutD (midD s a) b)).n, .string (toldT text (cutD (midD s a) b)).s, .bool (toldT text (cutD (midD s a) b)).b, .int .i64 (toldT text (cutD (midD s a) b)).c]) ∧ Below w.heap.size w w' := by
  obtain ⟨A1, cap1, rfl, hR1⟩ := hS
  obtain ⟨A2, cap2, rfl, hR2⟩ := hN
  obtain ⟨sb, so, hA1, hsb, _⟩ := hR1 0 [.string s] rfl
  subst hA1
  have hs0 : w.cell? ⟨sb, so, none⟩ = some (.string s) := by
    obtain ⟨b9, o9, e9, _, h9⟩ := hR1 0 [.string s] rfl
    injection e9 with e9
    injection e9 with e1 e2 _
    subst e1 e2
    simpa using h9 0 _ rfl
  have hsn : sb ≠ w.heap.size := by omega
  have hsl : sb < w.heap.size + 1 := by omega
  obtain ⟨nb, no, hA2, hnb, _⟩ := hR2 0 [.int .i64 a] rfl
  subst hA2
  have hn0 : w.cell? ⟨nb, no, none⟩ = some (.int .i64 a) := by
    obtain ⟨b9, o9, e9, _, h9⟩ := hR2 0 [.int .i64 a] rfl
    injection e9 with e9
    injection e9 with e1 e2 _
    subst e1 e2
    simpa using h9 0 _ rfl
  have hn1 : w.cell? ⟨nb, no + 1, none⟩ = some (.int .i64 b) := by
    obtain ⟨b9, o9, e9, _, h9⟩ := hR2 1 [.int .i64 b] rfl
    injection e9 with e9
    injection e9 with e1 e2 _
    subst e1 e2
    simpa using h9 0 _ rfl
  have hnn : nb ≠ w.heap.size := by omega
  have hnl : nb < w.heap.size + 1 := by omega
  clear hR1 hR2
  simp only [List.length_cons, List.length_nil, Nat.zero_add, Nat.reduceAdd]
  obtain ⟨d, hd⟩ : ∃ d, midD s a = d := ⟨_, rfl⟩
  have hdl : d.size ≤ 1048576 := by rw [← hd]; exact Nat.le_trans (ext_size_le _ _ _) hs
  obtain ⟨d2, hd2⟩ : ∃ d2, cutD d b = d2 := ⟨_, rfl⟩
  have hdl2 : d2.size ≤ 1048576 := by rw [← hd2]; exact Nat.le_trans (ext_size_le _ _ _) hdl
  rw [hd, hd2]
  unfold midD at hd
  unfold cutD at hd2
  have hd' := Lib.hid hd
  have hd2' := Lib.hid hd2
  have hm0 : 0 ≤ min b (d.size : Int) := by omega
  have hm1 : min b (d.size : Int) ≤ (d.size : Int) := by omega
  clear hd hd2
  go_enter Tryz.func68, Tryz.ntmps68
  have hx : IntKind.i64.wrap (a - 1) = a - 1 := IntWalk.i64_in _ (by omega)
  go_wp2
  go_upto_region 3 with (fail)
  go_quiet (fail)
  rw [hd'.out]
  have y0 : (((w.alloc (.cells #[.slice (some ⟨sb, so, none⟩) 1 cap1, .slice (some ⟨nb, no, none⟩) 2 cap2, .int .i64 text] 47)).alloc (.cells #[.int .i64 0, .int .i64 0, .string ⟨#[]⟩, .bool false, .int .i64 0] 26)).drewN nq).cell? ⟨w.heap.size, 0, none⟩ = some (.slice (some ⟨sb, so, none⟩) 1 cap1) := by simp
  have y1 : (((w.alloc (.cells #[.slice (some ⟨sb, so, none⟩) 1 cap1, .slice (some ⟨nb, no, none⟩) 2 cap2, .int .i64 text] 47)).alloc (.cells #[.int .i64 0, .int .i64 0, .string ⟨#[]⟩, .bool false, .int .i64 0] 26)).drewN nq).cell? ⟨w.heap.size, 1, none⟩ = some (.slice (some ⟨nb, no, none⟩) 2 cap2) := by simp
  have y2 : (((w.alloc (.cells #[.slice (some ⟨sb, so, none⟩) 1 cap1, .slice (some ⟨nb, no, none⟩) 2 cap2, .int .i64 text] 47)).alloc (.cells #[.int .i64 0, .int .i64 0, .string ⟨#[]⟩, .bool false, .int .i64 0] 26)).drewN nq).cell? ⟨w.heap.size, 2, none⟩ = some (.int .i64 text) := by simp
  have z0 : (((w.alloc (.cells #[.slice (some ⟨sb, so, none⟩) 1 cap1, .slice (some ⟨nb, no, none⟩) 2 cap2, .int .i64 text] 47)).alloc (.cells #[.int .i64 0, .int .i64 0, .string ⟨#[]⟩, .bool false, .int .i64 0] 26)).drewN nq).cell? ⟨sb, so, none⟩ = some (.string s) := (((((Below.refl w.heap.size w).alloc (Nat.le_refl _) (.cells #[.slice (some ⟨sb, so, none⟩) 1 cap1, .slice (some ⟨nb, no, none⟩) 2 cap2, .int .i64 text] 47)).alloc (by simp) (.cells #[.int .i64 0, .int .i64 0, .string ⟨#[]⟩, .bool false, .int .i64 0] 26))).cell (p := ⟨sb, so, none⟩) hsb).trans hs0
  have v0 : (((w.alloc (.cells #[.slice (some ⟨sb, so, none⟩) 1 cap1, .slice (some ⟨nb, no, none⟩) 2 cap2, .int .i64 text] 47)).alloc (.cells #[.int .i64 0, .int .i64 0, .string ⟨#[]⟩, .bool false, .int .i64 0] 26)).drewN nq).cell? ⟨nb, no, none⟩ = some (.int .i64 a) := (((((Below.refl w.heap.size w).alloc (Nat.le_refl _) (.cells #[.slice (some ⟨sb, so, none⟩) 1 cap1, .slice (some ⟨nb, no, none⟩) 2 cap2, .int .i64 text] 47)).alloc (by simp) (.cells #[.int .i64 0, .int .i64 0, .string ⟨#[]⟩, .bool false, .int .i64 0] 26))).cell (p := ⟨nb, no, none⟩) hnb).trans hn0
  have v1 : (((w.alloc (.cells #[.slice (some ⟨sb, so, none⟩) 1 cap1, .slice (some ⟨nb, no, none⟩) 2 cap2, .int .i64 text] 47)).alloc (.cells #[.int .i64 0, .int .i64 0, .string ⟨#[]⟩, .bool false, .int .i64 0] 26)).drewN nq).cell? ⟨nb, no + 1, none⟩ = some (.int .i64 b) := (((((Below.refl w.heap.size w).alloc (Nat.le_refl _) (.cells #[.slice (some ⟨sb, so, none⟩) 1 cap1, .slice (some ⟨nb, no, none⟩) 2 cap2, .int .i64 text] 47)).alloc (by simp) (.cells #[.int .i64 0, .int .i64 0, .string ⟨#[]⟩, .bool false, .int .i64 0] 26))).cell (p := ⟨nb, no + 1, none⟩) hnb).trans hn1
  have hr1 : ResAt (((w.alloc (.cells #[.slice (some ⟨sb, so, none⟩) 1 cap1, .slice (some ⟨nb, no, none⟩) 2 cap2, .int .i64 text] 47)).alloc (.cells #[.int .i64 0, .int .i64 0, .string ⟨#[]⟩, .bool false, .int .i64 0] 26)).drewN nq) (w.heap.size + 1) 5 := by
    have h9 := ResAt.new5 (w.alloc (.cells #[.slice (some ⟨sb, so, none⟩) 1 cap1, .slice (some ⟨nb, no, none⟩) 2 cap2, .int .i64 text] 47)) (.int .i64 0) (.int .i64 0) (.string ⟨#[]⟩) (.bool false) (.int .i64 0) 26
    rw [World.size_alloc] at h9
    exact h9
  have hq1 : Below w.heap.size w (((w.alloc (.cells #[.slice (some ⟨sb, so, none⟩) 1 cap1, .slice (some ⟨nb, no, none⟩) 2 cap2, .int .i64 text] 47)).alloc (.cells #[.int .i64 0, .int .i64 0, .string ⟨#[]⟩, .bool false, .int .i64 0] 26)).drewN nq) := by (repeat (first | (with_reducible exact Below.refl _ _) | (with_reducible refine Below.alloc ?_ (by first | omega | (dsimp only; omega) | (simp <;> omega)) _) | (with_reducible refine Below.setCell ?_ (by first | omega | (dsimp only; omega) | (simp <;> omega)) _) | (with_reducible refine Below.drew ?_) | (with_reducible refine below_drewN ?_ _) | (with_reducible refine Below.trans ?_ (Below.mono (by assumption) (by first | omega | (dsimp only; omega) | (simp <;> omega))))))
  have hz1 : w.heap.size + 2 ≤ (((w.alloc (.cells #[.slice (some ⟨sb, so, none⟩) 1 cap1, .slice (some ⟨nb, no, none⟩) 2 cap2, .int .i64 text] 47)).alloc (.cells #[.int .i64 0, .int .i64 0, .string ⟨#[]⟩, .bool false, .int .i64 0] 26)).drewN nq).heap.size := by simp
  generalize (((w.alloc (.cells #[.slice (some ⟨sb, so, none⟩) 1 cap1, .slice (some ⟨nb, no, none⟩) 2 cap2, .int .i64 text] 47)).alloc (.cells #[.int .i64 0, .int .i64 0, .string ⟨#[]⟩, .bool false, .int .i64 0] 26)).drewN nq) = w1 at *
  clear hs0 hn0 hn1
  go_wp2_with fail
  first | (go_loud (go_region_held3 (fun w' => w'.cell? ⟨w.heap.size, 0, none⟩ = some (.slice (some ⟨sb, so, none⟩) 1 cap1) ∧ w'.cell? ⟨w.heap.size, 1, none⟩ = some (.slice (some ⟨nb, no, none⟩) 2 cap2) ∧ w'.cell? ⟨w.heap.size, 2, none⟩ = some (.int .i64 text) ∧ w'.cell? ⟨sb, so, none⟩ = some (.string s) ∧ w'.cell? ⟨nb, no, none⟩ = some (.int .i64 a) ∧ w'.cell? ⟨nb, no + 1, none⟩ = some (.int .i64 b) ∧ ResAt w' (w.heap.size + 1) 5 ∧ Below w.heap.size w w' ∧ w.heap.size + 1 + 1 ≤ w'.heap.size)
    (first | (go_split_ands; exact ⟨(by simp [go_sem, *]), (by simp [go_sem, *]), (by simp [go_sem, *]), (by simp [go_sem, *]), (by simp [go_sem, *]), (by simp [go_sem, *]), (by first | (with_reducible exact ResAt.drew (ResAt.new5 _ _ _ _ _ _ _)) | (repeat (first | (with_reducible assumption) | (with_reducible refine ResAt.setCell ?_ _ _) | (with_reducible refine ResAt.drew ?_)))), (by (repeat (first | (with_reducible exact Below.refl _ _) | (with_reducible refine Below.alloc ?_ (by first | omega | (dsimp only; omega) | (simp <;> omega)) _) | (with_reducible refine Below.setCell ?_ (by first | omega | (dsimp only; omega) | (simp <;> omega)) _) | (with_reducible refine Below.drew ?_) | (with_reducible refine below_drewN ?_ _) | (with_reducible refine Below.trans ?_ (Below.mono (by assumption) (by first | omega | (dsimp only; omega) | (simp <;> omega))))))), (by first | (simp; done) | (simp; omega))⟩) | (exact ⟨(by simp [go_sem, *]), (by simp [go_sem, *]), (by simp [go_sem, *]), (by simp [go_sem, *]), (by simp [go_sem, *]), (by simp [go_sem, *]), (by first | (with_reducible exact ResAt.drew (ResAt.new5 _ _ _ _ _ _ _)) | (repeat (first | (with_reducible assumption) | (with_reducible refine ResAt.setCell ?_ _ _) | (with_reducible refine ResAt.drew ?_)))), (by (repeat (first | (with_reducible exact Below.refl _ _) | (with_reducible refine Below.alloc ?_ (by first | omega | (dsimp only; omega) | (simp <;> omega)) _) | (with_reducible refine Below.setCell ?_ (by first | omega | (dsimp only; omega) | (simp <;> omega)) _) | (with_reducible refine Below.drew ?_) | (with_reducible refine below_drewN ?_ _) | (with_reducible refine Below.trans ?_ (Below.mono (by assumption) (by first | omega | (dsimp only; omega) | (simp <;> omega))))))), (by first | (simp; done) | (simp; omega))⟩) | (go_split_ands; exact ⟨(by rw [hb.cell (by dsimp only; omega)]; assumption), (by rw [hb.cell (by dsimp only; omega)]; assumption), (by rw [hb.cell (by dsimp only; omega)]; assumption), (by rw [hb.cell (by dsimp only; omega)]; assumption), (by rw [hb.cell (by dsimp only; omega)]; assumption), (by rw [hb.cell (by dsimp only; omega)]; assumption), (ResAt.below (by assumption) hb (by omega)), (Below.trans (by assumption) (hb.mono (by omega))), (by have := hb.size; omega)⟩))
    (first | (go_at_call 143; rw [hd2'.out]; refine (ttold_any _ _ _ _ _ _ text d2 (by omega) _).mono ?_; rintro e w1 ⟨rfl, hb⟩)))) | fail "region"
  go_split_ands
  go_wp2
  try simp only [resAt_setCell] at *
  refine bodyPost_ret (v := .agg #[.int .i64 (toldT text d2).t, .int .i64 (toldT text d2).n, .string (toldT text d2).s, .bool (toldT text d2).b, .int .i64 (toldT text d2).c]) ?_ rfl ⟨rfl, by first | assumption | (go_split_ands; first | assumption | ((repeat (first | (with_reducible exact Below.refl _ _) | (with_reducible refine Below.alloc ?_ (by first | omega | (dsimp only; omega) | (simp <;> omega)) _) | (with_reducible refine Below.setCell ?_ (by first | omega | (dsimp only; omega) | (simp <;> omega)) _) | (with_reducible refine Below.drew ?_) | (with_reducible refine below_drewN ?_ _) | (with_reducible refine Below.trans ?_ (Below.mono (by assumption) (by first | omega | (dsimp only; omega) | (simp <;> omega)))))); done)) | ((repeat (first | (with_reducible exact Below.refl _ _) | (with_reducible refine Below.alloc ?_ (by first | omega | (dsimp only; omega) | (simp <;> omega)) _) | (with_reducible refine Below.setCell ?_ (by first | omega | (dsimp only; omega) | (simp <;> omega)) _) | (with_reducible refine Below.drew ?_) | (with_reducible refine below_drewN ?_ _) | (with_reducible refine Below.trans ?_ (Below.mono (by assumption) (by first | omega | (dsimp only; omega) | (simp <;> omega)))))); done)⟩
  simp [results, Tryz.results68, go_sem, *]
end Go.Proofs.YtgmhifafbebjfaaGreatDoor
