/-
  texts: LEFT, RIGHT; functions of one text.
-/
import Derived.Test.YtgmhifafbebjfaaGreatDoorMg21
namespace Go.Proofs.YtgmhifafbebjfaaGreatDoor
open Go.RowKit

def rightD (s : ByteArray) (n : Int) : ByteArray := s.extract ((s.size : Int) - min n (s.size : Int)).toNat s.size
set_option maxHeartbeats 1000000 in
theorem tcount0 (A1 A2 : Option Addr) (n1 c1 c2 : Nat) (text : Int) (w : World) : Calls Tryz.prog 142 #[.agg #[.slice A1 n1 c1, .slice A2 0 c2, .int .i64 text]] w fun e w' => e = .returned (.tuple #[.int .i64 1, .bool true]) ∧ Below w.heap.size w w' := by
  go_enter Tryz.func142, Tryz.ntmps142
  go_wp2
  go_ret2
  exact ⟨rfl, by (repeat (first | (with_reducible exact Below.refl _ _) | (with_reducible refine Below.alloc ?_ (by first | omega | (dsimp only; omega) | (simp <;> omega)) _) | (with_reducible refine Below.setCell ?_ (by first | omega | (dsimp only; omega) | (simp <;> omega)) _) | (with_reducible refine Below.drew ?_) | (with_reducible refine below_drewN ?_ _) | (with_reducible refine Below.trans ?_ (Below.mono (by assumption) (by first | omega | (dsimp only; omega) | (simp <;> omega))))))⟩
set_option maxHeartbeats 1000000 in
theorem tcount1 (A1 : Option Addr) (n1 c1 c2 nb no : Nat) (n : Int) (z : Bool) (hz : decide (0 ≤ n) = z) (text : Int) (w : World) (hnb : nb < w.heap.size) (hc : w.cell? ⟨nb, no, none⟩ = some (.int .i64 n)) : Calls Tryz.prog 142 #[.agg #[.slice A1 n1 c1, .slice (some ⟨nb, no, none⟩) 1 c2, .int .i64 text]] w fun e w' => e = .returned (.tuple #[.int .i64 n, .bool z]) ∧ Below w.heap.size w w' := by
  have hne : nb ≠ w.heap.size := by omega
  have hz' := Lib.hid hz
  clear hz
  go_enter Tryz.func142, Tryz.ntmps142
  go_wp2
  go_ret2
  exact ⟨by rw [← hz'.out]; rfl, by (repeat (first | (with_reducible exact Below.refl _ _) | (with_reducible refine Below.alloc ?_ (by first | omega | (dsimp only; omega) | (simp <;> omega)) _) | (with_reducible refine Below.setCell ?_ (by first | omega | (dsimp only; omega) | (simp <;> omega)) _) | (with_reducible refine Below.drew ?_) | (with_reducible refine below_drewN ?_ _) | (with_reducible refine Below.trans ?_ (Below.mono (by assumption) (by first | omega | (dsimp only; omega) | (simp <;> omega))))))⟩
set_option maxRecDepth 100000 in
set_option maxHeartbeats 1000000 in
theorem tdo_LEFT0 (s : ByteArray) (hs : s.size ≤ 1048576) (text : Int) (vs vn : Value) (w : World) (hS : RdStr w vs [s]) (hN : RdInt w vn []) : Calls Tryz.prog 66 #[.agg #[vs, vn, .int .i64 text]] w fun e w' => e = .returned (.agg #[.int .i64 (toldT text (cutD s 1)).t, .int .i64 (toldT text (cutD s 1)).n, .string (toldT text (cutD s 1)).s, .bool (toldT text (cutD s 1)).b, .int .i64 (toldT text (cutD s 1)).c]) ∧ Below w.heap.size w w' := by
  obtain ⟨A1, cap1, rfl, hR1⟩ := hS
  obtain ⟨A2, cap2, rfl, hR2⟩ := hN
  obtain ⟨sb, so, hA1, hsb, _⟩ := hR1 0 [.string s] rfl
  subst hA1
  have hs0 : w.cell? ⟨sb, so, none⟩ = some (.string s) := by
    obtain ⟨b9, o9, e9, _, h9⟩ := hR1 0 [.string s] rfl
    injection e9 with e9
    injection e9 with e1 e2 _
    subst e1 e2
    simpa using h9 0 _ rfl
  have hsn : sb ≠ w.heap.size := by omega
  have hsl : sb < w.heap.size + 1 := by omega
  clear hR1 hR2
  simp only [List.length_cons, List.length_nil, Nat.zero_add]
  obtain ⟨d, hd⟩ : ∃ d, cutD s 1 = d := ⟨_, rfl⟩
  have hdl : d.size ≤ 1048576 := by rw [← hd]; exact Nat.le_trans (ext_size_le _ _ _) hs
  rw [hd]
  unfold cutD at hd
  have hd' := Lib.hid hd
  have hsw : IntKind.i64.wrap ((s.size : Int) - min 1 (s.size : Int)) = (s.size : Int) - min 1 (s.size : Int) := IntWalk.i64_in _ (by omega)
  have hm0 : 0 ≤ min 1 (s.size : Int) := by omega
  have hm1 : min 1 (s.size : Int) ≤ (s.size : Int) := by omega
  clear hd
  go_enter Tryz.func66, Tryz.ntmps66
  go_wp2_with fail
  have y0 : ((w.alloc (.cells #[.slice (some ⟨sb, so, none⟩) 1 cap1, .slice A2 0 cap2, .int .i64 text] 47)).alloc (.cells #[.int .i64 0, .int .i64 0, .string ⟨#[]⟩, .bool false, .int .i64 0] 26)).cell? ⟨w.heap.size, 0, none⟩ = some (.slice (some ⟨sb, so, none⟩) 1 cap1) := by simp
  have y1 : ((w.alloc (.cells #[.slice (some ⟨sb, so, none⟩) 1 cap1, .slice A2 0 cap2, .int .i64 text] 47)).alloc (.cells #[.int .i64 0, .int .i64 0, .string ⟨#[]⟩, .bool false, .int .i64 0] 26)).cell? ⟨w.heap.size, 1, none⟩ = some (.slice A2 0 cap2) := by simp
  have y2 : ((w.alloc (.cells #[.slice (some ⟨sb, so, none⟩) 1 cap1, .slice A2 0 cap2, .int .i64 text] 47)).alloc (.cells #[.int .i64 0, .int .i64 0, .string ⟨#[]⟩, .bool false, .int .i64 0] 26)).cell? ⟨w.heap.size, 2, none⟩ = some (.int .i64 text) := by simp
  have z0 : ((w.alloc (.cells #[.slice (some ⟨sb, so, none⟩) 1 cap1, .slice A2 0 cap2, .int .i64 text] 47)).alloc (.cells #[.int .i64 0, .int .i64 0, .string ⟨#[]⟩, .bool false, .int .i64 0] 26)).cell? ⟨sb, so, none⟩ = some (.string s) := (((((Below.refl w.heap.size w).alloc (Nat.le_refl _) (.cells #[.slice (some ⟨sb, so, none⟩) 1 cap1, .slice A2 0 cap2, .int .i64 text] 47)).alloc (by simp) (.cells #[.int .i64 0, .int .i64 0, .string ⟨#[]⟩, .bool false, .int .i64 0] 26))).cell (p := ⟨sb, so, none⟩) hsb).trans hs0
  have hr1 : ResAt ((w.alloc (.cells #[.slice (some ⟨sb, so, none⟩) 1 cap1, .slice A2 0 cap2, .int .i64 text] 47)).alloc (.cells #[.int .i64 0, .int .i64 0, .string ⟨#[]⟩, .bool false, .int .i64 0] 26)) (w.heap.size + 1) 5 := by
    have h9 := ResAt.new5 (w.alloc (.cells #[.slice (some ⟨sb, so, none⟩) 1 cap1, .slice A2 0 cap2, .int .i64 text] 47)) (.int .i64 0) (.int .i64 0) (.string ⟨#[]⟩) (.bool false) (.int .i64 0) 26
    rw [World.size_alloc] at h9
    exact h9
  have hq1 : Below w.heap.size w ((w.alloc (.cells #[.slice (some ⟨sb, so, none⟩) 1 cap1, .slice A2 0 cap2, .int .i64 text] 47)).alloc (.cells #[.int .i64 0, .int .i64 0, .string ⟨#[]⟩, .bool false, .int .i64 0] 26)) := by (repeat (first | (with_reducible exact Below.refl _ _) | (with_reducible refine Below.alloc ?_ (by first | omega | (dsimp only; omega) | (simp <;> omega)) _) | (with_reducible refine Below.setCell ?_ (by first | omega | (dsimp only; omega) | (simp <;> omega)) _) | (with_reducible refine Below.drew ?_) | (with_reducible refine below_drewN ?_ _) | (with_reducible refine Below.trans ?_ (Below.mono (by assumption) (by first | omega | (dsimp only; omega) | (simp <;> omega))))))
  have hz1 : w.heap.size + 2 ≤ ((w.alloc (.cells #[.slice (some ⟨sb, so, none⟩) 1 cap1, .slice A2 0 cap2, .int .i64 text] 47)).alloc (.cells #[.int .i64 0, .int .i64 0, .string ⟨#[]⟩, .bool false, .int .i64 0] 26)).heap.size := by simp
  generalize ((w.alloc (.cells #[.slice (some ⟨sb, so, none⟩) 1 cap1, .slice A2 0 cap2, .int .i64 text] 47)).alloc (.cells #[.int .i64 0, .int .i64 0, .string ⟨#[]⟩, .bool false, .int .i64 0] 26)) = w1 at *
  clear hs0
  refine (tcount0 _ _ _ _ _ text _).mono ?_
  rintro e w2 ⟨rfl, hb1⟩
  have y0 := (hb1.cell (p := ⟨w.heap.size, 0, none⟩) (by dsimp only; omega)).trans y0
  have y1 := (hb1.cell (p := ⟨w.heap.size, 1, none⟩) (by dsimp only; omega)).trans y1
  have y2 := (hb1.cell (p := ⟨w.heap.size, 2, none⟩) (by dsimp only; omega)).trans y2
  have z0 := (hb1.cell (p := ⟨sb, so, none⟩) (by dsimp only; omega)).trans z0
  have hr1 := hr1.below hb1 (by omega)
  have hq1 := hq1.trans (hb1.mono (by omega))
  have hz1 : w.heap.size + 2 ≤ w2.heap.size := by have := hb1.size; omega
  clear hb1
  go_wp2_with fail
  first | (go_loud (go_region_held3 (fun w' => w'.cell? ⟨w.heap.size, 0, none⟩ = some (.slice (some ⟨sb, so, none⟩) 1 cap1) ∧ w'.cell? ⟨w.heap.size, 1, none⟩ = some (.slice A2 0 cap2) ∧ w'.cell? ⟨w.heap.size, 2, none⟩ = some (.int .i64 text) ∧ w'.cell? ⟨sb, so, none⟩ = some (.string s) ∧ ResAt w' (w.heap.size + 1) 5 ∧ Below w.heap.size w w' ∧ w.heap.size + 1 + 1 ≤ w'.heap.size)
    (first | (go_split_ands; exact ⟨(by simp [go_sem, *]), (by simp [go_sem, *]), (by simp [go_sem, *]), (by simp [go_sem, *]), (by first | (with_reducible exact ResAt.drew (ResAt.new5 _ _ _ _ _ _ _)) | (repeat (first | (with_reducible assumption) | (with_reducible refine ResAt.setCell ?_ _ _) | (with_reducible refine ResAt.drew ?_)))), (by (repeat (first | (with_reducible exact Below.refl _ _) | (with_reducible refine Below.alloc ?_ (by first | omega | (dsimp only; omega) | (simp <;> omega)) _) | (with_reducible refine Below.setCell ?_ (by first | omega | (dsimp only; omega) | (simp <;> omega)) _) | (with_reducible refine Below.drew ?_) | (with_reducible refine below_drewN ?_ _) | (with_reducible refine Below.trans ?_ (Below.mono (by assumption) (by first | omega | (dsimp only; omega) | (simp <;> omega))))))), (by first | (simp; done) | (simp; omega))⟩) | (exact ⟨(by simp [go_sem, *]), (by simp [go_sem, *]), (by simp [go_sem, *]), (by simp [go_sem, *]), (by first | (with_reducible exact ResAt.drew (ResAt.new5 _ _ _ _ _ _ _)) | (repeat (first | (with_reducible assumption) | (with_reducible refine ResAt.setCell ?_ _ _) | (with_reducible refine ResAt.drew ?_)))), (by (repeat (first | (with_reducible exact Below.refl _ _) | (with_reducible refine Below.alloc ?_ (by first | omega | (dsimp only; omega) | (simp <;> omega)) _) | (with_reducible refine Below.setCell ?_ (by first | omega | (dsimp only; omega) | (simp <;> omega)) _) | (with_reducible refine Below.drew ?_) | (with_reducible refine below_drewN ?_ _) | (with_reducible refine Below.trans ?_ (Below.mono (by assumption) (by first | omega | (dsimp only; omega) | (simp <;> omega))))))), (by first | (simp; done) | (simp; omega))⟩) | (go_split_ands; exact ⟨(by rw [hb.cell (by dsimp only; omega)]; assumption), (by rw [hb.cell (by dsimp only; omega)]; assumption), (by rw [hb.cell (by dsimp only; omega)]; assumption), (by rw [hb.cell (by dsimp only; omega)]; assumption), (ResAt.below (by assumption) hb (by omega)), (Below.trans (by assumption) (hb.mono (by omega))), (by have := hb.size; omega)⟩))
    (first | (go_at_call 143; rw [hd'.out]; refine (ttold_any _ _ _ _ _ _ text d (by omega) _).mono ?_; rintro e w1 ⟨rfl, hb⟩)))) | fail "region"
  go_split_ands
  go_wp2
  try simp only [resAt_setCell] at *
  refine bodyPost_ret (v := .agg #[.int .i64 (toldT text d).t, .int .i64 (toldT text d).n, .string (toldT text d).s, .bool (toldT text d).b, .int .i64 (toldT text d).c]) ?_ rfl ⟨rfl, by first | assumption | (go_split_ands; first | assumption | ((repeat (first | (with_reducible exact Below.refl _ _) | (with_reducible refine Below.alloc ?_ (by first | omega | (dsimp only; omega) | (simp <;> omega)) _) | (with_reducible refine Below.setCell ?_ (by first | omega | (dsimp only; omega) | (simp <;> omega)) _) | (with_reducible refine Below.drew ?_) | (with_reducible refine below_drewN ?_ _) | (with_reducible refine Below.trans ?_ (Below.mono (by assumption) (by first | omega | (dsimp only; omega) | (simp <;> omega)))))); done)) | ((repeat (first | (with_reducible exact Below.refl _ _) | (with_reducible refine Below.alloc ?_ (by first | omega | (dsimp only; omega) | (simp <;> omega)) _) | (with_reducible refine Below.setCell ?_ (by first | omega | (dsimp only; omega) | (simp <;> omega)) _) | (with_reducible refine Below.drew ?_) | (with_reducible refine below_drewN ?_ _) | (with_reducible refine Below.trans ?_ (Below.mono (by assumption) (by first | omega | (dsimp only; omega) | (simp <;> omega)))))); done)⟩
  simp [results, Tryz.results66, go_sem, *]
set_option maxRecDepth 100000 in
set_option maxHeartbeats 1000000 in
theorem tdo_LEFTx (s : ByteArray) (_hs : s.size ≤ 1048576) (n : Int) (_hn : -922337203685477 ≤ n ∧ n ≤ 922337203685477) (h : n < 0) (text : Int) (vs vn : Value) (w : World) (hS : RdStr w vs [s]) (hN : RdInt w vn [n]) : Calls Tryz.prog 66 #[.agg #[vs, vn, .int .i64 text]] w fun e w' => e = .returned (.agg #[.int .i64 (errL 8).t, .int .i64 (errL 8).n, .string (errL 8).s, .bool (errL 8).b, .int .i64 (errL 8).c]) ∧ Below w.heap.size w w' := by
  obtain ⟨A1, cap1, rfl, hR1⟩ := hS
  obtain ⟨A2, cap2, rfl, hR2⟩ := hN
  obtain ⟨sb, so, hA1, hsb, _⟩ := hR1 0 [.string s] rfl
  subst hA1
  have hs0 : w.cell? ⟨sb, so, none⟩ = some (.string s) := by
    obtain ⟨b9, o9, e9, _, h9⟩ := hR1 0 [.string s] rfl
    injection e9 with e9
    injection e9 with e1 e2 _
    subst e1 e2
    simpa using h9 0 _ rfl
  have hsn : sb ≠ w.heap.size := by omega
  have hsl : sb < w.heap.size + 1 := by omega
  obtain ⟨nb, no, hA2, hnb, _⟩ := hR2 0 [.int .i64 n] rfl
  subst hA2
  have hn0 : w.cell? ⟨nb, no, none⟩ = some (.int .i64 n) := by
    obtain ⟨b9, o9, e9, _, h9⟩ := hR2 0 [.int .i64 n] rfl
    injection e9 with e9
    injection e9 with e1 e2 _
    subst e1 e2
    simpa using h9 0 _ rfl
  have hnn : nb ≠ w.heap.size := by omega
  have hnl : nb < w.heap.size + 1 := by omega
  clear hR1 hR2
  simp only [List.length_cons, List.length_nil, Nat.zero_add]
  go_enter Tryz.func66, Tryz.ntmps66
  go_wp2_with fail
  refine (tcount1 _ _ _ _ nb no n false (by simp; omega) text _ (by simp; omega) (((((Below.refl w.heap.size w).alloc (Nat.le_refl _) (.cells #[.slice (some ⟨sb, so, none⟩) 1 cap1, .slice (some ⟨nb, no, none⟩) 1 cap2, .int .i64 text] 47)).alloc (by simp) (.cells #[.int .i64 0, .int .i64 0, .string ⟨#[]⟩, .bool false, .int .i64 0] 26))).cell (p := ⟨nb, no, none⟩) hnb |>.trans hn0)).mono ?_
  rintro e w1 ⟨rfl, hb1⟩
  obtain ⟨hc, hf, hz⟩ := bkeep hb1 (w.heap.size + 2) (by simp)
  go_wp2_with (go_at_call 11; refine (verr_any 8 _).mono ?_; rintro e w1 ⟨rfl, hb⟩; obtain ⟨hc, hf, hz⟩ := bkeep hb (w.heap.size + 2) (by first | omega | (simp <;> omega)))
  refine bodyPost_ret (v := .agg #[.int .i64 4, .int .i64 0, .string ⟨#[]⟩, .bool false, .int .i64 (errC 8)]) ?_ rfl ⟨rfl, by (repeat (first | (with_reducible exact Below.refl _ _) | (with_reducible refine Below.alloc ?_ (by first | omega | (dsimp only; omega) | (simp <;> omega)) _) | (with_reducible refine Below.setCell ?_ (by first | omega | (dsimp only; omega) | (simp <;> omega)) _) | (with_reducible refine Below.drew ?_) | (with_reducible refine below_drewN ?_ _) | (with_reducible refine Below.trans ?_ (Below.mono (by assumption) (by first | omega | (dsimp only; omega) | (simp <;> omega))))))⟩
  simp [results, Tryz.results66, go_sem, *]
set_option maxRecDepth 100000 in
set_option maxHeartbeats 1000000 in
theorem tdo_LEFT1 (s : ByteArray) (hs : s.size ≤ 1048576) (n : Int) (hn : -922337203685477 ≤ n ∧ n ≤ 922337203685477) (h : 0 ≤ n) (text : Int) (vs vn : Value) (w : World) (hS : RdStr w vs [s]) (hN : RdInt w vn [n]) : Calls Tryz.prog 66 #[.agg #[vs, vn, .int .i64 text]] w fun e w' => e = .returned (.agg #[.int .i64 (toldT text (cutD s n)).t, .int .i64 (toldT text (cutD s n)).n, .string (toldT text (cutD s n)).s, .bool (toldT text (cutD s n)).b, .int .i64 (toldT text (cutD s n)).c]) ∧ Below w.heap.size w w' := by
  obtain ⟨A1, cap1, rfl, hR1⟩ := hS
  obtain ⟨A2, cap2, rfl, hR2⟩ := hN
  obtain ⟨sb, so, hA1, hsb, _⟩ := hR1 0 [.string s] rfl
  subst hA1
  have hs0 : w.cell? ⟨sb, so, none⟩ = some (.string s) := by
    obtain ⟨b9, o9, e9, _, h9⟩ := hR1 0 [.string s] rfl
    injection e9 with e9
    injection e9 with e1 e2 _
    subst e1 e2
    simpa using h9 0 _ rfl
  have hsn : sb ≠ w.heap.size := by omega
  have hsl : sb < w.heap.size + 1 := by omega
  obtain ⟨nb, no, hA2, hnb, _⟩ := hR2 0 [.int .i64 n] rfl
  subst hA2
  have hn0 : w.cell? ⟨nb, no, none⟩ = some (.int .i64 n) := by
    obtain ⟨b9, o9, e9, _, h9⟩ := hR2 0 [.int .i64 n] rfl
    injection e9 with e9
    injection e9 with e1 e2 _
    subst e1 e2
    simpa using h9 0 _ rfl
  have hnn : nb ≠ w.heap.size := by omega
  have hnl : nb < w.heap.size + 1 := by omega
  clear hR1 hR2
  simp only [List.length_cons, List.length_nil, Nat.zero_add]
  obtain ⟨d, hd⟩ : ∃ d, cutD s n = d := ⟨_, rfl⟩
  have hdl : d.size ≤ 1048576 := by rw [← hd]; exact Nat.le_trans (ext_size_le _ _ _) hs
  rw [hd]
  unfold cutD at hd
  have hd' := Lib.hid hd
  have hsw : IntKind.i64.wrap ((s.size : Int) - min n (s.size : Int)) = (s.size : Int) - min n (s.size : Int) := IntWalk.i64_in _ (by omega)
  have hm0 : 0 ≤ min n (s.size : Int) := by omega
  have hm1 : min n (s.size : Int) ≤ (s.size : Int) := by omega
  clear hd
  go_enter Tryz.func66, Tryz.ntmps66
  go_wp2_with fail
  have y0 : ((w.alloc (.cells #[.slice (some ⟨sb, so, none⟩) 1 cap1, .slice (some ⟨nb, no, none⟩) 1 cap2, .int .i64 text] 47)).alloc (.cells #[.int .i64 0, .int .i64 0, .string ⟨#[]⟩, .bool false, .int .i64 0] 26)).cell? ⟨w.heap.size, 0, none⟩ = some (.slice (some ⟨sb, so, none⟩) 1 cap1) := by simp
  have y1 : ((w.alloc (.cells #[.slice (some ⟨sb, so, none⟩) 1 cap1, .slice (some ⟨nb, no, none⟩) 1 cap2, .int .i64 text] 47)).alloc (.cells #[.int .i64 0, .int .i64 0, .string ⟨#[]⟩, .bool false, .int .i64 0] 26)).cell? ⟨w.heap.size, 1, none⟩ = some (.slice (some ⟨nb, no, none⟩) 1 cap2) := by simp
  have y2 : ((w.alloc (.cells #[.slice (some ⟨sb, so, none⟩) 1 cap1, .slice (some ⟨nb, no, none⟩) 1 cap2, .int .i64 text] 47)).alloc (.cells #[.int .i64 0, .int .i64 0, .string ⟨#[]⟩, .bool false, .int .i64 0] 26)).cell? ⟨w.heap.size, 2, none⟩ = some (.int .i64 text) := by simp
  have z0 : ((w.alloc (.cells #[.slice (some ⟨sb, so, none⟩) 1 cap1, .slice (some ⟨nb, no, none⟩) 1 cap2, .int .i64 text] 47)).alloc (.cells #[.int .i64 0, .int .i64 0, .string ⟨#[]⟩, .bool false, .int .i64 0] 26)).cell? ⟨sb, so, none⟩ = some (.string s) := (((((Below.refl w.heap.size w).alloc (Nat.le_refl _) (.cells #[.slice (some ⟨sb, so, none⟩) 1 cap1, .slice (some ⟨nb, no, none⟩) 1 cap2, .int .i64 text] 47)).alloc (by simp) (.cells #[.int .i64 0, .int .i64 0, .string ⟨#[]⟩, .bool false, .int .i64 0] 26))).cell (p := ⟨sb, so, none⟩) hsb).trans hs0
  have v0 : ((w.alloc (.cells #[.slice (some ⟨sb, so, none⟩) 1 cap1, .slice (some ⟨nb, no, none⟩) 1 cap2, .int .i64 text] 47)).alloc (.cells #[.int .i64 0, .int .i64 0, .string ⟨#[]⟩, .bool false, .int .i64 0] 26)).cell? ⟨nb, no, none⟩ = some (.int .i64 n) := (((((Below.refl w.heap.size w).alloc (Nat.le_refl _) (.cells #[.slice (some ⟨sb, so, none⟩) 1 cap1, .slice (some ⟨nb, no, none⟩) 1 cap2, .int .i64 text] 47)).alloc (by simp) (.cells #[.int .i64 0, .int .i64 0, .string ⟨#[]⟩, .bool false, .int .i64 0] 26))).cell (p := ⟨nb, no, none⟩) hnb).trans hn0
  have hr1 : ResAt ((w.alloc (.cells #[.slice (some ⟨sb, so, none⟩) 1 cap1, .slice (some ⟨nb, no, none⟩) 1 cap2, .int .i64 text] 47)).alloc (.cells #[.int .i64 0, .int .i64 0, .string ⟨#[]⟩, .bool false, .int .i64 0] 26)) (w.heap.size + 1) 5 := by
    have h9 := ResAt.new5 (w.alloc (.cells #[.slice (some ⟨sb, so, none⟩) 1 cap1, .slice (some ⟨nb, no, none⟩) 1 cap2, .int .i64 text] 47)) (.int .i64 0) (.int .i64 0) (.string ⟨#[]⟩) (.bool false) (.int .i64 0) 26
    rw [World.size_alloc] at h9
    exact h9
  have hq1 : Below w.heap.size w ((w.alloc (.cells #[.slice (some ⟨sb, so, none⟩) 1 cap1, .slice (some ⟨nb, no, none⟩) 1 cap2, .int .i64 text] 47)).alloc (.cells #[.int .i64 0, .int .i64 0, .string ⟨#[]⟩, .bool false, .int .i64 0] 26)) := by (repeat (first | (with_reducible exact Below.refl _ _) | (with_reducible refine Below.alloc ?_ (by first | omega | (dsimp only; omega) | (simp <;> omega)) _) | (with_reducible refine Below.setCell ?_ (by first | omega | (dsimp only; omega) | (simp <;> omega)) _) | (with_reducible refine Below.drew ?_) | (with_reducible refine below_drewN ?_ _) | (with_reducible refine Below.trans ?_ (Below.mono (by assumption) (by first | omega | (dsimp only; omega) | (simp <;> omega))))))
  have hz1 : w.heap.size + 2 ≤ ((w.alloc (.cells #[.slice (some ⟨sb, so, none⟩) 1 cap1, .slice (some ⟨nb, no, none⟩) 1 cap2, .int .i64 text] 47)).alloc (.cells #[.int .i64 0, .int .i64 0, .string ⟨#[]⟩, .bool false, .int .i64 0] 26)).heap.size := by simp
  generalize ((w.alloc (.cells #[.slice (some ⟨sb, so, none⟩) 1 cap1, .slice (some ⟨nb, no, none⟩) 1 cap2, .int .i64 text] 47)).alloc (.cells #[.int .i64 0, .int .i64 0, .string ⟨#[]⟩, .bool false, .int .i64 0] 26)) = w1 at *
  clear hs0 hn0
  refine (tcount1 _ _ _ _ nb no n true (by simp; omega) text _ (by omega) v0).mono ?_
  rintro e w2 ⟨rfl, hb1⟩
  have y0 := (hb1.cell (p := ⟨w.heap.size, 0, none⟩) (by dsimp only; omega)).trans y0
  have y1 := (hb1.cell (p := ⟨w.heap.size, 1, none⟩) (by dsimp only; omega)).trans y1
  have y2 := (hb1.cell (p := ⟨w.heap.size, 2, none⟩) (by dsimp only; omega)).trans y2
  have z0 := (hb1.cell (p := ⟨sb, so, none⟩) (by dsimp only; omega)).trans z0
  have v0 := (hb1.cell (p := ⟨nb, no, none⟩) (by dsimp only; omega)).trans v0
  have hr1 := hr1.below hb1 (by omega)
  have hq1 := hq1.trans (hb1.mono (by omega))
  have hz1 : w.heap.size + 2 ≤ w2.heap.size := by have := hb1.size; omega
  clear hb1
  go_wp2_with fail
  first | (go_loud (go_region_held3 (fun w' => w'.cell? ⟨w.heap.size, 0, none⟩ = some (.slice (some ⟨sb, so, none⟩) 1 cap1) ∧ w'.cell? ⟨w.heap.size, 1, none⟩ = some (.slice (some ⟨nb, no, none⟩) 1 cap2) ∧ w'.cell? ⟨w.heap.size, 2, none⟩ = some (.int .i64 text) ∧ w'.cell? ⟨sb, so, none⟩ = some (.string s) ∧ w'.cell? ⟨nb, no, none⟩ = some (.int .i64 n) ∧ ResAt w' (w.heap.size + 1) 5 ∧ Below w.heap.size w w' ∧ w.heap.size + 1 + 1 ≤ w'.heap.size)
    (first | (go_split_ands; exact ⟨(by simp [go_sem, *]), (by simp [go_sem, *]), (by simp [go_sem, *]), (by simp [go_sem, *]), (by simp [go_sem, *]), (by first | (with_reducible exact ResAt.drew (ResAt.new5 _ _ _ _ _ _ _)) | (repeat (first | (with_reducible assumption) | (with_reducible refine ResAt.setCell ?_ _ _) | (with_reducible refine ResAt.drew ?_)))), (by (repeat (first | (with_reducible exact Below.refl _ _) | (with_reducible refine Below.alloc ?_ (by first | omega | (dsimp only; omega) | (simp <;> omega)) _) | (with_reducible refine Below.setCell ?_ (by first | omega | (dsimp only; omega) | (simp <;> omega)) _) | (with_reducible refine Below.drew ?_) | (with_reducible refine below_drewN ?_ _) | (with_reducible refine Below.trans ?_ (Below.mono (by assumption) (by first | omega | (dsimp only; omega) | (simp <;> omega))))))), (by first | (simp; done) | (simp; omega))⟩) | (exact ⟨(by simp [go_sem, *]), (by simp [go_sem, *]), (by simp [go_sem, *]), (by simp [go_sem, *]), (by simp [go_sem, *]), (by first | (with_reducible exact ResAt.drew (ResAt.new5 _ _ _ _ _ _ _)) | (repeat (first | (with_reducible assumption) | (with_reducible refine ResAt.setCell ?_ _ _) | (with_reducible refine ResAt.drew ?_)))), (by (repeat (first | (with_reducible exact Below.refl _ _) | (with_reducible refine Below.alloc ?_ (by first | omega | (dsimp only; omega) | (simp <;> omega)) _) | (with_reducible refine Below.setCell ?_ (by first | omega | (dsimp only; omega) | (simp <;> omega)) _) | (with_reducible refine Below.drew ?_) | (with_reducible refine below_drewN ?_ _) | (with_reducible refine Below.trans ?_ (Below.mono (by assumption) (by first | omega | (dsimp only; omega) | (simp <;> omega))))))), (by first | (simp; done) | (simp; omega))⟩) | (go_split_ands; exact ⟨(by rw [hb.cell (by dsimp only; omega)]; assumption), (by rw [hb.cell (by dsimp only; omega)]; assumption), (by rw [hb.cell (by dsimp only; omega)]; assumption), (by rw [hb.cell (by dsimp only; omega)]; assumption), (by rw [hb.cell (by dsimp only; omega)]; assumption), (ResAt.below (by assumption) hb (by omega)), (Below.trans (by assumption) (hb.mono (by omega))), (by have := hb.size; omega)⟩))
    (first | (go_at_call 143; rw [hd'.out]; refine (ttold_any _ _ _ _ _ _ text d (by omega) _).mono ?_; rintro e w1 ⟨rfl, hb⟩)))) | fail "region"
  go_split_ands
  go_wp2
  try simp only [resAt_setCell] at *
  refine bodyPost_ret (v := .agg #[.int .i64 (toldT text d).t, .int .i64 (toldT text d).n, .string (toldT text d).s, .bool (toldT text d).b, .int .i64 (toldT text d).c]) ?_ rfl ⟨rfl, by first | assumption | (go_split_ands; first | assumption | ((repeat (first | (with_reducible exact Below.refl _ _) | (with_reducible refine Below.alloc ?_ (by first | omega | (dsimp only; omega) | (simp <;> omega)) _) | (with_reducible refine Below.setCell ?_ (by first | omega | (dsimp only; omega) | (simp <;> omega)) _) | (with_reducible refine Below.drew ?_) | (with_reducible refine below_drewN ?_ _) | (with_reducible refine Below.trans ?_ (Below.mono (by assumption) (by first | omega | (dsimp only; omega) | (simp <;> omega)))))); done)) | ((repeat (first | (with_reducible exact Below.refl _ _) | (with_reducible refine Below.alloc ?_ (by first | omega | (dsimp only; omega) | (simp <;> omega)) _) | (with_reducible refine Below.setCell ?_ (by first | omega | (dsimp only; omega) | (simp <;> omega)) _) | (with_reducible refine Below.drew ?_) | (with_reducible refine below_drewN ?_ _) | (with_reducible refine Below.trans ?_ (Below.mono (by assumption) (by first | omega | (dsimp only; omega) | (simp <;> omega)))))); done)⟩
  simp [results, Tryz.results66, go_sem, *]
set_option maxRecDepth 100000 in
set_option maxHeartbeats 1000000 in
theorem tdo_RIGHT0 (s : ByteArray) (hs : s.size ≤ 1048576) (text : Int) (vs vn : Value) (w : World) (hS : RdStr w vs [s]) (hN : RdInt w vn []) : Calls Tryz.prog 67 #[.agg #[vs, vn, .int .i64 text]] w fun e w' => e = .returned (.agg #[.int .i64 (toldT text (rightD s 1)).t, .int .i64 (toldT text (rightD s 1)).n, .string (toldT text (rightD s 1)).s, .bool (toldT text (rightD s 1)).b, .int .i64 (toldT text (rightD s 1)).c]) ∧ Below w.heap.size w w' := by
  obtain ⟨A1, cap1, rfl, hR1⟩ := hS
  obtain ⟨A2, cap2, rfl, hR2⟩ := hN
  obtain ⟨sb, so, hA1, hsb, _⟩ := hR1 0 [.string s] rfl
  subst hA1
  have hs0 : w.cell? ⟨sb, so, none⟩ = some (.string s) := by
    obtain ⟨b9, o9, e9, _, h9⟩ := hR1 0 [.string s] rfl
    injection e9 with e9
    injection e9 with e1 e2 _
    subst e1 e2
    simpa using h9 0 _ rfl
  have hsn : sb ≠ w.heap.size := by omega
  have hsl : sb < w.heap.size + 1 := by omega
  clear hR1 hR2
  simp only [List.length_cons, List.length_nil, Nat.zero_add]
  obtain ⟨d, hd⟩ : ∃ d, rightD s 1 = d := ⟨_, rfl⟩
  have hdl : d.size ≤ 1048576 := by rw [← hd]; exact Nat.le_trans (ext_size_le _ _ _) hs
  rw [hd]
  unfold rightD at hd
  have hd' := Lib.hid hd
  have hsw : IntKind.i64.wrap ((s.size : Int) - min 1 (s.size : Int)) = (s.size : Int) - min 1 (s.size : Int) := IntWalk.i64_in _ (by omega)
  have hm0 : 0 ≤ min 1 (s.size : Int) := by omega
  have hm1 : min 1 (s.size : Int) ≤ (s.size : Int) := by omega
  have hm2 : 0 ≤ (s.size : Int) - min 1 (s.size : Int) := by omega
  have hm3 : (s.size : Int) - min 1 (s.size : Int) ≤ (s.size : Int) := by omega
  clear hd
  go_enter Tryz.func67, Tryz.ntmps67
  go_wp2_with fail
  have y0 : ((w.alloc (.cells #[.slice (some ⟨sb, so, none⟩) 1 cap1, .slice A2 0 cap2, .int .i64 text] 47)).alloc (.cells #[.int .i64 0, .int .i64 0, .string ⟨#[]⟩, .bool false, .int .i64 0] 26)).cell? ⟨w.heap.size, 0, none⟩ = some (.slice (some ⟨sb, so, none⟩) 1 cap1) := by simp
  have y1 : ((w.alloc (.cells #[.slice (some ⟨sb, so, none⟩) 1 cap1, .slice A2 0 cap2, .int .i64 text] 47)).alloc (.cells #[.int .i64 0, .int .i64 0, .string ⟨#[]⟩, .bool false, .int .i64 0] 26)).cell? ⟨w.heap.size, 1, none⟩ = some (.slice A2 0 cap2) := by simp
  have y2 : ((w.alloc (.cells #[.slice (some ⟨sb, so, none⟩) 1 cap1, .slice A2 0 cap2, .int .i64 text] 47)).alloc (.cells #[.int .i64 0, .int .i64 0, .string ⟨#[]⟩, .bool false, .int .i64 0] 26)).cell? ⟨w.heap.size, 2, none⟩ = some (.int .i64 text) := by simp
  have z0 : ((w.alloc (.cells #[.slice (some ⟨sb, so, none⟩) 1 cap1, .slice A2 0 cap2, .int .i64 text] 47)).alloc (.cells #[.int .i64 0, .int .i64 0, .string ⟨#[]⟩, .bool false, .int .i64 0] 26)).cell? ⟨sb, so, none⟩ = some (.string s) := (((((Below.refl w.heap.size w).alloc (Nat.le_refl _) (.cells #[.slice (some ⟨sb, so, none⟩) 1 cap1, .slice A2 0 cap2, .int .i64 text] 47)).alloc (by simp) (.cells #[.int .i64 0, .int .i64 0, .string ⟨#[]⟩, .bool false, .int .i64 0] 26))).cell (p := ⟨sb, so, none⟩) hsb).trans hs0
  have hr1 : ResAt ((w.alloc (.cells #[.slice (some ⟨sb, so, none⟩) 1 cap1, .slice A2 0 cap2, .int .i64 text] 47)).alloc (.cells #[.int .i64 0, .int .i64 0, .string ⟨#[]⟩, .bool false, .int .i64 0] 26)) (w.heap.size + 1) 5 := by
    have h9 := ResAt.new5 (w.alloc (.cells #[.slice (some ⟨sb, so, none⟩) 1 cap1, .slice A2 0 cap2, .int .i64 text] 47)) (.int .i64 0) (.int .i64 0) (.string ⟨#[]⟩) (.bool false) (.int .i64 0) 26
    rw [World.size_alloc] at h9
    exact h9
  have hq1 : Below w.heap.size w ((w.alloc (.cells #[.slice (some ⟨sb, so, none⟩) 1 cap1, .slice A2 0 cap2, .int .i64 text] 47)).alloc (.cells #[.int .i64 0, .int .i64 0, .string ⟨#[]⟩, .bool false, .int .i64 0] 26)) := by (repeat (first | (with_reducible exact Below.refl _ _) | (with_reducible refine Below.alloc ?_ (by first | omega | (dsimp only; omega) | (simp <;> omega)) _) | (with_reducible refine Below.setCell ?_ (by first | omega | (dsimp only; omega) | (simp <;> omega)) _) | (with_reducible refine Below.drew ?_) | (with_reducible refine below_drewN ?_ _) | (with_reducible refine Below.trans ?_ (Below.mono (by assumption) (by first | omega | (dsimp only; omega) | (simp <;> omega))))))
  have hz1 : w.heap.size + 2 ≤ ((w.alloc (.cells #[.slice (some ⟨sb, so, none⟩) 1 cap1, .slice A2 0 cap2, .int .i64 text] 47)).alloc (.cells #[.int .i64 0, .int .i64 0, .string ⟨#[]⟩, .bool false, .int .i64 0] 26)).heap.size := by simp
  generalize ((w.alloc (.cells #[.slice (some ⟨sb, so, none⟩) 1 cap1, .slice A2 0 cap2, .int .i64 text] 47)).alloc (.cells #[.int .i64 0, .int .i64 0, .string ⟨#[]⟩, .bool false, .int .i64 0] 26)) = w1 at *
  clear hs0
  refine (tcount0 _ _ _ _ _ text _).mono ?_
  rintro e w2 ⟨rfl, hb1⟩
  have y0 := (hb1.cell (p := ⟨w.heap.size, 0, none⟩) (by dsimp only; omega)).trans y0
  have y1 := (hb1.cell (p := ⟨w.heap.size, 1, none⟩) (by dsimp only; omega)).trans y1
  have y2 := (hb1.cell (p := ⟨w.heap.size, 2, none⟩) (by dsimp only; omega)).trans y2
  have z0 := (hb1.cell (p := ⟨sb, so, none⟩) (by dsimp only; omega)).trans z0
  have hr1 := hr1.below hb1 (by omega)
  have hq1 := hq1.trans (hb1.mono (by omega))
  have hz1 : w.heap.size + 2 ≤ w2.heap.size := by have := hb1.size; omega
  clear hb1
  go_wp2_with fail
  first | (go_loud (go_region_held3 (fun w' => w'.cell? ⟨w.heap.size, 0, none⟩ = some (.slice (some ⟨sb, so, none⟩) 1 cap1) ∧ w'.cell? ⟨w.heap.size, 1, none⟩ = some (.slice A2 0 cap2) ∧ w'.cell? ⟨w.heap.size, 2, none⟩ = some (.int .i64 text) ∧ w'.cell? ⟨sb, so, none⟩ = some (.string s) ∧ ResAt w' (w.heap.size + 1) 5 ∧ Below w.heap.size w w' ∧ w.heap.size + 1 + 1 ≤ w'.heap.size)
    (first | (go_split_ands; exact ⟨(by simp [go_sem, *]), (by simp [go_sem, *]), (by simp [go_sem, *]), (by simp [go_sem, *]), (by first | (with_reducible exact ResAt.drew (ResAt.new5 _ _ _ _ _ _ _)) | (repeat (first | (with_reducible assumption) | (with_reducible refine ResAt.setCell ?_ _ _) | (with_reducible refine ResAt.drew ?_)))), (by (repeat (first | (with_reducible exact Below.refl _ _) | (with_reducible refine Below.alloc ?_ (by first | omega | (dsimp only; omega) | (simp <;> omega)) _) | (with_reducible refine Below.setCell ?_ (by first | omega | (dsimp only; omega) | (simp <;> omega)) _) | (with_reducible refine Below.drew ?_) | (with_reducible refine below_drewN ?_ _) | (with_reducible refine Below.trans ?_ (Below.mono (by assumption) (by first | omega | (dsimp only; omega) | (simp <;> omega))))))), (by first | (simp; done) | (simp; omega))⟩) | (exact ⟨(by simp [go_sem, *]), (by simp [go_sem, *]), (by simp [go_sem, *]), (by simp [go_sem, *]), (by first | (with_reducible exact ResAt.drew (ResAt.new5 _ _ _ _ _ _ _)) | (repeat (first | (with_reducible assumption) | (with_reducible refine ResAt.setCell ?_ _ _) | (with_reducible refine ResAt.drew ?_)))), (by (repeat (first | (with_reducible exact Below.refl _ _) | (with_reducible refine Below.alloc ?_ (by first | omega | (dsimp only; omega) | (simp <;> omega)) _) | (with_reducible refine Below.setCell ?_ (by first | omega | (dsimp only; omega) | (simp <;> omega)) _) | (with_reducible refine Below.drew ?_) | (with_reducible refine below_drewN ?_ _) | (with_reducible refine Below.trans ?_ (Below.mono (by assumption) (by first | omega | (dsimp only; omega) | (simp <;> omega))))))), (by first | (simp; done) | (simp; omega))⟩) | (go_split_ands; exact ⟨(by rw [hb.cell (by dsimp only; omega)]; assumption), (by rw [hb.cell (by dsimp only; omega)]; assumption), (by rw [hb.cell (by dsimp only; omega)]; assumption), (by rw [hb.cell (by dsimp only; omega)]; assumption), (ResAt.below (by assumption) hb (by omega)), (Below.trans (by assumption) (hb.mono (by omega))), (by have := hb.size; omega)⟩))
    (first | (go_at_call 143; rw [hd'.out]; refine (ttold_any _ _ _ _ _ _ text d (by omega) _).mono ?_; rintro e w1 ⟨rfl, hb⟩)))) | fail "region"
  go_split_ands
  go_wp2
  try simp only [resAt_setCell] at *
  refine bodyPost_ret (v := .agg #[.int .i64 (toldT text d).t, .int .i64 (toldT text d).n, .string (toldT text d).s, .bool (toldT text d).b, .int .i64 (toldT text d).c]) ?_ rfl ⟨rfl, by first | assumption | (go_split_ands; first | assumption | ((repeat (first | (with_reducible exact Below.refl _ _) | (with_reducible refine Below.alloc ?_ (by first | omega | (dsimp only; omega) | (simp <;> omega)) _) | (with_reducible refine Below.setCell ?_ (by first | omega | (dsimp only; omega) | (simp <;> omega)) _) | (with_reducible refine Below.drew ?_) | (with_reducible refine below_drewN ?_ _) | (with_reducible refine Below.trans ?_ (Below.mono (by assumption) (by first | omega | (dsimp only; omega) | (simp <;> omega)))))); done)) | ((repeat (first | (with_reducible exact Below.refl _ _) | (with_reducible refine Below.alloc ?_ (by first | omega | (dsimp only; omega) | (simp <;> omega)) _) | (with_reducible refine Below.setCell ?_ (by first | omega | (dsimp only; omega) | (simp <;> omega)) _) | (with_reducible refine Below.drew ?_) | (with_reducible refine below_drewN ?_ _) | (with_reducible refine Below.trans ?_ (Below.mono (by assumption) (by first | omega | (dsimp only; omega) | (simp <;> omega)))))); done)⟩
  simp [results, Tryz.results67, go_sem, *]
set_option maxRecDepth 100000 in
set_option maxHeartbeats 1000000 in
theorem tdo_RIGHTx (s : ByteArray) (_hs : s.size ≤ 1048576) (n : Int) (_hn : -922337203685477 ≤ n ∧ n ≤ 922337203685477) (h : n < 0) (text : Int) (vs vn : Value) (w : World) (hS : RdStr w vs [s]) (hN : RdInt w vn [n]) : Calls Tryz.prog 67 #[.agg #[vs, vn, .int .i64 text]] w fun e w' => e = .returned (.agg #[.int .i64 (errL 8).t, .int .i64 (errL 8).n, .string (errL 8).s, .bool (errL 8).b, .int .i64 (errL 8).c]) ∧ Below w.heap.size w w' := by
  obtain ⟨A1, cap1, rfl, hR1⟩ := hS
  obtain ⟨A2, cap2, rfl, hR2⟩ := hN
  obtain ⟨sb, so, hA1, hsb, _⟩ := hR1 0 [.string s] rfl
  subst hA1
  have hs0 : w.cell? ⟨sb, so, none⟩ = some (.string s) := by
    obtain ⟨b9, o9, e9, _, h9⟩ := hR1 0 [.string s] rfl
    injection e9 with e9
    injection e9 with e1 e2 _
    subst e1 e2
    simpa using h9 0 _ rfl
  have hsn : sb ≠ w.heap.size := by omega
  have hsl : sb < w.heap.size + 1 := by omega
  obtain ⟨nb, no, hA2, hnb, _⟩ := hR2 0 [.int .i64 n] rfl
  subst hA2
  have hn0 : w.cell? ⟨nb, no, none⟩ = some (.int .i64 n) := by
    obtain ⟨b9, o9, e9, _, h9⟩ := hR2 0 [.int .i64 n] rfl
    injection e9 with e9
    injection e9 with e1 e2 _
    subst e1 e2
    simpa using h9 0 _ rfl
  have hnn : nb ≠ w.heap.size := by omega
  have hnl : nb < w.heap.size + 1 := by omega
  clear hR1 hR2
  simp only [List.length_cons, List.length_nil, Nat.zero_add]
  go_enter Tryz.func67, Tryz.ntmps67
  go_wp2_with fail
  refine (tcount1 _ _ _ _ nb no n false (by simp; omega) text _ (by simp; omega) (((((Below.refl w.heap.size w).alloc (Nat.le_refl _) (.cells #[.slice (some ⟨sb, so, none⟩) 1 cap1, .slice (some ⟨nb, no, none⟩) 1 cap2, .int .i64 text] 47)).alloc (by simp) (.cells #[.int .i64 0, .int .i64 0, .string ⟨#[]⟩, .bool false, .int .i64 0] 26))).cell (p := ⟨nb, no, none⟩) hnb |>.trans hn0)).mono ?_
  rintro e w1 ⟨rfl, hb1⟩
  obtain ⟨hc, hf, hz⟩ := bkeep hb1 (w.heap.size + 2) (by simp)
  go_wp2_with (go_at_call 11; refine (verr_any 8 _).mono ?_; rintro e w1 ⟨rfl, hb⟩; obtain ⟨hc, hf, hz⟩ := bkeep hb (w.heap.size + 2) (by first | omega | (simp <;> omega)))
  refine bodyPost_ret (v := .agg #[.int .i64 4, .int .i64 0, .string ⟨#[]⟩, .bool false, .int .i64 (errC 8)]) ?_ rfl ⟨rfl, by (repeat (first | (with_reducible exact Below.refl _ _) | (with_reducible refine Below.alloc ?_ (by first | omega | (dsimp only; omega) | (simp <;> omega)) _) | (with_reducible refine Below.setCell ?_ (by first | omega | (dsimp only; omega) | (simp <;> omega)) _) | (with_reducible refine Below.drew ?_) | (with_reducible refine below_drewN ?_ _) | (with_reducible refine Below.trans ?_ (Below.mono (by assumption) (by first | omega | (dsimp only; omega) | (simp <;> omega))))))⟩
  simp [results, Tryz.results67, go_sem, *]
set_option maxRecDepth 100000 in
set_option maxHeartbeats 1000000 in
theorem tdo_RIGHT1 (s : ByteArray) (hs : s.size ≤ 1048576) (n : Int) (hn : -922337203685477 ≤ n ∧ n ≤ 922337203685477) (h : 0 ≤ n) (text : Int) (vs vn : Value) (w : World) (hS : RdStr w vs [s]) (hN : RdInt w vn [n]) : Calls Tryz.prog 67 #[.agg #[vs, vn, .int .i64 text]] w fun e w' => e = .returned (.agg #[.int .i64 (toldT text (rightD s n)).t, .int .i64 (toldT text (rightD s n)).n, .string (toldT text (rightD s n)).s, .bool (toldT text (rightD s n)).b, .int .i64 (toldT text (rightD s n)).c]) ∧ Below w.heap.size w w' := by
  obtain ⟨A1, cap1, rfl, hR1⟩ := hS
  obtain ⟨A2, cap2, rfl, hR2⟩ := hN
  obtain ⟨sb, so, hA1, hsb, _⟩ := hR1 0 [.string s] rfl
  subst hA1
  have hs0 : w.cell? ⟨sb, so, none⟩ = some (.string s) := by
    obtain ⟨b9, o9, e9, _, h9⟩ := hR1 0 [.string s] rfl
    injection e9 with e9
    injection e9 with e1 e2 _
    subst e1 e2
    simpa using h9 0 _ rfl
  have hsn : sb ≠ w.heap.size := by omega
  have hsl : sb < w.heap.size + 1 := by omega
  obtain ⟨nb, no, hA2, hnb, _⟩ := hR2 0 [.int .i64 n] rfl
  subst hA2
  have hn0 : w.cell? ⟨nb, no, none⟩ = some (.int .i64 n) := by
    obtain ⟨b9, o9, e9, _, h9⟩ := hR2 0 [.int .i64 n] rfl
    injection e9 with e9
    injection e9 with e1 e2 _
    subst e1 e2
    simpa using h9 0 _ rfl
  have hnn : nb ≠ w.heap.size := by omega
  have hnl : nb < w.heap.size + 1 := by omega
  clear hR1 hR2
  simp only [List.length_cons, List.length_nil, Nat.zero_add]
  obtain ⟨d, hd⟩ : ∃ d, rightD s n = d := ⟨_, rfl⟩
  have hdl : d.size ≤ 1048576 := by rw [← hd]; exact Nat.le_trans (ext_size_le _ _ _) hs
  rw [hd]
  unfold rightD at hd
  have hd' := Lib.hid hd
  have hsw : IntKind.i64.wrap ((s.size : Int) - min n (s.size : Int)) = (s.size : Int) - min n (s.size : Int) := IntWalk.i64_in _ (by omega)
  have hm0 : 0 ≤ min n (s.size : Int) := by omega
  have hm1 : min n (s.size : Int) ≤ (s.size : Int) := by omega
  have hm2 : 0 ≤ (s.size : Int) - min n (s.size : Int) := by omega
  have hm3 : (s.size : Int) - min n (s.size : Int) ≤ (s.size : Int) := by omega
  clear hd
  go_enter Tryz.func67, Tryz.ntmps67
  go_wp2_with fail
  have y0 : ((w.alloc (.cells #[.slice (some ⟨sb, so, none⟩) 1 cap1, .slice (some ⟨nb, no, none⟩) 1 cap2, .int .i64 text] 47)).alloc (.cells #[.int .i64 0, .int .i64 0, .string ⟨#[]⟩, .bool false, .int .i64 0] 26)).cell? ⟨w.heap.size, 0, none⟩ = some (.slice (some ⟨sb, so, none⟩) 1 cap1) := by simp
  have y1 : ((w.alloc (.cells #[.slice (some ⟨sb, so, none⟩) 1 cap1, .slice (some ⟨nb, no, none⟩) 1 cap2, .int .i64 text] 47)).alloc (.cells #[.int .i64 0, .int .i64 0, .string ⟨#[]⟩, .bool false, .int .i64 0] 26)).cell? ⟨w.heap.size, 1, none⟩ = some (.slice (some ⟨nb, no, none⟩) 1 cap2) := by simp
  have y2 : ((w.alloc (.cells #[.slice (some ⟨sb, so, none⟩) 1 cap1, .slice (some ⟨nb, no, none⟩) 1 cap2, .int .i64 text] 47)).alloc (.cells #[.int .i64 0, .int .i64 0, .string ⟨#[]⟩, .bool false, .int .i64 0] 26)).cell? ⟨w.heap.size, 2, none⟩ = some (.int .i64 text) := by simp
  have z0 : ((w.alloc (.cells #[.slice (some ⟨sb, so, none⟩) 1 cap1, .slice (some ⟨nb, no, none⟩) 1 cap2, .int .i64 text] 47)).alloc (.cells #[.int .i64 0, .int .i64 0, .string ⟨#[]⟩, .bool false, .int .i64 0] 26)).cell? ⟨sb, so, none⟩ = some (.string s) := (((((Below.refl w.heap.size w).alloc (Nat.le_refl _) (.cells #[.slice (some ⟨sb, so, none⟩) 1 cap1, .slice (some ⟨nb, no, none⟩) 1 cap2, .int .i64 text] 47)).alloc (by simp) (.cells #[.int .i64 0, .int .i64 0, .string ⟨#[]⟩, .bool false, .int .i64 0] 26))).cell (p := ⟨sb, so, none⟩) hsb).trans hs0
  have v0 : ((w.alloc (.cells #[.slice (some ⟨sb, so, none⟩) 1 cap1, .slice (some ⟨nb, no, none⟩) 1 cap2, .int .i64 text] 47)).alloc (.cells #[.int .i64 0, .int .i64 0, .string ⟨#[]⟩, .bool false, .int .i64 0] 26)).cell? ⟨nb, no, none⟩ = some (.int .i64 n) := (((((Below.refl w.heap.size w).alloc (Nat.le_refl _) (.cells #[.slice (some ⟨sb, so, none⟩) 1 cap1, .slice (some ⟨nb, no, none⟩) 1 cap2, .int .i64 text] 47)).alloc (by simp) (.cells #[.int .i64 0, .int .i64 0, .string ⟨#[]⟩, .bool false, .int .i64 0] 26))).cell (p := ⟨nb, no, none⟩) hnb).trans hn0
  have hr1 : ResAt ((w.alloc (.cells #[.slice (some ⟨sb, so, none⟩) 1 cap1, .slice (some ⟨nb, no, none⟩) 1 cap2, .int .i64 text] 47)).alloc (.cells #[.int .i64 0, .int .i64 0, .string ⟨#[]⟩, .bool false, .int .i64 0] 26)) (w.heap.size + 1) 5 := by
    have h9 := ResAt.new5 (w.alloc (.cells #[.slice (some ⟨sb, so, none⟩) 1 cap1, .slice (some ⟨nb, no, none⟩) 1 cap2, .int .i64 text] 47)) (.int .i64 0) (.int .i64 0) (.string ⟨#[]⟩) (.bool false) (.int .i64 0) 26
    rw [World.size_alloc] at h9
    exact h9
  have hq1 : Below w.heap.size w ((w.alloc (.cells #[.slice (some ⟨sb, so, none⟩) 1 cap1, .slice (some ⟨nb, no, none⟩) 1 cap2, .int .i64 text] 47)).alloc (.cells #[.int .i64 0, .int .i64 0, .string ⟨#[]⟩, .bool false, .int .i64 0] 26)) := by (repeat (first | (with_reducible exact Below.refl _ _) | (with_reducible refine Below.alloc ?_ (by first | omega | (dsimp only; omega) | (simp <;> omega)) _) | (with_reducible refine Below.setCell ?_ (by first | omega | (dsimp only; omega) | (simp <;> omega)) _) | (with_reducible refine Below.drew ?_) | (with_reducible refine below_drewN ?_ _) | (with_reducible refine Below.trans ?_ (Below.mono (by assumption) (by first | omega | (dsimp only; omega) | (simp <;> omega))))))
  have hz1 : w.heap.size + 2 ≤ ((w.alloc (.cells #[.slice (some ⟨sb, so, none⟩) 1 cap1, .slice (some ⟨nb, no, none⟩) 1 cap2, .int .i64 text] 47)).alloc (.cells #[.int .i64 0, .int .i64 0, .string ⟨#[]⟩, .bool false, .int .i64 0] 26)).heap.size := by simp
  generalize ((w.alloc (.cells #[.slice (some ⟨sb, so, none⟩) 1 cap1, .slice (some ⟨nb, no, none⟩) 1 cap2, .int .i64 text] 47)).alloc (.cells #[.int .i64 0, .int .i64 0, .string ⟨#[]⟩, .bool false, .int .i64 0] 26)) = w1 at *
  clear hs0 hn0
  refine (tcount1 _ _ _ _ nb no n true (by simp; omega) text _ (by omega) v0).mono ?_
  rintro e w2 ⟨rfl, hb1⟩
  have y0 := (hb1.cell (p := ⟨w.heap.size, 0, none⟩) (by dsimp only; omega)).trans y0
  have y1 := (hb1.cell (p := ⟨w.heap.size, 1, none⟩) (by dsimp only; omega)).trans y1
  have y2 := (hb1.cell (p := ⟨w.heap.size, 2, none⟩) (by dsimp only; omega)).trans y2
  have z0 := (hb1.cell (p := ⟨sb, so, none⟩) (by dsimp only; omega)).trans z0
  have v0 := (hb1.cell (p := ⟨nb, no, none⟩) (by dsimp only; omega)).trans v0
  have hr1 := hr1.below hb1 (by omega)
  have hq1 := hq1.trans (hb1.mono (by omega))
  have hz1 : w.heap.size + 2 ≤ w2.heap.size := by have := hb1.size; omega
  clear hb1
  go_wp2_with fail
  first | (go_loud (go_region_held3 (fun w' => w'.cell? ⟨w.heap.size, 0, none⟩ = some (.slice (some ⟨sb, so, none⟩) 1 cap1) ∧ w'.cell? ⟨w.heap.size, 1, none⟩ = some (.slice (some ⟨nb, no, none⟩) 1 cap2) ∧ w'.cell? ⟨w.heap.size, 2, none⟩ = some (.int .i64 text) ∧ w'.cell? ⟨sb, so, none⟩ = some (.string s) ∧ w'.cell? ⟨nb, no, none⟩ = some (.int .i64 n) ∧ ResAt w' (w.heap.size + 1) 5 ∧ Below w.heap.size w w' ∧ w.heap.size + 1 + 1 ≤ w'.heap.size)
    (first | (go_split_ands; exact ⟨(by simp [go_sem, *]), (by simp [go_sem, *]), (by simp [go_sem, *]), (by simp [go_sem, *]), (by simp [go_sem, *]), (by first | (with_reducible exact ResAt.drew (ResAt.new5 _ _ _ _ _ _ _)) | (repeat (first | (with_reducible assumption) | (with_reducible refine ResAt.setCell ?_ _ _) | (with_reducible refine ResAt.drew ?_)))), (by (repeat (first | (with_reducible exact Below.refl _ _) | (with_reducible refine Below.alloc ?_ (by first | omega | (dsimp only; omega) | (simp <;> omega)) _) | (with_reducible refine Below.setCell ?_ (by first | omega | (dsimp only; omega) | (simp <;> omega)) _) | (with_reducible refine Below.drew ?_) | (with_reducible refine below_drewN ?_ _) | (with_reducible refine Below.trans ?_ (Below.mono (by assumption) (by first | omega | (dsimp only; omega) | (simp <;> omega))))))), (by first | (simp; done) | (simp; omega))⟩) | (exact ⟨(by simp [go_sem, *]), (by simp [go_sem, *]), (by simp [go_sem, *]), (by simp [go_sem, *]), (by simp [go_sem, *]), (by first | (with_reducible exact ResAt.drew (ResAt.new5 _ _ _ _ _ _ _)) | (repeat (first | (with_reducible assumption) | (with_reducible refine ResAt.setCell ?_ _ _) | (with_reducible refine ResAt.drew ?_)))), (by (repeat (first | (with_reducible exact Below.refl _ _) | (with_reducible refine Below.alloc ?_ (by first | omega | (dsimp only; omega) | (simp <;> omega)) _) | (with_reducible refine Below.setCell ?_ (by first | omega | (dsimp only; omega) | (simp <;> omega)) _) | (with_reducible refine Below.drew ?_) | (with_reducible refine below_drewN ?_ _) | (with_reducible refine Below.trans ?_ (Below.mono (by assumption) (by first | omega | (dsimp only; omega) | (simp <;> omega))))))), (by first | (simp; done) | (simp; omega))⟩) | (go_split_ands; exact ⟨(by rw [hb.cell (by dsimp only; omega)]; assumption), (by rw [hb.cell (by dsimp only; omega)]; assumption), (by rw [hb.cell (by dsimp only; omega)]; assumption), (by rw [hb.cell (by dsimp only; omega)]; assumption), (by rw [hb.cell (by dsimp only; omega)]; assumption), (ResAt.below (by assumption) hb (by omega)), (Below.trans (by assumption) (hb.mono (by omega))), (by have := hb.size; omega)⟩))
    (first | (go_at_call 143; rw [hd'.out]; refine (ttold_any _ _ _ _ _ _ text d (by omega) _).mono ?_; rintro e w1 ⟨rfl, hb⟩)))) | fail "region"
  go_split_ands
  go_wp2
  try simp only [resAt_setCell] at *
  refine bodyPost_ret (v := .agg #[.int .i64 (toldT text d).t, .int .i64 (toldT text d).n, .string (toldT text d).s, .bool (toldT text d).b, .int .i64 (toldT text d).c]) ?_ rfl ⟨rfl, by first | assumption | (go_split_ands; first | assumption | ((repeat (first | (with_reducible exact Below.refl _ _) | (with_reducible refine Below.alloc ?_ (by first | omega | (dsimp only; omega) | (simp <;> omega)) _) | (with_reducible refine Below.setCell ?_ (by first | omega | (dsimp only; omega) | (simp <;> omega)) _) | (with_reducible refine Below.drew ?_) | (with_reducible refine below_drewN ?_ _) | (with_reducible refine Below.trans ?_ (Below.mono (by assumption) (by first | omega | (dsimp only; omega) | (simp <;> omega)))))); done)) | ((repeat (first | (with_reducible exact Below.refl _ _) | (with_reducible refine Below.alloc ?_ (by first | omega | (dsimp only; omega) | (simp <;> omega)) _) | (with_reducible refine Below.setCell ?_ (by first | omega | (dsimp only; omega) | (simp <;> omega)) _) | (with_reducible refine Below.drew ?_) | (with_reducible refine below_drewN ?_ _) | (with_reducible refine Below.trans ?_ (Below.mono (by assumption) (by first | omega | (dsimp only; omega) | (simp <;> omega)))))); done)⟩
  simp [results, Tryz.results67, go_sem, *]
set_option maxRecDepth 100000 in
set_option maxHeartbeats 1000000 in
theorem tdo_TEXT (f : Nat) (s s2 : ByteArray) (hs2 : s2.size ≤ 9223372036854775807) (hf : ∀ w, Calls Tryz.prog f #[.string s] w fun e w' => e = .returned (.string s2) ∧ Below w.heap.size w w') (hgo : ∀ args w, Sem.run Tryz.prog (callFunc f args) w = .ok (.enter f args) w) (text : Int) (vs vn : Value) (w : World) (hS : RdStr w vs [s]) (hN : RdInt w vn []) (pb : Nat) (hpb : pb < w.heap.size) (cp : w.cell? ⟨pb, 0, none⟩ = some (.func (.func f) #[] #[])) : Calls Tryz.prog 144 #[.agg #[vs, vn, .int .i64 text], .pointer (some ⟨pb, 0, none⟩)] w fun e w' => e = .returned (.agg #[.int .i64 (toldT text s2).t, .int .i64 (toldT text s2).n, .string (toldT text s2).s, .bool (toldT text s2).b, .int .i64 (toldT text s2).c]) ∧ Below w.heap.size w w' := by
  obtain ⟨A1, cap1, rfl, hR1⟩ := hS
  obtain ⟨A2, cap2, rfl, hR2⟩ := hN
  obtain ⟨sb, so, hA1, hsb, _⟩ := hR1 0 [.string s] rfl
  subst hA1
  have hs0 : w.cell? ⟨sb, so, none⟩ = some (.string s) := by
    obtain ⟨b9, o9, e9, _, h9⟩ := hR1 0 [.string s] rfl
    injection e9 with e9
    injection e9 with e1 e2 _
    subst e1 e2
    simpa using h9 0 _ rfl
  have hf' := Lib.hid hf
  clear hR1 hR2 hf
  simp only [List.length_cons, List.length_nil, Nat.zero_add]
  go_enter Tryz.func144, Tryz.ntmps144
  go_wp2_with fail
  have cp1 : ((w.alloc (.cells #[.slice (some ⟨sb, so, none⟩) 1 cap1, .slice A2 0 cap2, .int .i64 text] 47)).alloc (.cells #[.int .i64 0, .int .i64 0, .string ⟨#[]⟩, .bool false, .int .i64 0] 26)).cell? ⟨pb, 0, none⟩ = some (.func (.func f) #[] #[]) := (((((Below.refl w.heap.size w).alloc (Nat.le_refl _) (.cells #[.slice (some ⟨sb, so, none⟩) 1 cap1, .slice A2 0 cap2, .int .i64 text] 47)).alloc (by simp) (.cells #[.int .i64 0, .int .i64 0, .string ⟨#[]⟩, .bool false, .int .i64 0] 26))).cell (p := ⟨pb, 0, none⟩) hpb).trans cp
  have y0 : ((w.alloc (.cells #[.slice (some ⟨sb, so, none⟩) 1 cap1, .slice A2 0 cap2, .int .i64 text] 47)).alloc (.cells #[.int .i64 0, .int .i64 0, .string ⟨#[]⟩, .bool false, .int .i64 0] 26)).cell? ⟨w.heap.size, 0, none⟩ = some (.slice (some ⟨sb, so, none⟩) 1 cap1) := by simp
  have y1 : ((w.alloc (.cells #[.slice (some ⟨sb, so, none⟩) 1 cap1, .slice A2 0 cap2, .int .i64 text] 47)).alloc (.cells #[.int .i64 0, .int .i64 0, .string ⟨#[]⟩, .bool false, .int .i64 0] 26)).cell? ⟨w.heap.size, 1, none⟩ = some (.slice A2 0 cap2) := by simp
  have y2 : ((w.alloc (.cells #[.slice (some ⟨sb, so, none⟩) 1 cap1, .slice A2 0 cap2, .int .i64 text] 47)).alloc (.cells #[.int .i64 0, .int .i64 0, .string ⟨#[]⟩, .bool false, .int .i64 0] 26)).cell? ⟨w.heap.size, 2, none⟩ = some (.int .i64 text) := by simp
  have z0 : ((w.alloc (.cells #[.slice (some ⟨sb, so, none⟩) 1 cap1, .slice A2 0 cap2, .int .i64 text] 47)).alloc (.cells #[.int .i64 0, .int .i64 0, .string ⟨#[]⟩, .bool false, .int .i64 0] 26)).cell? ⟨sb, so, none⟩ = some (.string s) := (((((Below.refl w.heap.size w).alloc (Nat.le_refl _) (.cells #[.slice (some ⟨sb, so, none⟩) 1 cap1, .slice A2 0 cap2, .int .i64 text] 47)).alloc (by simp) (.cells #[.int .i64 0, .int .i64 0, .string ⟨#[]⟩, .bool false, .int .i64 0] 26))).cell (p := ⟨sb, so, none⟩) hsb).trans hs0
  have hr1 : ResAt ((w.alloc (.cells #[.slice (some ⟨sb, so, none⟩) 1 cap1, .slice A2 0 cap2, .int .i64 text] 47)).alloc (.cells #[.int .i64 0, .int .i64 0, .string ⟨#[]⟩, .bool false, .int .i64 0] 26)) (w.heap.size + 1) 5 := by
    have h9 := ResAt.new5 (w.alloc (.cells #[.slice (some ⟨sb, so, none⟩) 1 cap1, .slice A2 0 cap2, .int .i64 text] 47)) (.int .i64 0) (.int .i64 0) (.string ⟨#[]⟩) (.bool false) (.int .i64 0) 26
    rw [World.size_alloc] at h9
    exact h9
  have hq1 : Below w.heap.size w ((w.alloc (.cells #[.slice (some ⟨sb, so, none⟩) 1 cap1, .slice A2 0 cap2, .int .i64 text] 47)).alloc (.cells #[.int .i64 0, .int .i64 0, .string ⟨#[]⟩, .bool false, .int .i64 0] 26)) := by (repeat (first | (with_reducible exact Below.refl _ _) | (with_reducible refine Below.alloc ?_ (by first | omega | (dsimp only; omega) | (simp <;> omega)) _) | (with_reducible refine Below.setCell ?_ (by first | omega | (dsimp only; omega) | (simp <;> omega)) _) | (with_reducible refine Below.drew ?_) | (with_reducible refine below_drewN ?_ _) | (with_reducible refine Below.trans ?_ (Below.mono (by assumption) (by first | omega | (dsimp only; omega) | (simp <;> omega))))))
  have hz1 : w.heap.size + 2 ≤ ((w.alloc (.cells #[.slice (some ⟨sb, so, none⟩) 1 cap1, .slice A2 0 cap2, .int .i64 text] 47)).alloc (.cells #[.int .i64 0, .int .i64 0, .string ⟨#[]⟩, .bool false, .int .i64 0] 26)).heap.size := by simp
  generalize ((w.alloc (.cells #[.slice (some ⟨sb, so, none⟩) 1 cap1, .slice A2 0 cap2, .int .i64 text] 47)).alloc (.cells #[.int .i64 0, .int .i64 0, .string ⟨#[]⟩, .bool false, .int .i64 0] 26)) = w1 at *
  clear hs0
  clear cp
  first | (go_loud (go_region_held3 (fun w' => w'.cell? ⟨w.heap.size, 0, none⟩ = some (.slice (some ⟨sb, so, none⟩) 1 cap1) ∧ w'.cell? ⟨w.heap.size, 1, none⟩ = some (.slice A2 0 cap2) ∧ w'.cell? ⟨w.heap.size, 2, none⟩ = some (.int .i64 text) ∧ w'.cell? ⟨sb, so, none⟩ = some (.string s) ∧ w'.cell? ⟨pb, 0, none⟩ = some (.func (.func f) #[] #[]) ∧ ResAt w' (w.heap.size + 1) 5 ∧ Below w.heap.size w w' ∧ w.heap.size + 1 + 1 ≤ w'.heap.size)
    (first | (go_split_ands; exact ⟨(by simp [go_sem, *]), (by simp [go_sem, *]), (by simp [go_sem, *]), (by simp [go_sem, *]), (by simp [go_sem, *]), (by first | (with_reducible exact ResAt.drew (ResAt.new5 _ _ _ _ _ _ _)) | (repeat (first | (with_reducible assumption) | (with_reducible refine ResAt.setCell ?_ _ _) | (with_reducible refine ResAt.drew ?_)))), (by (repeat (first | (with_reducible exact Below.refl _ _) | (with_reducible refine Below.alloc ?_ (by first | omega | (dsimp only; omega) | (simp <;> omega)) _) | (with_reducible refine Below.setCell ?_ (by first | omega | (dsimp only; omega) | (simp <;> omega)) _) | (with_reducible refine Below.drew ?_) | (with_reducible refine below_drewN ?_ _) | (with_reducible refine Below.trans ?_ (Below.mono (by assumption) (by first | omega | (dsimp only; omega) | (simp <;> omega))))))), (by first | (simp; done) | (simp; omega))⟩) | (exact ⟨(by simp [go_sem, *]), (by simp [go_sem, *]), (by simp [go_sem, *]), (by simp [go_sem, *]), (by simp [go_sem, *]), (by first | (with_reducible exact ResAt.drew (ResAt.new5 _ _ _ _ _ _ _)) | (repeat (first | (with_reducible assumption) | (with_reducible refine ResAt.setCell ?_ _ _) | (with_reducible refine ResAt.drew ?_)))), (by (repeat (first | (with_reducible exact Below.refl _ _) | (with_reducible refine Below.alloc ?_ (by first | omega | (dsimp only; omega) | (simp <;> omega)) _) | (with_reducible refine Below.setCell ?_ (by first | omega | (dsimp only; omega) | (simp <;> omega)) _) | (with_reducible refine Below.drew ?_) | (with_reducible refine below_drewN ?_ _) | (with_reducible refine Below.trans ?_ (Below.mono (by assumption) (by first | omega | (dsimp only; omega) | (simp <;> omega))))))), (by first | (simp; done) | (simp; omega))⟩) | (go_split_ands; exact ⟨(by rw [hb.cell (by dsimp only; omega)]; assumption), (by rw [hb.cell (by dsimp only; omega)]; assumption), (by rw [hb.cell (by dsimp only; omega)]; assumption), (by rw [hb.cell (by dsimp only; omega)]; assumption), (by rw [hb.cell (by dsimp only; omega)]; assumption), (ResAt.below (by assumption) hb (by omega)), (Below.trans (by assumption) (hb.mono (by omega))), (by have := hb.size; omega)⟩))
    (first | (refine (hf'.out _).mono ?_; rintro e w1 ⟨rfl, hb⟩) | (go_at_call 143; refine (ttold_any _ _ _ _ _ _ text s2 (by omega) _).mono ?_; rintro e w1 ⟨rfl, hb⟩)))) | fail "region"
  go_split_ands
  go_wp2
  try simp only [resAt_setCell] at *
  refine bodyPost_ret (v := .agg #[.int .i64 (toldT text s2).t, .int .i64 (toldT text s2).n, .string (toldT text s2).s, .bool (toldT text s2).b, .int .i64 (toldT text s2).c]) ?_ rfl ⟨rfl, by first | assumption | (go_split_ands; first | assumption | ((repeat (first | (with_reducible exact Below.refl _ _) | (with_reducible refine Below.alloc ?_ (by first | omega | (dsimp only; omega) | (simp <;> omega)) _) | (with_reducible refine Below.setCell ?_ (by first | omega | (dsimp only; omega) | (simp <;> omega)) _) | (with_reducible refine Below.drew ?_) | (with_reducible refine below_drewN ?_ _) | (with_reducible refine Below.trans ?_ (Below.mono (by assumption) (by first | omega | (dsimp only; omega) | (simp <;> omega)))))); done)) | ((repeat (first | (with_reducible exact Below.refl _ _) | (with_reducible refine Below.alloc ?_ (by first | omega | (dsimp only; omega) | (simp <;> omega)) _) | (with_reducible refine Below.setCell ?_ (by first | omega | (dsimp only; omega) | (simp <;> omega)) _) | (with_reducible refine Below.drew ?_) | (with_reducible refine below_drewN ?_ _) | (with_reducible refine Below.trans ?_ (Below.mono (by assumption) (by first | omega | (dsimp only; omega) | (simp <;> omega)))))); done)⟩
  simp [results, Tryz.results144, go_sem, *]
end Go.Proofs.YtgmhifafbebjfaaGreatDoor
