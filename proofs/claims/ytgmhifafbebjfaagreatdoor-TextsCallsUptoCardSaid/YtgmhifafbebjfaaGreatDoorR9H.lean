/-
  the document's texts: cutting.
-/
import Derived.Test.YtgmhifafbebjfaaGreatDoorR9C
namespace Go.Proofs.YtgmhifafbebjfaaGreatDoor
open Go.RowKit

set_option maxRecDepth 100000 in
set_option maxHeartbeats 2000000 in
theorem r9cut_left0 (s : ByteArray) (hs : s.size ≤ 1048576) (text : Int) (v : Value) (w : World) (hN : RdInt w v []) : Calls Tryz.prog 26 #[.string ⟨#[76, 69, 70, 84]⟩, .string s, v, .int .i64 text] w fun e w' => e = .returned (.agg #[.int .i64 ((toldT text (cutD s 1))).t, .int .i64 ((toldT text (cutD s 1))).n, .string ((toldT text (cutD s 1))).s, .bool ((toldT text (cutD s 1))).b, .int .i64 ((toldT text (cutD s 1))).c]) ∧ Below w.heap.size w w' := by
  obtain ⟨A2, cap2, rfl, hR2⟩ := hN
  clear hR2
  simp only [List.length_nil]
  obtain ⟨d, hd⟩ : ∃ d, cutD s 1 = d := ⟨_, rfl⟩
  have hdl : d.size ≤ 1048576 := by rw [← hd]; exact Nat.le_trans (ext_size_le _ _ _) hs
  rw [hd]
  unfold cutD at hd
  have hd' := Lib.hid hd
  have hsw : IntKind.i64.wrap ((s.size : Int) - min 1 (s.size : Int)) = (s.size : Int) - min 1 (s.size : Int) := IntWalk.i64_in _ (by omega)
  have hm0 : 0 ≤ min 1 (s.size : Int) := by omega
  have hm1 : min 1 (s.size : Int) ≤ (s.size : Int) := by omega
  clear hd
  go_enter Tryz.func26, Tryz.ntmps26
  go_wp2_with (go_at_call 25; rw [hd'.out]; refine (r9told text d (by omega) _).mono ?_; rintro e w1 ⟨rfl, hb⟩; obtain ⟨hc, hf, hz⟩ := bkeep hb (w.heap.size + 1) (by first | omega | (simp <;> omega)))
  refine bodyPost_ret (v := .agg #[.int .i64 (toldT text d).t, .int .i64 (toldT text d).n, .string (toldT text d).s, .bool (toldT text d).b, .int .i64 (toldT text d).c]) ?_ rfl ⟨by rfl, by (repeat (first | (with_reducible exact Below.refl _ _) | (with_reducible refine Below.alloc ?_ (by first | omega | (dsimp only; omega) | (simp <;> omega)) _) | (with_reducible refine Below.setCell ?_ (by first | omega | (dsimp only; omega) | (simp <;> omega)) _) | (with_reducible refine Below.drew ?_) | (with_reducible refine below_drewN ?_ _) | (with_reducible refine Below.trans ?_ (Below.mono (by assumption) (by first | omega | (dsimp only; omega) | (simp <;> omega))))))⟩
  simp [results, Tryz.results26, go_sem, *]
set_option maxRecDepth 100000 in
set_option maxHeartbeats 2000000 in
theorem r9cut_left1 (s : ByteArray) (hs : s.size ≤ 1048576) (n : Int) (hn : -922337203685477 ≤ n ∧ n ≤ 922337203685477) (text : Int) (v : Value) (w : World) (hN : RdInt w v [n]) : Calls Tryz.prog 26 #[.string ⟨#[76, 69, 70, 84]⟩, .string s, v, .int .i64 text] w fun e w' => e = .returned (.agg #[.int .i64 ((if n < 0 then errL 8 else toldT text (cutD s n))).t, .int .i64 ((if n < 0 then errL 8 else toldT text (cutD s n))).n, .string ((if n < 0 then errL 8 else toldT text (cutD s n))).s, .bool ((if n < 0 then errL 8 else toldT text (cutD s n))).b, .int .i64 ((if n < 0 then errL 8 else toldT text (cutD s n))).c]) ∧ Below w.heap.size w w' := by
  obtain ⟨A2, cap2, rfl, hR2⟩ := hN
  obtain ⟨nb, no, hA2, hnb, _⟩ := hR2 0 [.int .i64 n] rfl
  subst hA2
  have hn0 : w.cell? ⟨nb, no, none⟩ = some (.int .i64 n) := by
    obtain ⟨b9, o9, e9, _, h9⟩ := hR2 0 [.int .i64 n] rfl
    injection e9 with e9
    injection e9 with e1 e2 _
    subst e1 e2
    simpa using h9 0 _ rfl
  have hnn : nb ≠ w.heap.size := by omega
  have hnl : nb < w.heap.size + 1 := by omega
  clear hR2
  simp only [List.length_cons, List.length_nil, Nat.zero_add]
  by_cases hz9 : n < 0
  · rw [if_pos hz9]
    go_enter Tryz.func26, Tryz.ntmps26
    go_wp2_with (go_at_call 20; refine (rverr9 8 _).mono ?_; rintro e w1 ⟨rfl, hb⟩; obtain ⟨hc, hf, hz⟩ := bkeep hb (w.heap.size + 1) (by first | omega | (simp <;> omega)))
    refine bodyPost_ret (v := .agg #[.int .i64 4, .int .i64 0, .string ⟨#[]⟩, .bool false, .int .i64 (errC 8)]) ?_ rfl ⟨by rfl, by (repeat (first | (with_reducible exact Below.refl _ _) | (with_reducible refine Below.alloc ?_ (by first | omega | (dsimp only; omega) | (simp <;> omega)) _) | (with_reducible refine Below.setCell ?_ (by first | omega | (dsimp only; omega) | (simp <;> omega)) _) | (with_reducible refine Below.drew ?_) | (with_reducible refine below_drewN ?_ _) | (with_reducible refine Below.trans ?_ (Below.mono (by assumption) (by first | omega | (dsimp only; omega) | (simp <;> omega))))))⟩
    simp [results, Tryz.results26, go_sem, *]
  · rw [if_neg hz9]
    have hz8 : 0 ≤ n := by omega
    obtain ⟨d, hd⟩ : ∃ d, cutD s n = d := ⟨_, rfl⟩
    have hdl : d.size ≤ 1048576 := by rw [← hd]; exact Nat.le_trans (ext_size_le _ _ _) hs
    rw [hd]
    unfold cutD at hd
    have hd' := Lib.hid hd
    have hsw : IntKind.i64.wrap ((s.size : Int) - min n (s.size : Int)) = (s.size : Int) - min n (s.size : Int) := IntWalk.i64_in _ (by omega)
    have hm0 : 0 ≤ min n (s.size : Int) := by omega
    have hm1 : min n (s.size : Int) ≤ (s.size : Int) := by omega
    clear hd
    go_enter Tryz.func26, Tryz.ntmps26
    go_wp2_with (go_at_call 25; rw [hd'.out]; refine (r9told text d (by omega) _).mono ?_; rintro e w1 ⟨rfl, hb⟩; obtain ⟨hc, hf, hz⟩ := bkeep hb (w.heap.size + 1) (by first | omega | (simp <;> omega)))
    refine bodyPost_ret (v := .agg #[.int .i64 (toldT text d).t, .int .i64 (toldT text d).n, .string (toldT text d).s, .bool (toldT text d).b, .int .i64 (toldT text d).c]) ?_ rfl ⟨by rfl, by (repeat (first | (with_reducible exact Below.refl _ _) | (with_reducible refine Below.alloc ?_ (by first | omega | (dsimp only; omega) | (simp <;> omega)) _) | (with_reducible refine Below.setCell ?_ (by first | omega | (dsimp only; omega) | (simp <;> omega)) _) | (with_reducible refine Below.drew ?_) | (with_reducible refine below_drewN ?_ _) | (with_reducible refine Below.trans ?_ (Below.mono (by assumption) (by first | omega | (dsimp only; omega) | (simp <;> omega))))))⟩
    simp [results, Tryz.results26, go_sem, *]
set_option maxRecDepth 100000 in
set_option maxHeartbeats 2000000 in
theorem r9cut_right0 (s : ByteArray) (hs : s.size ≤ 1048576) (text : Int) (v : Value) (w : World) (hN : RdInt w v []) : Calls Tryz.prog 26 #[.string ⟨#[82, 73, 71, 72, 84]⟩, .string s, v, .int .i64 text] w fun e w' => e = .returned (.agg #[.int .i64 ((toldT text (rightD s 1))).t, .int .i64 ((toldT text (rightD s 1))).n, .string ((toldT text (rightD s 1))).s, .bool ((toldT text (rightD s 1))).b, .int .i64 ((toldT text (rightD s 1))).c]) ∧ Below w.heap.size w w' := by
  obtain ⟨A2, cap2, rfl, hR2⟩ := hN
  clear hR2
  simp only [List.length_nil]
  obtain ⟨d, hd⟩ : ∃ d, rightD s 1 = d := ⟨_, rfl⟩
  have hdl : d.size ≤ 1048576 := by rw [← hd]; exact Nat.le_trans (ext_size_le _ _ _) hs
  rw [hd]
  unfold rightD at hd
  have hd' := Lib.hid hd
  have hsw : IntKind.i64.wrap ((s.size : Int) - min 1 (s.size : Int)) = (s.size : Int) - min 1 (s.size : Int) := IntWalk.i64_in _ (by omega)
  have hm0 : 0 ≤ min 1 (s.size : Int) := by omega
  have hm1 : min 1 (s.size : Int) ≤ (s.size : Int) := by omega
  have hm2 : 0 ≤ (s.size : Int) - min 1 (s.size : Int) := by omega
  have hm3 : (s.size : Int) - min 1 (s.size : Int) ≤ (s.size : Int) := by omega
  clear hd
  go_enter Tryz.func26, Tryz.ntmps26
  go_wp2_with (go_at_call 25; rw [hd'.out]; refine (r9told text d (by omega) _).mono ?_; rintro e w1 ⟨rfl, hb⟩; obtain ⟨hc, hf, hz⟩ := bkeep hb (w.heap.size + 1) (by first | omega | (simp <;> omega)))
  refine bodyPost_ret (v := .agg #[.int .i64 (toldT text d).t, .int .i64 (toldT text d).n, .string (toldT text d).s, .bool (toldT text d).b, .int .i64 (toldT text d).c]) ?_ rfl ⟨by rfl, by (repeat (first | (with_reducible exact Below.refl _ _) | (with_reducible refine Below.alloc ?_ (by first | omega | (dsimp only; omega) | (simp <;> omega)) _) | (with_reducible refine Below.setCell ?_ (by first | omega | (dsimp only; omega) | (simp <;> omega)) _) | (with_reducible refine Below.drew ?_) | (with_reducible refine below_drewN ?_ _) | (with_reducible refine Below.trans ?_ (Below.mono (by assumption) (by first | omega | (dsimp only; omega) | (simp <;> omega))))))⟩
  simp [results, Tryz.results26, go_sem, *]
set_option maxRecDepth 100000 in
set_option maxHeartbeats 2000000 in
theorem r9cut_right1 (s : ByteArray) (hs : s.size ≤ 1048576) (n : Int) (hn : -922337203685477 ≤ n ∧ n ≤ 922337203685477) (text : Int) (v : Value) (w : World) (hN : RdInt w v [n]) : Calls Tryz.prog 26 #[.string ⟨#[82, 73, 71, 72, 84]⟩, .string s, v, .int .i64 text] w fun e w' => e = .returned (.agg #[.int .i64 ((if n < 0 then errL 8 else toldT text (rightD s n))).t, .int .i64 ((if n < 0 then errL 8 else toldT text (rightD s n))).n, .string ((if n < 0 then errL 8 else toldT text (rightD s n))).s, .bool ((if n < 0 then errL 8 else toldT text (rightD s n))).b, .int .i64 ((if n < 0 then errL 8 else toldT text (rightD s n))).c]) ∧ Below w.heap.size w w' := by
  obtain ⟨A2, cap2, rfl, hR2⟩ := hN
  obtain ⟨nb, no, hA2, hnb, _⟩ := hR2 0 [.int .i64 n] rfl
  subst hA2
  have hn0 : w.cell? ⟨nb, no, none⟩ = some (.int .i64 n) := by
    obtain ⟨b9, o9, e9, _, h9⟩ := hR2 0 [.int .i64 n] rfl
    injection e9 with e9
    injection e9 with e1 e2 _
    subst e1 e2
    simpa using h9 0 _ rfl
  have hnn : nb ≠ w.heap.size := by omega
  have hnl : nb < w.heap.size + 1 := by omega
  clear hR2
  simp only [List.length_cons, List.length_nil, Nat.zero_add]
  by_cases hz9 : n < 0
  · rw [if_pos hz9]
    go_enter Tryz.func26, Tryz.ntmps26
    go_wp2_with (go_at_call 20; refine (rverr9 8 _).mono ?_; rintro e w1 ⟨rfl, hb⟩; obtain ⟨hc, hf, hz⟩ := bkeep hb (w.heap.size + 1) (by first | omega | (simp <;> omega)))
    refine bodyPost_ret (v := .agg #[.int .i64 4, .int .i64 0, .string ⟨#[]⟩, .bool false, .int .i64 (errC 8)]) ?_ rfl ⟨by rfl, by (repeat (first | (with_reducible exact Below.refl _ _) | (with_reducible refine Below.alloc ?_ (by first | omega | (dsimp only; omega) | (simp <;> omega)) _) | (with_reducible refine Below.setCell ?_ (by first | omega | (dsimp only; omega) | (simp <;> omega)) _) | (with_reducible refine Below.drew ?_) | (with_reducible refine below_drewN ?_ _) | (with_reducible refine Below.trans ?_ (Below.mono (by assumption) (by first | omega | (dsimp only; omega) | (simp <;> omega))))))⟩
    simp [results, Tryz.results26, go_sem, *]
  · rw [if_neg hz9]
    have hz8 : 0 ≤ n := by omega
    obtain ⟨d, hd⟩ : ∃ d, rightD s n = d := ⟨_, rfl⟩
    have hdl : d.size ≤ 1048576 := by rw [← hd]; exact Nat.le_trans (ext_size_le _ _ _) hs
    rw [hd]
    unfold rightD at hd
    have hd' := Lib.hid hd
    have hsw : IntKind.i64.wrap ((s.size : Int) - min n (s.size : Int)) = (s.size : Int) - min n (s.size : Int) := IntWalk.i64_in _ (by omega)
    have hm0 : 0 ≤ min n (s.size : Int) := by omega
    have hm1 : min n (s.size : Int) ≤ (s.size : Int) := by omega
    have hm2 : 0 ≤ (s.size : Int) - min n (s.size : Int) := by omega
    have hm3 : (s.size : Int) - min n (s.size : Int) ≤ (s.size : Int) := by omega
    clear hd
    go_enter Tryz.func26, Tryz.ntmps26
    go_wp2_with (go_at_call 25; rw [hd'.out]; refine (r9told text d (by omega) _).mono ?_; rintro e w1 ⟨rfl, hb⟩; obtain ⟨hc, hf, hz⟩ := bkeep hb (w.heap.size + 1) (by first | omega | (simp <;> omega)))
    refine bodyPost_ret (v := .agg #[.int .i64 (toldT text d).t, .int .i64 (toldT text d).n, .string (toldT text d).s, .bool (toldT text d).b, .int .i64 (toldT text d).c]) ?_ rfl ⟨by rfl, by (repeat (first | (with_reducible exact Below.refl _ _) | (with_reducible refine Below.alloc ?_ (by first | omega | (dsimp only; omega) | (simp <;> omega)) _) | (with_reducible refine Below.setCell ?_ (by first | omega | (dsimp only; omega) | (simp <;> omega)) _) | (with_reducible refine Below.drew ?_) | (with_reducible refine below_drewN ?_ _) | (with_reducible refine Below.trans ?_ (Below.mono (by assumption) (by first | omega | (dsimp only; omega) | (simp <;> omega))))))⟩
    simp [results, Tryz.results26, go_sem, *]
set_option maxRecDepth 100000 in
set_option maxHeartbeats 2000000 in
theorem r9cut_rept (s : ByteArray) (hs : s.size ≤ 1048576) (n : Int) (hn : -922337203685477 ≤ n ∧ n ≤ 922337203685477) (text : Int) (h9 : 0 ≤ text ∧ text ≤ 1024) (v : Value) (w : World) (hN : RdInt w v [n]) : Calls Tryz.prog 26 #[.string ⟨#[82, 69, 80, 84]⟩, .string s, v, .int .i64 text] w fun e w' => e = .returned (.agg #[.int .i64 ((if n < 0 then errL 8 else toldT text (repS s n.toNat))).t, .int .i64 ((if n < 0 then errL 8 else toldT text (repS s n.toNat))).n, .string ((if n < 0 then errL 8 else toldT text (repS s n.toNat))).s, .bool ((if n < 0 then errL 8 else toldT text (repS s n.toNat))).b, .int .i64 ((if n < 0 then errL 8 else toldT text (repS s n.toNat))).c]) ∧ Below w.heap.size w w' := by
  obtain ⟨A2, cap2, rfl, hR2⟩ := hN
  obtain ⟨nb, no, hA2, hnb, _⟩ := hR2 0 [.int .i64 n] rfl
  subst hA2
  have hn0 : w.cell? ⟨nb, no, none⟩ = some (.int .i64 n) := by
    obtain ⟨b9, o9, e9, _, h9⟩ := hR2 0 [.int .i64 n] rfl
    injection e9 with e9
    injection e9 with e1 e2 _
    subst e1 e2
    simpa using h9 0 _ rfl
  have hnn : nb ≠ w.heap.size := by omega
  have hnl : nb < w.heap.size + 1 := by omega
  clear hR2
  simp only [List.length_cons, List.length_nil, Nat.zero_add]
  by_cases hz9 : n < 0
  · rw [if_pos hz9]
    go_enter Tryz.func26, Tryz.ntmps26
    go_wp2_with (go_at_call 20; refine (rverr9 8 _).mono ?_; rintro e w1 ⟨rfl, hb⟩; obtain ⟨hc, hf, hz⟩ := bkeep hb (w.heap.size + 1) (by first | omega | (simp <;> omega)))
    refine bodyPost_ret (v := .agg #[.int .i64 4, .int .i64 0, .string ⟨#[]⟩, .bool false, .int .i64 (errC 8)]) ?_ rfl ⟨by rfl, by (repeat (first | (with_reducible exact Below.refl _ _) | (with_reducible refine Below.alloc ?_ (by first | omega | (dsimp only; omega) | (simp <;> omega)) _) | (with_reducible refine Below.setCell ?_ (by first | omega | (dsimp only; omega) | (simp <;> omega)) _) | (with_reducible refine Below.drew ?_) | (with_reducible refine below_drewN ?_ _) | (with_reducible refine Below.trans ?_ (Below.mono (by assumption) (by first | omega | (dsimp only; omega) | (simp <;> omega))))))⟩
    simp [results, Tryz.results26, go_sem, *]
  · rw [if_neg hz9]
    obtain ⟨m, rfl⟩ := Int.eq_ofNat_of_zero_le (show 0 ≤ n by omega)
    have CR := fun w0 : World => r9rept s (by omega) m (by omega) text h9 w0
    rw [Int.toNat_natCast]
    generalize toldT text (repS s m) = V at CR ⊢
    go_enter Tryz.func26, Tryz.ntmps26
    go_wp2_with (go_at_call 92; refine (CR _).mono ?_; rintro e w1 ⟨rfl, hb⟩; obtain ⟨hc, hf, hz⟩ := bkeep hb (w.heap.size + 1) (by first | omega | (simp <;> omega)))
    refine bodyPost_ret (v := .agg #[.int .i64 (V).t, .int .i64 (V).n, .string (V).s, .bool (V).b, .int .i64 (V).c]) ?_ rfl ⟨by rfl, by (repeat (first | (with_reducible exact Below.refl _ _) | (with_reducible refine Below.alloc ?_ (by first | omega | (dsimp only; omega) | (simp <;> omega)) _) | (with_reducible refine Below.setCell ?_ (by first | omega | (dsimp only; omega) | (simp <;> omega)) _) | (with_reducible refine Below.drew ?_) | (with_reducible refine below_drewN ?_ _) | (with_reducible refine Below.trans ?_ (Below.mono (by assumption) (by first | omega | (dsimp only; omega) | (simp <;> omega))))))⟩
    simp [results, Tryz.results26, go_sem, *]
theorem mid_far9 (s : ByteArray) (a b : Int) (h : (s.size : Int) < a) : cutD (midD s a) b = ⟨#[]⟩ := by
  have h1 : (midD s a).size = 0 := by unfold midD; rw [ByteArray.size_extract]; omega
  have h2 : (cutD (midD s a) b).size = 0 := by unfold cutD; rw [ByteArray.size_extract]; omega
  apply ByteArray.ext; apply Array.ext'
  exact List.eq_nil_of_length_eq_zero h2
set_option maxRecDepth 100000 in
set_option maxHeartbeats 2000000 in
theorem r9cut_mid (s : ByteArray) (hs : s.size ≤ 1048576) (a : Int) (ha : -922337203685477 ≤ a ∧ a ≤ 922337203685477) (b : Int) (hb : -922337203685477 ≤ b ∧ b ≤ 922337203685477) (text : Int) (v : Value) (w : World) (hN : RdInt w v [a, b]) : Calls Tryz.prog 26 #[.string ⟨#[77, 73, 68]⟩, .string s, v, .int .i64 text] w fun e w' => e = .returned (.agg #[.int .i64 ((if a < 1 ∨ b < 0 then errL 8 else toldT text (cutD (midD s a) b))).t, .int .i64 ((if a < 1 ∨ b < 0 then errL 8 else toldT text (cutD (midD s a) b))).n, .string ((if a < 1 ∨ b < 0 then errL 8 else toldT text (cutD (midD s a) b))).s, .bool ((if a < 1 ∨ b < 0 then errL 8 else toldT text (cutD (midD s a) b))).b, .int .i64 ((if a < 1 ∨ b < 0 then errL 8 else toldT text (cutD (midD s a) b))).c]) ∧ Below w.heap.size w w' := by
  obtain ⟨A2, cap2, rfl, hR2⟩ := hN
  obtain ⟨nb, no, hA2, hnb, _⟩ := hR2 0 [.int .i64 a] rfl
  subst hA2
  have hn0 : w.cell? ⟨nb, no, none⟩ = some (.int .i64 a) := by
    obtain ⟨b9, o9, e9, _, h9⟩ := hR2 0 [.int .i64 a] rfl
    injection e9 with e9
    injection e9 with e1 e2 _
    subst e1 e2
    simpa using h9 0 _ rfl
  have hn1 : w.cell? ⟨nb, no + 1, none⟩ = some (.int .i64 b) := by
    obtain ⟨b9, o9, e9, _, h9⟩ := hR2 1 [.int .i64 b] rfl
    injection e9 with e9
    injection e9 with e1 e2 _
    subst e1 e2
    simpa using h9 0 _ rfl
  have hnn : nb ≠ w.heap.size := by omega
  have hnl : nb < w.heap.size + 1 := by omega
  clear hR2
  simp only [List.length_cons, List.length_nil, Nat.zero_add, Nat.reduceAdd]
  by_cases hz9 : a < 1 ∨ b < 0
  · rw [if_pos hz9]
    by_cases hb0 : b < 0
    · clear hz9
      go_enter Tryz.func26, Tryz.ntmps26
      go_wp2_with (go_at_call 20; refine (rverr9 8 _).mono ?_; rintro e w1 ⟨rfl, hb⟩; obtain ⟨hc, hf, hz⟩ := bkeep hb (w.heap.size + 1) (by first | omega | (simp <;> omega)))
      refine bodyPost_ret (v := .agg #[.int .i64 4, .int .i64 0, .string ⟨#[]⟩, .bool false, .int .i64 (errC 8)]) ?_ rfl ⟨by rfl, by (repeat (first | (with_reducible exact Below.refl _ _) | (with_reducible refine Below.alloc ?_ (by first | omega | (dsimp only; omega) | (simp <;> omega)) _) | (with_reducible refine Below.setCell ?_ (by first | omega | (dsimp only; omega) | (simp <;> omega)) _) | (with_reducible refine Below.drew ?_) | (with_reducible refine below_drewN ?_ _) | (with_reducible refine Below.trans ?_ (Below.mono (by assumption) (by first | omega | (dsimp only; omega) | (simp <;> omega))))))⟩
      simp [results, Tryz.results26, go_sem, *]
    · have ha0 : a < 1 := by omega
      clear hz9
      go_enter Tryz.func26, Tryz.ntmps26
      go_wp2_with (go_at_call 20; refine (rverr9 8 _).mono ?_; rintro e w1 ⟨rfl, hb⟩; obtain ⟨hc, hf, hz⟩ := bkeep hb (w.heap.size + 1) (by first | omega | (simp <;> omega)))
      refine bodyPost_ret (v := .agg #[.int .i64 4, .int .i64 0, .string ⟨#[]⟩, .bool false, .int .i64 (errC 8)]) ?_ rfl ⟨by rfl, by (repeat (first | (with_reducible exact Below.refl _ _) | (with_reducible refine Below.alloc ?_ (by first | omega | (dsimp only; omega) | (simp <;> omega)) _) | (with_reducible refine Below.setCell ?_ (by first | omega | (dsimp only; omega) | (simp <;> omega)) _) | (with_reducible refine Below.drew ?_) | (with_reducible refine below_drewN ?_ _) | (with_reducible refine Below.trans ?_ (Below.mono (by assumption) (by first | omega | (dsimp only; omega) | (simp <;> omega))))))⟩
      simp [results, Tryz.results26, go_sem, *]
  · rw [if_neg hz9]
    have hb0 : ¬ b < 0 := by omega
    have ha0 : ¬ a < 1 := by omega
    by_cases hfar : (s.size : Int) < a
    · rw [mid_far9 s a b hfar]
      have hz0 : (⟨#[]⟩ : ByteArray).size ≤ 9223372036854775807 := by decide
      clear hz9
      go_enter Tryz.func26, Tryz.ntmps26
      go_wp2_with (go_at_call 25; refine (r9told text ⟨#[]⟩ hz0 _).mono ?_; rintro e w1 ⟨rfl, hb⟩; obtain ⟨hc, hf, hz⟩ := bkeep hb (w.heap.size + 1) (by first | omega | (simp <;> omega)))
      refine bodyPost_ret (v := .agg #[.int .i64 (toldT text ⟨#[]⟩).t, .int .i64 (toldT text ⟨#[]⟩).n, .string (toldT text ⟨#[]⟩).s, .bool (toldT text ⟨#[]⟩).b, .int .i64 (toldT text ⟨#[]⟩).c]) ?_ rfl ⟨by rfl, by (repeat (first | (with_reducible exact Below.refl _ _) | (with_reducible refine Below.alloc ?_ (by first | omega | (dsimp only; omega) | (simp <;> omega)) _) | (with_reducible refine Below.setCell ?_ (by first | omega | (dsimp only; omega) | (simp <;> omega)) _) | (with_reducible refine Below.drew ?_) | (with_reducible refine below_drewN ?_ _) | (with_reducible refine Below.trans ?_ (Below.mono (by assumption) (by first | omega | (dsimp only; omega) | (simp <;> omega))))))⟩
      simp [results, Tryz.results26, go_sem, *]
    · obtain ⟨q, hq⟩ : ∃ q : Nat, a = (q : Int) + 1 := ⟨(a - 1).toNat, by omega⟩
      subst hq
      obtain ⟨d1, hd1⟩ : ∃ d1, midD s ((q : Int) + 1) = d1 := ⟨_, rfl⟩
      have hd1s : d1.size ≤ 1048576 := by rw [← hd1]; exact Nat.le_trans (ext_size_le _ _ _) hs
      obtain ⟨d, hd⟩ : ∃ d, cutD d1 b = d := ⟨_, rfl⟩
      have hdl : d.size ≤ 1048576 := by rw [← hd]; exact Nat.le_trans (ext_size_le _ _ _) hd1s
      rw [hd1, hd]
      unfold cutD at hd
      have hd' := Lib.hid hd
      have he : midD s ((q : Int) + 1) = s.extract q s.size := by unfold midD; rw [show (min ((q : Int) + 1 - 1) (s.size : Int)).toNat = q by omega]
      rw [he] at hd1
      have hq0 : (0 : Int) ≤ (q : Int) := by omega
      have hq1 : (q : Int) ≤ (s.size : Int) := by omega
      have hwq : IntKind.i64.wrap ((q : Int) + 1 - 1) = (q : Int) := by rw [show (q : Int) + 1 - 1 = (q : Int) by omega]; exact IntWalk.i64_in _ (by omega)
      have hm0 : 0 ≤ min b (d1.size : Int) := by omega
      have hm1 : min b (d1.size : Int) ≤ (d1.size : Int) := by omega
      clear hd he hz9
      go_enter Tryz.func26, Tryz.ntmps26
      go_wp2_with (go_at_call 25; rw [hd'.out]; refine (r9told text d (by omega) _).mono ?_; rintro e w1 ⟨rfl, hb⟩; obtain ⟨hc, hf, hz⟩ := bkeep hb (w.heap.size + 1) (by first | omega | (simp <;> omega)))
      refine bodyPost_ret (v := .agg #[.int .i64 (toldT text d).t, .int .i64 (toldT text d).n, .string (toldT text d).s, .bool (toldT text d).b, .int .i64 (toldT text d).c]) ?_ rfl ⟨by rfl, by (repeat (first | (with_reducible exact Below.refl _ _) | (with_reducible refine Below.alloc ?_ (by first | omega | (dsimp only; omega) | (simp <;> omega)) _) | (with_reducible refine Below.setCell ?_ (by first | omega | (dsimp only; omega) | (simp <;> omega)) _) | (with_reducible refine Below.drew ?_) | (with_reducible refine below_drewN ?_ _) | (with_reducible refine Below.trans ?_ (Below.mono (by assumption) (by first | omega | (dsimp only; omega) | (simp <;> omega))))))⟩
      simp [results, Tryz.results26, go_sem, *]
end Go.Proofs.YtgmhifafbebjfaaGreatDoor
