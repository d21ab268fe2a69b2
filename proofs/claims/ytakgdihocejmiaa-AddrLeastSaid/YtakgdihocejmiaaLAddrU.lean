/-
  The laws' own walks: AddrCuts, AddrLeast.
-/
import Derived.Test.YtakgdihocejmiaaAddrK
import Derived.Test.YtakgdihocejmiaaEq
import Derived.WalkSpells
import Derived.WalkLawsBesides
import Derived.StillTactics
import Derived.Laws.Pointers
import Derived.Deep.RegionHeld3
import Derived.Deep.QuietTactic
import Derived.BigQuiet
import Derived.RowKit3
import Derived.Lib.Hide
namespace Go.Proofs.Ytakgdihocejmiaa
open Go.RowKit

theorem cut_yes {a b m n : Int} (h : cutOk a b m n = true) : rectEq (cuT a b m n) (cuL a b m n) (cuB a b m n) (cuR a b m n) 0 0 0 0 = false ∧ mayRectB (cuT a b m n) (cuL a b m n) (cuB a b m n) (cuR a b m n) = true ∧
    (cuT a b m n != a) = false ∧ (cuL a b m n != b) = false := by
  have h' := h
  simp only [cutOk, Bool.and_eq_true, decide_eq_true_eq] at h'
  obtain ⟨⟨h1, h2⟩, h3⟩ := h'
  obtain ⟨m1, m2, m3, m4⟩ := may_of h1
  simp [cuT, cuL, cuB, cuR, h, rectEq, mayRectB, mayB]
  omega
theorem cut_no {a b m n : Int} (h : cutOk a b m n = false) : rectEq (cuT a b m n) (cuL a b m n) (cuB a b m n) (cuR a b m n) 0 0 0 0 = true := by
  simp [cuT, cuL, cuB, cuR, h, rectEq]
theorem span_yes {a b c d : Int} (h : mayB a b = true) (k : mayB c d = true) : mayRectB (spT a b c d) (spL a b c d) (spB a b c d) (spR a b c d) = true ∧ inB (spT a b c d) (spL a b c d) (spB a b c d) (spR a b c d) a b = true ∧
    inB (spT a b c d) (spL a b c d) (spB a b c d) (spR a b c d) c d = true := by
  obtain ⟨m1, m2, m3, m4⟩ := may_of h
  obtain ⟨n1, n2, n3, n4⟩ := may_of k
  simp [spT, spL, spB, spR, mayRectB, mayB, inB]
  omega
theorem span_no {a b c d : Int} (h : (mayB a b && mayB c d) = false) : rectEq (spT a b c d) (spL a b c d) (spB a b c d) (spR a b c d) 0 0 0 0 = true := by
  simp [spT, spL, spB, spR, h, rectEq]
theorem span_least {a b c d t l e r x y : Int} (h : mayB a b = true) (k : mayB c d = true) (h1 : inB t l e r a b = true) (h2 : inB t l e r c d = true) (h3 : inB (spT a b c d) (spL a b c d) (spB a b c d) (spR a b c d) x y = true) : inB t l e r x y = true := by
  simp [spT, spL, spB, spR, h, k, inB] at *
  omega

set_option maxHeartbeats 1000000 in
theorem walk_AddrCuts0 (a b m n : Int) (hm : -9223372036854775808 ≤ m ∧ m ≤ 9223372036854775807) (hn : -9223372036854775808 ≤ n ∧ n ≤ 9223372036854775807) (h : cutOk a b m n = true) (w : World) :
    Calls Try.prog 8 #[.agg #[.int .i64 a, .int .i64 b], .int .i64 m, .int .i64 n] w
      fun e w' => e = .returned (.bool true) ∧ Below w.heap.size w w' := by
  obtain ⟨h1, h2, h3, h4⟩ := cut_yes h
  have h5 : rectEq (cuT 1 1 2 3) (cuL 1 1 2 3) (cuB 1 1 2 3) (cuR 1 1 2 3) 1 1 2 3 = true := by decide
  have h6 := rectEq_same (cuT a b m n) (cuL a b m n) (cuB a b m n) (cuR a b m n)
  have hk := Lib.hid (And.intro hm hn)
  clear hm hn
  go_enter Try.func8, Try.ntmps8
  go_wp2_with (go_at_call 20; refine (cut_any _ _ _ _ (by first | exact hk.out.1 | decide) (by first | exact hk.out.2 | decide) _).mono ?_; rintro e wA ⟨rfl, hb⟩; obtain ⟨hc, hf, hz⟩ := bkeep hb (w.heap.size + 1) (by first | omega | (simp <;> omega)); have _hy0 : w.heap.size < wA.heap.size := by omega)
  go_region_held3 (fun w' => w'.cell? ⟨w.heap.size, 0, none⟩ = some (.int .i64 a) ∧ w'.cell? ⟨w.heap.size, 1, none⟩ = some (.int .i64 b) ∧ w'.cell? ⟨wA.heap.size, 0, none⟩ = some (.int .i64 (cuT a b m n)) ∧ w'.cell? ⟨wA.heap.size, 1, none⟩ = some (.int .i64 (cuL a b m n)) ∧ w'.cell? ⟨wA.heap.size, 2, none⟩ = some (.int .i64 (cuB a b m n)) ∧ w'.cell? ⟨wA.heap.size, 3, none⟩ = some (.int .i64 (cuR a b m n)) ∧ Below w.heap.size w w' ∧ wA.heap.size + 1 ≤ w'.heap.size)
    (first | ((go_split_ands; refine ⟨?_, ?_, ?_, ?_, ?_, ?_, ?_, ?_⟩ <;> first | (rw [hb.cell (by dsimp only; omega)]; assumption) | exact Below.trans (by assumption) (hb.mono (by omega)) | (have := hb.size; omega))) | ((refine ⟨?_, ?_, ?_, ?_, ?_, ?_, ?_, ?_⟩ <;> first | (simp [go_sem, *]; done) | ((repeat (first | (with_reducible exact Below.refl _ _) | (with_reducible refine Below.alloc ?_ (by first | omega | (dsimp only; omega) | (simp <;> omega)) _) | (with_reducible refine Below.setCell ?_ (by first | omega | (dsimp only; omega) | (simp <;> omega)) _) | (with_reducible refine Below.drew ?_) | (with_reducible refine below_drewN ?_ _) | (with_reducible refine Below.trans ?_ (Below.mono (by assumption) (by first | omega | (dsimp only; omega) | (simp <;> omega)))))); done) | (simp; omega))))
    (first | (go_at_call 21; refine (rcut_any _ _ _ _ hk.out.1 hk.out.2 _).mono ?_; rintro e w1 ⟨rfl, hb⟩))
  go_split_ands
  go_wp2_with (first | (go_at_call 20; refine (cut_any _ _ _ _ (by first | exact hk.out.1 | decide) (by first | exact hk.out.2 | decide) _).mono ?_; rintro e w1 ⟨rfl, hb⟩; obtain ⟨hc, hf, hz⟩ := bkeep hb (wA.heap.size + 1) (by first | omega | (simp <;> omega))) | (go_at_call 16; refine (mayRect_any _ _ _ _ _).mono ?_; rintro e w1 ⟨rfl, hb⟩; obtain ⟨hc, hf, hz⟩ := bkeep hb (wA.heap.size + 1) (by first | omega | (simp <;> omega))))
  go_wp2
  go_ret
  exact ⟨rfl, by first | assumption | (go_split_ands; first | assumption | ((repeat (first | (with_reducible exact Below.refl _ _) | (with_reducible refine Below.alloc ?_ (by first | omega | (dsimp only; omega) | (simp <;> omega)) _) | (with_reducible refine Below.setCell ?_ (by first | omega | (dsimp only; omega) | (simp <;> omega)) _) | (with_reducible refine Below.drew ?_) | (with_reducible refine below_drewN ?_ _) | (with_reducible refine Below.trans ?_ (Below.mono (by assumption) (by first | omega | (dsimp only; omega) | (simp <;> omega)))))); done))⟩
set_option maxHeartbeats 1000000 in
theorem walk_AddrCuts1 (a b m n : Int) (hm : -9223372036854775808 ≤ m ∧ m ≤ 9223372036854775807) (hn : -9223372036854775808 ≤ n ∧ n ≤ 9223372036854775807) (h : cutOk a b m n = false) (w : World) :
    Calls Try.prog 8 #[.agg #[.int .i64 a, .int .i64 b], .int .i64 m, .int .i64 n] w
      fun e w' => e = .returned (.bool true) ∧ Below w.heap.size w w' := by
  have h1 := cut_no h
  have h5 : rectEq (cuT 1 1 2 3) (cuL 1 1 2 3) (cuB 1 1 2 3) (cuR 1 1 2 3) 1 1 2 3 = true := by decide
  have h6 := rectEq_same (cuT a b m n) (cuL a b m n) (cuB a b m n) (cuR a b m n)
  have hk := Lib.hid (And.intro hm hn)
  clear hm hn
  go_enter Try.func8, Try.ntmps8
  go_wp2_with (go_at_call 20; refine (cut_any _ _ _ _ (by first | exact hk.out.1 | decide) (by first | exact hk.out.2 | decide) _).mono ?_; rintro e wA ⟨rfl, hb⟩; obtain ⟨hc, hf, hz⟩ := bkeep hb (w.heap.size + 1) (by first | omega | (simp <;> omega)); have _hy0 : w.heap.size < wA.heap.size := by omega)
  go_region_held3 (fun w' => w'.cell? ⟨w.heap.size, 0, none⟩ = some (.int .i64 a) ∧ w'.cell? ⟨w.heap.size, 1, none⟩ = some (.int .i64 b) ∧ w'.cell? ⟨wA.heap.size, 0, none⟩ = some (.int .i64 (cuT a b m n)) ∧ w'.cell? ⟨wA.heap.size, 1, none⟩ = some (.int .i64 (cuL a b m n)) ∧ w'.cell? ⟨wA.heap.size, 2, none⟩ = some (.int .i64 (cuB a b m n)) ∧ w'.cell? ⟨wA.heap.size, 3, none⟩ = some (.int .i64 (cuR a b m n)) ∧ Below w.heap.size w w' ∧ wA.heap.size + 1 ≤ w'.heap.size)
    (first | ((go_split_ands; refine ⟨?_, ?_, ?_, ?_, ?_, ?_, ?_, ?_⟩ <;> first | (rw [hb.cell (by dsimp only; omega)]; assumption) | exact Below.trans (by assumption) (hb.mono (by omega)) | (have := hb.size; omega))) | ((refine ⟨?_, ?_, ?_, ?_, ?_, ?_, ?_, ?_⟩ <;> first | (simp [go_sem, *]; done) | ((repeat (first | (with_reducible exact Below.refl _ _) | (with_reducible refine Below.alloc ?_ (by first | omega | (dsimp only; omega) | (simp <;> omega)) _) | (with_reducible refine Below.setCell ?_ (by first | omega | (dsimp only; omega) | (simp <;> omega)) _) | (with_reducible refine Below.drew ?_) | (with_reducible refine below_drewN ?_ _) | (with_reducible refine Below.trans ?_ (Below.mono (by assumption) (by first | omega | (dsimp only; omega) | (simp <;> omega)))))); done) | (simp; omega))))
    (first | (go_at_call 21; refine (rcut_any _ _ _ _ hk.out.1 hk.out.2 _).mono ?_; rintro e w1 ⟨rfl, hb⟩))
  go_split_ands
  go_wp2_with (first | (go_at_call 20; refine (cut_any _ _ _ _ (by first | exact hk.out.1 | decide) (by first | exact hk.out.2 | decide) _).mono ?_; rintro e w1 ⟨rfl, hb⟩; obtain ⟨hc, hf, hz⟩ := bkeep hb (wA.heap.size + 1) (by first | omega | (simp <;> omega))) | (go_at_call 16; refine (mayRect_any _ _ _ _ _).mono ?_; rintro e w1 ⟨rfl, hb⟩; obtain ⟨hc, hf, hz⟩ := bkeep hb (wA.heap.size + 1) (by first | omega | (simp <;> omega))))
  go_wp2
  go_ret
  exact ⟨rfl, by first | assumption | (go_split_ands; first | assumption | ((repeat (first | (with_reducible exact Below.refl _ _) | (with_reducible refine Below.alloc ?_ (by first | omega | (dsimp only; omega) | (simp <;> omega)) _) | (with_reducible refine Below.setCell ?_ (by first | omega | (dsimp only; omega) | (simp <;> omega)) _) | (with_reducible refine Below.drew ?_) | (with_reducible refine below_drewN ?_ _) | (with_reducible refine Below.trans ?_ (Below.mono (by assumption) (by first | omega | (dsimp only; omega) | (simp <;> omega)))))); done))⟩
theorem walk_AddrCuts (a b m n : Int) (hm : -9223372036854775808 ≤ m ∧ m ≤ 9223372036854775807) (hn : -9223372036854775808 ≤ n ∧ n ≤ 9223372036854775807) (w : World) : Calls Try.prog 8 #[.agg #[.int .i64 a, .int .i64 b], .int .i64 m, .int .i64 n] w fun e w' => e = .returned (.bool true) ∧ Below w.heap.size w w' := by
  cases h : cutOk a b m n
  · exact walk_AddrCuts1 a b m n hm hn h w
  · exact walk_AddrCuts0 a b m n hm hn h w
set_option maxHeartbeats 1000000 in
theorem walk_AddrLeast0 (a b c d x y t l e r : Int) (h1 : mayB a b = false) (w : World) :
    Calls Try.prog 7 #[.agg #[.int .i64 a, .int .i64 b, .int .i64 c, .int .i64 d, .int .i64 x, .int .i64 y], .agg #[.int .i64 t, .int .i64 l, .int .i64 e, .int .i64 r]] w
      fun e w' => e = .returned (.bool true) ∧ Below w.heap.size w w' := by
  have h0 : mayB 1 1 = true := by decide
  have h7 := span_no (a := a) (b := b) (c := c) (d := d) (by simp [h1])
  go_enter Try.func7, Try.ntmps7
  go_wp2_with fail
  refine (span_any _ _ _ _ _).mono ?_
  rintro e' wA ⟨rfl, hb⟩
  obtain ⟨hc, hf, hz⟩ := bkeep hb (w.heap.size + 5) (by first | omega | (simp <;> omega))
  have _hy0 : w.heap.size < wA.heap.size := by omega
  have _hy1 : w.heap.size + 1 < wA.heap.size := by omega
  have _hy2 : w.heap.size + 1 + 1 < wA.heap.size := by omega
  have _hy3 : w.heap.size + 1 + 1 + 1 < wA.heap.size := by omega
  have _hy4 : w.heap.size + 1 + 1 + 1 + 1 < wA.heap.size := by omega
  go_wp2_with (first | (go_at_call 14; refine (may_any _ _ _).mono ?_; rintro e w1 ⟨rfl, hb⟩; obtain ⟨hc, hf, hz⟩ := bkeep hb (wA.heap.size + 1) (by first | omega | (simp <;> omega))) | (go_at_call 16; refine (mayRect_any _ _ _ _ _).mono ?_; rintro e w1 ⟨rfl, hb⟩; obtain ⟨hc, hf, hz⟩ := bkeep hb (wA.heap.size + 1) (by first | omega | (simp <;> omega))) | (go_at_call 10; refine (in_any _ _ _ _ _ _ _).mono ?_; rintro e w1 ⟨rfl, hb⟩; obtain ⟨hc, hf, hz⟩ := bkeep hb (wA.heap.size + 1) (by first | omega | (simp <;> omega))))
  go_wp2
  go_ret
  exact ⟨rfl, by first | assumption | (go_split_ands; first | assumption | ((repeat (first | (with_reducible exact Below.refl _ _) | (with_reducible refine Below.alloc ?_ (by first | omega | (dsimp only; omega) | (simp <;> omega)) _) | (with_reducible refine Below.setCell ?_ (by first | omega | (dsimp only; omega) | (simp <;> omega)) _) | (with_reducible refine Below.drew ?_) | (with_reducible refine below_drewN ?_ _) | (with_reducible refine Below.trans ?_ (Below.mono (by assumption) (by first | omega | (dsimp only; omega) | (simp <;> omega)))))); done))⟩
set_option maxHeartbeats 1000000 in
theorem walk_AddrLeast1 (a b c d x y t l e r : Int) (h1 : mayB a b = true) (h2 : mayB c d = false) (w : World) :
    Calls Try.prog 7 #[.agg #[.int .i64 a, .int .i64 b, .int .i64 c, .int .i64 d, .int .i64 x, .int .i64 y], .agg #[.int .i64 t, .int .i64 l, .int .i64 e, .int .i64 r]] w
      fun e w' => e = .returned (.bool true) ∧ Below w.heap.size w w' := by
  have h0 : mayB 1 1 = true := by decide
  have h7 := span_no (a := a) (b := b) (c := c) (d := d) (by simp [h1, h2])
  go_enter Try.func7, Try.ntmps7
  go_wp2_with fail
  refine (span_any _ _ _ _ _).mono ?_
  rintro e' wA ⟨rfl, hb⟩
  obtain ⟨hc, hf, hz⟩ := bkeep hb (w.heap.size + 5) (by first | omega | (simp <;> omega))
  have _hy0 : w.heap.size < wA.heap.size := by omega
  have _hy1 : w.heap.size + 1 < wA.heap.size := by omega
  have _hy2 : w.heap.size + 1 + 1 < wA.heap.size := by omega
  have _hy3 : w.heap.size + 1 + 1 + 1 < wA.heap.size := by omega
  have _hy4 : w.heap.size + 1 + 1 + 1 + 1 < wA.heap.size := by omega
  go_wp2_with (first | (go_at_call 14; refine (may_any _ _ _).mono ?_; rintro e w1 ⟨rfl, hb⟩; obtain ⟨hc, hf, hz⟩ := bkeep hb (wA.heap.size + 1) (by first | omega | (simp <;> omega))) | (go_at_call 16; refine (mayRect_any _ _ _ _ _).mono ?_; rintro e w1 ⟨rfl, hb⟩; obtain ⟨hc, hf, hz⟩ := bkeep hb (wA.heap.size + 1) (by first | omega | (simp <;> omega))) | (go_at_call 10; refine (in_any _ _ _ _ _ _ _).mono ?_; rintro e w1 ⟨rfl, hb⟩; obtain ⟨hc, hf, hz⟩ := bkeep hb (wA.heap.size + 1) (by first | omega | (simp <;> omega))))
  go_wp2
  go_ret
  exact ⟨rfl, by first | assumption | (go_split_ands; first | assumption | ((repeat (first | (with_reducible exact Below.refl _ _) | (with_reducible refine Below.alloc ?_ (by first | omega | (dsimp only; omega) | (simp <;> omega)) _) | (with_reducible refine Below.setCell ?_ (by first | omega | (dsimp only; omega) | (simp <;> omega)) _) | (with_reducible refine Below.drew ?_) | (with_reducible refine below_drewN ?_ _) | (with_reducible refine Below.trans ?_ (Below.mono (by assumption) (by first | omega | (dsimp only; omega) | (simp <;> omega)))))); done))⟩
set_option maxHeartbeats 1000000 in
theorem walk_AddrLeast2 (a b c d x y t l e r : Int) (h1 : mayB a b = true) (h2 : mayB c d = true) (h3 : inB t l e r a b = false) (w : World) :
    Calls Try.prog 7 #[.agg #[.int .i64 a, .int .i64 b, .int .i64 c, .int .i64 d, .int .i64 x, .int .i64 y], .agg #[.int .i64 t, .int .i64 l, .int .i64 e, .int .i64 r]] w
      fun e w' => e = .returned (.bool true) ∧ Below w.heap.size w w' := by
  have h0 : mayB 1 1 = true := by decide
  obtain ⟨g1, g2, g3⟩ := span_yes h1 h2
  go_enter Try.func7, Try.ntmps7
  go_wp2_with fail
  refine (span_any _ _ _ _ _).mono ?_
  rintro e' wA ⟨rfl, hb⟩
  obtain ⟨hc, hf, hz⟩ := bkeep hb (w.heap.size + 5) (by first | omega | (simp <;> omega))
  have _hy0 : w.heap.size < wA.heap.size := by omega
  have _hy1 : w.heap.size + 1 < wA.heap.size := by omega
  have _hy2 : w.heap.size + 1 + 1 < wA.heap.size := by omega
  have _hy3 : w.heap.size + 1 + 1 + 1 < wA.heap.size := by omega
  have _hy4 : w.heap.size + 1 + 1 + 1 + 1 < wA.heap.size := by omega
  go_wp2_with (first | (go_at_call 14; refine (may_any _ _ _).mono ?_; rintro e w1 ⟨rfl, hb⟩; obtain ⟨hc, hf, hz⟩ := bkeep hb (wA.heap.size + 1) (by first | omega | (simp <;> omega))) | (go_at_call 16; refine (mayRect_any _ _ _ _ _).mono ?_; rintro e w1 ⟨rfl, hb⟩; obtain ⟨hc, hf, hz⟩ := bkeep hb (wA.heap.size + 1) (by first | omega | (simp <;> omega))) | (go_at_call 10; refine (in_any _ _ _ _ _ _ _).mono ?_; rintro e w1 ⟨rfl, hb⟩; obtain ⟨hc, hf, hz⟩ := bkeep hb (wA.heap.size + 1) (by first | omega | (simp <;> omega))))
  go_wp2
  go_ret
  exact ⟨rfl, by first | assumption | (go_split_ands; first | assumption | ((repeat (first | (with_reducible exact Below.refl _ _) | (with_reducible refine Below.alloc ?_ (by first | omega | (dsimp only; omega) | (simp <;> omega)) _) | (with_reducible refine Below.setCell ?_ (by first | omega | (dsimp only; omega) | (simp <;> omega)) _) | (with_reducible refine Below.drew ?_) | (with_reducible refine below_drewN ?_ _) | (with_reducible refine Below.trans ?_ (Below.mono (by assumption) (by first | omega | (dsimp only; omega) | (simp <;> omega)))))); done))⟩
set_option maxHeartbeats 1000000 in
theorem walk_AddrLeast3 (a b c d x y t l e r : Int) (h1 : mayB a b = true) (h2 : mayB c d = true) (h3 : inB t l e r a b = true) (h4 : inB t l e r c d = false) (w : World) :
    Calls Try.prog 7 #[.agg #[.int .i64 a, .int .i64 b, .int .i64 c, .int .i64 d, .int .i64 x, .int .i64 y], .agg #[.int .i64 t, .int .i64 l, .int .i64 e, .int .i64 r]] w
      fun e w' => e = .returned (.bool true) ∧ Below w.heap.size w w' := by
  have h0 : mayB 1 1 = true := by decide
  obtain ⟨g1, g2, g3⟩ := span_yes h1 h2
  go_enter Try.func7, Try.ntmps7
  go_wp2_with fail
  refine (span_any _ _ _ _ _).mono ?_
  rintro e' wA ⟨rfl, hb⟩
  obtain ⟨hc, hf, hz⟩ := bkeep hb (w.heap.size + 5) (by first | omega | (simp <;> omega))
  have _hy0 : w.heap.size < wA.heap.size := by omega
  have _hy1 : w.heap.size + 1 < wA.heap.size := by omega
  have _hy2 : w.heap.size + 1 + 1 < wA.heap.size := by omega
  have _hy3 : w.heap.size + 1 + 1 + 1 < wA.heap.size := by omega
  have _hy4 : w.heap.size + 1 + 1 + 1 + 1 < wA.heap.size := by omega
  go_wp2_with (first | (go_at_call 14; refine (may_any _ _ _).mono ?_; rintro e w1 ⟨rfl, hb⟩; obtain ⟨hc, hf, hz⟩ := bkeep hb (wA.heap.size + 1) (by first | omega | (simp <;> omega))) | (go_at_call 16; refine (mayRect_any _ _ _ _ _).mono ?_; rintro e w1 ⟨rfl, hb⟩; obtain ⟨hc, hf, hz⟩ := bkeep hb (wA.heap.size + 1) (by first | omega | (simp <;> omega))) | (go_at_call 10; refine (in_any _ _ _ _ _ _ _).mono ?_; rintro e w1 ⟨rfl, hb⟩; obtain ⟨hc, hf, hz⟩ := bkeep hb (wA.heap.size + 1) (by first | omega | (simp <;> omega))))
  go_wp2
  go_ret
  exact ⟨rfl, by first | assumption | (go_split_ands; first | assumption | ((repeat (first | (with_reducible exact Below.refl _ _) | (with_reducible refine Below.alloc ?_ (by first | omega | (dsimp only; omega) | (simp <;> omega)) _) | (with_reducible refine Below.setCell ?_ (by first | omega | (dsimp only; omega) | (simp <;> omega)) _) | (with_reducible refine Below.drew ?_) | (with_reducible refine below_drewN ?_ _) | (with_reducible refine Below.trans ?_ (Below.mono (by assumption) (by first | omega | (dsimp only; omega) | (simp <;> omega)))))); done))⟩
set_option maxHeartbeats 1000000 in
theorem walk_AddrLeast4 (a b c d x y t l e r : Int) (h1 : mayB a b = true) (h2 : mayB c d = true) (h3 : inB t l e r a b = true) (h4 : inB t l e r c d = true) (h5 : inB (spT a b c d) (spL a b c d) (spB a b c d) (spR a b c d) x y = false) (w : World) :
    Calls Try.prog 7 #[.agg #[.int .i64 a, .int .i64 b, .int .i64 c, .int .i64 d, .int .i64 x, .int .i64 y], .agg #[.int .i64 t, .int .i64 l, .int .i64 e, .int .i64 r]] w
      fun e w' => e = .returned (.bool true) ∧ Below w.heap.size w w' := by
  have h0 : mayB 1 1 = true := by decide
  obtain ⟨g1, g2, g3⟩ := span_yes h1 h2
  go_enter Try.func7, Try.ntmps7
  go_wp2_with fail
  refine (span_any _ _ _ _ _).mono ?_
  rintro e' wA ⟨rfl, hb⟩
  obtain ⟨hc, hf, hz⟩ := bkeep hb (w.heap.size + 5) (by first | omega | (simp <;> omega))
  have _hy0 : w.heap.size < wA.heap.size := by omega
  have _hy1 : w.heap.size + 1 < wA.heap.size := by omega
  have _hy2 : w.heap.size + 1 + 1 < wA.heap.size := by omega
  have _hy3 : w.heap.size + 1 + 1 + 1 < wA.heap.size := by omega
  have _hy4 : w.heap.size + 1 + 1 + 1 + 1 < wA.heap.size := by omega
  go_wp2_with (first | (go_at_call 14; refine (may_any _ _ _).mono ?_; rintro e w1 ⟨rfl, hb⟩; obtain ⟨hc, hf, hz⟩ := bkeep hb (wA.heap.size + 1) (by first | omega | (simp <;> omega))) | (go_at_call 16; refine (mayRect_any _ _ _ _ _).mono ?_; rintro e w1 ⟨rfl, hb⟩; obtain ⟨hc, hf, hz⟩ := bkeep hb (wA.heap.size + 1) (by first | omega | (simp <;> omega))) | (go_at_call 10; refine (in_any _ _ _ _ _ _ _).mono ?_; rintro e w1 ⟨rfl, hb⟩; obtain ⟨hc, hf, hz⟩ := bkeep hb (wA.heap.size + 1) (by first | omega | (simp <;> omega))))
  go_wp2
  go_ret
  exact ⟨rfl, by first | assumption | (go_split_ands; first | assumption | ((repeat (first | (with_reducible exact Below.refl _ _) | (with_reducible refine Below.alloc ?_ (by first | omega | (dsimp only; omega) | (simp <;> omega)) _) | (with_reducible refine Below.setCell ?_ (by first | omega | (dsimp only; omega) | (simp <;> omega)) _) | (with_reducible refine Below.drew ?_) | (with_reducible refine below_drewN ?_ _) | (with_reducible refine Below.trans ?_ (Below.mono (by assumption) (by first | omega | (dsimp only; omega) | (simp <;> omega)))))); done))⟩
set_option maxHeartbeats 1000000 in
theorem walk_AddrLeast5 (a b c d x y t l e r : Int) (h1 : mayB a b = true) (h2 : mayB c d = true) (h3 : inB t l e r a b = true) (h4 : inB t l e r c d = true) (h5 : inB (spT a b c d) (spL a b c d) (spB a b c d) (spR a b c d) x y = true) (w : World) :
    Calls Try.prog 7 #[.agg #[.int .i64 a, .int .i64 b, .int .i64 c, .int .i64 d, .int .i64 x, .int .i64 y], .agg #[.int .i64 t, .int .i64 l, .int .i64 e, .int .i64 r]] w
      fun e w' => e = .returned (.bool true) ∧ Below w.heap.size w w' := by
  have h0 : mayB 1 1 = true := by decide
  obtain ⟨g1, g2, g3⟩ := span_yes h1 h2
  have g4 := span_least h1 h2 h3 h4 h5
  go_enter Try.func7, Try.ntmps7
  go_wp2_with fail
  refine (span_any _ _ _ _ _).mono ?_
  rintro e' wA ⟨rfl, hb⟩
  obtain ⟨hc, hf, hz⟩ := bkeep hb (w.heap.size + 5) (by first | omega | (simp <;> omega))
  have _hy0 : w.heap.size < wA.heap.size := by omega
  have _hy1 : w.heap.size + 1 < wA.heap.size := by omega
  have _hy2 : w.heap.size + 1 + 1 < wA.heap.size := by omega
  have _hy3 : w.heap.size + 1 + 1 + 1 < wA.heap.size := by omega
  have _hy4 : w.heap.size + 1 + 1 + 1 + 1 < wA.heap.size := by omega
  go_wp2_with (first | (go_at_call 14; refine (may_any _ _ _).mono ?_; rintro e w1 ⟨rfl, hb⟩; obtain ⟨hc, hf, hz⟩ := bkeep hb (wA.heap.size + 1) (by first | omega | (simp <;> omega))) | (go_at_call 16; refine (mayRect_any _ _ _ _ _).mono ?_; rintro e w1 ⟨rfl, hb⟩; obtain ⟨hc, hf, hz⟩ := bkeep hb (wA.heap.size + 1) (by first | omega | (simp <;> omega))) | (go_at_call 10; refine (in_any _ _ _ _ _ _ _).mono ?_; rintro e w1 ⟨rfl, hb⟩; obtain ⟨hc, hf, hz⟩ := bkeep hb (wA.heap.size + 1) (by first | omega | (simp <;> omega))))
  go_wp2
  go_ret
  exact ⟨rfl, by first | assumption | (go_split_ands; first | assumption | ((repeat (first | (with_reducible exact Below.refl _ _) | (with_reducible refine Below.alloc ?_ (by first | omega | (dsimp only; omega) | (simp <;> omega)) _) | (with_reducible refine Below.setCell ?_ (by first | omega | (dsimp only; omega) | (simp <;> omega)) _) | (with_reducible refine Below.drew ?_) | (with_reducible refine below_drewN ?_ _) | (with_reducible refine Below.trans ?_ (Below.mono (by assumption) (by first | omega | (dsimp only; omega) | (simp <;> omega)))))); done))⟩
theorem walk_AddrLeast (a b c d x y t l e r : Int) (w : World) : Calls Try.prog 7 #[.agg #[.int .i64 a, .int .i64 b, .int .i64 c, .int .i64 d, .int .i64 x, .int .i64 y], .agg #[.int .i64 t, .int .i64 l, .int .i64 e, .int .i64 r]] w fun e w' => e = .returned (.bool true) ∧ Below w.heap.size w w' := by
  cases h1 : mayB a b
  · exact walk_AddrLeast0 a b c d x y t l e r h1 w
  cases h2 : mayB c d
  · exact walk_AddrLeast1 a b c d x y t l e r h1 h2 w
  cases h3 : inB t l e r a b
  · exact walk_AddrLeast2 a b c d x y t l e r h1 h2 h3 w
  cases h4 : inB t l e r c d
  · exact walk_AddrLeast3 a b c d x y t l e r h1 h2 h3 h4 w
  cases h5 : inB (spT a b c d) (spL a b c d) (spB a b c d) (spR a b c d) x y
  · exact walk_AddrLeast4 a b c d x y t l e r h1 h2 h3 h4 h5 w
  · exact walk_AddrLeast5 a b c d x y t l e r h1 h2 h3 h4 h5 w
end Go.Proofs.Ytakgdihocejmiaa
