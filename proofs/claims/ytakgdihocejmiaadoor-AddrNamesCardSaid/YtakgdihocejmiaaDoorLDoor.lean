/-
  The laws' own walks: AddrNames, AddrBack, AddrOne.
-/
import Derived.Test.YtakgdihocejmiaaDoorBack
import Derived.Test.YtakgdihocejmiaaDoorEq
import Derived.WalkSpells
import Derived.WalkLawsBesides
import Derived.StillTactics
import Derived.Laws.Pointers
import Derived.Deep.RegionHeld3
import Derived.Deep.QuietTactic
import Derived.BigQuiet
import Derived.RowKit3
import Derived.Lib.Hide
import Derived.Lib.OthersKept
import Derived.OwnWalk
import Derived.Lib.IndexLaws
namespace Go.Proofs.YtakgdihocejmiaaDoor
open Go.RowKit

set_option maxHeartbeats 1000000 in
theorem walk_AddrNames (r c t l b e' : Int) (w : World) (ht : Tab w) : Calls Tryd.prog 3 #[.agg #[.int .i64 r, .int .i64 c], .agg #[.int .i64 t, .int .i64 l, .int .i64 b, .int .i64 (e')]] w fun e w' => e = .returned (.bool true) ∧ Below w.heap.size w w' := by
  have h1 : (nameZ 7 28 == [65, 66, 55]) = true := by rw [name_ab7]; rfl
  go_enter Tryd.func3, Tryd.ntmps3
  go_wp2
  go_region_held3 (fun w' => w'.cell? ⟨w.heap.size, 0, none⟩ = some (.int .i64 r) ∧ w'.cell? ⟨w.heap.size, 1, none⟩ = some (.int .i64 c) ∧ w'.cell? ⟨w.heap.size + 1, 0, none⟩ = some (.int .i64 t) ∧ w'.cell? ⟨w.heap.size + 1, 1, none⟩ = some (.int .i64 l) ∧ w'.cell? ⟨w.heap.size + 1, 2, none⟩ = some (.int .i64 b) ∧ w'.cell? ⟨w.heap.size + 1, 3, none⟩ = some (.int .i64 e') ∧ Tab w' ∧ Below w.heap.size w w' ∧ w.heap.size + 2 ≤ w'.heap.size)
    (first | ((go_split_ands; refine ⟨?_, ?_, ?_, ?_, ?_, ?_, ?_, ?_, ?_⟩ <;> first | (rw [hb.cell (by dsimp only; omega)]; assumption) | exact Below.trans (by assumption) (hb.mono (by omega)) | exact Tab.below (by assumption) hb | (have := hb.size; omega))) | ((refine ⟨?_, ?_, ?_, ?_, ?_, ?_, ?_, ?_, ?_⟩ <;> first | (simp [go_sem, *]; done) | ((repeat (first | (with_reducible exact Below.refl _ _) | (with_reducible refine Below.alloc ?_ (by first | omega | (dsimp only; omega) | (simp <;> omega)) _) | (with_reducible refine Below.setCell ?_ (by first | omega | (dsimp only; omega) | (simp <;> omega)) _) | (with_reducible refine Below.drew ?_) | (with_reducible refine below_drewN ?_ _) | (with_reducible refine Below.trans ?_ (Below.mono (by assumption) (by first | omega | (dsimp only; omega) | (simp <;> omega)))))); done) | exact Tab.below (by assumption) (by (repeat (first | (with_reducible exact Below.refl _ _) | (with_reducible refine Below.alloc ?_ (by first | omega | (dsimp only; omega) | (simp <;> omega)) _) | (with_reducible refine Below.setCell ?_ (by first | omega | (dsimp only; omega) | (simp <;> omega)) _) | (with_reducible refine Below.drew ?_) | (with_reducible refine below_drewN ?_ _) | (with_reducible refine Below.trans ?_ (Below.mono (by assumption) (by first | omega | (dsimp only; omega) | (simp <;> omega))))))) | (simp; omega))))
    (first | (go_at_call 6; refine (name_any _ _ _ (by first | assumption | (go_split_ands; assumption))).mono ?_; rintro e w1 ⟨rfl, hb⟩) | (go_at_call 7; refine (rname_any _ _ _).mono ?_; rintro e w1 ⟨rfl, hb⟩) | (go_at_call 8; refine (nameR_any _ _ _ _ _ (by first | assumption | (go_split_ands; assumption))).mono ?_; rintro e w1 ⟨rfl, hb⟩) | (go_at_call 9; refine (rnameR_any _ _ _ _ _).mono ?_; rintro e w1 ⟨rfl, hb⟩))
  go_split_ands
  go_wp2
  go_ret
  exact ⟨rfl, by first | assumption | (go_split_ands; first | assumption | ((repeat (first | (with_reducible exact Below.refl _ _) | (with_reducible refine Below.alloc ?_ (by first | omega | (dsimp only; omega) | (simp <;> omega)) _) | (with_reducible refine Below.setCell ?_ (by first | omega | (dsimp only; omega) | (simp <;> omega)) _) | (with_reducible refine Below.drew ?_) | (with_reducible refine below_drewN ?_ _) | (with_reducible refine Below.trans ?_ (Below.mono (by assumption) (by first | omega | (dsimp only; omega) | (simp <;> omega)))))); done))⟩

set_option maxHeartbeats 2000000 in
theorem walk_AddrBack0 (r c t l b e' : Int) (h1 : mayB r c = true) (h2 : mayRectB t l b e' = true) (w : World) (ht : Tab w) : Calls Tryd.prog 4 #[.agg #[.int .i64 r, .int .i64 c], .agg #[.int .i64 t, .int .i64 l, .int .i64 b, .int .i64 (e')]] w fun e w' => e = .returned (.bool true) ∧ Below w.heap.size w w' := by
  have k0 : mayB 4096 256 = true := by decide
  obtain ⟨g1, g2, g3⟩ := back_yes h1
  have g4 := cellEq_same r c
  have q := backR_yes h2
  have q1 : qOk (nameRectZ t l b e') = true := by simp [qOk, q]
  have q2 : qT (nameRectZ t l b e') = t := by simp [qT, q]
  have q3 : qL (nameRectZ t l b e') = l := by simp [qL, q]
  have q4 : qB (nameRectZ t l b e') = b := by simp [qB, q]
  have q5 : qR (nameRectZ t l b e') = e' := by simp [qR, q]
  have q6 := rectEq_same t l b e'
  clear q
  have m1 : (nameZ r c).length ≤ 9223372036854775807 := by have := nameZ_len r c; omega
  have m2 : (nameRectZ t l b e').length ≤ 9223372036854775807 := by have := nameRectZ_len t l b e'; omega
  go_enter Tryd.func4, Tryd.ntmps4
  go_wp2_with fail
  refine (name_any _ _ _ (Tab.below ht (by (repeat (first | (with_reducible exact Below.refl _ _) | (with_reducible refine Below.alloc ?_ (by first | omega | (dsimp only; omega) | (simp <;> omega)) _) | (with_reducible refine Below.setCell ?_ (by first | omega | (dsimp only; omega) | (simp <;> omega)) _) | (with_reducible refine Below.drew ?_) | (with_reducible refine below_drewN ?_ _) | (with_reducible refine Below.trans ?_ (Below.mono (by assumption) (by first | omega | (dsimp only; omega) | (simp <;> omega))))))))).mono ?_
  rintro e w1 ⟨rfl, hb⟩
  obtain ⟨hc_w1, hf_w1, hz_w1⟩ := bkeep hb (w.heap.size + 2) (by first | omega | (simp <;> omega))
  go_wp2_with fail
  refine (pcall _ m1 _).mono ?_
  rintro e w2 ⟨rfl, hb⟩
  obtain ⟨hc_w2, hf_w2, hz_w2⟩ := bkeep hb (w.heap.size + 2) (by first | omega | (simp <;> omega))
  have y0_w2 : w.heap.size < w2.heap.size := by omega
  have y1_w2 : w.heap.size + 1 < w2.heap.size := by omega
  have y2_w2 : w.heap.size < w2.heap.size + 1 := by omega
  have y3_w2 : w.heap.size + 1 < w2.heap.size + 1 := by omega
  go_wp2_with fail
  refine (may_any _ _ _).mono ?_
  rintro e w3 ⟨rfl, hb⟩
  obtain ⟨hc_w3, hf_w3, hz_w3⟩ := bkeep hb (w2.heap.size + 1) (by first | omega | (simp <;> omega))
  go_wp2_with fail
  refine (nameR_any _ _ _ _ _ (Tab.below ht (by (repeat (first | (with_reducible exact Below.refl _ _) | (with_reducible refine Below.alloc ?_ (by first | omega | (dsimp only; omega) | (simp <;> omega)) _) | (with_reducible refine Below.setCell ?_ (by first | omega | (dsimp only; omega) | (simp <;> omega)) _) | (with_reducible refine Below.drew ?_) | (with_reducible refine below_drewN ?_ _) | (with_reducible refine Below.trans ?_ (Below.mono (by assumption) (by first | omega | (dsimp only; omega) | (simp <;> omega))))))))).mono ?_
  rintro e w4 ⟨rfl, hb⟩
  obtain ⟨hc_w4, hf_w4, hz_w4⟩ := bkeep hb (w2.heap.size + 1) (by first | omega | (simp <;> omega))
  go_wp2_with fail
  refine (prect_any _ m2 _).mono ?_
  rintro e w5 ⟨rfl, hb⟩
  obtain ⟨hc_w5, hf_w5, hz_w5⟩ := bkeep hb (w2.heap.size + 1) (by first | omega | (simp <;> omega))
  have y0_w5 : w.heap.size < w5.heap.size := by omega
  have y1_w5 : w.heap.size + 1 < w5.heap.size := by omega
  have y2_w5 : w2.heap.size < w5.heap.size := by omega
  have y3_w5 : w.heap.size < w5.heap.size + 1 := by omega
  have y4_w5 : w.heap.size + 1 < w5.heap.size + 1 := by omega
  have y5_w5 : w2.heap.size < w5.heap.size + 1 := by omega
  go_wp2_with fail
  refine (mayRect_any _ _ _ _ _).mono ?_
  rintro e w6 ⟨rfl, hb⟩
  obtain ⟨hc_w6, hf_w6, hz_w6⟩ := bkeep hb (w5.heap.size + 1) (by first | omega | (simp <;> omega))
  go_wp2_with fail
  refine (may_any _ _ _).mono ?_
  rintro e w7 ⟨rfl, hb⟩
  obtain ⟨hc_w7, hf_w7, hz_w7⟩ := bkeep hb (w5.heap.size + 1) (by first | omega | (simp <;> omega))
  go_wp2
  go_ret
  exact ⟨rfl, by first | assumption | (go_split_ands; first | assumption | ((repeat (first | (with_reducible exact Below.refl _ _) | (with_reducible refine Below.alloc ?_ (by first | omega | (dsimp only; omega) | (simp <;> omega)) _) | (with_reducible refine Below.setCell ?_ (by first | omega | (dsimp only; omega) | (simp <;> omega)) _) | (with_reducible refine Below.drew ?_) | (with_reducible refine below_drewN ?_ _) | (with_reducible refine Below.trans ?_ (Below.mono (by assumption) (by first | omega | (dsimp only; omega) | (simp <;> omega)))))); done))⟩
set_option maxHeartbeats 2000000 in
theorem walk_AddrBack1 (r c t l b e' : Int) (h1 : mayB r c = true) (h2 : mayRectB t l b e' = false) (w : World) (ht : Tab w) : Calls Tryd.prog 4 #[.agg #[.int .i64 r, .int .i64 c], .agg #[.int .i64 t, .int .i64 l, .int .i64 b, .int .i64 (e')]] w fun e w' => e = .returned (.bool true) ∧ Below w.heap.size w w' := by
  have k0 : mayB 4096 256 = true := by decide
  obtain ⟨g1, g2, g3⟩ := back_yes h1
  have g4 := cellEq_same r c
  have q := backR_no h2
  have q1 : qOk (nameRectZ t l b e') = false := by simp [qOk, q]
  clear q
  have m1 : (nameZ r c).length ≤ 9223372036854775807 := by have := nameZ_len r c; omega
  have m2 : (nameRectZ t l b e').length ≤ 9223372036854775807 := by have := nameRectZ_len t l b e'; omega
  go_enter Tryd.func4, Tryd.ntmps4
  go_wp2_with fail
  refine (name_any _ _ _ (Tab.below ht (by (repeat (first | (with_reducible exact Below.refl _ _) | (with_reducible refine Below.alloc ?_ (by first | omega | (dsimp only; omega) | (simp <;> omega)) _) | (with_reducible refine Below.setCell ?_ (by first | omega | (dsimp only; omega) | (simp <;> omega)) _) | (with_reducible refine Below.drew ?_) | (with_reducible refine below_drewN ?_ _) | (with_reducible refine Below.trans ?_ (Below.mono (by assumption) (by first | omega | (dsimp only; omega) | (simp <;> omega))))))))).mono ?_
  rintro e w1 ⟨rfl, hb⟩
  obtain ⟨hc_w1, hf_w1, hz_w1⟩ := bkeep hb (w.heap.size + 2) (by first | omega | (simp <;> omega))
  go_wp2_with fail
  refine (pcall _ m1 _).mono ?_
  rintro e w2 ⟨rfl, hb⟩
  obtain ⟨hc_w2, hf_w2, hz_w2⟩ := bkeep hb (w.heap.size + 2) (by first | omega | (simp <;> omega))
  have y0_w2 : w.heap.size < w2.heap.size := by omega
  have y1_w2 : w.heap.size + 1 < w2.heap.size := by omega
  have y2_w2 : w.heap.size < w2.heap.size + 1 := by omega
  have y3_w2 : w.heap.size + 1 < w2.heap.size + 1 := by omega
  go_wp2_with fail
  refine (may_any _ _ _).mono ?_
  rintro e w3 ⟨rfl, hb⟩
  obtain ⟨hc_w3, hf_w3, hz_w3⟩ := bkeep hb (w2.heap.size + 1) (by first | omega | (simp <;> omega))
  go_wp2_with fail
  refine (nameR_any _ _ _ _ _ (Tab.below ht (by (repeat (first | (with_reducible exact Below.refl _ _) | (with_reducible refine Below.alloc ?_ (by first | omega | (dsimp only; omega) | (simp <;> omega)) _) | (with_reducible refine Below.setCell ?_ (by first | omega | (dsimp only; omega) | (simp <;> omega)) _) | (with_reducible refine Below.drew ?_) | (with_reducible refine below_drewN ?_ _) | (with_reducible refine Below.trans ?_ (Below.mono (by assumption) (by first | omega | (dsimp only; omega) | (simp <;> omega))))))))).mono ?_
  rintro e w4 ⟨rfl, hb⟩
  obtain ⟨hc_w4, hf_w4, hz_w4⟩ := bkeep hb (w2.heap.size + 1) (by first | omega | (simp <;> omega))
  go_wp2_with fail
  refine (prect_any _ m2 _).mono ?_
  rintro e w5 ⟨rfl, hb⟩
  obtain ⟨hc_w5, hf_w5, hz_w5⟩ := bkeep hb (w2.heap.size + 1) (by first | omega | (simp <;> omega))
  have y0_w5 : w.heap.size < w5.heap.size := by omega
  have y1_w5 : w.heap.size + 1 < w5.heap.size := by omega
  have y2_w5 : w2.heap.size < w5.heap.size := by omega
  have y3_w5 : w.heap.size < w5.heap.size + 1 := by omega
  have y4_w5 : w.heap.size + 1 < w5.heap.size + 1 := by omega
  have y5_w5 : w2.heap.size < w5.heap.size + 1 := by omega
  go_wp2_with fail
  refine (mayRect_any _ _ _ _ _).mono ?_
  rintro e w6 ⟨rfl, hb⟩
  obtain ⟨hc_w6, hf_w6, hz_w6⟩ := bkeep hb (w5.heap.size + 1) (by first | omega | (simp <;> omega))
  go_wp2_with fail
  refine (may_any _ _ _).mono ?_
  rintro e w7 ⟨rfl, hb⟩
  obtain ⟨hc_w7, hf_w7, hz_w7⟩ := bkeep hb (w5.heap.size + 1) (by first | omega | (simp <;> omega))
  go_wp2
  go_ret
  exact ⟨rfl, by first | assumption | (go_split_ands; first | assumption | ((repeat (first | (with_reducible exact Below.refl _ _) | (with_reducible refine Below.alloc ?_ (by first | omega | (dsimp only; omega) | (simp <;> omega)) _) | (with_reducible refine Below.setCell ?_ (by first | omega | (dsimp only; omega) | (simp <;> omega)) _) | (with_reducible refine Below.drew ?_) | (with_reducible refine below_drewN ?_ _) | (with_reducible refine Below.trans ?_ (Below.mono (by assumption) (by first | omega | (dsimp only; omega) | (simp <;> omega)))))); done))⟩
set_option maxHeartbeats 2000000 in
theorem walk_AddrBack2 (r c t l b e' : Int) (h1 : mayB r c = false) (h2 : mayRectB t l b e' = true) (w : World) (ht : Tab w) : Calls Tryd.prog 4 #[.agg #[.int .i64 r, .int .i64 c], .agg #[.int .i64 t, .int .i64 l, .int .i64 b, .int .i64 (e')]] w fun e w' => e = .returned (.bool true) ∧ Below w.heap.size w w' := by
  have k0 : mayB 4096 256 = true := by decide
  have g1 := back_no h1
  have q := backR_yes h2
  have q1 : qOk (nameRectZ t l b e') = true := by simp [qOk, q]
  have q2 : qT (nameRectZ t l b e') = t := by simp [qT, q]
  have q3 : qL (nameRectZ t l b e') = l := by simp [qL, q]
  have q4 : qB (nameRectZ t l b e') = b := by simp [qB, q]
  have q5 : qR (nameRectZ t l b e') = e' := by simp [qR, q]
  have q6 := rectEq_same t l b e'
  clear q
  have m1 : (nameZ r c).length ≤ 9223372036854775807 := by have := nameZ_len r c; omega
  have m2 : (nameRectZ t l b e').length ≤ 9223372036854775807 := by have := nameRectZ_len t l b e'; omega
  go_enter Tryd.func4, Tryd.ntmps4
  go_wp2_with fail
  refine (name_any _ _ _ (Tab.below ht (by (repeat (first | (with_reducible exact Below.refl _ _) | (with_reducible refine Below.alloc ?_ (by first | omega | (dsimp only; omega) | (simp <;> omega)) _) | (with_reducible refine Below.setCell ?_ (by first | omega | (dsimp only; omega) | (simp <;> omega)) _) | (with_reducible refine Below.drew ?_) | (with_reducible refine below_drewN ?_ _) | (with_reducible refine Below.trans ?_ (Below.mono (by assumption) (by first | omega | (dsimp only; omega) | (simp <;> omega))))))))).mono ?_
  rintro e w1 ⟨rfl, hb⟩
  obtain ⟨hc_w1, hf_w1, hz_w1⟩ := bkeep hb (w.heap.size + 2) (by first | omega | (simp <;> omega))
  go_wp2_with fail
  refine (pcall _ m1 _).mono ?_
  rintro e w2 ⟨rfl, hb⟩
  obtain ⟨hc_w2, hf_w2, hz_w2⟩ := bkeep hb (w.heap.size + 2) (by first | omega | (simp <;> omega))
  have y0_w2 : w.heap.size < w2.heap.size := by omega
  have y1_w2 : w.heap.size + 1 < w2.heap.size := by omega
  have y2_w2 : w.heap.size < w2.heap.size + 1 := by omega
  have y3_w2 : w.heap.size + 1 < w2.heap.size + 1 := by omega
  go_wp2_with fail
  refine (may_any _ _ _).mono ?_
  rintro e w3 ⟨rfl, hb⟩
  obtain ⟨hc_w3, hf_w3, hz_w3⟩ := bkeep hb (w2.heap.size + 1) (by first | omega | (simp <;> omega))
  go_wp2_with fail
  refine (nameR_any _ _ _ _ _ (Tab.below ht (by (repeat (first | (with_reducible exact Below.refl _ _) | (with_reducible refine Below.alloc ?_ (by first | omega | (dsimp only; omega) | (simp <;> omega)) _) | (with_reducible refine Below.setCell ?_ (by first | omega | (dsimp only; omega) | (simp <;> omega)) _) | (with_reducible refine Below.drew ?_) | (with_reducible refine below_drewN ?_ _) | (with_reducible refine Below.trans ?_ (Below.mono (by assumption) (by first | omega | (dsimp only; omega) | (simp <;> omega))))))))).mono ?_
  rintro e w4 ⟨rfl, hb⟩
  obtain ⟨hc_w4, hf_w4, hz_w4⟩ := bkeep hb (w2.heap.size + 1) (by first | omega | (simp <;> omega))
  go_wp2_with fail
  refine (prect_any _ m2 _).mono ?_
  rintro e w5 ⟨rfl, hb⟩
  obtain ⟨hc_w5, hf_w5, hz_w5⟩ := bkeep hb (w2.heap.size + 1) (by first | omega | (simp <;> omega))
  have y0_w5 : w.heap.size < w5.heap.size := by omega
  have y1_w5 : w.heap.size + 1 < w5.heap.size := by omega
  have y2_w5 : w2.heap.size < w5.heap.size := by omega
  have y3_w5 : w.heap.size < w5.heap.size + 1 := by omega
  have y4_w5 : w.heap.size + 1 < w5.heap.size + 1 := by omega
  have y5_w5 : w2.heap.size < w5.heap.size + 1 := by omega
  go_wp2_with fail
  refine (mayRect_any _ _ _ _ _).mono ?_
  rintro e w6 ⟨rfl, hb⟩
  obtain ⟨hc_w6, hf_w6, hz_w6⟩ := bkeep hb (w5.heap.size + 1) (by first | omega | (simp <;> omega))
  go_wp2_with fail
  refine (may_any _ _ _).mono ?_
  rintro e w7 ⟨rfl, hb⟩
  obtain ⟨hc_w7, hf_w7, hz_w7⟩ := bkeep hb (w5.heap.size + 1) (by first | omega | (simp <;> omega))
  go_wp2
  go_ret
  exact ⟨rfl, by first | assumption | (go_split_ands; first | assumption | ((repeat (first | (with_reducible exact Below.refl _ _) | (with_reducible refine Below.alloc ?_ (by first | omega | (dsimp only; omega) | (simp <;> omega)) _) | (with_reducible refine Below.setCell ?_ (by first | omega | (dsimp only; omega) | (simp <;> omega)) _) | (with_reducible refine Below.drew ?_) | (with_reducible refine below_drewN ?_ _) | (with_reducible refine Below.trans ?_ (Below.mono (by assumption) (by first | omega | (dsimp only; omega) | (simp <;> omega)))))); done))⟩
set_option maxHeartbeats 2000000 in
theorem walk_AddrBack3 (r c t l b e' : Int) (h1 : mayB r c = false) (h2 : mayRectB t l b e' = false) (w : World) (ht : Tab w) : Calls Tryd.prog 4 #[.agg #[.int .i64 r, .int .i64 c], .agg #[.int .i64 t, .int .i64 l, .int .i64 b, .int .i64 (e')]] w fun e w' => e = .returned (.bool true) ∧ Below w.heap.size w w' := by
  have k0 : mayB 4096 256 = true := by decide
  have g1 := back_no h1
  have q := backR_no h2
  have q1 : qOk (nameRectZ t l b e') = false := by simp [qOk, q]
  clear q
  have m1 : (nameZ r c).length ≤ 9223372036854775807 := by have := nameZ_len r c; omega
  have m2 : (nameRectZ t l b e').length ≤ 9223372036854775807 := by have := nameRectZ_len t l b e'; omega
  go_enter Tryd.func4, Tryd.ntmps4
  go_wp2_with fail
  refine (name_any _ _ _ (Tab.below ht (by (repeat (first | (with_reducible exact Below.refl _ _) | (with_reducible refine Below.alloc ?_ (by first | omega | (dsimp only; omega) | (simp <;> omega)) _) | (with_reducible refine Below.setCell ?_ (by first | omega | (dsimp only; omega) | (simp <;> omega)) _) | (with_reducible refine Below.drew ?_) | (with_reducible refine below_drewN ?_ _) | (with_reducible refine Below.trans ?_ (Below.mono (by assumption) (by first | omega | (dsimp only; omega) | (simp <;> omega))))))))).mono ?_
  rintro e w1 ⟨rfl, hb⟩
  obtain ⟨hc_w1, hf_w1, hz_w1⟩ := bkeep hb (w.heap.size + 2) (by first | omega | (simp <;> omega))
  go_wp2_with fail
  refine (pcall _ m1 _).mono ?_
  rintro e w2 ⟨rfl, hb⟩
  obtain ⟨hc_w2, hf_w2, hz_w2⟩ := bkeep hb (w.heap.size + 2) (by first | omega | (simp <;> omega))
  have y0_w2 : w.heap.size < w2.heap.size := by omega
  have y1_w2 : w.heap.size + 1 < w2.heap.size := by omega
  have y2_w2 : w.heap.size < w2.heap.size + 1 := by omega
  have y3_w2 : w.heap.size + 1 < w2.heap.size + 1 := by omega
  go_wp2_with fail
  refine (may_any _ _ _).mono ?_
  rintro e w3 ⟨rfl, hb⟩
  obtain ⟨hc_w3, hf_w3, hz_w3⟩ := bkeep hb (w2.heap.size + 1) (by first | omega | (simp <;> omega))
  go_wp2_with fail
  refine (nameR_any _ _ _ _ _ (Tab.below ht (by (repeat (first | (with_reducible exact Below.refl _ _) | (with_reducible refine Below.alloc ?_ (by first | omega | (dsimp only; omega) | (simp <;> omega)) _) | (with_reducible refine Below.setCell ?_ (by first | omega | (dsimp only; omega) | (simp <;> omega)) _) | (with_reducible refine Below.drew ?_) | (with_reducible refine below_drewN ?_ _) | (with_reducible refine Below.trans ?_ (Below.mono (by assumption) (by first | omega | (dsimp only; omega) | (simp <;> omega))))))))).mono ?_
  rintro e w4 ⟨rfl, hb⟩
  obtain ⟨hc_w4, hf_w4, hz_w4⟩ := bkeep hb (w2.heap.size + 1) (by first | omega | (simp <;> omega))
  go_wp2_with fail
  refine (prect_any _ m2 _).mono ?_
  rintro e w5 ⟨rfl, hb⟩
  obtain ⟨hc_w5, hf_w5, hz_w5⟩ := bkeep hb (w2.heap.size + 1) (by first | omega | (simp <;> omega))
  have y0_w5 : w.heap.size < w5.heap.size := by omega
  have y1_w5 : w.heap.size + 1 < w5.heap.size := by omega
  have y2_w5 : w2.heap.size < w5.heap.size := by omega
  have y3_w5 : w.heap.size < w5.heap.size + 1 := by omega
  have y4_w5 : w.heap.size + 1 < w5.heap.size + 1 := by omega
  have y5_w5 : w2.heap.size < w5.heap.size + 1 := by omega
  go_wp2_with fail
  refine (mayRect_any _ _ _ _ _).mono ?_
  rintro e w6 ⟨rfl, hb⟩
  obtain ⟨hc_w6, hf_w6, hz_w6⟩ := bkeep hb (w5.heap.size + 1) (by first | omega | (simp <;> omega))
  go_wp2_with fail
  refine (may_any _ _ _).mono ?_
  rintro e w7 ⟨rfl, hb⟩
  obtain ⟨hc_w7, hf_w7, hz_w7⟩ := bkeep hb (w5.heap.size + 1) (by first | omega | (simp <;> omega))
  go_wp2
  go_ret
  exact ⟨rfl, by first | assumption | (go_split_ands; first | assumption | ((repeat (first | (with_reducible exact Below.refl _ _) | (with_reducible refine Below.alloc ?_ (by first | omega | (dsimp only; omega) | (simp <;> omega)) _) | (with_reducible refine Below.setCell ?_ (by first | omega | (dsimp only; omega) | (simp <;> omega)) _) | (with_reducible refine Below.drew ?_) | (with_reducible refine below_drewN ?_ _) | (with_reducible refine Below.trans ?_ (Below.mono (by assumption) (by first | omega | (dsimp only; omega) | (simp <;> omega)))))); done))⟩
theorem walk_AddrBack (r c t l b e' : Int) (w : World) (ht : Tab w) : Calls Tryd.prog 4 #[.agg #[.int .i64 r, .int .i64 c], .agg #[.int .i64 t, .int .i64 l, .int .i64 b, .int .i64 (e')]] w fun e w' => e = .returned (.bool true) ∧ Below w.heap.size w w' := by
  cases h1 : mayB r c <;> cases h2 : mayRectB t l b e'
  · exact walk_AddrBack3 r c t l b e' h1 h2 w ht
  · exact walk_AddrBack2 r c t l b e' h1 h2 w ht
  · exact walk_AddrBack1 r c t l b e' h1 h2 w ht
  · exact walk_AddrBack0 r c t l b e' h1 h2 w ht
set_option maxHeartbeats 2000000 in
theorem walk_AddrOne0 (l : List UInt8) (hm : l.length ≤ 9223372036854775807) (h1 : pOk l = true) (h2 : qOk l = true) (w : World) (ht : Tab w) : Calls Tryd.prog 5 #[.string ⟨l.toArray⟩] w fun e w' => e = .returned (.bool true) ∧ Below w.heap.size w w' := by
  have k0 : qOk [65, 49, 58, 73, 86, 52, 48, 57, 54] = true := by decide
  obtain ⟨g1, g2⟩ := one_cell h1
  have g3 : (nameZ (pRow l) (pCol l) == l) = true := by rw [g1]; simp
  clear g1
  obtain ⟨q1, q2⟩ := one_rect h2
  have q3 : (nameRectZ (qT l) (qL l) (qB l) (qR l) == l) = true := by rw [q1]; simp
  clear q1
  go_enter Tryd.func5, Tryd.ntmps5
  go_wp2_with fail
  refine (pcall l hm _).mono ?_
  rintro e w1 ⟨rfl, hb⟩
  obtain ⟨hc_w1, hf_w1, hz_w1⟩ := bkeep hb (w.heap.size) (by first | omega | (simp <;> omega))
  go_wp2_with fail
  refine (name_any _ _ _ (Tab.below ht (by (repeat (first | (with_reducible exact Below.refl _ _) | (with_reducible refine Below.alloc ?_ (by first | omega | (dsimp only; omega) | (simp <;> omega)) _) | (with_reducible refine Below.setCell ?_ (by first | omega | (dsimp only; omega) | (simp <;> omega)) _) | (with_reducible refine Below.drew ?_) | (with_reducible refine below_drewN ?_ _) | (with_reducible refine Below.trans ?_ (Below.mono (by assumption) (by first | omega | (dsimp only; omega) | (simp <;> omega))))))))).mono ?_
  rintro e w2 ⟨rfl, hb⟩
  obtain ⟨hc_w2, hf_w2, hz_w2⟩ := bkeep hb (w1.heap.size + 1) (by first | omega | (simp <;> omega))
  go_wp2_with fail
  refine (may_any _ _ _).mono ?_
  rintro e w3 ⟨rfl, hb⟩
  obtain ⟨hc_w3, hf_w3, hz_w3⟩ := bkeep hb (w1.heap.size + 1) (by first | omega | (simp <;> omega))
  go_wp2_with fail
  refine (prect_any l hm _).mono ?_
  rintro e w4 ⟨rfl, hb⟩
  obtain ⟨hc_w4, hf_w4, hz_w4⟩ := bkeep hb (w1.heap.size + 1) (by first | omega | (simp <;> omega))
  go_wp2_with fail
  refine (nameR_any _ _ _ _ _ (Tab.below ht (by (repeat (first | (with_reducible exact Below.refl _ _) | (with_reducible refine Below.alloc ?_ (by first | omega | (dsimp only; omega) | (simp <;> omega)) _) | (with_reducible refine Below.setCell ?_ (by first | omega | (dsimp only; omega) | (simp <;> omega)) _) | (with_reducible refine Below.drew ?_) | (with_reducible refine below_drewN ?_ _) | (with_reducible refine Below.trans ?_ (Below.mono (by assumption) (by first | omega | (dsimp only; omega) | (simp <;> omega))))))))).mono ?_
  rintro e w5 ⟨rfl, hb⟩
  obtain ⟨hc_w5, hf_w5, hz_w5⟩ := bkeep hb (w4.heap.size + 1) (by first | omega | (simp <;> omega))
  go_wp2_with fail
  refine (mayRect_any _ _ _ _ _).mono ?_
  rintro e w6 ⟨rfl, hb⟩
  obtain ⟨hc_w6, hf_w6, hz_w6⟩ := bkeep hb (w4.heap.size + 1) (by first | omega | (simp <;> omega))
  go_wp2_with fail
  refine (prect_any [65, 49, 58, 73, 86, 52, 48, 57, 54] (by decide) _).mono ?_
  rintro e w7 ⟨rfl, hb⟩
  obtain ⟨hc_w7, hf_w7, hz_w7⟩ := bkeep hb (w4.heap.size + 1) (by first | omega | (simp <;> omega))
  go_wp2
  go_ret
  exact ⟨rfl, by first | assumption | (go_split_ands; first | assumption | ((repeat (first | (with_reducible exact Below.refl _ _) | (with_reducible refine Below.alloc ?_ (by first | omega | (dsimp only; omega) | (simp <;> omega)) _) | (with_reducible refine Below.setCell ?_ (by first | omega | (dsimp only; omega) | (simp <;> omega)) _) | (with_reducible refine Below.drew ?_) | (with_reducible refine below_drewN ?_ _) | (with_reducible refine Below.trans ?_ (Below.mono (by assumption) (by first | omega | (dsimp only; omega) | (simp <;> omega)))))); done))⟩
set_option maxHeartbeats 2000000 in
theorem walk_AddrOne1 (l : List UInt8) (hm : l.length ≤ 9223372036854775807) (h1 : pOk l = true) (h2 : qOk l = false) (w : World) (ht : Tab w) : Calls Tryd.prog 5 #[.string ⟨l.toArray⟩] w fun e w' => e = .returned (.bool true) ∧ Below w.heap.size w w' := by
  have k0 : qOk [65, 49, 58, 73, 86, 52, 48, 57, 54] = true := by decide
  obtain ⟨g1, g2⟩ := one_cell h1
  have g3 : (nameZ (pRow l) (pCol l) == l) = true := by rw [g1]; simp
  clear g1
  go_enter Tryd.func5, Tryd.ntmps5
  go_wp2_with fail
  refine (pcall l hm _).mono ?_
  rintro e w1 ⟨rfl, hb⟩
  obtain ⟨hc_w1, hf_w1, hz_w1⟩ := bkeep hb (w.heap.size) (by first | omega | (simp <;> omega))
  go_wp2_with fail
  refine (name_any _ _ _ (Tab.below ht (by (repeat (first | (with_reducible exact Below.refl _ _) | (with_reducible refine Below.alloc ?_ (by first | omega | (dsimp only; omega) | (simp <;> omega)) _) | (with_reducible refine Below.setCell ?_ (by first | omega | (dsimp only; omega) | (simp <;> omega)) _) | (with_reducible refine Below.drew ?_) | (with_reducible refine below_drewN ?_ _) | (with_reducible refine Below.trans ?_ (Below.mono (by assumption) (by first | omega | (dsimp only; omega) | (simp <;> omega))))))))).mono ?_
  rintro e w2 ⟨rfl, hb⟩
  obtain ⟨hc_w2, hf_w2, hz_w2⟩ := bkeep hb (w1.heap.size + 1) (by first | omega | (simp <;> omega))
  go_wp2_with fail
  refine (may_any _ _ _).mono ?_
  rintro e w3 ⟨rfl, hb⟩
  obtain ⟨hc_w3, hf_w3, hz_w3⟩ := bkeep hb (w1.heap.size + 1) (by first | omega | (simp <;> omega))
  go_wp2_with fail
  refine (prect_any l hm _).mono ?_
  rintro e w4 ⟨rfl, hb⟩
  obtain ⟨hc_w4, hf_w4, hz_w4⟩ := bkeep hb (w1.heap.size + 1) (by first | omega | (simp <;> omega))
  go_wp2_with fail
  refine (prect_any [65, 49, 58, 73, 86, 52, 48, 57, 54] (by decide) _).mono ?_
  rintro e w7 ⟨rfl, hb⟩
  obtain ⟨hc_w7, hf_w7, hz_w7⟩ := bkeep hb (w4.heap.size + 1) (by first | omega | (simp <;> omega))
  go_wp2
  go_ret
  exact ⟨rfl, by first | assumption | (go_split_ands; first | assumption | ((repeat (first | (with_reducible exact Below.refl _ _) | (with_reducible refine Below.alloc ?_ (by first | omega | (dsimp only; omega) | (simp <;> omega)) _) | (with_reducible refine Below.setCell ?_ (by first | omega | (dsimp only; omega) | (simp <;> omega)) _) | (with_reducible refine Below.drew ?_) | (with_reducible refine below_drewN ?_ _) | (with_reducible refine Below.trans ?_ (Below.mono (by assumption) (by first | omega | (dsimp only; omega) | (simp <;> omega)))))); done))⟩
set_option maxHeartbeats 2000000 in
theorem walk_AddrOne2 (l : List UInt8) (hm : l.length ≤ 9223372036854775807) (h1 : pOk l = false) (h2 : qOk l = true) (w : World) (ht : Tab w) : Calls Tryd.prog 5 #[.string ⟨l.toArray⟩] w fun e w' => e = .returned (.bool true) ∧ Below w.heap.size w w' := by
  have k0 : qOk [65, 49, 58, 73, 86, 52, 48, 57, 54] = true := by decide
  obtain ⟨q1, q2⟩ := one_rect h2
  have q3 : (nameRectZ (qT l) (qL l) (qB l) (qR l) == l) = true := by rw [q1]; simp
  clear q1
  go_enter Tryd.func5, Tryd.ntmps5
  go_wp2_with fail
  refine (pcall l hm _).mono ?_
  rintro e w1 ⟨rfl, hb⟩
  obtain ⟨hc_w1, hf_w1, hz_w1⟩ := bkeep hb (w.heap.size) (by first | omega | (simp <;> omega))
  go_wp2_with fail
  refine (prect_any l hm _).mono ?_
  rintro e w4 ⟨rfl, hb⟩
  obtain ⟨hc_w4, hf_w4, hz_w4⟩ := bkeep hb (w1.heap.size + 1) (by first | omega | (simp <;> omega))
  go_wp2_with fail
  refine (nameR_any _ _ _ _ _ (Tab.below ht (by (repeat (first | (with_reducible exact Below.refl _ _) | (with_reducible refine Below.alloc ?_ (by first | omega | (dsimp only; omega) | (simp <;> omega)) _) | (with_reducible refine Below.setCell ?_ (by first | omega | (dsimp only; omega) | (simp <;> omega)) _) | (with_reducible refine Below.drew ?_) | (with_reducible refine below_drewN ?_ _) | (with_reducible refine Below.trans ?_ (Below.mono (by assumption) (by first | omega | (dsimp only; omega) | (simp <;> omega))))))))).mono ?_
  rintro e w5 ⟨rfl, hb⟩
  obtain ⟨hc_w5, hf_w5, hz_w5⟩ := bkeep hb (w4.heap.size + 1) (by first | omega | (simp <;> omega))
  go_wp2_with fail
  refine (mayRect_any _ _ _ _ _).mono ?_
  rintro e w6 ⟨rfl, hb⟩
  obtain ⟨hc_w6, hf_w6, hz_w6⟩ := bkeep hb (w4.heap.size + 1) (by first | omega | (simp <;> omega))
  go_wp2_with fail
  refine (prect_any [65, 49, 58, 73, 86, 52, 48, 57, 54] (by decide) _).mono ?_
  rintro e w7 ⟨rfl, hb⟩
  obtain ⟨hc_w7, hf_w7, hz_w7⟩ := bkeep hb (w4.heap.size + 1) (by first | omega | (simp <;> omega))
  go_wp2
  go_ret
  exact ⟨rfl, by first | assumption | (go_split_ands; first | assumption | ((repeat (first | (with_reducible exact Below.refl _ _) | (with_reducible refine Below.alloc ?_ (by first | omega | (dsimp only; omega) | (simp <;> omega)) _) | (with_reducible refine Below.setCell ?_ (by first | omega | (dsimp only; omega) | (simp <;> omega)) _) | (with_reducible refine Below.drew ?_) | (with_reducible refine below_drewN ?_ _) | (with_reducible refine Below.trans ?_ (Below.mono (by assumption) (by first | omega | (dsimp only; omega) | (simp <;> omega)))))); done))⟩
set_option maxHeartbeats 2000000 in
theorem walk_AddrOne3 (l : List UInt8) (hm : l.length ≤ 9223372036854775807) (h1 : pOk l = false) (h2 : qOk l = false) (w : World) (_ht : Tab w) : Calls Tryd.prog 5 #[.string ⟨l.toArray⟩] w fun e w' => e = .returned (.bool true) ∧ Below w.heap.size w w' := by
  have k0 : qOk [65, 49, 58, 73, 86, 52, 48, 57, 54] = true := by decide
  go_enter Tryd.func5, Tryd.ntmps5
  go_wp2_with fail
  refine (pcall l hm _).mono ?_
  rintro e w1 ⟨rfl, hb⟩
  obtain ⟨hc_w1, hf_w1, hz_w1⟩ := bkeep hb (w.heap.size) (by first | omega | (simp <;> omega))
  go_wp2_with fail
  refine (prect_any l hm _).mono ?_
  rintro e w4 ⟨rfl, hb⟩
  obtain ⟨hc_w4, hf_w4, hz_w4⟩ := bkeep hb (w1.heap.size + 1) (by first | omega | (simp <;> omega))
  go_wp2_with fail
  refine (prect_any [65, 49, 58, 73, 86, 52, 48, 57, 54] (by decide) _).mono ?_
  rintro e w7 ⟨rfl, hb⟩
  obtain ⟨hc_w7, hf_w7, hz_w7⟩ := bkeep hb (w4.heap.size + 1) (by first | omega | (simp <;> omega))
  go_wp2
  go_ret
  exact ⟨rfl, by first | assumption | (go_split_ands; first | assumption | ((repeat (first | (with_reducible exact Below.refl _ _) | (with_reducible refine Below.alloc ?_ (by first | omega | (dsimp only; omega) | (simp <;> omega)) _) | (with_reducible refine Below.setCell ?_ (by first | omega | (dsimp only; omega) | (simp <;> omega)) _) | (with_reducible refine Below.drew ?_) | (with_reducible refine below_drewN ?_ _) | (with_reducible refine Below.trans ?_ (Below.mono (by assumption) (by first | omega | (dsimp only; omega) | (simp <;> omega)))))); done))⟩
theorem walk_AddrOne (s : ByteArray) (hm : s.size ≤ maxLen) (w : World) (ht : Tab w) : Calls Tryd.prog 5 #[.string s] w fun e w' => e = .returned (.bool true) ∧ Below w.heap.size w w' := by
  have hl : s.data.toList.length ≤ 9223372036854775807 := by simpa [maxLen] using hm
  have h : Calls Tryd.prog 5 #[.string ⟨s.data.toList.toArray⟩] w fun e w' => e = .returned (.bool true) ∧ Below w.heap.size w w' := by
    cases h1 : pOk s.data.toList <;> cases h2 : qOk s.data.toList
    · exact walk_AddrOne3 _ hl h1 h2 w ht
    · exact walk_AddrOne2 _ hl h1 h2 w ht
    · exact walk_AddrOne1 _ hl h1 h2 w ht
    · exact walk_AddrOne0 _ hl h1 h2 w ht
  simpa using h
end Go.Proofs.YtakgdihocejmiaaDoor
