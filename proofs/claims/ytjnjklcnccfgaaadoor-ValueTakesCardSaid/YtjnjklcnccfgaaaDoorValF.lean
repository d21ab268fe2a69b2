/-
  Package value: Compare.
-/
import Derived.Test.YtjnjklcnccfgaaaDoorValE
import Derived.Test.YtjnjklcnccfgaaaDoorShelf
import Derived.WalkSpells
import Derived.WalkLawsBesides
import Derived.StillTactics
import Derived.Laws.Pointers
import Derived.Deep.RegionHeld3
import Derived.Deep.QuietTactic
import Derived.BigQuiet
import Derived.RowKit3
import Derived.Lib.Hide
import Derived.Lib.OthersKept
import Derived.OwnWalk
import Derived.Lib.IndexLaws
import Derived.Lib.ItoaMem
namespace Go.Proofs.YtjnjklcnccfgaaaDoor
open Go.RowKit

theorem vmay_yes (t n : Int) (s : ByteArray) (b : Bool) (c : Int) (hn : -9223372036854775808 ≤ n ∧ n ≤ 9223372036854775807) (h : vMay t n s b c = true) (w : World) : Calls Tryd.prog 18 #[.agg #[.int .i64 t, .int .i64 n, .string s, .bool b, .int .i64 c]] w fun e w' => e = .returned (.bool true) ∧ Below w.heap.size w w' := by
  have := vmay_any t n s b c hn w
  rw [h] at this
  exact this
theorem vmay_not (t n : Int) (s : ByteArray) (b : Bool) (c : Int) (hn : -9223372036854775808 ≤ n ∧ n ≤ 9223372036854775807) (h : vMay t n s b c = false) (w : World) : Calls Tryd.prog 18 #[.agg #[.int .i64 t, .int .i64 n, .string s, .bool b, .int .i64 c]] w fun e w' => e = .returned (.bool false) ∧ Below w.heap.size w w' := by
  have := vmay_any t n s b c hn w
  rw [h] at this
  exact this
set_option maxRecDepth 100000 in
set_option maxHeartbeats 4000000 in
theorem cmp_0_0 (n : Int) (s : ByteArray) (b : Bool) (c : Int) (n' : Int) (s' : ByteArray) (b' : Bool) (c' : Int) (hn : -9223372036854775808 ≤ n ∧ n ≤ 9223372036854775807) (hn' : -9223372036854775808 ≤ n' ∧ n' ≤ 9223372036854775807) (m : vMay 0 n s b c = true) (m' : vMay 0 n' s' b' c' = true) (w : World) :
    Calls Tryd.prog 23 #[.agg #[.int .i64 0, .int .i64 n, .string s, .bool b, .int .i64 c], .agg #[.int .i64 0, .int .i64 n', .string s', .bool b', .int .i64 c']] w
      fun e w' => e = .returned (.int .i64 (b2i b - b2i b')) ∧ Below w.heap.size w w' := by
  obtain ⟨q1, q2⟩ := b2i_range b
  obtain ⟨q3, q4⟩ := b2i_range b'
  have hw : IntKind.i64.wrap (b2i b - b2i b') = b2i b - b2i b' := by cases b <;> cases b' <;> rfl
  go_enter Tryd.func23, Tryd.ntmps23
  go_wp2_with fail
  go_wp2_with (first | (go_at_call 18; refine (vmay_yes _ _ _ _ _ (by first | assumption | (constructor <;> omega)) (by assumption) _).mono ?_; rintro e w1 ⟨rfl, hb⟩; obtain ⟨hc, hf, hz⟩ := bkeep hb (w.heap.size + 2) (by first | omega | (simp <;> omega))) | (go_at_call 77; refine (cmp_tag _ _ _).mono ?_; rintro e w1 ⟨rfl, hb⟩) | (go_at_call 78; refine (cmp_num _ _ _).mono ?_; rintro e w1 ⟨rfl, hb⟩) | (go_at_call 80; refine (truth_int _ _).mono ?_; rintro e w1 ⟨rfl, rfl⟩) | (go_at_call 79; refine (Tryd.strings_Compare _ _ _).mono ?_; rintro e w1 ⟨rfl, rfl⟩))
  first | (go_region_held3 (fun w' => w'.cell? ⟨w.heap.size, 0, none⟩ = some (.int .i64 0) ∧ w'.cell? ⟨w.heap.size, 1, none⟩ = some (.int .i64 n) ∧ w'.cell? ⟨w.heap.size, 2, none⟩ = some (.string s) ∧ w'.cell? ⟨w.heap.size, 3, none⟩ = some (.bool b) ∧ w'.cell? ⟨w.heap.size, 4, none⟩ = some (.int .i64 c) ∧ w'.cell? ⟨w.heap.size + 1, 0, none⟩ = some (.int .i64 0) ∧ w'.cell? ⟨w.heap.size + 1, 1, none⟩ = some (.int .i64 n') ∧ w'.cell? ⟨w.heap.size + 1, 2, none⟩ = some (.string s') ∧ w'.cell? ⟨w.heap.size + 1, 3, none⟩ = some (.bool b') ∧ w'.cell? ⟨w.heap.size + 1, 4, none⟩ = some (.int .i64 c') ∧ Below w.heap.size w w' ∧ w.heap.size + 2 ≤ w'.heap.size)
    (first | ((go_split_ands; refine ⟨?_, ?_, ?_, ?_, ?_, ?_, ?_, ?_, ?_, ?_, ?_, ?_⟩ <;> first | (rw [hb.cell (by dsimp only; omega)]; assumption) | exact Below.trans (by assumption) (hb.mono (by omega)) | (have := hb.size; omega))) | ((refine ⟨?_, ?_, ?_, ?_, ?_, ?_, ?_, ?_, ?_, ?_, ?_, ?_⟩ <;> first | (simp [go_sem, *]; done) | ((repeat (first | (with_reducible exact Below.refl _ _) | (with_reducible refine Below.alloc ?_ (by first | omega | (dsimp only; omega) | (simp <;> omega)) _) | (with_reducible refine Below.setCell ?_ (by first | omega | (dsimp only; omega) | (simp <;> omega)) _) | (with_reducible refine Below.drew ?_) | (with_reducible refine below_drewN ?_ _) | (with_reducible refine Below.trans ?_ (Below.mono (by assumption) (by first | omega | (dsimp only; omega) | (simp <;> omega)))))); done) | (simp; omega))))
    (first | (go_at_call 80; refine (truth_int _ _).mono ?_; rintro e w1 ⟨rfl, rfl⟩)))
  go_split_ands
  go_wp2
  refine bodyPost_ret (v := .int .i64 (b2i b - b2i b')) ?_ rfl ⟨rfl, by first | assumption | ((repeat (first | (with_reducible exact Below.refl _ _) | (with_reducible refine Below.alloc ?_ (by first | omega | (dsimp only; omega) | (simp <;> omega)) _) | (with_reducible refine Below.setCell ?_ (by first | omega | (dsimp only; omega) | (simp <;> omega)) _) | (with_reducible refine Below.drew ?_) | (with_reducible refine below_drewN ?_ _) | (with_reducible refine Below.trans ?_ (Below.mono (by assumption) (by first | omega | (dsimp only; omega) | (simp <;> omega)))))); done)⟩
  simp [results, Tryd.results23, go_sem, *]

set_option maxRecDepth 100000 in
set_option maxHeartbeats 4000000 in
theorem cmp_0_1 (n : Int) (s : ByteArray) (b : Bool) (c : Int) (n' : Int) (s' : ByteArray) (b' : Bool) (c' : Int) (hn : -9223372036854775808 ≤ n ∧ n ≤ 9223372036854775807) (hn' : -9223372036854775808 ≤ n' ∧ n' ≤ 9223372036854775807) (m : vMay 0 n s b c = true) (m' : vMay 1 n' s' b' c' = true) (w : World) :
    Calls Tryd.prog 23 #[.agg #[.int .i64 0, .int .i64 n, .string s, .bool b, .int .i64 c], .agg #[.int .i64 1, .int .i64 n', .string s', .bool b', .int .i64 c']] w
      fun e w' => e = .returned (.int .i64 (cmpI n n')) ∧ Below w.heap.size w w' := by
  go_enter Tryd.func23, Tryd.ntmps23
  go_wp2_with fail
  go_wp2_with (first | (go_at_call 18; refine (vmay_yes _ _ _ _ _ (by first | assumption | (constructor <;> omega)) (by assumption) _).mono ?_; rintro e w1 ⟨rfl, hb⟩; obtain ⟨hc, hf, hz⟩ := bkeep hb (w.heap.size + 2) (by first | omega | (simp <;> omega))) | (go_at_call 77; refine (cmp_tag _ _ _).mono ?_; rintro e w1 ⟨rfl, hb⟩) | (go_at_call 78; refine (cmp_num _ _ _).mono ?_; rintro e w1 ⟨rfl, hb⟩) | (go_at_call 80; refine (truth_int _ _).mono ?_; rintro e w1 ⟨rfl, rfl⟩) | (go_at_call 79; refine (Tryd.strings_Compare _ _ _).mono ?_; rintro e w1 ⟨rfl, rfl⟩))
  go_ret
  exact ⟨rfl, by first | assumption | (go_split_ands; first | assumption | ((repeat (first | (with_reducible exact Below.refl _ _) | (with_reducible refine Below.alloc ?_ (by first | omega | (dsimp only; omega) | (simp <;> omega)) _) | (with_reducible refine Below.setCell ?_ (by first | omega | (dsimp only; omega) | (simp <;> omega)) _) | (with_reducible refine Below.drew ?_) | (with_reducible refine below_drewN ?_ _) | (with_reducible refine Below.trans ?_ (Below.mono (by assumption) (by first | omega | (dsimp only; omega) | (simp <;> omega)))))); done)) | ((repeat (first | (with_reducible exact Below.refl _ _) | (with_reducible refine Below.alloc ?_ (by first | omega | (dsimp only; omega) | (simp <;> omega)) _) | (with_reducible refine Below.setCell ?_ (by first | omega | (dsimp only; omega) | (simp <;> omega)) _) | (with_reducible refine Below.drew ?_) | (with_reducible refine below_drewN ?_ _) | (with_reducible refine Below.trans ?_ (Below.mono (by assumption) (by first | omega | (dsimp only; omega) | (simp <;> omega)))))); done)⟩
set_option maxRecDepth 100000 in
set_option maxHeartbeats 4000000 in
theorem cmp_0_2 (n : Int) (s : ByteArray) (b : Bool) (c : Int) (n' : Int) (s' : ByteArray) (b' : Bool) (c' : Int) (hn : -9223372036854775808 ≤ n ∧ n ≤ 9223372036854775807) (hn' : -9223372036854775808 ≤ n' ∧ n' ≤ 9223372036854775807) (m : vMay 0 n s b c = true) (m' : vMay 2 n' s' b' c' = true) (w : World) :
    Calls Tryd.prog 23 #[.agg #[.int .i64 0, .int .i64 n, .string s, .bool b, .int .i64 c], .agg #[.int .i64 2, .int .i64 n', .string s', .bool b', .int .i64 c']] w
      fun e w' => e = .returned (.int .i64 (Lib.compareBytes s.data.toList s'.data.toList)) ∧ Below w.heap.size w w' := by
  go_enter Tryd.func23, Tryd.ntmps23
  go_wp2_with fail
  go_wp2_with (first | (go_at_call 18; refine (vmay_yes _ _ _ _ _ (by first | assumption | (constructor <;> omega)) (by assumption) _).mono ?_; rintro e w1 ⟨rfl, hb⟩; obtain ⟨hc, hf, hz⟩ := bkeep hb (w.heap.size + 2) (by first | omega | (simp <;> omega))) | (go_at_call 77; refine (cmp_tag _ _ _).mono ?_; rintro e w1 ⟨rfl, hb⟩) | (go_at_call 78; refine (cmp_num _ _ _).mono ?_; rintro e w1 ⟨rfl, hb⟩) | (go_at_call 80; refine (truth_int _ _).mono ?_; rintro e w1 ⟨rfl, rfl⟩) | (go_at_call 79; refine (Tryd.strings_Compare _ _ _).mono ?_; rintro e w1 ⟨rfl, rfl⟩))
  go_ret
  exact ⟨rfl, by first | assumption | (go_split_ands; first | assumption | ((repeat (first | (with_reducible exact Below.refl _ _) | (with_reducible refine Below.alloc ?_ (by first | omega | (dsimp only; omega) | (simp <;> omega)) _) | (with_reducible refine Below.setCell ?_ (by first | omega | (dsimp only; omega) | (simp <;> omega)) _) | (with_reducible refine Below.drew ?_) | (with_reducible refine below_drewN ?_ _) | (with_reducible refine Below.trans ?_ (Below.mono (by assumption) (by first | omega | (dsimp only; omega) | (simp <;> omega)))))); done)) | ((repeat (first | (with_reducible exact Below.refl _ _) | (with_reducible refine Below.alloc ?_ (by first | omega | (dsimp only; omega) | (simp <;> omega)) _) | (with_reducible refine Below.setCell ?_ (by first | omega | (dsimp only; omega) | (simp <;> omega)) _) | (with_reducible refine Below.drew ?_) | (with_reducible refine below_drewN ?_ _) | (with_reducible refine Below.trans ?_ (Below.mono (by assumption) (by first | omega | (dsimp only; omega) | (simp <;> omega)))))); done)⟩
set_option maxRecDepth 100000 in
set_option maxHeartbeats 4000000 in
theorem cmp_0_3 (n : Int) (s : ByteArray) (b : Bool) (c : Int) (n' : Int) (s' : ByteArray) (b' : Bool) (c' : Int) (hn : -9223372036854775808 ≤ n ∧ n ≤ 9223372036854775807) (hn' : -9223372036854775808 ≤ n' ∧ n' ≤ 9223372036854775807) (m : vMay 0 n s b c = true) (m' : vMay 3 n' s' b' c' = true) (w : World) :
    Calls Tryd.prog 23 #[.agg #[.int .i64 0, .int .i64 n, .string s, .bool b, .int .i64 c], .agg #[.int .i64 3, .int .i64 n', .string s', .bool b', .int .i64 c']] w
      fun e w' => e = .returned (.int .i64 (b2i b - b2i b')) ∧ Below w.heap.size w w' := by
  obtain ⟨q1, q2⟩ := b2i_range b
  obtain ⟨q3, q4⟩ := b2i_range b'
  have hw : IntKind.i64.wrap (b2i b - b2i b') = b2i b - b2i b' := by cases b <;> cases b' <;> rfl
  go_enter Tryd.func23, Tryd.ntmps23
  go_wp2_with fail
  go_wp2_with (first | (go_at_call 18; refine (vmay_yes _ _ _ _ _ (by first | assumption | (constructor <;> omega)) (by assumption) _).mono ?_; rintro e w1 ⟨rfl, hb⟩; obtain ⟨hc, hf, hz⟩ := bkeep hb (w.heap.size + 2) (by first | omega | (simp <;> omega))) | (go_at_call 77; refine (cmp_tag _ _ _).mono ?_; rintro e w1 ⟨rfl, hb⟩) | (go_at_call 78; refine (cmp_num _ _ _).mono ?_; rintro e w1 ⟨rfl, hb⟩) | (go_at_call 80; refine (truth_int _ _).mono ?_; rintro e w1 ⟨rfl, rfl⟩) | (go_at_call 79; refine (Tryd.strings_Compare _ _ _).mono ?_; rintro e w1 ⟨rfl, rfl⟩))
  first | (go_region_held3 (fun w' => w'.cell? ⟨w.heap.size, 0, none⟩ = some (.int .i64 3) ∧ w'.cell? ⟨w.heap.size, 1, none⟩ = some (.int .i64 n) ∧ w'.cell? ⟨w.heap.size, 2, none⟩ = some (.string s) ∧ w'.cell? ⟨w.heap.size, 3, none⟩ = some (.bool b) ∧ w'.cell? ⟨w.heap.size, 4, none⟩ = some (.int .i64 c) ∧ w'.cell? ⟨w.heap.size + 1, 0, none⟩ = some (.int .i64 3) ∧ w'.cell? ⟨w.heap.size + 1, 1, none⟩ = some (.int .i64 n') ∧ w'.cell? ⟨w.heap.size + 1, 2, none⟩ = some (.string s') ∧ w'.cell? ⟨w.heap.size + 1, 3, none⟩ = some (.bool b') ∧ w'.cell? ⟨w.heap.size + 1, 4, none⟩ = some (.int .i64 c') ∧ Below w.heap.size w w' ∧ w.heap.size + 2 ≤ w'.heap.size)
    (first | ((go_split_ands; refine ⟨?_, ?_, ?_, ?_, ?_, ?_, ?_, ?_, ?_, ?_, ?_, ?_⟩ <;> first | (rw [hb.cell (by dsimp only; omega)]; assumption) | exact Below.trans (by assumption) (hb.mono (by omega)) | (have := hb.size; omega))) | ((refine ⟨?_, ?_, ?_, ?_, ?_, ?_, ?_, ?_, ?_, ?_, ?_, ?_⟩ <;> first | (simp [go_sem, *]; done) | ((repeat (first | (with_reducible exact Below.refl _ _) | (with_reducible refine Below.alloc ?_ (by first | omega | (dsimp only; omega) | (simp <;> omega)) _) | (with_reducible refine Below.setCell ?_ (by first | omega | (dsimp only; omega) | (simp <;> omega)) _) | (with_reducible refine Below.drew ?_) | (with_reducible refine below_drewN ?_ _) | (with_reducible refine Below.trans ?_ (Below.mono (by assumption) (by first | omega | (dsimp only; omega) | (simp <;> omega)))))); done) | (simp; omega))))
    (first | (go_at_call 80; refine (truth_int _ _).mono ?_; rintro e w1 ⟨rfl, rfl⟩)))
  go_split_ands
  go_wp2
  refine bodyPost_ret (v := .int .i64 (b2i b - b2i b')) ?_ rfl ⟨rfl, by first | assumption | ((repeat (first | (with_reducible exact Below.refl _ _) | (with_reducible refine Below.alloc ?_ (by first | omega | (dsimp only; omega) | (simp <;> omega)) _) | (with_reducible refine Below.setCell ?_ (by first | omega | (dsimp only; omega) | (simp <;> omega)) _) | (with_reducible refine Below.drew ?_) | (with_reducible refine below_drewN ?_ _) | (with_reducible refine Below.trans ?_ (Below.mono (by assumption) (by first | omega | (dsimp only; omega) | (simp <;> omega)))))); done)⟩
  simp [results, Tryd.results23, go_sem, *]

set_option maxRecDepth 100000 in
set_option maxHeartbeats 4000000 in
theorem cmp_1_0 (n : Int) (s : ByteArray) (b : Bool) (c : Int) (n' : Int) (s' : ByteArray) (b' : Bool) (c' : Int) (hn : -9223372036854775808 ≤ n ∧ n ≤ 9223372036854775807) (hn' : -9223372036854775808 ≤ n' ∧ n' ≤ 9223372036854775807) (m : vMay 1 n s b c = true) (m' : vMay 0 n' s' b' c' = true) (w : World) :
    Calls Tryd.prog 23 #[.agg #[.int .i64 1, .int .i64 n, .string s, .bool b, .int .i64 c], .agg #[.int .i64 0, .int .i64 n', .string s', .bool b', .int .i64 c']] w
      fun e w' => e = .returned (.int .i64 (cmpI n n')) ∧ Below w.heap.size w w' := by
  go_enter Tryd.func23, Tryd.ntmps23
  go_wp2_with fail
  go_wp2_with (first | (go_at_call 18; refine (vmay_yes _ _ _ _ _ (by first | assumption | (constructor <;> omega)) (by assumption) _).mono ?_; rintro e w1 ⟨rfl, hb⟩; obtain ⟨hc, hf, hz⟩ := bkeep hb (w.heap.size + 2) (by first | omega | (simp <;> omega))) | (go_at_call 77; refine (cmp_tag _ _ _).mono ?_; rintro e w1 ⟨rfl, hb⟩) | (go_at_call 78; refine (cmp_num _ _ _).mono ?_; rintro e w1 ⟨rfl, hb⟩) | (go_at_call 80; refine (truth_int _ _).mono ?_; rintro e w1 ⟨rfl, rfl⟩) | (go_at_call 79; refine (Tryd.strings_Compare _ _ _).mono ?_; rintro e w1 ⟨rfl, rfl⟩))
  go_ret
  exact ⟨rfl, by first | assumption | (go_split_ands; first | assumption | ((repeat (first | (with_reducible exact Below.refl _ _) | (with_reducible refine Below.alloc ?_ (by first | omega | (dsimp only; omega) | (simp <;> omega)) _) | (with_reducible refine Below.setCell ?_ (by first | omega | (dsimp only; omega) | (simp <;> omega)) _) | (with_reducible refine Below.drew ?_) | (with_reducible refine below_drewN ?_ _) | (with_reducible refine Below.trans ?_ (Below.mono (by assumption) (by first | omega | (dsimp only; omega) | (simp <;> omega)))))); done)) | ((repeat (first | (with_reducible exact Below.refl _ _) | (with_reducible refine Below.alloc ?_ (by first | omega | (dsimp only; omega) | (simp <;> omega)) _) | (with_reducible refine Below.setCell ?_ (by first | omega | (dsimp only; omega) | (simp <;> omega)) _) | (with_reducible refine Below.drew ?_) | (with_reducible refine below_drewN ?_ _) | (with_reducible refine Below.trans ?_ (Below.mono (by assumption) (by first | omega | (dsimp only; omega) | (simp <;> omega)))))); done)⟩
set_option maxRecDepth 100000 in
set_option maxHeartbeats 4000000 in
theorem cmp_1_1 (n : Int) (s : ByteArray) (b : Bool) (c : Int) (n' : Int) (s' : ByteArray) (b' : Bool) (c' : Int) (hn : -9223372036854775808 ≤ n ∧ n ≤ 9223372036854775807) (hn' : -9223372036854775808 ≤ n' ∧ n' ≤ 9223372036854775807) (m : vMay 1 n s b c = true) (m' : vMay 1 n' s' b' c' = true) (w : World) :
    Calls Tryd.prog 23 #[.agg #[.int .i64 1, .int .i64 n, .string s, .bool b, .int .i64 c], .agg #[.int .i64 1, .int .i64 n', .string s', .bool b', .int .i64 c']] w
      fun e w' => e = .returned (.int .i64 (cmpI n n')) ∧ Below w.heap.size w w' := by
  go_enter Tryd.func23, Tryd.ntmps23
  go_wp2_with fail
  go_wp2_with (first | (go_at_call 18; refine (vmay_yes _ _ _ _ _ (by first | assumption | (constructor <;> omega)) (by assumption) _).mono ?_; rintro e w1 ⟨rfl, hb⟩; obtain ⟨hc, hf, hz⟩ := bkeep hb (w.heap.size + 2) (by first | omega | (simp <;> omega))) | (go_at_call 77; refine (cmp_tag _ _ _).mono ?_; rintro e w1 ⟨rfl, hb⟩) | (go_at_call 78; refine (cmp_num _ _ _).mono ?_; rintro e w1 ⟨rfl, hb⟩) | (go_at_call 80; refine (truth_int _ _).mono ?_; rintro e w1 ⟨rfl, rfl⟩) | (go_at_call 79; refine (Tryd.strings_Compare _ _ _).mono ?_; rintro e w1 ⟨rfl, rfl⟩))
  go_ret
  exact ⟨rfl, by first | assumption | (go_split_ands; first | assumption | ((repeat (first | (with_reducible exact Below.refl _ _) | (with_reducible refine Below.alloc ?_ (by first | omega | (dsimp only; omega) | (simp <;> omega)) _) | (with_reducible refine Below.setCell ?_ (by first | omega | (dsimp only; omega) | (simp <;> omega)) _) | (with_reducible refine Below.drew ?_) | (with_reducible refine below_drewN ?_ _) | (with_reducible refine Below.trans ?_ (Below.mono (by assumption) (by first | omega | (dsimp only; omega) | (simp <;> omega)))))); done)) | ((repeat (first | (with_reducible exact Below.refl _ _) | (with_reducible refine Below.alloc ?_ (by first | omega | (dsimp only; omega) | (simp <;> omega)) _) | (with_reducible refine Below.setCell ?_ (by first | omega | (dsimp only; omega) | (simp <;> omega)) _) | (with_reducible refine Below.drew ?_) | (with_reducible refine below_drewN ?_ _) | (with_reducible refine Below.trans ?_ (Below.mono (by assumption) (by first | omega | (dsimp only; omega) | (simp <;> omega)))))); done)⟩
set_option maxRecDepth 100000 in
set_option maxHeartbeats 4000000 in
theorem cmp_1_2 (n : Int) (s : ByteArray) (b : Bool) (c : Int) (n' : Int) (s' : ByteArray) (b' : Bool) (c' : Int) (hn : -9223372036854775808 ≤ n ∧ n ≤ 9223372036854775807) (hn' : -9223372036854775808 ≤ n' ∧ n' ≤ 9223372036854775807) (m : vMay 1 n s b c = true) (m' : vMay 2 n' s' b' c' = true) (w : World) :
    Calls Tryd.prog 23 #[.agg #[.int .i64 1, .int .i64 n, .string s, .bool b, .int .i64 c], .agg #[.int .i64 2, .int .i64 n', .string s', .bool b', .int .i64 c']] w
      fun e w' => e = .returned (.int .i64 (cmpI 1 2)) ∧ Below w.heap.size w w' := by
  go_enter Tryd.func23, Tryd.ntmps23
  go_wp2_with fail
  go_wp2_with (first | (go_at_call 18; refine (vmay_yes _ _ _ _ _ (by first | assumption | (constructor <;> omega)) (by assumption) _).mono ?_; rintro e w1 ⟨rfl, hb⟩; obtain ⟨hc, hf, hz⟩ := bkeep hb (w.heap.size + 2) (by first | omega | (simp <;> omega))) | (go_at_call 77; refine (cmp_tag _ _ _).mono ?_; rintro e w1 ⟨rfl, hb⟩) | (go_at_call 78; refine (cmp_num _ _ _).mono ?_; rintro e w1 ⟨rfl, hb⟩) | (go_at_call 80; refine (truth_int _ _).mono ?_; rintro e w1 ⟨rfl, rfl⟩) | (go_at_call 79; refine (Tryd.strings_Compare _ _ _).mono ?_; rintro e w1 ⟨rfl, rfl⟩))
  go_ret
  exact ⟨rfl, by first | assumption | (go_split_ands; first | assumption | ((repeat (first | (with_reducible exact Below.refl _ _) | (with_reducible refine Below.alloc ?_ (by first | omega | (dsimp only; omega) | (simp <;> omega)) _) | (with_reducible refine Below.setCell ?_ (by first | omega | (dsimp only; omega) | (simp <;> omega)) _) | (with_reducible refine Below.drew ?_) | (with_reducible refine below_drewN ?_ _) | (with_reducible refine Below.trans ?_ (Below.mono (by assumption) (by first | omega | (dsimp only; omega) | (simp <;> omega)))))); done)) | ((repeat (first | (with_reducible exact Below.refl _ _) | (with_reducible refine Below.alloc ?_ (by first | omega | (dsimp only; omega) | (simp <;> omega)) _) | (with_reducible refine Below.setCell ?_ (by first | omega | (dsimp only; omega) | (simp <;> omega)) _) | (with_reducible refine Below.drew ?_) | (with_reducible refine below_drewN ?_ _) | (with_reducible refine Below.trans ?_ (Below.mono (by assumption) (by first | omega | (dsimp only; omega) | (simp <;> omega)))))); done)⟩
set_option maxRecDepth 100000 in
set_option maxHeartbeats 4000000 in
theorem cmp_1_3 (n : Int) (s : ByteArray) (b : Bool) (c : Int) (n' : Int) (s' : ByteArray) (b' : Bool) (c' : Int) (hn : -9223372036854775808 ≤ n ∧ n ≤ 9223372036854775807) (hn' : -9223372036854775808 ≤ n' ∧ n' ≤ 9223372036854775807) (m : vMay 1 n s b c = true) (m' : vMay 3 n' s' b' c' = true) (w : World) :
    Calls Tryd.prog 23 #[.agg #[.int .i64 1, .int .i64 n, .string s, .bool b, .int .i64 c], .agg #[.int .i64 3, .int .i64 n', .string s', .bool b', .int .i64 c']] w
      fun e w' => e = .returned (.int .i64 (cmpI 1 3)) ∧ Below w.heap.size w w' := by
  go_enter Tryd.func23, Tryd.ntmps23
  go_wp2_with fail
  go_wp2_with (first | (go_at_call 18; refine (vmay_yes _ _ _ _ _ (by first | assumption | (constructor <;> omega)) (by assumption) _).mono ?_; rintro e w1 ⟨rfl, hb⟩; obtain ⟨hc, hf, hz⟩ := bkeep hb (w.heap.size + 2) (by first | omega | (simp <;> omega))) | (go_at_call 77; refine (cmp_tag _ _ _).mono ?_; rintro e w1 ⟨rfl, hb⟩) | (go_at_call 78; refine (cmp_num _ _ _).mono ?_; rintro e w1 ⟨rfl, hb⟩) | (go_at_call 80; refine (truth_int _ _).mono ?_; rintro e w1 ⟨rfl, rfl⟩) | (go_at_call 79; refine (Tryd.strings_Compare _ _ _).mono ?_; rintro e w1 ⟨rfl, rfl⟩))
  go_ret
  exact ⟨rfl, by first | assumption | (go_split_ands; first | assumption | ((repeat (first | (with_reducible exact Below.refl _ _) | (with_reducible refine Below.alloc ?_ (by first | omega | (dsimp only; omega) | (simp <;> omega)) _) | (with_reducible refine Below.setCell ?_ (by first | omega | (dsimp only; omega) | (simp <;> omega)) _) | (with_reducible refine Below.drew ?_) | (with_reducible refine below_drewN ?_ _) | (with_reducible refine Below.trans ?_ (Below.mono (by assumption) (by first | omega | (dsimp only; omega) | (simp <;> omega)))))); done)) | ((repeat (first | (with_reducible exact Below.refl _ _) | (with_reducible refine Below.alloc ?_ (by first | omega | (dsimp only; omega) | (simp <;> omega)) _) | (with_reducible refine Below.setCell ?_ (by first | omega | (dsimp only; omega) | (simp <;> omega)) _) | (with_reducible refine Below.drew ?_) | (with_reducible refine below_drewN ?_ _) | (with_reducible refine Below.trans ?_ (Below.mono (by assumption) (by first | omega | (dsimp only; omega) | (simp <;> omega)))))); done)⟩
set_option maxRecDepth 100000 in
set_option maxHeartbeats 4000000 in
theorem cmp_2_0 (n : Int) (s : ByteArray) (b : Bool) (c : Int) (n' : Int) (s' : ByteArray) (b' : Bool) (c' : Int) (hn : -9223372036854775808 ≤ n ∧ n ≤ 9223372036854775807) (hn' : -9223372036854775808 ≤ n' ∧ n' ≤ 9223372036854775807) (m : vMay 2 n s b c = true) (m' : vMay 0 n' s' b' c' = true) (w : World) :
    Calls Tryd.prog 23 #[.agg #[.int .i64 2, .int .i64 n, .string s, .bool b, .int .i64 c], .agg #[.int .i64 0, .int .i64 n', .string s', .bool b', .int .i64 c']] w
      fun e w' => e = .returned (.int .i64 (Lib.compareBytes s.data.toList s'.data.toList)) ∧ Below w.heap.size w w' := by
  go_enter Tryd.func23, Tryd.ntmps23
  go_wp2_with fail
  go_wp2_with (first | (go_at_call 18; refine (vmay_yes _ _ _ _ _ (by first | assumption | (constructor <;> omega)) (by assumption) _).mono ?_; rintro e w1 ⟨rfl, hb⟩; obtain ⟨hc, hf, hz⟩ := bkeep hb (w.heap.size + 2) (by first | omega | (simp <;> omega))) | (go_at_call 77; refine (cmp_tag _ _ _).mono ?_; rintro e w1 ⟨rfl, hb⟩) | (go_at_call 78; refine (cmp_num _ _ _).mono ?_; rintro e w1 ⟨rfl, hb⟩) | (go_at_call 80; refine (truth_int _ _).mono ?_; rintro e w1 ⟨rfl, rfl⟩) | (go_at_call 79; refine (Tryd.strings_Compare _ _ _).mono ?_; rintro e w1 ⟨rfl, rfl⟩))
  go_ret
  exact ⟨rfl, by first | assumption | (go_split_ands; first | assumption | ((repeat (first | (with_reducible exact Below.refl _ _) | (with_reducible refine Below.alloc ?_ (by first | omega | (dsimp only; omega) | (simp <;> omega)) _) | (with_reducible refine Below.setCell ?_ (by first | omega | (dsimp only; omega) | (simp <;> omega)) _) | (with_reducible refine Below.drew ?_) | (with_reducible refine below_drewN ?_ _) | (with_reducible refine Below.trans ?_ (Below.mono (by assumption) (by first | omega | (dsimp only; omega) | (simp <;> omega)))))); done)) | ((repeat (first | (with_reducible exact Below.refl _ _) | (with_reducible refine Below.alloc ?_ (by first | omega | (dsimp only; omega) | (simp <;> omega)) _) | (with_reducible refine Below.setCell ?_ (by first | omega | (dsimp only; omega) | (simp <;> omega)) _) | (with_reducible refine Below.drew ?_) | (with_reducible refine below_drewN ?_ _) | (with_reducible refine Below.trans ?_ (Below.mono (by assumption) (by first | omega | (dsimp only; omega) | (simp <;> omega)))))); done)⟩
set_option maxRecDepth 100000 in
set_option maxHeartbeats 4000000 in
theorem cmp_2_1 (n : Int) (s : ByteArray) (b : Bool) (c : Int) (n' : Int) (s' : ByteArray) (b' : Bool) (c' : Int) (hn : -9223372036854775808 ≤ n ∧ n ≤ 9223372036854775807) (hn' : -9223372036854775808 ≤ n' ∧ n' ≤ 9223372036854775807) (m : vMay 2 n s b c = true) (m' : vMay 1 n' s' b' c' = true) (w : World) :
    Calls Tryd.prog 23 #[.agg #[.int .i64 2, .int .i64 n, .string s, .bool b, .int .i64 c], .agg #[.int .i64 1, .int .i64 n', .string s', .bool b', .int .i64 c']] w
      fun e w' => e = .returned (.int .i64 (cmpI 2 1)) ∧ Below w.heap.size w w' := by
  go_enter Tryd.func23, Tryd.ntmps23
  go_wp2_with fail
  go_wp2_with (first | (go_at_call 18; refine (vmay_yes _ _ _ _ _ (by first | assumption | (constructor <;> omega)) (by assumption) _).mono ?_; rintro e w1 ⟨rfl, hb⟩; obtain ⟨hc, hf, hz⟩ := bkeep hb (w.heap.size + 2) (by first | omega | (simp <;> omega))) | (go_at_call 77; refine (cmp_tag _ _ _).mono ?_; rintro e w1 ⟨rfl, hb⟩) | (go_at_call 78; refine (cmp_num _ _ _).mono ?_; rintro e w1 ⟨rfl, hb⟩) | (go_at_call 80; refine (truth_int _ _).mono ?_; rintro e w1 ⟨rfl, rfl⟩) | (go_at_call 79; refine (Tryd.strings_Compare _ _ _).mono ?_; rintro e w1 ⟨rfl, rfl⟩))
  go_ret
  exact ⟨rfl, by first | assumption | (go_split_ands; first | assumption | ((repeat (first | (with_reducible exact Below.refl _ _) | (with_reducible refine Below.alloc ?_ (by first | omega | (dsimp only; omega) | (simp <;> omega)) _) | (with_reducible refine Below.setCell ?_ (by first | omega | (dsimp only; omega) | (simp <;> omega)) _) | (with_reducible refine Below.drew ?_) | (with_reducible refine below_drewN ?_ _) | (with_reducible refine Below.trans ?_ (Below.mono (by assumption) (by first | omega | (dsimp only; omega) | (simp <;> omega)))))); done)) | ((repeat (first | (with_reducible exact Below.refl _ _) | (with_reducible refine Below.alloc ?_ (by first | omega | (dsimp only; omega) | (simp <;> omega)) _) | (with_reducible refine Below.setCell ?_ (by first | omega | (dsimp only; omega) | (simp <;> omega)) _) | (with_reducible refine Below.drew ?_) | (with_reducible refine below_drewN ?_ _) | (with_reducible refine Below.trans ?_ (Below.mono (by assumption) (by first | omega | (dsimp only; omega) | (simp <;> omega)))))); done)⟩
set_option maxRecDepth 100000 in
set_option maxHeartbeats 4000000 in
theorem cmp_2_2 (n : Int) (s : ByteArray) (b : Bool) (c : Int) (n' : Int) (s' : ByteArray) (b' : Bool) (c' : Int) (hn : -9223372036854775808 ≤ n ∧ n ≤ 9223372036854775807) (hn' : -9223372036854775808 ≤ n' ∧ n' ≤ 9223372036854775807) (m : vMay 2 n s b c = true) (m' : vMay 2 n' s' b' c' = true) (w : World) :
    Calls Tryd.prog 23 #[.agg #[.int .i64 2, .int .i64 n, .string s, .bool b, .int .i64 c], .agg #[.int .i64 2, .int .i64 n', .string s', .bool b', .int .i64 c']] w
      fun e w' => e = .returned (.int .i64 (Lib.compareBytes s.data.toList s'.data.toList)) ∧ Below w.heap.size w w' := by
  go_enter Tryd.func23, Tryd.ntmps23
  go_wp2_with fail
  go_wp2_with (first | (go_at_call 18; refine (vmay_yes _ _ _ _ _ (by first | assumption | (constructor <;> omega)) (by assumption) _).mono ?_; rintro e w1 ⟨rfl, hb⟩; obtain ⟨hc, hf, hz⟩ := bkeep hb (w.heap.size + 2) (by first | omega | (simp <;> omega))) | (go_at_call 77; refine (cmp_tag _ _ _).mono ?_; rintro e w1 ⟨rfl, hb⟩) | (go_at_call 78; refine (cmp_num _ _ _).mono ?_; rintro e w1 ⟨rfl, hb⟩) | (go_at_call 80; refine (truth_int _ _).mono ?_; rintro e w1 ⟨rfl, rfl⟩) | (go_at_call 79; refine (Tryd.strings_Compare _ _ _).mono ?_; rintro e w1 ⟨rfl, rfl⟩))
  go_ret
  exact ⟨rfl, by first | assumption | (go_split_ands; first | assumption | ((repeat (first | (with_reducible exact Below.refl _ _) | (with_reducible refine Below.alloc ?_ (by first | omega | (dsimp only; omega) | (simp <;> omega)) _) | (with_reducible refine Below.setCell ?_ (by first | omega | (dsimp only; omega) | (simp <;> omega)) _) | (with_reducible refine Below.drew ?_) | (with_reducible refine below_drewN ?_ _) | (with_reducible refine Below.trans ?_ (Below.mono (by assumption) (by first | omega | (dsimp only; omega) | (simp <;> omega)))))); done)) | ((repeat (first | (with_reducible exact Below.refl _ _) | (with_reducible refine Below.alloc ?_ (by first | omega | (dsimp only; omega) | (simp <;> omega)) _) | (with_reducible refine Below.setCell ?_ (by first | omega | (dsimp only; omega) | (simp <;> omega)) _) | (with_reducible refine Below.drew ?_) | (with_reducible refine below_drewN ?_ _) | (with_reducible refine Below.trans ?_ (Below.mono (by assumption) (by first | omega | (dsimp only; omega) | (simp <;> omega)))))); done)⟩
set_option maxRecDepth 100000 in
set_option maxHeartbeats 4000000 in
theorem cmp_2_3 (n : Int) (s : ByteArray) (b : Bool) (c : Int) (n' : Int) (s' : ByteArray) (b' : Bool) (c' : Int) (hn : -9223372036854775808 ≤ n ∧ n ≤ 9223372036854775807) (hn' : -9223372036854775808 ≤ n' ∧ n' ≤ 9223372036854775807) (m : vMay 2 n s b c = true) (m' : vMay 3 n' s' b' c' = true) (w : World) :
    Calls Tryd.prog 23 #[.agg #[.int .i64 2, .int .i64 n, .string s, .bool b, .int .i64 c], .agg #[.int .i64 3, .int .i64 n', .string s', .bool b', .int .i64 c']] w
      fun e w' => e = .returned (.int .i64 (cmpI 2 3)) ∧ Below w.heap.size w w' := by
  go_enter Tryd.func23, Tryd.ntmps23
  go_wp2_with fail
  go_wp2_with (first | (go_at_call 18; refine (vmay_yes _ _ _ _ _ (by first | assumption | (constructor <;> omega)) (by assumption) _).mono ?_; rintro e w1 ⟨rfl, hb⟩; obtain ⟨hc, hf, hz⟩ := bkeep hb (w.heap.size + 2) (by first | omega | (simp <;> omega))) | (go_at_call 77; refine (cmp_tag _ _ _).mono ?_; rintro e w1 ⟨rfl, hb⟩) | (go_at_call 78; refine (cmp_num _ _ _).mono ?_; rintro e w1 ⟨rfl, hb⟩) | (go_at_call 80; refine (truth_int _ _).mono ?_; rintro e w1 ⟨rfl, rfl⟩) | (go_at_call 79; refine (Tryd.strings_Compare _ _ _).mono ?_; rintro e w1 ⟨rfl, rfl⟩))
  go_ret
  exact ⟨rfl, by first | assumption | (go_split_ands; first | assumption | ((repeat (first | (with_reducible exact Below.refl _ _) | (with_reducible refine Below.alloc ?_ (by first | omega | (dsimp only; omega) | (simp <;> omega)) _) | (with_reducible refine Below.setCell ?_ (by first | omega | (dsimp only; omega) | (simp <;> omega)) _) | (with_reducible refine Below.drew ?_) | (with_reducible refine below_drewN ?_ _) | (with_reducible refine Below.trans ?_ (Below.mono (by assumption) (by first | omega | (dsimp only; omega) | (simp <;> omega)))))); done)) | ((repeat (first | (with_reducible exact Below.refl _ _) | (with_reducible refine Below.alloc ?_ (by first | omega | (dsimp only; omega) | (simp <;> omega)) _) | (with_reducible refine Below.setCell ?_ (by first | omega | (dsimp only; omega) | (simp <;> omega)) _) | (with_reducible refine Below.drew ?_) | (with_reducible refine below_drewN ?_ _) | (with_reducible refine Below.trans ?_ (Below.mono (by assumption) (by first | omega | (dsimp only; omega) | (simp <;> omega)))))); done)⟩
set_option maxRecDepth 100000 in
set_option maxHeartbeats 4000000 in
theorem cmp_3_0 (n : Int) (s : ByteArray) (b : Bool) (c : Int) (n' : Int) (s' : ByteArray) (b' : Bool) (c' : Int) (hn : -9223372036854775808 ≤ n ∧ n ≤ 9223372036854775807) (hn' : -9223372036854775808 ≤ n' ∧ n' ≤ 9223372036854775807) (m : vMay 3 n s b c = true) (m' : vMay 0 n' s' b' c' = true) (w : World) :
    Calls Tryd.prog 23 #[.agg #[.int .i64 3, .int .i64 n, .string s, .bool b, .int .i64 c], .agg #[.int .i64 0, .int .i64 n', .string s', .bool b', .int .i64 c']] w
      fun e w' => e = .returned (.int .i64 (b2i b - b2i b')) ∧ Below w.heap.size w w' := by
  obtain ⟨q1, q2⟩ := b2i_range b
  obtain ⟨q3, q4⟩ := b2i_range b'
  have hw : IntKind.i64.wrap (b2i b - b2i b') = b2i b - b2i b' := by cases b <;> cases b' <;> rfl
  go_enter Tryd.func23, Tryd.ntmps23
  go_wp2_with fail
  go_wp2_with (first | (go_at_call 18; refine (vmay_yes _ _ _ _ _ (by first | assumption | (constructor <;> omega)) (by assumption) _).mono ?_; rintro e w1 ⟨rfl, hb⟩; obtain ⟨hc, hf, hz⟩ := bkeep hb (w.heap.size + 2) (by first | omega | (simp <;> omega))) | (go_at_call 77; refine (cmp_tag _ _ _).mono ?_; rintro e w1 ⟨rfl, hb⟩) | (go_at_call 78; refine (cmp_num _ _ _).mono ?_; rintro e w1 ⟨rfl, hb⟩) | (go_at_call 80; refine (truth_int _ _).mono ?_; rintro e w1 ⟨rfl, rfl⟩) | (go_at_call 79; refine (Tryd.strings_Compare _ _ _).mono ?_; rintro e w1 ⟨rfl, rfl⟩))
  first | (go_region_held3 (fun w' => w'.cell? ⟨w.heap.size, 0, none⟩ = some (.int .i64 3) ∧ w'.cell? ⟨w.heap.size, 1, none⟩ = some (.int .i64 n) ∧ w'.cell? ⟨w.heap.size, 2, none⟩ = some (.string s) ∧ w'.cell? ⟨w.heap.size, 3, none⟩ = some (.bool b) ∧ w'.cell? ⟨w.heap.size, 4, none⟩ = some (.int .i64 c) ∧ w'.cell? ⟨w.heap.size + 1, 0, none⟩ = some (.int .i64 3) ∧ w'.cell? ⟨w.heap.size + 1, 1, none⟩ = some (.int .i64 n') ∧ w'.cell? ⟨w.heap.size + 1, 2, none⟩ = some (.string s') ∧ w'.cell? ⟨w.heap.size + 1, 3, none⟩ = some (.bool b') ∧ w'.cell? ⟨w.heap.size + 1, 4, none⟩ = some (.int .i64 c') ∧ Below w.heap.size w w' ∧ w.heap.size + 2 ≤ w'.heap.size)
    (first | ((go_split_ands; refine ⟨?_, ?_, ?_, ?_, ?_, ?_, ?_, ?_, ?_, ?_, ?_, ?_⟩ <;> first | (rw [hb.cell (by dsimp only; omega)]; assumption) | exact Below.trans (by assumption) (hb.mono (by omega)) | (have := hb.size; omega))) | ((refine ⟨?_, ?_, ?_, ?_, ?_, ?_, ?_, ?_, ?_, ?_, ?_, ?_⟩ <;> first | (simp [go_sem, *]; done) | ((repeat (first | (with_reducible exact Below.refl _ _) | (with_reducible refine Below.alloc ?_ (by first | omega | (dsimp only; omega) | (simp <;> omega)) _) | (with_reducible refine Below.setCell ?_ (by first | omega | (dsimp only; omega) | (simp <;> omega)) _) | (with_reducible refine Below.drew ?_) | (with_reducible refine below_drewN ?_ _) | (with_reducible refine Below.trans ?_ (Below.mono (by assumption) (by first | omega | (dsimp only; omega) | (simp <;> omega)))))); done) | (simp; omega))))
    (first | (go_at_call 80; refine (truth_int _ _).mono ?_; rintro e w1 ⟨rfl, rfl⟩)))
  go_split_ands
  go_wp2
  refine bodyPost_ret (v := .int .i64 (b2i b - b2i b')) ?_ rfl ⟨rfl, by first | assumption | ((repeat (first | (with_reducible exact Below.refl _ _) | (with_reducible refine Below.alloc ?_ (by first | omega | (dsimp only; omega) | (simp <;> omega)) _) | (with_reducible refine Below.setCell ?_ (by first | omega | (dsimp only; omega) | (simp <;> omega)) _) | (with_reducible refine Below.drew ?_) | (with_reducible refine below_drewN ?_ _) | (with_reducible refine Below.trans ?_ (Below.mono (by assumption) (by first | omega | (dsimp only; omega) | (simp <;> omega)))))); done)⟩
  simp [results, Tryd.results23, go_sem, *]

set_option maxRecDepth 100000 in
set_option maxHeartbeats 4000000 in
theorem cmp_3_1 (n : Int) (s : ByteArray) (b : Bool) (c : Int) (n' : Int) (s' : ByteArray) (b' : Bool) (c' : Int) (hn : -9223372036854775808 ≤ n ∧ n ≤ 9223372036854775807) (hn' : -9223372036854775808 ≤ n' ∧ n' ≤ 9223372036854775807) (m : vMay 3 n s b c = true) (m' : vMay 1 n' s' b' c' = true) (w : World) :
    Calls Tryd.prog 23 #[.agg #[.int .i64 3, .int .i64 n, .string s, .bool b, .int .i64 c], .agg #[.int .i64 1, .int .i64 n', .string s', .bool b', .int .i64 c']] w
      fun e w' => e = .returned (.int .i64 (cmpI 3 1)) ∧ Below w.heap.size w w' := by
  go_enter Tryd.func23, Tryd.ntmps23
  go_wp2_with fail
  go_wp2_with (first | (go_at_call 18; refine (vmay_yes _ _ _ _ _ (by first | assumption | (constructor <;> omega)) (by assumption) _).mono ?_; rintro e w1 ⟨rfl, hb⟩; obtain ⟨hc, hf, hz⟩ := bkeep hb (w.heap.size + 2) (by first | omega | (simp <;> omega))) | (go_at_call 77; refine (cmp_tag _ _ _).mono ?_; rintro e w1 ⟨rfl, hb⟩) | (go_at_call 78; refine (cmp_num _ _ _).mono ?_; rintro e w1 ⟨rfl, hb⟩) | (go_at_call 80; refine (truth_int _ _).mono ?_; rintro e w1 ⟨rfl, rfl⟩) | (go_at_call 79; refine (Tryd.strings_Compare _ _ _).mono ?_; rintro e w1 ⟨rfl, rfl⟩))
  go_ret
  exact ⟨rfl, by first | assumption | (go_split_ands; first | assumption | ((repeat (first | (with_reducible exact Below.refl _ _) | (with_reducible refine Below.alloc ?_ (by first | omega | (dsimp only; omega) | (simp <;> omega)) _) | (with_reducible refine Below.setCell ?_ (by first | omega | (dsimp only; omega) | (simp <;> omega)) _) | (with_reducible refine Below.drew ?_) | (with_reducible refine below_drewN ?_ _) | (with_reducible refine Below.trans ?_ (Below.mono (by assumption) (by first | omega | (dsimp only; omega) | (simp <;> omega)))))); done)) | ((repeat (first | (with_reducible exact Below.refl _ _) | (with_reducible refine Below.alloc ?_ (by first | omega | (dsimp only; omega) | (simp <;> omega)) _) | (with_reducible refine Below.setCell ?_ (by first | omega | (dsimp only; omega) | (simp <;> omega)) _) | (with_reducible refine Below.drew ?_) | (with_reducible refine below_drewN ?_ _) | (with_reducible refine Below.trans ?_ (Below.mono (by assumption) (by first | omega | (dsimp only; omega) | (simp <;> omega)))))); done)⟩
set_option maxRecDepth 100000 in
set_option maxHeartbeats 4000000 in
theorem cmp_3_2 (n : Int) (s : ByteArray) (b : Bool) (c : Int) (n' : Int) (s' : ByteArray) (b' : Bool) (c' : Int) (hn : -9223372036854775808 ≤ n ∧ n ≤ 9223372036854775807) (hn' : -9223372036854775808 ≤ n' ∧ n' ≤ 9223372036854775807) (m : vMay 3 n s b c = true) (m' : vMay 2 n' s' b' c' = true) (w : World) :
    Calls Tryd.prog 23 #[.agg #[.int .i64 3, .int .i64 n, .string s, .bool b, .int .i64 c], .agg #[.int .i64 2, .int .i64 n', .string s', .bool b', .int .i64 c']] w
      fun e w' => e = .returned (.int .i64 (cmpI 3 2)) ∧ Below w.heap.size w w' := by
  go_enter Tryd.func23, Tryd.ntmps23
  go_wp2_with fail
  go_wp2_with (first | (go_at_call 18; refine (vmay_yes _ _ _ _ _ (by first | assumption | (constructor <;> omega)) (by assumption) _).mono ?_; rintro e w1 ⟨rfl, hb⟩; obtain ⟨hc, hf, hz⟩ := bkeep hb (w.heap.size + 2) (by first | omega | (simp <;> omega))) | (go_at_call 77; refine (cmp_tag _ _ _).mono ?_; rintro e w1 ⟨rfl, hb⟩) | (go_at_call 78; refine (cmp_num _ _ _).mono ?_; rintro e w1 ⟨rfl, hb⟩) | (go_at_call 80; refine (truth_int _ _).mono ?_; rintro e w1 ⟨rfl, rfl⟩) | (go_at_call 79; refine (Tryd.strings_Compare _ _ _).mono ?_; rintro e w1 ⟨rfl, rfl⟩))
  go_ret
  exact ⟨rfl, by first | assumption | (go_split_ands; first | assumption | ((repeat (first | (with_reducible exact Below.refl _ _) | (with_reducible refine Below.alloc ?_ (by first | omega | (dsimp only; omega) | (simp <;> omega)) _) | (with_reducible refine Below.setCell ?_ (by first | omega | (dsimp only; omega) | (simp <;> omega)) _) | (with_reducible refine Below.drew ?_) | (with_reducible refine below_drewN ?_ _) | (with_reducible refine Below.trans ?_ (Below.mono (by assumption) (by first | omega | (dsimp only; omega) | (simp <;> omega)))))); done)) | ((repeat (first | (with_reducible exact Below.refl _ _) | (with_reducible refine Below.alloc ?_ (by first | omega | (dsimp only; omega) | (simp <;> omega)) _) | (with_reducible refine Below.setCell ?_ (by first | omega | (dsimp only; omega) | (simp <;> omega)) _) | (with_reducible refine Below.drew ?_) | (with_reducible refine below_drewN ?_ _) | (with_reducible refine Below.trans ?_ (Below.mono (by assumption) (by first | omega | (dsimp only; omega) | (simp <;> omega)))))); done)⟩
set_option maxRecDepth 100000 in
set_option maxHeartbeats 4000000 in
theorem cmp_3_3 (n : Int) (s : ByteArray) (b : Bool) (c : Int) (n' : Int) (s' : ByteArray) (b' : Bool) (c' : Int) (hn : -9223372036854775808 ≤ n ∧ n ≤ 9223372036854775807) (hn' : -9223372036854775808 ≤ n' ∧ n' ≤ 9223372036854775807) (m : vMay 3 n s b c = true) (m' : vMay 3 n' s' b' c' = true) (w : World) :
    Calls Tryd.prog 23 #[.agg #[.int .i64 3, .int .i64 n, .string s, .bool b, .int .i64 c], .agg #[.int .i64 3, .int .i64 n', .string s', .bool b', .int .i64 c']] w
      fun e w' => e = .returned (.int .i64 (b2i b - b2i b')) ∧ Below w.heap.size w w' := by
  obtain ⟨q1, q2⟩ := b2i_range b
  obtain ⟨q3, q4⟩ := b2i_range b'
  have hw : IntKind.i64.wrap (b2i b - b2i b') = b2i b - b2i b' := by cases b <;> cases b' <;> rfl
  go_enter Tryd.func23, Tryd.ntmps23
  go_wp2_with fail
  go_wp2_with (first | (go_at_call 18; refine (vmay_yes _ _ _ _ _ (by first | assumption | (constructor <;> omega)) (by assumption) _).mono ?_; rintro e w1 ⟨rfl, hb⟩; obtain ⟨hc, hf, hz⟩ := bkeep hb (w.heap.size + 2) (by first | omega | (simp <;> omega))) | (go_at_call 77; refine (cmp_tag _ _ _).mono ?_; rintro e w1 ⟨rfl, hb⟩) | (go_at_call 78; refine (cmp_num _ _ _).mono ?_; rintro e w1 ⟨rfl, hb⟩) | (go_at_call 80; refine (truth_int _ _).mono ?_; rintro e w1 ⟨rfl, rfl⟩) | (go_at_call 79; refine (Tryd.strings_Compare _ _ _).mono ?_; rintro e w1 ⟨rfl, rfl⟩))
  first | (go_region_held3 (fun w' => w'.cell? ⟨w.heap.size, 0, none⟩ = some (.int .i64 3) ∧ w'.cell? ⟨w.heap.size, 1, none⟩ = some (.int .i64 n) ∧ w'.cell? ⟨w.heap.size, 2, none⟩ = some (.string s) ∧ w'.cell? ⟨w.heap.size, 3, none⟩ = some (.bool b) ∧ w'.cell? ⟨w.heap.size, 4, none⟩ = some (.int .i64 c) ∧ w'.cell? ⟨w.heap.size + 1, 0, none⟩ = some (.int .i64 3) ∧ w'.cell? ⟨w.heap.size + 1, 1, none⟩ = some (.int .i64 n') ∧ w'.cell? ⟨w.heap.size + 1, 2, none⟩ = some (.string s') ∧ w'.cell? ⟨w.heap.size + 1, 3, none⟩ = some (.bool b') ∧ w'.cell? ⟨w.heap.size + 1, 4, none⟩ = some (.int .i64 c') ∧ Below w.heap.size w w' ∧ w.heap.size + 2 ≤ w'.heap.size)
    (first | ((go_split_ands; refine ⟨?_, ?_, ?_, ?_, ?_, ?_, ?_, ?_, ?_, ?_, ?_, ?_⟩ <;> first | (rw [hb.cell (by dsimp only; omega)]; assumption) | exact Below.trans (by assumption) (hb.mono (by omega)) | (have := hb.size; omega))) | ((refine ⟨?_, ?_, ?_, ?_, ?_, ?_, ?_, ?_, ?_, ?_, ?_, ?_⟩ <;> first | (simp [go_sem, *]; done) | ((repeat (first | (with_reducible exact Below.refl _ _) | (with_reducible refine Below.alloc ?_ (by first | omega | (dsimp only; omega) | (simp <;> omega)) _) | (with_reducible refine Below.setCell ?_ (by first | omega | (dsimp only; omega) | (simp <;> omega)) _) | (with_reducible refine Below.drew ?_) | (with_reducible refine below_drewN ?_ _) | (with_reducible refine Below.trans ?_ (Below.mono (by assumption) (by first | omega | (dsimp only; omega) | (simp <;> omega)))))); done) | (simp; omega))))
    (first | (go_at_call 80; refine (truth_int _ _).mono ?_; rintro e w1 ⟨rfl, rfl⟩)))
  go_split_ands
  go_wp2
  refine bodyPost_ret (v := .int .i64 (b2i b - b2i b')) ?_ rfl ⟨rfl, by first | assumption | ((repeat (first | (with_reducible exact Below.refl _ _) | (with_reducible refine Below.alloc ?_ (by first | omega | (dsimp only; omega) | (simp <;> omega)) _) | (with_reducible refine Below.setCell ?_ (by first | omega | (dsimp only; omega) | (simp <;> omega)) _) | (with_reducible refine Below.drew ?_) | (with_reducible refine below_drewN ?_ _) | (with_reducible refine Below.trans ?_ (Below.mono (by assumption) (by first | omega | (dsimp only; omega) | (simp <;> omega)))))); done)⟩
  simp [results, Tryd.results23, go_sem, *]

end Go.Proofs.YtjnjklcnccfgaaaDoor
