/-
  Package value: Compare of any two values.
-/
import Derived.Test.YtjnjklcnccfgaaaDoorValF
import Derived.Test.YtjnjklcnccfgaaaDoorValH
import Derived.WalkSpells
import Derived.WalkLawsBesides
import Derived.StillTactics
import Derived.Laws.Pointers
import Derived.Deep.RegionHeld3
import Derived.Deep.QuietTactic
import Derived.BigQuiet
import Derived.RowKit3
import Derived.Lib.Hide
import Derived.Lib.OthersKept
import Derived.OwnWalk
import Derived.Lib.IndexLaws
import Derived.Lib.ItoaMem
namespace Go.Proofs.YtjnjklcnccfgaaaDoor
open Go.RowKit

set_option maxRecDepth 100000 in
set_option maxHeartbeats 4000000 in
theorem cmp_no1 (t n : Int) (s : ByteArray) (b : Bool) (c : Int) (t' n' : Int) (s' : ByteArray) (b' : Bool) (c' : Int) (hn : -9223372036854775808 ≤ n ∧ n ≤ 9223372036854775807) (hn' : -9223372036854775808 ≤ n' ∧ n' ≤ 9223372036854775807) (m : vMay t n s b c = false) (w : World) :
    Calls Tryd.prog 23 #[.agg #[.int .i64 t, .int .i64 n, .string s, .bool b, .int .i64 c], .agg #[.int .i64 t', .int .i64 n', .string s', .bool b', .int .i64 c']] w
      fun e w' => e = .returned (.int .i64 0) ∧ Below w.heap.size w w' := by
  go_enter Tryd.func23, Tryd.ntmps23
  go_wp2_with fail
  go_wp2_with (go_at_call 18; refine (vmay_not _ _ _ _ _ (by first | assumption | (constructor <;> omega)) (by assumption) _).mono ?_; rintro e w1 ⟨rfl, hb⟩; obtain ⟨hc, hf, hz⟩ := bkeep hb (w.heap.size + 2) (by first | omega | (simp <;> omega)))
  go_ret
  exact ⟨rfl, by first | assumption | (go_split_ands; first | assumption | ((repeat (first | (with_reducible exact Below.refl _ _) | (with_reducible refine Below.alloc ?_ (by first | omega | (dsimp only; omega) | (simp <;> omega)) _) | (with_reducible refine Below.setCell ?_ (by first | omega | (dsimp only; omega) | (simp <;> omega)) _) | (with_reducible refine Below.drew ?_) | (with_reducible refine below_drewN ?_ _) | (with_reducible refine Below.trans ?_ (Below.mono (by assumption) (by first | omega | (dsimp only; omega) | (simp <;> omega)))))); done)) | ((repeat (first | (with_reducible exact Below.refl _ _) | (with_reducible refine Below.alloc ?_ (by first | omega | (dsimp only; omega) | (simp <;> omega)) _) | (with_reducible refine Below.setCell ?_ (by first | omega | (dsimp only; omega) | (simp <;> omega)) _) | (with_reducible refine Below.drew ?_) | (with_reducible refine below_drewN ?_ _) | (with_reducible refine Below.trans ?_ (Below.mono (by assumption) (by first | omega | (dsimp only; omega) | (simp <;> omega)))))); done)⟩
set_option maxRecDepth 100000 in
set_option maxHeartbeats 4000000 in
theorem cmp_no2 (t n : Int) (s : ByteArray) (b : Bool) (c : Int) (t' n' : Int) (s' : ByteArray) (b' : Bool) (c' : Int) (hn : -9223372036854775808 ≤ n ∧ n ≤ 9223372036854775807) (hn' : -9223372036854775808 ≤ n' ∧ n' ≤ 9223372036854775807) (m : vMay t n s b c = true) (m' : vMay t' n' s' b' c' = false) (w : World) :
    Calls Tryd.prog 23 #[.agg #[.int .i64 t, .int .i64 n, .string s, .bool b, .int .i64 c], .agg #[.int .i64 t', .int .i64 n', .string s', .bool b', .int .i64 c']] w
      fun e w' => e = .returned (.int .i64 0) ∧ Below w.heap.size w w' := by
  go_enter Tryd.func23, Tryd.ntmps23
  go_wp2_with fail
  go_wp2_with (first | (go_at_call 18; refine (vmay_yes _ _ _ _ _ (by first | assumption | (constructor <;> omega)) (by assumption) _).mono ?_; rintro e w1 ⟨rfl, hb⟩; obtain ⟨hc, hf, hz⟩ := bkeep hb (w.heap.size + 2) (by first | omega | (simp <;> omega))) | (go_at_call 18; refine (vmay_not _ _ _ _ _ (by first | assumption | (constructor <;> omega)) (by assumption) _).mono ?_; rintro e w1 ⟨rfl, hb⟩; obtain ⟨hc, hf, hz⟩ := bkeep hb (w.heap.size + 2) (by first | omega | (simp <;> omega))))
  go_ret
  exact ⟨rfl, by first | assumption | (go_split_ands; first | assumption | ((repeat (first | (with_reducible exact Below.refl _ _) | (with_reducible refine Below.alloc ?_ (by first | omega | (dsimp only; omega) | (simp <;> omega)) _) | (with_reducible refine Below.setCell ?_ (by first | omega | (dsimp only; omega) | (simp <;> omega)) _) | (with_reducible refine Below.drew ?_) | (with_reducible refine below_drewN ?_ _) | (with_reducible refine Below.trans ?_ (Below.mono (by assumption) (by first | omega | (dsimp only; omega) | (simp <;> omega)))))); done)) | ((repeat (first | (with_reducible exact Below.refl _ _) | (with_reducible refine Below.alloc ?_ (by first | omega | (dsimp only; omega) | (simp <;> omega)) _) | (with_reducible refine Below.setCell ?_ (by first | omega | (dsimp only; omega) | (simp <;> omega)) _) | (with_reducible refine Below.drew ?_) | (with_reducible refine below_drewN ?_ _) | (with_reducible refine Below.trans ?_ (Below.mono (by assumption) (by first | omega | (dsimp only; omega) | (simp <;> omega)))))); done)⟩
set_option maxRecDepth 100000 in
set_option maxHeartbeats 4000000 in
theorem cmp_no3 (n : Int) (s : ByteArray) (b : Bool) (c : Int) (t' n' : Int) (s' : ByteArray) (b' : Bool) (c' : Int) (hn : -9223372036854775808 ≤ n ∧ n ≤ 9223372036854775807) (hn' : -9223372036854775808 ≤ n' ∧ n' ≤ 9223372036854775807) (m : vMay 4 n s b c = true) (m' : vMay t' n' s' b' c' = true) (w : World) :
    Calls Tryd.prog 23 #[.agg #[.int .i64 4, .int .i64 n, .string s, .bool b, .int .i64 c], .agg #[.int .i64 t', .int .i64 n', .string s', .bool b', .int .i64 c']] w
      fun e w' => e = .returned (.int .i64 0) ∧ Below w.heap.size w w' := by
  go_enter Tryd.func23, Tryd.ntmps23
  go_wp2_with fail
  go_wp2_with (go_at_call 18; refine (vmay_yes _ _ _ _ _ (by first | assumption | (constructor <;> omega)) (by assumption) _).mono ?_; rintro e w1 ⟨rfl, hb⟩; obtain ⟨hc, hf, hz⟩ := bkeep hb (w.heap.size + 2) (by first | omega | (simp <;> omega)))
  go_ret
  exact ⟨rfl, by first | assumption | (go_split_ands; first | assumption | ((repeat (first | (with_reducible exact Below.refl _ _) | (with_reducible refine Below.alloc ?_ (by first | omega | (dsimp only; omega) | (simp <;> omega)) _) | (with_reducible refine Below.setCell ?_ (by first | omega | (dsimp only; omega) | (simp <;> omega)) _) | (with_reducible refine Below.drew ?_) | (with_reducible refine below_drewN ?_ _) | (with_reducible refine Below.trans ?_ (Below.mono (by assumption) (by first | omega | (dsimp only; omega) | (simp <;> omega)))))); done)) | ((repeat (first | (with_reducible exact Below.refl _ _) | (with_reducible refine Below.alloc ?_ (by first | omega | (dsimp only; omega) | (simp <;> omega)) _) | (with_reducible refine Below.setCell ?_ (by first | omega | (dsimp only; omega) | (simp <;> omega)) _) | (with_reducible refine Below.drew ?_) | (with_reducible refine below_drewN ?_ _) | (with_reducible refine Below.trans ?_ (Below.mono (by assumption) (by first | omega | (dsimp only; omega) | (simp <;> omega)))))); done)⟩
set_option maxRecDepth 100000 in
set_option maxHeartbeats 4000000 in
theorem cmp_no4_0 (n : Int) (s : ByteArray) (b : Bool) (c : Int) (n' : Int) (s' : ByteArray) (b' : Bool) (c' : Int) (hn : -9223372036854775808 ≤ n ∧ n ≤ 9223372036854775807) (hn' : -9223372036854775808 ≤ n' ∧ n' ≤ 9223372036854775807) (m : vMay 0 n s b c = true) (m' : vMay 4 n' s' b' c' = true) (w : World) :
    Calls Tryd.prog 23 #[.agg #[.int .i64 0, .int .i64 n, .string s, .bool b, .int .i64 c], .agg #[.int .i64 4, .int .i64 n', .string s', .bool b', .int .i64 c']] w
      fun e w' => e = .returned (.int .i64 0) ∧ Below w.heap.size w w' := by
  go_enter Tryd.func23, Tryd.ntmps23
  go_wp2_with fail
  go_wp2_with (go_at_call 18; refine (vmay_yes _ _ _ _ _ (by first | assumption | (constructor <;> omega)) (by assumption) _).mono ?_; rintro e w1 ⟨rfl, hb⟩; obtain ⟨hc, hf, hz⟩ := bkeep hb (w.heap.size + 2) (by first | omega | (simp <;> omega)))
  go_ret
  exact ⟨rfl, by first | assumption | (go_split_ands; first | assumption | ((repeat (first | (with_reducible exact Below.refl _ _) | (with_reducible refine Below.alloc ?_ (by first | omega | (dsimp only; omega) | (simp <;> omega)) _) | (with_reducible refine Below.setCell ?_ (by first | omega | (dsimp only; omega) | (simp <;> omega)) _) | (with_reducible refine Below.drew ?_) | (with_reducible refine below_drewN ?_ _) | (with_reducible refine Below.trans ?_ (Below.mono (by assumption) (by first | omega | (dsimp only; omega) | (simp <;> omega)))))); done)) | ((repeat (first | (with_reducible exact Below.refl _ _) | (with_reducible refine Below.alloc ?_ (by first | omega | (dsimp only; omega) | (simp <;> omega)) _) | (with_reducible refine Below.setCell ?_ (by first | omega | (dsimp only; omega) | (simp <;> omega)) _) | (with_reducible refine Below.drew ?_) | (with_reducible refine below_drewN ?_ _) | (with_reducible refine Below.trans ?_ (Below.mono (by assumption) (by first | omega | (dsimp only; omega) | (simp <;> omega)))))); done)⟩
set_option maxRecDepth 100000 in
set_option maxHeartbeats 4000000 in
theorem cmp_no4_1 (n : Int) (s : ByteArray) (b : Bool) (c : Int) (n' : Int) (s' : ByteArray) (b' : Bool) (c' : Int) (hn : -9223372036854775808 ≤ n ∧ n ≤ 9223372036854775807) (hn' : -9223372036854775808 ≤ n' ∧ n' ≤ 9223372036854775807) (m : vMay 1 n s b c = true) (m' : vMay 4 n' s' b' c' = true) (w : World) :
    Calls Tryd.prog 23 #[.agg #[.int .i64 1, .int .i64 n, .string s, .bool b, .int .i64 c], .agg #[.int .i64 4, .int .i64 n', .string s', .bool b', .int .i64 c']] w
      fun e w' => e = .returned (.int .i64 0) ∧ Below w.heap.size w w' := by
  go_enter Tryd.func23, Tryd.ntmps23
  go_wp2_with fail
  go_wp2_with (go_at_call 18; refine (vmay_yes _ _ _ _ _ (by first | assumption | (constructor <;> omega)) (by assumption) _).mono ?_; rintro e w1 ⟨rfl, hb⟩; obtain ⟨hc, hf, hz⟩ := bkeep hb (w.heap.size + 2) (by first | omega | (simp <;> omega)))
  go_ret
  exact ⟨rfl, by first | assumption | (go_split_ands; first | assumption | ((repeat (first | (with_reducible exact Below.refl _ _) | (with_reducible refine Below.alloc ?_ (by first | omega | (dsimp only; omega) | (simp <;> omega)) _) | (with_reducible refine Below.setCell ?_ (by first | omega | (dsimp only; omega) | (simp <;> omega)) _) | (with_reducible refine Below.drew ?_) | (with_reducible refine below_drewN ?_ _) | (with_reducible refine Below.trans ?_ (Below.mono (by assumption) (by first | omega | (dsimp only; omega) | (simp <;> omega)))))); done)) | ((repeat (first | (with_reducible exact Below.refl _ _) | (with_reducible refine Below.alloc ?_ (by first | omega | (dsimp only; omega) | (simp <;> omega)) _) | (with_reducible refine Below.setCell ?_ (by first | omega | (dsimp only; omega) | (simp <;> omega)) _) | (with_reducible refine Below.drew ?_) | (with_reducible refine below_drewN ?_ _) | (with_reducible refine Below.trans ?_ (Below.mono (by assumption) (by first | omega | (dsimp only; omega) | (simp <;> omega)))))); done)⟩
set_option maxRecDepth 100000 in
set_option maxHeartbeats 4000000 in
theorem cmp_no4_2 (n : Int) (s : ByteArray) (b : Bool) (c : Int) (n' : Int) (s' : ByteArray) (b' : Bool) (c' : Int) (hn : -9223372036854775808 ≤ n ∧ n ≤ 9223372036854775807) (hn' : -9223372036854775808 ≤ n' ∧ n' ≤ 9223372036854775807) (m : vMay 2 n s b c = true) (m' : vMay 4 n' s' b' c' = true) (w : World) :
    Calls Tryd.prog 23 #[.agg #[.int .i64 2, .int .i64 n, .string s, .bool b, .int .i64 c], .agg #[.int .i64 4, .int .i64 n', .string s', .bool b', .int .i64 c']] w
      fun e w' => e = .returned (.int .i64 0) ∧ Below w.heap.size w w' := by
  go_enter Tryd.func23, Tryd.ntmps23
  go_wp2_with fail
  go_wp2_with (go_at_call 18; refine (vmay_yes _ _ _ _ _ (by first | assumption | (constructor <;> omega)) (by assumption) _).mono ?_; rintro e w1 ⟨rfl, hb⟩; obtain ⟨hc, hf, hz⟩ := bkeep hb (w.heap.size + 2) (by first | omega | (simp <;> omega)))
  go_ret
  exact ⟨rfl, by first | assumption | (go_split_ands; first | assumption | ((repeat (first | (with_reducible exact Below.refl _ _) | (with_reducible refine Below.alloc ?_ (by first | omega | (dsimp only; omega) | (simp <;> omega)) _) | (with_reducible refine Below.setCell ?_ (by first | omega | (dsimp only; omega) | (simp <;> omega)) _) | (with_reducible refine Below.drew ?_) | (with_reducible refine below_drewN ?_ _) | (with_reducible refine Below.trans ?_ (Below.mono (by assumption) (by first | omega | (dsimp only; omega) | (simp <;> omega)))))); done)) | ((repeat (first | (with_reducible exact Below.refl _ _) | (with_reducible refine Below.alloc ?_ (by first | omega | (dsimp only; omega) | (simp <;> omega)) _) | (with_reducible refine Below.setCell ?_ (by first | omega | (dsimp only; omega) | (simp <;> omega)) _) | (with_reducible refine Below.drew ?_) | (with_reducible refine below_drewN ?_ _) | (with_reducible refine Below.trans ?_ (Below.mono (by assumption) (by first | omega | (dsimp only; omega) | (simp <;> omega)))))); done)⟩
set_option maxRecDepth 100000 in
set_option maxHeartbeats 4000000 in
theorem cmp_no4_3 (n : Int) (s : ByteArray) (b : Bool) (c : Int) (n' : Int) (s' : ByteArray) (b' : Bool) (c' : Int) (hn : -9223372036854775808 ≤ n ∧ n ≤ 9223372036854775807) (hn' : -9223372036854775808 ≤ n' ∧ n' ≤ 9223372036854775807) (m : vMay 3 n s b c = true) (m' : vMay 4 n' s' b' c' = true) (w : World) :
    Calls Tryd.prog 23 #[.agg #[.int .i64 3, .int .i64 n, .string s, .bool b, .int .i64 c], .agg #[.int .i64 4, .int .i64 n', .string s', .bool b', .int .i64 c']] w
      fun e w' => e = .returned (.int .i64 0) ∧ Below w.heap.size w w' := by
  go_enter Tryd.func23, Tryd.ntmps23
  go_wp2_with fail
  go_wp2_with (go_at_call 18; refine (vmay_yes _ _ _ _ _ (by first | assumption | (constructor <;> omega)) (by assumption) _).mono ?_; rintro e w1 ⟨rfl, hb⟩; obtain ⟨hc, hf, hz⟩ := bkeep hb (w.heap.size + 2) (by first | omega | (simp <;> omega)))
  go_ret
  exact ⟨rfl, by first | assumption | (go_split_ands; first | assumption | ((repeat (first | (with_reducible exact Below.refl _ _) | (with_reducible refine Below.alloc ?_ (by first | omega | (dsimp only; omega) | (simp <;> omega)) _) | (with_reducible refine Below.setCell ?_ (by first | omega | (dsimp only; omega) | (simp <;> omega)) _) | (with_reducible refine Below.drew ?_) | (with_reducible refine below_drewN ?_ _) | (with_reducible refine Below.trans ?_ (Below.mono (by assumption) (by first | omega | (dsimp only; omega) | (simp <;> omega)))))); done)) | ((repeat (first | (with_reducible exact Below.refl _ _) | (with_reducible refine Below.alloc ?_ (by first | omega | (dsimp only; omega) | (simp <;> omega)) _) | (with_reducible refine Below.setCell ?_ (by first | omega | (dsimp only; omega) | (simp <;> omega)) _) | (with_reducible refine Below.drew ?_) | (with_reducible refine below_drewN ?_ _) | (with_reducible refine Below.trans ?_ (Below.mono (by assumption) (by first | omega | (dsimp only; omega) | (simp <;> omega)))))); done)⟩
theorem cmpv_any (t n : Int) (s : ByteArray) (b : Bool) (c : Int) (t' n' : Int) (s' : ByteArray) (b' : Bool) (c' : Int) (hn : -9223372036854775808 ≤ n ∧ n ≤ 9223372036854775807) (hn' : -9223372036854775808 ≤ n' ∧ n' ≤ 9223372036854775807) (w : World) : Calls Tryd.prog 23 #[.agg #[.int .i64 t, .int .i64 n, .string s, .bool b, .int .i64 c], .agg #[.int .i64 t', .int .i64 n', .string s', .bool b', .int .i64 c']] w fun e w' => e = .returned (.int .i64 (cmpV t n s b c t' n' s' b' c')) ∧ Below w.heap.size w w' := by
  by_cases m : vMay t n s b c = true
  · by_cases m' : vMay t' n' s' b' c' = true
    · by_cases h4 : t = 4
      · subst h4
        rw [show cmpV 4 n s b c t' n' s' b' c' = 0 from by simp [cmpV]]
        exact cmp_no3 n s b c t' n' s' b' c' hn hn' m m' w
      · obtain ⟨r1, r2, -⟩ := (vMay_iff _ _ _ _ _).1 m
        obtain ⟨r3, r4, -⟩ := (vMay_iff _ _ _ _ _).1 m'
        have ht : t = 0 ∨ t = 1 ∨ t = 2 ∨ t = 3 := by omega
        by_cases h5 : t' = 4
        · subst h5
          rw [show cmpV t n s b c 4 n' s' b' c' = 0 from by simp [cmpV]]
          clear r1 r2 r3 r4
          rcases ht with rfl | rfl | rfl | rfl
          · exact cmp_no4_0 n s b c n' s' b' c' hn hn' m m' w
          · exact cmp_no4_1 n s b c n' s' b' c' hn hn' m m' w
          · exact cmp_no4_2 n s b c n' s' b' c' hn hn' m m' w
          · exact cmp_no4_3 n s b c n' s' b' c' hn hn' m m' w
        · have hu : t' = 0 ∨ t' = 1 ∨ t' = 2 ∨ t' = 3 := by omega
          clear r1 r2 r3 r4
          rcases ht with rfl | rfl | rfl | rfl <;> rcases hu with rfl | rfl | rfl | rfl
          · rw [show cmpV 0 n s b c 0 n' s' b' c' = b2i b - b2i b' from by simp [cmpV, cmpT, m, m']]
            exact cmp_0_0 n s b c n' s' b' c' hn hn' m m' w
          · rw [show cmpV 0 n s b c 1 n' s' b' c' = cmpI n n' from by simp [cmpV, cmpT, m, m']]
            exact cmp_0_1 n s b c n' s' b' c' hn hn' m m' w
          · rw [show cmpV 0 n s b c 2 n' s' b' c' = Lib.compareBytes s.data.toList s'.data.toList from by simp [cmpV, cmpT, m, m']]
            exact cmp_0_2 n s b c n' s' b' c' hn hn' m m' w
          · rw [show cmpV 0 n s b c 3 n' s' b' c' = b2i b - b2i b' from by simp [cmpV, cmpT, m, m']]
            exact cmp_0_3 n s b c n' s' b' c' hn hn' m m' w
          · rw [show cmpV 1 n s b c 0 n' s' b' c' = cmpI n n' from by simp [cmpV, cmpT, m, m']]
            exact cmp_1_0 n s b c n' s' b' c' hn hn' m m' w
          · rw [show cmpV 1 n s b c 1 n' s' b' c' = cmpI n n' from by simp [cmpV, cmpT, m, m']]
            exact cmp_1_1 n s b c n' s' b' c' hn hn' m m' w
          · rw [show cmpV 1 n s b c 2 n' s' b' c' = cmpI 1 2 from by simp [cmpV, cmpT, m, m']]
            exact cmp_1_2 n s b c n' s' b' c' hn hn' m m' w
          · rw [show cmpV 1 n s b c 3 n' s' b' c' = cmpI 1 3 from by simp [cmpV, cmpT, m, m']]
            exact cmp_1_3 n s b c n' s' b' c' hn hn' m m' w
          · rw [show cmpV 2 n s b c 0 n' s' b' c' = Lib.compareBytes s.data.toList s'.data.toList from by simp [cmpV, cmpT, m, m']]
            exact cmp_2_0 n s b c n' s' b' c' hn hn' m m' w
          · rw [show cmpV 2 n s b c 1 n' s' b' c' = cmpI 2 1 from by simp [cmpV, cmpT, m, m']]
            exact cmp_2_1 n s b c n' s' b' c' hn hn' m m' w
          · rw [show cmpV 2 n s b c 2 n' s' b' c' = Lib.compareBytes s.data.toList s'.data.toList from by simp [cmpV, cmpT, m, m']]
            exact cmp_2_2 n s b c n' s' b' c' hn hn' m m' w
          · rw [show cmpV 2 n s b c 3 n' s' b' c' = cmpI 2 3 from by simp [cmpV, cmpT, m, m']]
            exact cmp_2_3 n s b c n' s' b' c' hn hn' m m' w
          · rw [show cmpV 3 n s b c 0 n' s' b' c' = b2i b - b2i b' from by simp [cmpV, cmpT, m, m']]
            exact cmp_3_0 n s b c n' s' b' c' hn hn' m m' w
          · rw [show cmpV 3 n s b c 1 n' s' b' c' = cmpI 3 1 from by simp [cmpV, cmpT, m, m']]
            exact cmp_3_1 n s b c n' s' b' c' hn hn' m m' w
          · rw [show cmpV 3 n s b c 2 n' s' b' c' = cmpI 3 2 from by simp [cmpV, cmpT, m, m']]
            exact cmp_3_2 n s b c n' s' b' c' hn hn' m m' w
          · rw [show cmpV 3 n s b c 3 n' s' b' c' = b2i b - b2i b' from by simp [cmpV, cmpT, m, m']]
            exact cmp_3_3 n s b c n' s' b' c' hn hn' m m' w
    · have m' : vMay t' n' s' b' c' = false := by simpa using m'
      rw [show cmpV t n s b c t' n' s' b' c' = 0 from by simp [cmpV, m']]
      exact cmp_no2 t n s b c t' n' s' b' c' hn hn' m m' w
  · have m : vMay t n s b c = false := by simpa using m
    rw [show cmpV t n s b c t' n' s' b' c' = 0 from by simp [cmpV, m]]
    exact cmp_no1 t n s b c t' n' s' b' c' hn hn' m w
end Go.Proofs.YtjnjklcnccfgaaaDoor
