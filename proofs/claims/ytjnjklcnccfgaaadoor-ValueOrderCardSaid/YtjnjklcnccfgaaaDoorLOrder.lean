/-
  The walk of the law of order.
-/
import Derived.Test.YtjnjklcnccfgaaaDoorValJ
import Derived.Test.YtjnjklcnccfgaaaDoorValG
import Derived.WalkSpells
import Derived.WalkLawsBesides
import Derived.StillTactics
import Derived.Laws.Pointers
import Derived.Deep.RegionHeld3
import Derived.Deep.QuietTactic
import Derived.BigQuiet
import Derived.RowKit3
import Derived.Lib.Hide
import Derived.Lib.OthersKept
import Derived.OwnWalk
import Derived.Lib.IndexLaws
import Derived.Lib.ItoaMem
namespace Go.Proofs.YtjnjklcnccfgaaaDoor
open Go.RowKit

theorem cmpv_as (t n : Int) (s : ByteArray) (b : Bool) (c : Int) (t' n' : Int) (s' : ByteArray) (b' : Bool) (c' : Int) (hn : -9223372036854775808 ≤ n ∧ n ≤ 9223372036854775807) (hn' : -9223372036854775808 ≤ n' ∧ n' ≤ 9223372036854775807) (x : Int) (h : cmpV t n s b c t' n' s' b' c' = x) (w : World) : Calls Tryd.prog 23 #[.agg #[.int .i64 t, .int .i64 n, .string s, .bool b, .int .i64 c], .agg #[.int .i64 t', .int .i64 n', .string s', .bool b', .int .i64 c']] w fun e w' => e = .returned (.int .i64 x) ∧ Below w.heap.size w w' := by
  have := cmpv_any t n s b c t' n' s' b' c' hn hn' w
  rw [h] at this
  exact this
set_option maxRecDepth 100000 in
set_option maxHeartbeats 400000 in
theorem rank_no (t n : Int) (s : ByteArray) (b : Bool) (c : Int) (hn : -9223372036854775808 ≤ n ∧ n ≤ 9223372036854775807) (m : vMay t n s b c = false) (w : World) :
    Calls Tryd.prog 29 #[.agg #[.int .i64 t, .int .i64 n, .string s, .bool b, .int .i64 c]] w
      fun e w' => e = .returned (.bool false) ∧ Below w.heap.size w w' := by
  go_enter Tryd.func29, Tryd.ntmps29
  go_wp2_with (go_at_call 19; refine (rvmay_not _ _ _ _ _ (by first | assumption | (constructor <;> omega)) (by assumption) _).mono ?_; rintro e w1 ⟨rfl, hb⟩; obtain ⟨hc, hf, hz⟩ := bkeep hb (w.heap.size + 1) (by first | omega | (simp <;> omega)))
  go_ret
  exact ⟨rfl, by first | assumption | (go_split_ands; first | assumption | ((repeat (first | (with_reducible exact Below.refl _ _) | (with_reducible refine Below.alloc ?_ (by first | omega | (dsimp only; omega) | (simp <;> omega)) _) | (with_reducible refine Below.setCell ?_ (by first | omega | (dsimp only; omega) | (simp <;> omega)) _) | (with_reducible refine Below.drew ?_) | (with_reducible refine below_drewN ?_ _) | (with_reducible refine Below.trans ?_ (Below.mono (by assumption) (by first | omega | (dsimp only; omega) | (simp <;> omega)))))); done)) | ((repeat (first | (with_reducible exact Below.refl _ _) | (with_reducible refine Below.alloc ?_ (by first | omega | (dsimp only; omega) | (simp <;> omega)) _) | (with_reducible refine Below.setCell ?_ (by first | omega | (dsimp only; omega) | (simp <;> omega)) _) | (with_reducible refine Below.drew ?_) | (with_reducible refine below_drewN ?_ _) | (with_reducible refine Below.trans ?_ (Below.mono (by assumption) (by first | omega | (dsimp only; omega) | (simp <;> omega)))))); done)⟩
set_option maxRecDepth 100000 in
set_option maxHeartbeats 400000 in
theorem rank_yes (t n : Int) (s : ByteArray) (b : Bool) (c : Int) (hn : -9223372036854775808 ≤ n ∧ n ≤ 9223372036854775807) (m : vMay t n s b c = true) (w : World) :
    Calls Tryd.prog 29 #[.agg #[.int .i64 t, .int .i64 n, .string s, .bool b, .int .i64 c]] w
      fun e w' => e = .returned (.bool (!decide (t = 0) && !decide (t = 4))) ∧ Below w.heap.size w w' := by
  go_enter Tryd.func29, Tryd.ntmps29
  go_wp2_with (go_at_call 19; refine (rvmay_yes _ _ _ _ _ (by first | assumption | (constructor <;> omega)) (by assumption) _).mono ?_; rintro e w1 ⟨rfl, hb⟩; obtain ⟨hc, hf, hz⟩ := bkeep hb (w.heap.size + 1) (by first | omega | (simp <;> omega)))
  all_goals go_ret
  all_goals refine ⟨ret_b (Bool.eq_iff_iff.2 ?_), by first | assumption | (go_split_ands; first | assumption | ((repeat (first | (with_reducible exact Below.refl _ _) | (with_reducible refine Below.alloc ?_ (by first | omega | (dsimp only; omega) | (simp <;> omega)) _) | (with_reducible refine Below.setCell ?_ (by first | omega | (dsimp only; omega) | (simp <;> omega)) _) | (with_reducible refine Below.drew ?_) | (with_reducible refine below_drewN ?_ _) | (with_reducible refine Below.trans ?_ (Below.mono (by assumption) (by first | omega | (dsimp only; omega) | (simp <;> omega)))))); done)) | ((repeat (first | (with_reducible exact Below.refl _ _) | (with_reducible refine Below.alloc ?_ (by first | omega | (dsimp only; omega) | (simp <;> omega)) _) | (with_reducible refine Below.setCell ?_ (by first | omega | (dsimp only; omega) | (simp <;> omega)) _) | (with_reducible refine Below.drew ?_) | (with_reducible refine below_drewN ?_ _) | (with_reducible refine Below.trans ?_ (Below.mono (by assumption) (by first | omega | (dsimp only; omega) | (simp <;> omega)))))); done)⟩
  all_goals simp [*]
theorem rank_as (t n : Int) (s : ByteArray) (b : Bool) (c : Int) (hn : -9223372036854775808 ≤ n ∧ n ≤ 9223372036854775807) (p : Bool) (h : rankV t n s b c = p) (w : World) : Calls Tryd.prog 29 #[.agg #[.int .i64 t, .int .i64 n, .string s, .bool b, .int .i64 c]] w fun e w' => e = .returned (.bool p) ∧ Below w.heap.size w w' := by
  subst h
  by_cases m : vMay t n s b c = true
  · rw [show rankV t n s b c = (!decide (t = 0) && !decide (t = 4)) from by simp [rankV, m]]
    exact rank_yes t n s b c hn m w
  · have m : vMay t n s b c = false := by simpa using m
    rw [show rankV t n s b c = false from by simp [rankV, m]]
    exact rank_no t n s b c hn m w
set_option maxRecDepth 100000 in
set_option maxHeartbeats 2000000 in
theorem ord_a0 (t n : Int) (s : ByteArray) (b : Bool) (c : Int) (t' n' : Int) (s' : ByteArray) (b' : Bool) (c' : Int) (u m : Int) (r : ByteArray) (d : Bool) (k : Int) (hn : -9223372036854775808 ≤ n ∧ n ≤ 9223372036854775807) (hn' : -9223372036854775808 ≤ n' ∧ n' ≤ 9223372036854775807) (hm : -9223372036854775808 ≤ m ∧ m ≤ 9223372036854775807) (y z : Int) (hx : cmpV t n s b c t' n' s' b' c' = (-1)) (hy : cmpV t' n' s' b' c' u m r d k = y) (hz : cmpV t n s b c u m r d k = z) (h1 : rankV t n s b c = false) (w : World) (ht : Tab w) :
    Calls Tryd.prog 6 #[.agg #[.int .i64 t, .int .i64 n, .string s, .bool b, .int .i64 c], .agg #[.int .i64 t', .int .i64 n', .string s', .bool b', .int .i64 c'], .agg #[.int .i64 u, .int .i64 m, .string r, .bool d, .int .i64 k]] w
      fun e w' => e = .returned (.bool true) ∧ Below w.heap.size w w' := by
  have hx' := Lib.hid (show cmpV t' n' s' b' c' t n s b c = (1) by first | (rw [cmpV_neg, hx]; done) | (rw [cmpV_neg, hx]; rfl))
  have hs := Lib.hid (cmpV_self t n s b c)
  have HX := Lib.hid hx
  have HY := Lib.hid hy
  have HZ := Lib.hid hz
  clear hx hy hz
  go_enter Tryd.func6, Tryd.ntmps6
  go_wp2_with fail
  refine (cmpv_as t n s b c t' n' s' b' c' (by first | assumption | (constructor <;> omega)) (by first | assumption | (constructor <;> omega)) (-1) HX.out _).mono ?_
  rintro e w1 ⟨rfl, hb1⟩
  obtain ⟨hc1, hf1, hz1⟩ := bkeep hb1 (w.heap.size + 3) (by first | omega | (simp <;> omega))
  have q1 : Below w.heap.size w w1 := by (repeat (first | (with_reducible exact Below.refl _ _) | (with_reducible refine Below.alloc ?_ (by first | omega | (dsimp only; omega) | (simp <;> omega)) _) | (with_reducible refine Below.setCell ?_ (by first | omega | (dsimp only; omega) | (simp <;> omega)) _) | (with_reducible refine Below.drew ?_) | (with_reducible refine below_drewN ?_ _) | (with_reducible refine Below.trans ?_ (Below.mono (by assumption) (by first | omega | (dsimp only; omega) | (simp <;> omega))))))
  go_wp2_with fail
  refine (cmpv_as t' n' s' b' c' u m r d k (by first | assumption | (constructor <;> omega)) (by first | assumption | (constructor <;> omega)) y HY.out _).mono ?_
  rintro e w2 ⟨rfl, hb2⟩
  obtain ⟨hc2, hf2, hz2⟩ := bkeep hb2 (w.heap.size + 3) (by first | omega | (simp <;> omega))
  have q2 : Below w.heap.size w w2 := q1.trans (hb2.mono (by omega))
  go_wp2_with fail
  refine (cmpv_as t n s b c u m r d k (by first | assumption | (constructor <;> omega)) (by first | assumption | (constructor <;> omega)) z HZ.out _).mono ?_
  rintro e w3 ⟨rfl, hb3⟩
  obtain ⟨hc3, hf3, hz3⟩ := bkeep hb3 (w.heap.size + 3) (by first | omega | (simp <;> omega))
  have q3 : Below w.heap.size w w3 := q2.trans (hb3.mono (by omega))
  go_wp2_with fail
  refine (known_any _ (Tab.below ht (q3))).mono ?_
  rintro e w4 ⟨rfl, hb4⟩
  obtain ⟨hc4, hf4, hz4⟩ := bkeep hb4 (w.heap.size + 3) (by first | omega | (simp <;> omega))
  have q4 : Below w.heap.size w w4 := q3.trans (hb4.mono (by omega))
  go_wp2_with fail
  refine (cmpv_as t' n' s' b' c' t n s b c (by first | assumption | (constructor <;> omega)) (by first | assumption | (constructor <;> omega)) (1) hx'.out _).mono ?_
  rintro e w5 ⟨rfl, hb5⟩
  obtain ⟨hc5, hf5, hz5⟩ := bkeep hb5 (w.heap.size + 3) (by first | omega | (simp <;> omega))
  have q5 : Below w.heap.size w w5 := q4.trans (hb5.mono (by omega))
  go_wp2_with fail
  refine (cmpv_as t n s b c t n s b c (by first | assumption | (constructor <;> omega)) (by first | assumption | (constructor <;> omega)) 0 hs.out _).mono ?_
  rintro e w6 ⟨rfl, hb6⟩
  obtain ⟨hc6, hf6, hz6⟩ := bkeep hb6 (w.heap.size + 3) (by first | omega | (simp <;> omega))
  have q6 : Below w.heap.size w w6 := q5.trans (hb6.mono (by omega))
  go_wp2_with fail
  refine (rank_as t n s b c (by first | assumption | (constructor <;> omega)) _ h1 _).mono ?_
  rintro e w7 ⟨rfl, hb7⟩
  obtain ⟨hc7, hf7, hz7⟩ := bkeep hb7 (w.heap.size + 3) (by first | omega | (simp <;> omega))
  have q7 : Below w.heap.size w w7 := q6.trans (hb7.mono (by omega))
  go_wp2
  go_ret
  exact ⟨rfl, q7⟩
set_option maxRecDepth 100000 in
set_option maxHeartbeats 2000000 in
theorem ord_b0 (t n : Int) (s : ByteArray) (b : Bool) (c : Int) (t' n' : Int) (s' : ByteArray) (b' : Bool) (c' : Int) (u m : Int) (r : ByteArray) (d : Bool) (k : Int) (hn : -9223372036854775808 ≤ n ∧ n ≤ 9223372036854775807) (hn' : -9223372036854775808 ≤ n' ∧ n' ≤ 9223372036854775807) (hm : -9223372036854775808 ≤ m ∧ m ≤ 9223372036854775807) (y z : Int) (hx : cmpV t n s b c t' n' s' b' c' = (-1)) (hy : cmpV t' n' s' b' c' u m r d k = y) (hz : cmpV t n s b c u m r d k = z) (h1 : rankV t n s b c = true) (h2 : rankV t' n' s' b' c' = false) (w : World) (ht : Tab w) :
    Calls Tryd.prog 6 #[.agg #[.int .i64 t, .int .i64 n, .string s, .bool b, .int .i64 c], .agg #[.int .i64 t', .int .i64 n', .string s', .bool b', .int .i64 c'], .agg #[.int .i64 u, .int .i64 m, .string r, .bool d, .int .i64 k]] w
      fun e w' => e = .returned (.bool true) ∧ Below w.heap.size w w' := by
  have hx' := Lib.hid (show cmpV t' n' s' b' c' t n s b c = (1) by first | (rw [cmpV_neg, hx]; done) | (rw [cmpV_neg, hx]; rfl))
  have hs := Lib.hid (cmpV_self t n s b c)
  have HX := Lib.hid hx
  have HY := Lib.hid hy
  have HZ := Lib.hid hz
  clear hx hy hz
  go_enter Tryd.func6, Tryd.ntmps6
  go_wp2_with fail
  refine (cmpv_as t n s b c t' n' s' b' c' (by first | assumption | (constructor <;> omega)) (by first | assumption | (constructor <;> omega)) (-1) HX.out _).mono ?_
  rintro e w1 ⟨rfl, hb1⟩
  obtain ⟨hc1, hf1, hz1⟩ := bkeep hb1 (w.heap.size + 3) (by first | omega | (simp <;> omega))
  have q1 : Below w.heap.size w w1 := by (repeat (first | (with_reducible exact Below.refl _ _) | (with_reducible refine Below.alloc ?_ (by first | omega | (dsimp only; omega) | (simp <;> omega)) _) | (with_reducible refine Below.setCell ?_ (by first | omega | (dsimp only; omega) | (simp <;> omega)) _) | (with_reducible refine Below.drew ?_) | (with_reducible refine below_drewN ?_ _) | (with_reducible refine Below.trans ?_ (Below.mono (by assumption) (by first | omega | (dsimp only; omega) | (simp <;> omega))))))
  go_wp2_with fail
  refine (cmpv_as t' n' s' b' c' u m r d k (by first | assumption | (constructor <;> omega)) (by first | assumption | (constructor <;> omega)) y HY.out _).mono ?_
  rintro e w2 ⟨rfl, hb2⟩
  obtain ⟨hc2, hf2, hz2⟩ := bkeep hb2 (w.heap.size + 3) (by first | omega | (simp <;> omega))
  have q2 : Below w.heap.size w w2 := q1.trans (hb2.mono (by omega))
  go_wp2_with fail
  refine (cmpv_as t n s b c u m r d k (by first | assumption | (constructor <;> omega)) (by first | assumption | (constructor <;> omega)) z HZ.out _).mono ?_
  rintro e w3 ⟨rfl, hb3⟩
  obtain ⟨hc3, hf3, hz3⟩ := bkeep hb3 (w.heap.size + 3) (by first | omega | (simp <;> omega))
  have q3 : Below w.heap.size w w3 := q2.trans (hb3.mono (by omega))
  go_wp2_with fail
  refine (known_any _ (Tab.below ht (q3))).mono ?_
  rintro e w4 ⟨rfl, hb4⟩
  obtain ⟨hc4, hf4, hz4⟩ := bkeep hb4 (w.heap.size + 3) (by first | omega | (simp <;> omega))
  have q4 : Below w.heap.size w w4 := q3.trans (hb4.mono (by omega))
  go_wp2_with fail
  refine (cmpv_as t' n' s' b' c' t n s b c (by first | assumption | (constructor <;> omega)) (by first | assumption | (constructor <;> omega)) (1) hx'.out _).mono ?_
  rintro e w5 ⟨rfl, hb5⟩
  obtain ⟨hc5, hf5, hz5⟩ := bkeep hb5 (w.heap.size + 3) (by first | omega | (simp <;> omega))
  have q5 : Below w.heap.size w w5 := q4.trans (hb5.mono (by omega))
  go_wp2_with fail
  refine (cmpv_as t n s b c t n s b c (by first | assumption | (constructor <;> omega)) (by first | assumption | (constructor <;> omega)) 0 hs.out _).mono ?_
  rintro e w6 ⟨rfl, hb6⟩
  obtain ⟨hc6, hf6, hz6⟩ := bkeep hb6 (w.heap.size + 3) (by first | omega | (simp <;> omega))
  have q6 : Below w.heap.size w w6 := q5.trans (hb6.mono (by omega))
  go_wp2_with fail
  refine (rank_as t n s b c (by first | assumption | (constructor <;> omega)) _ h1 _).mono ?_
  rintro e w7 ⟨rfl, hb7⟩
  obtain ⟨hc7, hf7, hz7⟩ := bkeep hb7 (w.heap.size + 3) (by first | omega | (simp <;> omega))
  have q7 : Below w.heap.size w w7 := q6.trans (hb7.mono (by omega))
  go_wp2_with fail
  refine (rank_as t' n' s' b' c' (by first | assumption | (constructor <;> omega)) _ h2 _).mono ?_
  rintro e w8 ⟨rfl, hb8⟩
  obtain ⟨hc8, hf8, hz8⟩ := bkeep hb8 (w.heap.size + 3) (by first | omega | (simp <;> omega))
  have q8 : Below w.heap.size w w8 := q7.trans (hb8.mono (by omega))
  go_wp2
  go_ret
  exact ⟨rfl, q8⟩
set_option maxRecDepth 100000 in
set_option maxHeartbeats 2000000 in
theorem ord_c0 (t n : Int) (s : ByteArray) (b : Bool) (c : Int) (t' n' : Int) (s' : ByteArray) (b' : Bool) (c' : Int) (u m : Int) (r : ByteArray) (d : Bool) (k : Int) (hn : -9223372036854775808 ≤ n ∧ n ≤ 9223372036854775807) (hn' : -9223372036854775808 ≤ n' ∧ n' ≤ 9223372036854775807) (hm : -9223372036854775808 ≤ m ∧ m ≤ 9223372036854775807) (y z : Int) (hx : cmpV t n s b c t' n' s' b' c' = (-1)) (hy : cmpV t' n' s' b' c' u m r d k = y) (hz : cmpV t n s b c u m r d k = z) (h1 : rankV t n s b c = true) (h2 : rankV t' n' s' b' c' = true) (h3 : rankV u m r d k = false) (hE : vEq t n s b c t' n' s' b' c' = false) (w : World) (ht : Tab w) :
    Calls Tryd.prog 6 #[.agg #[.int .i64 t, .int .i64 n, .string s, .bool b, .int .i64 c], .agg #[.int .i64 t', .int .i64 n', .string s', .bool b', .int .i64 c'], .agg #[.int .i64 u, .int .i64 m, .string r, .bool d, .int .i64 k]] w
      fun e w' => e = .returned (.bool true) ∧ Below w.heap.size w w' := by
  have hx' := Lib.hid (show cmpV t' n' s' b' c' t n s b c = (1) by first | (rw [cmpV_neg, hx]; done) | (rw [cmpV_neg, hx]; rfl))
  have hs := Lib.hid (cmpV_self t n s b c)
  have HX := Lib.hid hx
  have HY := Lib.hid hy
  have HZ := Lib.hid hz
  clear hx hy hz
  go_enter Tryd.func6, Tryd.ntmps6
  go_wp2_with fail
  refine (cmpv_as t n s b c t' n' s' b' c' (by first | assumption | (constructor <;> omega)) (by first | assumption | (constructor <;> omega)) (-1) HX.out _).mono ?_
  rintro e w1 ⟨rfl, hb1⟩
  obtain ⟨hc1, hf1, hz1⟩ := bkeep hb1 (w.heap.size + 3) (by first | omega | (simp <;> omega))
  have q1 : Below w.heap.size w w1 := by (repeat (first | (with_reducible exact Below.refl _ _) | (with_reducible refine Below.alloc ?_ (by first | omega | (dsimp only; omega) | (simp <;> omega)) _) | (with_reducible refine Below.setCell ?_ (by first | omega | (dsimp only; omega) | (simp <;> omega)) _) | (with_reducible refine Below.drew ?_) | (with_reducible refine below_drewN ?_ _) | (with_reducible refine Below.trans ?_ (Below.mono (by assumption) (by first | omega | (dsimp only; omega) | (simp <;> omega))))))
  go_wp2_with fail
  refine (cmpv_as t' n' s' b' c' u m r d k (by first | assumption | (constructor <;> omega)) (by first | assumption | (constructor <;> omega)) y HY.out _).mono ?_
  rintro e w2 ⟨rfl, hb2⟩
  obtain ⟨hc2, hf2, hz2⟩ := bkeep hb2 (w.heap.size + 3) (by first | omega | (simp <;> omega))
  have q2 : Below w.heap.size w w2 := q1.trans (hb2.mono (by omega))
  go_wp2_with fail
  refine (cmpv_as t n s b c u m r d k (by first | assumption | (constructor <;> omega)) (by first | assumption | (constructor <;> omega)) z HZ.out _).mono ?_
  rintro e w3 ⟨rfl, hb3⟩
  obtain ⟨hc3, hf3, hz3⟩ := bkeep hb3 (w.heap.size + 3) (by first | omega | (simp <;> omega))
  have q3 : Below w.heap.size w w3 := q2.trans (hb3.mono (by omega))
  go_wp2_with fail
  refine (known_any _ (Tab.below ht (q3))).mono ?_
  rintro e w4 ⟨rfl, hb4⟩
  obtain ⟨hc4, hf4, hz4⟩ := bkeep hb4 (w.heap.size + 3) (by first | omega | (simp <;> omega))
  have q4 : Below w.heap.size w w4 := q3.trans (hb4.mono (by omega))
  go_wp2_with fail
  refine (cmpv_as t' n' s' b' c' t n s b c (by first | assumption | (constructor <;> omega)) (by first | assumption | (constructor <;> omega)) (1) hx'.out _).mono ?_
  rintro e w5 ⟨rfl, hb5⟩
  obtain ⟨hc5, hf5, hz5⟩ := bkeep hb5 (w.heap.size + 3) (by first | omega | (simp <;> omega))
  have q5 : Below w.heap.size w w5 := q4.trans (hb5.mono (by omega))
  go_wp2_with fail
  refine (cmpv_as t n s b c t n s b c (by first | assumption | (constructor <;> omega)) (by first | assumption | (constructor <;> omega)) 0 hs.out _).mono ?_
  rintro e w6 ⟨rfl, hb6⟩
  obtain ⟨hc6, hf6, hz6⟩ := bkeep hb6 (w.heap.size + 3) (by first | omega | (simp <;> omega))
  have q6 : Below w.heap.size w w6 := q5.trans (hb6.mono (by omega))
  go_wp2_with fail
  refine (rank_as t n s b c (by first | assumption | (constructor <;> omega)) _ h1 _).mono ?_
  rintro e w7 ⟨rfl, hb7⟩
  obtain ⟨hc7, hf7, hz7⟩ := bkeep hb7 (w.heap.size + 3) (by first | omega | (simp <;> omega))
  have q7 : Below w.heap.size w w7 := q6.trans (hb7.mono (by omega))
  go_wp2_with fail
  refine (rank_as t' n' s' b' c' (by first | assumption | (constructor <;> omega)) _ h2 _).mono ?_
  rintro e w8 ⟨rfl, hb8⟩
  obtain ⟨hc8, hf8, hz8⟩ := bkeep hb8 (w.heap.size + 3) (by first | omega | (simp <;> omega))
  have q8 : Below w.heap.size w w8 := q7.trans (hb8.mono (by omega))
  go_wp2_with fail
  refine (rank_as u m r d k (by first | assumption | (constructor <;> omega)) _ h3 _).mono ?_
  rintro e w9 ⟨rfl, hb9⟩
  obtain ⟨hc9, hf9, hz9⟩ := bkeep hb9 (w.heap.size + 3) (by first | omega | (simp <;> omega))
  have q9 : Below w.heap.size w w9 := q8.trans (hb9.mono (by omega))
  go_wp2
  go_ret
  exact ⟨rfl, q9⟩
set_option maxRecDepth 100000 in
set_option maxHeartbeats 2000000 in
theorem ord_a1 (t n : Int) (s : ByteArray) (b : Bool) (c : Int) (t' n' : Int) (s' : ByteArray) (b' : Bool) (c' : Int) (u m : Int) (r : ByteArray) (d : Bool) (k : Int) (hn : -9223372036854775808 ≤ n ∧ n ≤ 9223372036854775807) (hn' : -9223372036854775808 ≤ n' ∧ n' ≤ 9223372036854775807) (hm : -9223372036854775808 ≤ m ∧ m ≤ 9223372036854775807) (y z : Int) (hx : cmpV t n s b c t' n' s' b' c' = (0)) (hy : cmpV t' n' s' b' c' u m r d k = y) (hz : cmpV t n s b c u m r d k = z) (h1 : rankV t n s b c = false) (w : World) (ht : Tab w) :
    Calls Tryd.prog 6 #[.agg #[.int .i64 t, .int .i64 n, .string s, .bool b, .int .i64 c], .agg #[.int .i64 t', .int .i64 n', .string s', .bool b', .int .i64 c'], .agg #[.int .i64 u, .int .i64 m, .string r, .bool d, .int .i64 k]] w
      fun e w' => e = .returned (.bool true) ∧ Below w.heap.size w w' := by
  have hx' := Lib.hid (show cmpV t' n' s' b' c' t n s b c = (0) by first | (rw [cmpV_neg, hx]; done) | (rw [cmpV_neg, hx]; rfl))
  have hs := Lib.hid (cmpV_self t n s b c)
  have HX := Lib.hid hx
  have HY := Lib.hid hy
  have HZ := Lib.hid hz
  clear hx hy hz
  go_enter Tryd.func6, Tryd.ntmps6
  go_wp2_with fail
  refine (cmpv_as t n s b c t' n' s' b' c' (by first | assumption | (constructor <;> omega)) (by first | assumption | (constructor <;> omega)) (0) HX.out _).mono ?_
  rintro e w1 ⟨rfl, hb1⟩
  obtain ⟨hc1, hf1, hz1⟩ := bkeep hb1 (w.heap.size + 3) (by first | omega | (simp <;> omega))
  have q1 : Below w.heap.size w w1 := by (repeat (first | (with_reducible exact Below.refl _ _) | (with_reducible refine Below.alloc ?_ (by first | omega | (dsimp only; omega) | (simp <;> omega)) _) | (with_reducible refine Below.setCell ?_ (by first | omega | (dsimp only; omega) | (simp <;> omega)) _) | (with_reducible refine Below.drew ?_) | (with_reducible refine below_drewN ?_ _) | (with_reducible refine Below.trans ?_ (Below.mono (by assumption) (by first | omega | (dsimp only; omega) | (simp <;> omega))))))
  go_wp2_with fail
  refine (cmpv_as t' n' s' b' c' u m r d k (by first | assumption | (constructor <;> omega)) (by first | assumption | (constructor <;> omega)) y HY.out _).mono ?_
  rintro e w2 ⟨rfl, hb2⟩
  obtain ⟨hc2, hf2, hz2⟩ := bkeep hb2 (w.heap.size + 3) (by first | omega | (simp <;> omega))
  have q2 : Below w.heap.size w w2 := q1.trans (hb2.mono (by omega))
  go_wp2_with fail
  refine (cmpv_as t n s b c u m r d k (by first | assumption | (constructor <;> omega)) (by first | assumption | (constructor <;> omega)) z HZ.out _).mono ?_
  rintro e w3 ⟨rfl, hb3⟩
  obtain ⟨hc3, hf3, hz3⟩ := bkeep hb3 (w.heap.size + 3) (by first | omega | (simp <;> omega))
  have q3 : Below w.heap.size w w3 := q2.trans (hb3.mono (by omega))
  go_wp2_with fail
  refine (known_any _ (Tab.below ht (q3))).mono ?_
  rintro e w4 ⟨rfl, hb4⟩
  obtain ⟨hc4, hf4, hz4⟩ := bkeep hb4 (w.heap.size + 3) (by first | omega | (simp <;> omega))
  have q4 : Below w.heap.size w w4 := q3.trans (hb4.mono (by omega))
  go_wp2_with fail
  refine (cmpv_as t' n' s' b' c' t n s b c (by first | assumption | (constructor <;> omega)) (by first | assumption | (constructor <;> omega)) (0) hx'.out _).mono ?_
  rintro e w5 ⟨rfl, hb5⟩
  obtain ⟨hc5, hf5, hz5⟩ := bkeep hb5 (w.heap.size + 3) (by first | omega | (simp <;> omega))
  have q5 : Below w.heap.size w w5 := q4.trans (hb5.mono (by omega))
  go_wp2_with fail
  refine (cmpv_as t n s b c t n s b c (by first | assumption | (constructor <;> omega)) (by first | assumption | (constructor <;> omega)) 0 hs.out _).mono ?_
  rintro e w6 ⟨rfl, hb6⟩
  obtain ⟨hc6, hf6, hz6⟩ := bkeep hb6 (w.heap.size + 3) (by first | omega | (simp <;> omega))
  have q6 : Below w.heap.size w w6 := q5.trans (hb6.mono (by omega))
  go_wp2_with fail
  refine (rank_as t n s b c (by first | assumption | (constructor <;> omega)) _ h1 _).mono ?_
  rintro e w7 ⟨rfl, hb7⟩
  obtain ⟨hc7, hf7, hz7⟩ := bkeep hb7 (w.heap.size + 3) (by first | omega | (simp <;> omega))
  have q7 : Below w.heap.size w w7 := q6.trans (hb7.mono (by omega))
  go_wp2
  go_ret
  exact ⟨rfl, q7⟩
set_option maxRecDepth 100000 in
set_option maxHeartbeats 2000000 in
theorem ord_b1 (t n : Int) (s : ByteArray) (b : Bool) (c : Int) (t' n' : Int) (s' : ByteArray) (b' : Bool) (c' : Int) (u m : Int) (r : ByteArray) (d : Bool) (k : Int) (hn : -9223372036854775808 ≤ n ∧ n ≤ 9223372036854775807) (hn' : -9223372036854775808 ≤ n' ∧ n' ≤ 9223372036854775807) (hm : -9223372036854775808 ≤ m ∧ m ≤ 9223372036854775807) (y z : Int) (hx : cmpV t n s b c t' n' s' b' c' = (0)) (hy : cmpV t' n' s' b' c' u m r d k = y) (hz : cmpV t n s b c u m r d k = z) (h1 : rankV t n s b c = true) (h2 : rankV t' n' s' b' c' = false) (w : World) (ht : Tab w) :
    Calls Tryd.prog 6 #[.agg #[.int .i64 t, .int .i64 n, .string s, .bool b, .int .i64 c], .agg #[.int .i64 t', .int .i64 n', .string s', .bool b', .int .i64 c'], .agg #[.int .i64 u, .int .i64 m, .string r, .bool d, .int .i64 k]] w
      fun e w' => e = .returned (.bool true) ∧ Below w.heap.size w w' := by
  have hx' := Lib.hid (show cmpV t' n' s' b' c' t n s b c = (0) by first | (rw [cmpV_neg, hx]; done) | (rw [cmpV_neg, hx]; rfl))
  have hs := Lib.hid (cmpV_self t n s b c)
  have HX := Lib.hid hx
  have HY := Lib.hid hy
  have HZ := Lib.hid hz
  clear hx hy hz
  go_enter Tryd.func6, Tryd.ntmps6
  go_wp2_with fail
  refine (cmpv_as t n s b c t' n' s' b' c' (by first | assumption | (constructor <;> omega)) (by first | assumption | (constructor <;> omega)) (0) HX.out _).mono ?_
  rintro e w1 ⟨rfl, hb1⟩
  obtain ⟨hc1, hf1, hz1⟩ := bkeep hb1 (w.heap.size + 3) (by first | omega | (simp <;> omega))
  have q1 : Below w.heap.size w w1 := by (repeat (first | (with_reducible exact Below.refl _ _) | (with_reducible refine Below.alloc ?_ (by first | omega | (dsimp only; omega) | (simp <;> omega)) _) | (with_reducible refine Below.setCell ?_ (by first | omega | (dsimp only; omega) | (simp <;> omega)) _) | (with_reducible refine Below.drew ?_) | (with_reducible refine below_drewN ?_ _) | (with_reducible refine Below.trans ?_ (Below.mono (by assumption) (by first | omega | (dsimp only; omega) | (simp <;> omega))))))
  go_wp2_with fail
  refine (cmpv_as t' n' s' b' c' u m r d k (by first | assumption | (constructor <;> omega)) (by first | assumption | (constructor <;> omega)) y HY.out _).mono ?_
  rintro e w2 ⟨rfl, hb2⟩
  obtain ⟨hc2, hf2, hz2⟩ := bkeep hb2 (w.heap.size + 3) (by first | omega | (simp <;> omega))
  have q2 : Below w.heap.size w w2 := q1.trans (hb2.mono (by omega))
  go_wp2_with fail
  refine (cmpv_as t n s b c u m r d k (by first | assumption | (constructor <;> omega)) (by first | assumption | (constructor <;> omega)) z HZ.out _).mono ?_
  rintro e w3 ⟨rfl, hb3⟩
  obtain ⟨hc3, hf3, hz3⟩ := bkeep hb3 (w.heap.size + 3) (by first | omega | (simp <;> omega))
  have q3 : Below w.heap.size w w3 := q2.trans (hb3.mono (by omega))
  go_wp2_with fail
  refine (known_any _ (Tab.below ht (q3))).mono ?_
  rintro e w4 ⟨rfl, hb4⟩
  obtain ⟨hc4, hf4, hz4⟩ := bkeep hb4 (w.heap.size + 3) (by first | omega | (simp <;> omega))
  have q4 : Below w.heap.size w w4 := q3.trans (hb4.mono (by omega))
  go_wp2_with fail
  refine (cmpv_as t' n' s' b' c' t n s b c (by first | assumption | (constructor <;> omega)) (by first | assumption | (constructor <;> omega)) (0) hx'.out _).mono ?_
  rintro e w5 ⟨rfl, hb5⟩
  obtain ⟨hc5, hf5, hz5⟩ := bkeep hb5 (w.heap.size + 3) (by first | omega | (simp <;> omega))
  have q5 : Below w.heap.size w w5 := q4.trans (hb5.mono (by omega))
  go_wp2_with fail
  refine (cmpv_as t n s b c t n s b c (by first | assumption | (constructor <;> omega)) (by first | assumption | (constructor <;> omega)) 0 hs.out _).mono ?_
  rintro e w6 ⟨rfl, hb6⟩
  obtain ⟨hc6, hf6, hz6⟩ := bkeep hb6 (w.heap.size + 3) (by first | omega | (simp <;> omega))
  have q6 : Below w.heap.size w w6 := q5.trans (hb6.mono (by omega))
  go_wp2_with fail
  refine (rank_as t n s b c (by first | assumption | (constructor <;> omega)) _ h1 _).mono ?_
  rintro e w7 ⟨rfl, hb7⟩
  obtain ⟨hc7, hf7, hz7⟩ := bkeep hb7 (w.heap.size + 3) (by first | omega | (simp <;> omega))
  have q7 : Below w.heap.size w w7 := q6.trans (hb7.mono (by omega))
  go_wp2_with fail
  refine (rank_as t' n' s' b' c' (by first | assumption | (constructor <;> omega)) _ h2 _).mono ?_
  rintro e w8 ⟨rfl, hb8⟩
  obtain ⟨hc8, hf8, hz8⟩ := bkeep hb8 (w.heap.size + 3) (by first | omega | (simp <;> omega))
  have q8 : Below w.heap.size w w8 := q7.trans (hb8.mono (by omega))
  go_wp2
  go_ret
  exact ⟨rfl, q8⟩
set_option maxRecDepth 100000 in
set_option maxHeartbeats 2000000 in
theorem ord_c1 (t n : Int) (s : ByteArray) (b : Bool) (c : Int) (t' n' : Int) (s' : ByteArray) (b' : Bool) (c' : Int) (u m : Int) (r : ByteArray) (d : Bool) (k : Int) (hn : -9223372036854775808 ≤ n ∧ n ≤ 9223372036854775807) (hn' : -9223372036854775808 ≤ n' ∧ n' ≤ 9223372036854775807) (hm : -9223372036854775808 ≤ m ∧ m ≤ 9223372036854775807) (y z : Int) (hx : cmpV t n s b c t' n' s' b' c' = (0)) (hy : cmpV t' n' s' b' c' u m r d k = y) (hz : cmpV t n s b c u m r d k = z) (h1 : rankV t n s b c = true) (h2 : rankV t' n' s' b' c' = true) (h3 : rankV u m r d k = false) (hE : vEq t n s b c t' n' s' b' c' = true) (w : World) (ht : Tab w) :
    Calls Tryd.prog 6 #[.agg #[.int .i64 t, .int .i64 n, .string s, .bool b, .int .i64 c], .agg #[.int .i64 t', .int .i64 n', .string s', .bool b', .int .i64 c'], .agg #[.int .i64 u, .int .i64 m, .string r, .bool d, .int .i64 k]] w
      fun e w' => e = .returned (.bool true) ∧ Below w.heap.size w w' := by
  have hx' := Lib.hid (show cmpV t' n' s' b' c' t n s b c = (0) by first | (rw [cmpV_neg, hx]; done) | (rw [cmpV_neg, hx]; rfl))
  have hs := Lib.hid (cmpV_self t n s b c)
  have HX := Lib.hid hx
  have HY := Lib.hid hy
  have HZ := Lib.hid hz
  clear hx hy hz
  go_enter Tryd.func6, Tryd.ntmps6
  go_wp2_with fail
  refine (cmpv_as t n s b c t' n' s' b' c' (by first | assumption | (constructor <;> omega)) (by first | assumption | (constructor <;> omega)) (0) HX.out _).mono ?_
  rintro e w1 ⟨rfl, hb1⟩
  obtain ⟨hc1, hf1, hz1⟩ := bkeep hb1 (w.heap.size + 3) (by first | omega | (simp <;> omega))
  have q1 : Below w.heap.size w w1 := by (repeat (first | (with_reducible exact Below.refl _ _) | (with_reducible refine Below.alloc ?_ (by first | omega | (dsimp only; omega) | (simp <;> omega)) _) | (with_reducible refine Below.setCell ?_ (by first | omega | (dsimp only; omega) | (simp <;> omega)) _) | (with_reducible refine Below.drew ?_) | (with_reducible refine below_drewN ?_ _) | (with_reducible refine Below.trans ?_ (Below.mono (by assumption) (by first | omega | (dsimp only; omega) | (simp <;> omega))))))
  go_wp2_with fail
  refine (cmpv_as t' n' s' b' c' u m r d k (by first | assumption | (constructor <;> omega)) (by first | assumption | (constructor <;> omega)) y HY.out _).mono ?_
  rintro e w2 ⟨rfl, hb2⟩
  obtain ⟨hc2, hf2, hz2⟩ := bkeep hb2 (w.heap.size + 3) (by first | omega | (simp <;> omega))
  have q2 : Below w.heap.size w w2 := q1.trans (hb2.mono (by omega))
  go_wp2_with fail
  refine (cmpv_as t n s b c u m r d k (by first | assumption | (constructor <;> omega)) (by first | assumption | (constructor <;> omega)) z HZ.out _).mono ?_
  rintro e w3 ⟨rfl, hb3⟩
  obtain ⟨hc3, hf3, hz3⟩ := bkeep hb3 (w.heap.size + 3) (by first | omega | (simp <;> omega))
  have q3 : Below w.heap.size w w3 := q2.trans (hb3.mono (by omega))
  go_wp2_with fail
  refine (known_any _ (Tab.below ht (q3))).mono ?_
  rintro e w4 ⟨rfl, hb4⟩
  obtain ⟨hc4, hf4, hz4⟩ := bkeep hb4 (w.heap.size + 3) (by first | omega | (simp <;> omega))
  have q4 : Below w.heap.size w w4 := q3.trans (hb4.mono (by omega))
  go_wp2_with fail
  refine (cmpv_as t' n' s' b' c' t n s b c (by first | assumption | (constructor <;> omega)) (by first | assumption | (constructor <;> omega)) (0) hx'.out _).mono ?_
  rintro e w5 ⟨rfl, hb5⟩
  obtain ⟨hc5, hf5, hz5⟩ := bkeep hb5 (w.heap.size + 3) (by first | omega | (simp <;> omega))
  have q5 : Below w.heap.size w w5 := q4.trans (hb5.mono (by omega))
  go_wp2_with fail
  refine (cmpv_as t n s b c t n s b c (by first | assumption | (constructor <;> omega)) (by first | assumption | (constructor <;> omega)) 0 hs.out _).mono ?_
  rintro e w6 ⟨rfl, hb6⟩
  obtain ⟨hc6, hf6, hz6⟩ := bkeep hb6 (w.heap.size + 3) (by first | omega | (simp <;> omega))
  have q6 : Below w.heap.size w w6 := q5.trans (hb6.mono (by omega))
  go_wp2_with fail
  refine (rank_as t n s b c (by first | assumption | (constructor <;> omega)) _ h1 _).mono ?_
  rintro e w7 ⟨rfl, hb7⟩
  obtain ⟨hc7, hf7, hz7⟩ := bkeep hb7 (w.heap.size + 3) (by first | omega | (simp <;> omega))
  have q7 : Below w.heap.size w w7 := q6.trans (hb7.mono (by omega))
  go_wp2_with fail
  refine (rank_as t' n' s' b' c' (by first | assumption | (constructor <;> omega)) _ h2 _).mono ?_
  rintro e w8 ⟨rfl, hb8⟩
  obtain ⟨hc8, hf8, hz8⟩ := bkeep hb8 (w.heap.size + 3) (by first | omega | (simp <;> omega))
  have q8 : Below w.heap.size w w8 := q7.trans (hb8.mono (by omega))
  go_wp2_with fail
  refine (rank_as u m r d k (by first | assumption | (constructor <;> omega)) _ h3 _).mono ?_
  rintro e w9 ⟨rfl, hb9⟩
  obtain ⟨hc9, hf9, hz9⟩ := bkeep hb9 (w.heap.size + 3) (by first | omega | (simp <;> omega))
  have q9 : Below w.heap.size w w9 := q8.trans (hb9.mono (by omega))
  go_wp2
  go_ret
  exact ⟨rfl, q9⟩
set_option maxRecDepth 100000 in
set_option maxHeartbeats 2000000 in
theorem ord_a2 (t n : Int) (s : ByteArray) (b : Bool) (c : Int) (t' n' : Int) (s' : ByteArray) (b' : Bool) (c' : Int) (u m : Int) (r : ByteArray) (d : Bool) (k : Int) (hn : -9223372036854775808 ≤ n ∧ n ≤ 9223372036854775807) (hn' : -9223372036854775808 ≤ n' ∧ n' ≤ 9223372036854775807) (hm : -9223372036854775808 ≤ m ∧ m ≤ 9223372036854775807) (y z : Int) (hx : cmpV t n s b c t' n' s' b' c' = (1)) (hy : cmpV t' n' s' b' c' u m r d k = y) (hz : cmpV t n s b c u m r d k = z) (h1 : rankV t n s b c = false) (w : World) (ht : Tab w) :
    Calls Tryd.prog 6 #[.agg #[.int .i64 t, .int .i64 n, .string s, .bool b, .int .i64 c], .agg #[.int .i64 t', .int .i64 n', .string s', .bool b', .int .i64 c'], .agg #[.int .i64 u, .int .i64 m, .string r, .bool d, .int .i64 k]] w
      fun e w' => e = .returned (.bool true) ∧ Below w.heap.size w w' := by
  have hx' := Lib.hid (show cmpV t' n' s' b' c' t n s b c = (-1) by first | (rw [cmpV_neg, hx]; done) | (rw [cmpV_neg, hx]; rfl))
  have hs := Lib.hid (cmpV_self t n s b c)
  have HX := Lib.hid hx
  have HY := Lib.hid hy
  have HZ := Lib.hid hz
  clear hx hy hz
  go_enter Tryd.func6, Tryd.ntmps6
  go_wp2_with fail
  refine (cmpv_as t n s b c t' n' s' b' c' (by first | assumption | (constructor <;> omega)) (by first | assumption | (constructor <;> omega)) (1) HX.out _).mono ?_
  rintro e w1 ⟨rfl, hb1⟩
  obtain ⟨hc1, hf1, hz1⟩ := bkeep hb1 (w.heap.size + 3) (by first | omega | (simp <;> omega))
  have q1 : Below w.heap.size w w1 := by (repeat (first | (with_reducible exact Below.refl _ _) | (with_reducible refine Below.alloc ?_ (by first | omega | (dsimp only; omega) | (simp <;> omega)) _) | (with_reducible refine Below.setCell ?_ (by first | omega | (dsimp only; omega) | (simp <;> omega)) _) | (with_reducible refine Below.drew ?_) | (with_reducible refine below_drewN ?_ _) | (with_reducible refine Below.trans ?_ (Below.mono (by assumption) (by first | omega | (dsimp only; omega) | (simp <;> omega))))))
  go_wp2_with fail
  refine (cmpv_as t' n' s' b' c' u m r d k (by first | assumption | (constructor <;> omega)) (by first | assumption | (constructor <;> omega)) y HY.out _).mono ?_
  rintro e w2 ⟨rfl, hb2⟩
  obtain ⟨hc2, hf2, hz2⟩ := bkeep hb2 (w.heap.size + 3) (by first | omega | (simp <;> omega))
  have q2 : Below w.heap.size w w2 := q1.trans (hb2.mono (by omega))
  go_wp2_with fail
  refine (cmpv_as t n s b c u m r d k (by first | assumption | (constructor <;> omega)) (by first | assumption | (constructor <;> omega)) z HZ.out _).mono ?_
  rintro e w3 ⟨rfl, hb3⟩
  obtain ⟨hc3, hf3, hz3⟩ := bkeep hb3 (w.heap.size + 3) (by first | omega | (simp <;> omega))
  have q3 : Below w.heap.size w w3 := q2.trans (hb3.mono (by omega))
  go_wp2_with fail
  refine (known_any _ (Tab.below ht (q3))).mono ?_
  rintro e w4 ⟨rfl, hb4⟩
  obtain ⟨hc4, hf4, hz4⟩ := bkeep hb4 (w.heap.size + 3) (by first | omega | (simp <;> omega))
  have q4 : Below w.heap.size w w4 := q3.trans (hb4.mono (by omega))
  go_wp2_with fail
  refine (cmpv_as t' n' s' b' c' t n s b c (by first | assumption | (constructor <;> omega)) (by first | assumption | (constructor <;> omega)) (-1) hx'.out _).mono ?_
  rintro e w5 ⟨rfl, hb5⟩
  obtain ⟨hc5, hf5, hz5⟩ := bkeep hb5 (w.heap.size + 3) (by first | omega | (simp <;> omega))
  have q5 : Below w.heap.size w w5 := q4.trans (hb5.mono (by omega))
  go_wp2_with fail
  refine (cmpv_as t n s b c t n s b c (by first | assumption | (constructor <;> omega)) (by first | assumption | (constructor <;> omega)) 0 hs.out _).mono ?_
  rintro e w6 ⟨rfl, hb6⟩
  obtain ⟨hc6, hf6, hz6⟩ := bkeep hb6 (w.heap.size + 3) (by first | omega | (simp <;> omega))
  have q6 : Below w.heap.size w w6 := q5.trans (hb6.mono (by omega))
  go_wp2_with fail
  refine (rank_as t n s b c (by first | assumption | (constructor <;> omega)) _ h1 _).mono ?_
  rintro e w7 ⟨rfl, hb7⟩
  obtain ⟨hc7, hf7, hz7⟩ := bkeep hb7 (w.heap.size + 3) (by first | omega | (simp <;> omega))
  have q7 : Below w.heap.size w w7 := q6.trans (hb7.mono (by omega))
  go_wp2
  go_ret
  exact ⟨rfl, q7⟩
set_option maxRecDepth 100000 in
set_option maxHeartbeats 2000000 in
theorem ord_b2 (t n : Int) (s : ByteArray) (b : Bool) (c : Int) (t' n' : Int) (s' : ByteArray) (b' : Bool) (c' : Int) (u m : Int) (r : ByteArray) (d : Bool) (k : Int) (hn : -9223372036854775808 ≤ n ∧ n ≤ 9223372036854775807) (hn' : -9223372036854775808 ≤ n' ∧ n' ≤ 9223372036854775807) (hm : -9223372036854775808 ≤ m ∧ m ≤ 9223372036854775807) (y z : Int) (hx : cmpV t n s b c t' n' s' b' c' = (1)) (hy : cmpV t' n' s' b' c' u m r d k = y) (hz : cmpV t n s b c u m r d k = z) (h1 : rankV t n s b c = true) (h2 : rankV t' n' s' b' c' = false) (w : World) (ht : Tab w) :
    Calls Tryd.prog 6 #[.agg #[.int .i64 t, .int .i64 n, .string s, .bool b, .int .i64 c], .agg #[.int .i64 t', .int .i64 n', .string s', .bool b', .int .i64 c'], .agg #[.int .i64 u, .int .i64 m, .string r, .bool d, .int .i64 k]] w
      fun e w' => e = .returned (.bool true) ∧ Below w.heap.size w w' := by
  have hx' := Lib.hid (show cmpV t' n' s' b' c' t n s b c = (-1) by first | (rw [cmpV_neg, hx]; done) | (rw [cmpV_neg, hx]; rfl))
  have hs := Lib.hid (cmpV_self t n s b c)
  have HX := Lib.hid hx
  have HY := Lib.hid hy
  have HZ := Lib.hid hz
  clear hx hy hz
  go_enter Tryd.func6, Tryd.ntmps6
  go_wp2_with fail
  refine (cmpv_as t n s b c t' n' s' b' c' (by first | assumption | (constructor <;> omega)) (by first | assumption | (constructor <;> omega)) (1) HX.out _).mono ?_
  rintro e w1 ⟨rfl, hb1⟩
  obtain ⟨hc1, hf1, hz1⟩ := bkeep hb1 (w.heap.size + 3) (by first | omega | (simp <;> omega))
  have q1 : Below w.heap.size w w1 := by (repeat (first | (with_reducible exact Below.refl _ _) | (with_reducible refine Below.alloc ?_ (by first | omega | (dsimp only; omega) | (simp <;> omega)) _) | (with_reducible refine Below.setCell ?_ (by first | omega | (dsimp only; omega) | (simp <;> omega)) _) | (with_reducible refine Below.drew ?_) | (with_reducible refine below_drewN ?_ _) | (with_reducible refine Below.trans ?_ (Below.mono (by assumption) (by first | omega | (dsimp only; omega) | (simp <;> omega))))))
  go_wp2_with fail
  refine (cmpv_as t' n' s' b' c' u m r d k (by first | assumption | (constructor <;> omega)) (by first | assumption | (constructor <;> omega)) y HY.out _).mono ?_
  rintro e w2 ⟨rfl, hb2⟩
  obtain ⟨hc2, hf2, hz2⟩ := bkeep hb2 (w.heap.size + 3) (by first | omega | (simp <;> omega))
  have q2 : Below w.heap.size w w2 := q1.trans (hb2.mono (by omega))
  go_wp2_with fail
  refine (cmpv_as t n s b c u m r d k (by first | assumption | (constructor <;> omega)) (by first | assumption | (constructor <;> omega)) z HZ.out _).mono ?_
  rintro e w3 ⟨rfl, hb3⟩
  obtain ⟨hc3, hf3, hz3⟩ := bkeep hb3 (w.heap.size + 3) (by first | omega | (simp <;> omega))
  have q3 : Below w.heap.size w w3 := q2.trans (hb3.mono (by omega))
  go_wp2_with fail
  refine (known_any _ (Tab.below ht (q3))).mono ?_
  rintro e w4 ⟨rfl, hb4⟩
  obtain ⟨hc4, hf4, hz4⟩ := bkeep hb4 (w.heap.size + 3) (by first | omega | (simp <;> omega))
  have q4 : Below w.heap.size w w4 := q3.trans (hb4.mono (by omega))
  go_wp2_with fail
  refine (cmpv_as t' n' s' b' c' t n s b c (by first | assumption | (constructor <;> omega)) (by first | assumption | (constructor <;> omega)) (-1) hx'.out _).mono ?_
  rintro e w5 ⟨rfl, hb5⟩
  obtain ⟨hc5, hf5, hz5⟩ := bkeep hb5 (w.heap.size + 3) (by first | omega | (simp <;> omega))
  have q5 : Below w.heap.size w w5 := q4.trans (hb5.mono (by omega))
  go_wp2_with fail
  refine (cmpv_as t n s b c t n s b c (by first | assumption | (constructor <;> omega)) (by first | assumption | (constructor <;> omega)) 0 hs.out _).mono ?_
  rintro e w6 ⟨rfl, hb6⟩
  obtain ⟨hc6, hf6, hz6⟩ := bkeep hb6 (w.heap.size + 3) (by first | omega | (simp <;> omega))
  have q6 : Below w.heap.size w w6 := q5.trans (hb6.mono (by omega))
  go_wp2_with fail
  refine (rank_as t n s b c (by first | assumption | (constructor <;> omega)) _ h1 _).mono ?_
  rintro e w7 ⟨rfl, hb7⟩
  obtain ⟨hc7, hf7, hz7⟩ := bkeep hb7 (w.heap.size + 3) (by first | omega | (simp <;> omega))
  have q7 : Below w.heap.size w w7 := q6.trans (hb7.mono (by omega))
  go_wp2_with fail
  refine (rank_as t' n' s' b' c' (by first | assumption | (constructor <;> omega)) _ h2 _).mono ?_
  rintro e w8 ⟨rfl, hb8⟩
  obtain ⟨hc8, hf8, hz8⟩ := bkeep hb8 (w.heap.size + 3) (by first | omega | (simp <;> omega))
  have q8 : Below w.heap.size w w8 := q7.trans (hb8.mono (by omega))
  go_wp2
  go_ret
  exact ⟨rfl, q8⟩
set_option maxRecDepth 100000 in
set_option maxHeartbeats 2000000 in
theorem ord_c2 (t n : Int) (s : ByteArray) (b : Bool) (c : Int) (t' n' : Int) (s' : ByteArray) (b' : Bool) (c' : Int) (u m : Int) (r : ByteArray) (d : Bool) (k : Int) (hn : -9223372036854775808 ≤ n ∧ n ≤ 9223372036854775807) (hn' : -9223372036854775808 ≤ n' ∧ n' ≤ 9223372036854775807) (hm : -9223372036854775808 ≤ m ∧ m ≤ 9223372036854775807) (y z : Int) (hx : cmpV t n s b c t' n' s' b' c' = (1)) (hy : cmpV t' n' s' b' c' u m r d k = y) (hz : cmpV t n s b c u m r d k = z) (h1 : rankV t n s b c = true) (h2 : rankV t' n' s' b' c' = true) (h3 : rankV u m r d k = false) (hE : vEq t n s b c t' n' s' b' c' = false) (w : World) (ht : Tab w) :
    Calls Tryd.prog 6 #[.agg #[.int .i64 t, .int .i64 n, .string s, .bool b, .int .i64 c], .agg #[.int .i64 t', .int .i64 n', .string s', .bool b', .int .i64 c'], .agg #[.int .i64 u, .int .i64 m, .string r, .bool d, .int .i64 k]] w
      fun e w' => e = .returned (.bool true) ∧ Below w.heap.size w w' := by
  have hx' := Lib.hid (show cmpV t' n' s' b' c' t n s b c = (-1) by first | (rw [cmpV_neg, hx]; done) | (rw [cmpV_neg, hx]; rfl))
  have hs := Lib.hid (cmpV_self t n s b c)
  have HX := Lib.hid hx
  have HY := Lib.hid hy
  have HZ := Lib.hid hz
  clear hx hy hz
  go_enter Tryd.func6, Tryd.ntmps6
  go_wp2_with fail
  refine (cmpv_as t n s b c t' n' s' b' c' (by first | assumption | (constructor <;> omega)) (by first | assumption | (constructor <;> omega)) (1) HX.out _).mono ?_
  rintro e w1 ⟨rfl, hb1⟩
  obtain ⟨hc1, hf1, hz1⟩ := bkeep hb1 (w.heap.size + 3) (by first | omega | (simp <;> omega))
  have q1 : Below w.heap.size w w1 := by (repeat (first | (with_reducible exact Below.refl _ _) | (with_reducible refine Below.alloc ?_ (by first | omega | (dsimp only; omega) | (simp <;> omega)) _) | (with_reducible refine Below.setCell ?_ (by first | omega | (dsimp only; omega) | (simp <;> omega)) _) | (with_reducible refine Below.drew ?_) | (with_reducible refine below_drewN ?_ _) | (with_reducible refine Below.trans ?_ (Below.mono (by assumption) (by first | omega | (dsimp only; omega) | (simp <;> omega))))))
  go_wp2_with fail
  refine (cmpv_as t' n' s' b' c' u m r d k (by first | assumption | (constructor <;> omega)) (by first | assumption | (constructor <;> omega)) y HY.out _).mono ?_
  rintro e w2 ⟨rfl, hb2⟩
  obtain ⟨hc2, hf2, hz2⟩ := bkeep hb2 (w.heap.size + 3) (by first | omega | (simp <;> omega))
  have q2 : Below w.heap.size w w2 := q1.trans (hb2.mono (by omega))
  go_wp2_with fail
  refine (cmpv_as t n s b c u m r d k (by first | assumption | (constructor <;> omega)) (by first | assumption | (constructor <;> omega)) z HZ.out _).mono ?_
  rintro e w3 ⟨rfl, hb3⟩
  obtain ⟨hc3, hf3, hz3⟩ := bkeep hb3 (w.heap.size + 3) (by first | omega | (simp <;> omega))
  have q3 : Below w.heap.size w w3 := q2.trans (hb3.mono (by omega))
  go_wp2_with fail
  refine (known_any _ (Tab.below ht (q3))).mono ?_
  rintro e w4 ⟨rfl, hb4⟩
  obtain ⟨hc4, hf4, hz4⟩ := bkeep hb4 (w.heap.size + 3) (by first | omega | (simp <;> omega))
  have q4 : Below w.heap.size w w4 := q3.trans (hb4.mono (by omega))
  go_wp2_with fail
  refine (cmpv_as t' n' s' b' c' t n s b c (by first | assumption | (constructor <;> omega)) (by first | assumption | (constructor <;> omega)) (-1) hx'.out _).mono ?_
  rintro e w5 ⟨rfl, hb5⟩
  obtain ⟨hc5, hf5, hz5⟩ := bkeep hb5 (w.heap.size + 3) (by first | omega | (simp <;> omega))
  have q5 : Below w.heap.size w w5 := q4.trans (hb5.mono (by omega))
  go_wp2_with fail
  refine (cmpv_as t n s b c t n s b c (by first | assumption | (constructor <;> omega)) (by first | assumption | (constructor <;> omega)) 0 hs.out _).mono ?_
  rintro e w6 ⟨rfl, hb6⟩
  obtain ⟨hc6, hf6, hz6⟩ := bkeep hb6 (w.heap.size + 3) (by first | omega | (simp <;> omega))
  have q6 : Below w.heap.size w w6 := q5.trans (hb6.mono (by omega))
  go_wp2_with fail
  refine (rank_as t n s b c (by first | assumption | (constructor <;> omega)) _ h1 _).mono ?_
  rintro e w7 ⟨rfl, hb7⟩
  obtain ⟨hc7, hf7, hz7⟩ := bkeep hb7 (w.heap.size + 3) (by first | omega | (simp <;> omega))
  have q7 : Below w.heap.size w w7 := q6.trans (hb7.mono (by omega))
  go_wp2_with fail
  refine (rank_as t' n' s' b' c' (by first | assumption | (constructor <;> omega)) _ h2 _).mono ?_
  rintro e w8 ⟨rfl, hb8⟩
  obtain ⟨hc8, hf8, hz8⟩ := bkeep hb8 (w.heap.size + 3) (by first | omega | (simp <;> omega))
  have q8 : Below w.heap.size w w8 := q7.trans (hb8.mono (by omega))
  go_wp2_with fail
  refine (rank_as u m r d k (by first | assumption | (constructor <;> omega)) _ h3 _).mono ?_
  rintro e w9 ⟨rfl, hb9⟩
  obtain ⟨hc9, hf9, hz9⟩ := bkeep hb9 (w.heap.size + 3) (by first | omega | (simp <;> omega))
  have q9 : Below w.heap.size w w9 := q8.trans (hb9.mono (by omega))
  go_wp2
  go_ret
  exact ⟨rfl, q9⟩
set_option maxRecDepth 100000 in
set_option maxHeartbeats 2000000 in
theorem ord_d0 (t n : Int) (s : ByteArray) (b : Bool) (c : Int) (t' n' : Int) (s' : ByteArray) (b' : Bool) (c' : Int) (u m : Int) (r : ByteArray) (d : Bool) (k : Int) (hn : -9223372036854775808 ≤ n ∧ n ≤ 9223372036854775807) (hn' : -9223372036854775808 ≤ n' ∧ n' ≤ 9223372036854775807) (hm : -9223372036854775808 ≤ m ∧ m ≤ 9223372036854775807) (y z : Int) (hx : cmpV t n s b c t' n' s' b' c' = (1)) (hy : cmpV t' n' s' b' c' u m r d k = y) (hz : cmpV t n s b c u m r d k = z) (h1 : rankV t n s b c = true) (h2 : rankV t' n' s' b' c' = true) (h3 : rankV u m r d k = true) (hE : vEq t n s b c t' n' s' b' c' = false) (w : World) (ht : Tab w) :
    Calls Tryd.prog 6 #[.agg #[.int .i64 t, .int .i64 n, .string s, .bool b, .int .i64 c], .agg #[.int .i64 t', .int .i64 n', .string s', .bool b', .int .i64 c'], .agg #[.int .i64 u, .int .i64 m, .string r, .bool d, .int .i64 k]] w
      fun e w' => e = .returned (.bool true) ∧ Below w.heap.size w w' := by
  have hx' := Lib.hid (show cmpV t' n' s' b' c' t n s b c = (-1) by first | (rw [cmpV_neg, hx]; done) | (rw [cmpV_neg, hx]; rfl))
  have hs := Lib.hid (cmpV_self t n s b c)
  have HX := Lib.hid hx
  have HY := Lib.hid hy
  have HZ := Lib.hid hz
  clear hx hy hz
  go_enter Tryd.func6, Tryd.ntmps6
  go_wp2_with fail
  refine (cmpv_as t n s b c t' n' s' b' c' (by first | assumption | (constructor <;> omega)) (by first | assumption | (constructor <;> omega)) (1) HX.out _).mono ?_
  rintro e w1 ⟨rfl, hb1⟩
  obtain ⟨hc1, hf1, hz1⟩ := bkeep hb1 (w.heap.size + 3) (by first | omega | (simp <;> omega))
  have q1 : Below w.heap.size w w1 := by (repeat (first | (with_reducible exact Below.refl _ _) | (with_reducible refine Below.alloc ?_ (by first | omega | (dsimp only; omega) | (simp <;> omega)) _) | (with_reducible refine Below.setCell ?_ (by first | omega | (dsimp only; omega) | (simp <;> omega)) _) | (with_reducible refine Below.drew ?_) | (with_reducible refine below_drewN ?_ _) | (with_reducible refine Below.trans ?_ (Below.mono (by assumption) (by first | omega | (dsimp only; omega) | (simp <;> omega))))))
  go_wp2_with fail
  refine (cmpv_as t' n' s' b' c' u m r d k (by first | assumption | (constructor <;> omega)) (by first | assumption | (constructor <;> omega)) y HY.out _).mono ?_
  rintro e w2 ⟨rfl, hb2⟩
  obtain ⟨hc2, hf2, hz2⟩ := bkeep hb2 (w.heap.size + 3) (by first | omega | (simp <;> omega))
  have q2 : Below w.heap.size w w2 := q1.trans (hb2.mono (by omega))
  go_wp2_with fail
  refine (cmpv_as t n s b c u m r d k (by first | assumption | (constructor <;> omega)) (by first | assumption | (constructor <;> omega)) z HZ.out _).mono ?_
  rintro e w3 ⟨rfl, hb3⟩
  obtain ⟨hc3, hf3, hz3⟩ := bkeep hb3 (w.heap.size + 3) (by first | omega | (simp <;> omega))
  have q3 : Below w.heap.size w w3 := q2.trans (hb3.mono (by omega))
  go_wp2_with fail
  refine (known_any _ (Tab.below ht (q3))).mono ?_
  rintro e w4 ⟨rfl, hb4⟩
  obtain ⟨hc4, hf4, hz4⟩ := bkeep hb4 (w.heap.size + 3) (by first | omega | (simp <;> omega))
  have q4 : Below w.heap.size w w4 := q3.trans (hb4.mono (by omega))
  go_wp2_with fail
  refine (cmpv_as t' n' s' b' c' t n s b c (by first | assumption | (constructor <;> omega)) (by first | assumption | (constructor <;> omega)) (-1) hx'.out _).mono ?_
  rintro e w5 ⟨rfl, hb5⟩
  obtain ⟨hc5, hf5, hz5⟩ := bkeep hb5 (w.heap.size + 3) (by first | omega | (simp <;> omega))
  have q5 : Below w.heap.size w w5 := q4.trans (hb5.mono (by omega))
  go_wp2_with fail
  refine (cmpv_as t n s b c t n s b c (by first | assumption | (constructor <;> omega)) (by first | assumption | (constructor <;> omega)) 0 hs.out _).mono ?_
  rintro e w6 ⟨rfl, hb6⟩
  obtain ⟨hc6, hf6, hz6⟩ := bkeep hb6 (w.heap.size + 3) (by first | omega | (simp <;> omega))
  have q6 : Below w.heap.size w w6 := q5.trans (hb6.mono (by omega))
  go_wp2_with fail
  refine (rank_as t n s b c (by first | assumption | (constructor <;> omega)) _ h1 _).mono ?_
  rintro e w7 ⟨rfl, hb7⟩
  obtain ⟨hc7, hf7, hz7⟩ := bkeep hb7 (w.heap.size + 3) (by first | omega | (simp <;> omega))
  have q7 : Below w.heap.size w w7 := q6.trans (hb7.mono (by omega))
  go_wp2_with fail
  refine (rank_as t' n' s' b' c' (by first | assumption | (constructor <;> omega)) _ h2 _).mono ?_
  rintro e w8 ⟨rfl, hb8⟩
  obtain ⟨hc8, hf8, hz8⟩ := bkeep hb8 (w.heap.size + 3) (by first | omega | (simp <;> omega))
  have q8 : Below w.heap.size w w8 := q7.trans (hb8.mono (by omega))
  go_wp2_with fail
  refine (rank_as u m r d k (by first | assumption | (constructor <;> omega)) _ h3 _).mono ?_
  rintro e w9 ⟨rfl, hb9⟩
  obtain ⟨hc9, hf9, hz9⟩ := bkeep hb9 (w.heap.size + 3) (by first | omega | (simp <;> omega))
  have q9 : Below w.heap.size w w9 := q8.trans (hb9.mono (by omega))
  go_wp2
  go_ret
  exact ⟨rfl, q9⟩
set_option maxRecDepth 100000 in
set_option maxHeartbeats 2000000 in
theorem ord_d1 (t n : Int) (s : ByteArray) (b : Bool) (c : Int) (t' n' : Int) (s' : ByteArray) (b' : Bool) (c' : Int) (u m : Int) (r : ByteArray) (d : Bool) (k : Int) (hn : -9223372036854775808 ≤ n ∧ n ≤ 9223372036854775807) (hn' : -9223372036854775808 ≤ n' ∧ n' ≤ 9223372036854775807) (hm : -9223372036854775808 ≤ m ∧ m ≤ 9223372036854775807) (z : Int) (hx : cmpV t n s b c t' n' s' b' c' = (0)) (hy : cmpV t' n' s' b' c' u m r d k = (1)) (hz : cmpV t n s b c u m r d k = z) (h1 : rankV t n s b c = true) (h2 : rankV t' n' s' b' c' = true) (h3 : rankV u m r d k = true) (hE : vEq t n s b c t' n' s' b' c' = true) (w : World) (ht : Tab w) :
    Calls Tryd.prog 6 #[.agg #[.int .i64 t, .int .i64 n, .string s, .bool b, .int .i64 c], .agg #[.int .i64 t', .int .i64 n', .string s', .bool b', .int .i64 c'], .agg #[.int .i64 u, .int .i64 m, .string r, .bool d, .int .i64 k]] w
      fun e w' => e = .returned (.bool true) ∧ Below w.heap.size w w' := by
  have hx' := Lib.hid (show cmpV t' n' s' b' c' t n s b c = (0) by first | (rw [cmpV_neg, hx]; done) | (rw [cmpV_neg, hx]; rfl))
  have hs := Lib.hid (cmpV_self t n s b c)
  have HX := Lib.hid hx
  have HY := Lib.hid hy
  have HZ := Lib.hid hz
  clear hx hy hz
  go_enter Tryd.func6, Tryd.ntmps6
  go_wp2_with fail
  refine (cmpv_as t n s b c t' n' s' b' c' (by first | assumption | (constructor <;> omega)) (by first | assumption | (constructor <;> omega)) (0) HX.out _).mono ?_
  rintro e w1 ⟨rfl, hb1⟩
  obtain ⟨hc1, hf1, hz1⟩ := bkeep hb1 (w.heap.size + 3) (by first | omega | (simp <;> omega))
  have q1 : Below w.heap.size w w1 := by (repeat (first | (with_reducible exact Below.refl _ _) | (with_reducible refine Below.alloc ?_ (by first | omega | (dsimp only; omega) | (simp <;> omega)) _) | (with_reducible refine Below.setCell ?_ (by first | omega | (dsimp only; omega) | (simp <;> omega)) _) | (with_reducible refine Below.drew ?_) | (with_reducible refine below_drewN ?_ _) | (with_reducible refine Below.trans ?_ (Below.mono (by assumption) (by first | omega | (dsimp only; omega) | (simp <;> omega))))))
  go_wp2_with fail
  refine (cmpv_as t' n' s' b' c' u m r d k (by first | assumption | (constructor <;> omega)) (by first | assumption | (constructor <;> omega)) (1) HY.out _).mono ?_
  rintro e w2 ⟨rfl, hb2⟩
  obtain ⟨hc2, hf2, hz2⟩ := bkeep hb2 (w.heap.size + 3) (by first | omega | (simp <;> omega))
  have q2 : Below w.heap.size w w2 := q1.trans (hb2.mono (by omega))
  go_wp2_with fail
  refine (cmpv_as t n s b c u m r d k (by first | assumption | (constructor <;> omega)) (by first | assumption | (constructor <;> omega)) z HZ.out _).mono ?_
  rintro e w3 ⟨rfl, hb3⟩
  obtain ⟨hc3, hf3, hz3⟩ := bkeep hb3 (w.heap.size + 3) (by first | omega | (simp <;> omega))
  have q3 : Below w.heap.size w w3 := q2.trans (hb3.mono (by omega))
  go_wp2_with fail
  refine (known_any _ (Tab.below ht (q3))).mono ?_
  rintro e w4 ⟨rfl, hb4⟩
  obtain ⟨hc4, hf4, hz4⟩ := bkeep hb4 (w.heap.size + 3) (by first | omega | (simp <;> omega))
  have q4 : Below w.heap.size w w4 := q3.trans (hb4.mono (by omega))
  go_wp2_with fail
  refine (cmpv_as t' n' s' b' c' t n s b c (by first | assumption | (constructor <;> omega)) (by first | assumption | (constructor <;> omega)) (0) hx'.out _).mono ?_
  rintro e w5 ⟨rfl, hb5⟩
  obtain ⟨hc5, hf5, hz5⟩ := bkeep hb5 (w.heap.size + 3) (by first | omega | (simp <;> omega))
  have q5 : Below w.heap.size w w5 := q4.trans (hb5.mono (by omega))
  go_wp2_with fail
  refine (cmpv_as t n s b c t n s b c (by first | assumption | (constructor <;> omega)) (by first | assumption | (constructor <;> omega)) 0 hs.out _).mono ?_
  rintro e w6 ⟨rfl, hb6⟩
  obtain ⟨hc6, hf6, hz6⟩ := bkeep hb6 (w.heap.size + 3) (by first | omega | (simp <;> omega))
  have q6 : Below w.heap.size w w6 := q5.trans (hb6.mono (by omega))
  go_wp2_with fail
  refine (rank_as t n s b c (by first | assumption | (constructor <;> omega)) _ h1 _).mono ?_
  rintro e w7 ⟨rfl, hb7⟩
  obtain ⟨hc7, hf7, hz7⟩ := bkeep hb7 (w.heap.size + 3) (by first | omega | (simp <;> omega))
  have q7 : Below w.heap.size w w7 := q6.trans (hb7.mono (by omega))
  go_wp2_with fail
  refine (rank_as t' n' s' b' c' (by first | assumption | (constructor <;> omega)) _ h2 _).mono ?_
  rintro e w8 ⟨rfl, hb8⟩
  obtain ⟨hc8, hf8, hz8⟩ := bkeep hb8 (w.heap.size + 3) (by first | omega | (simp <;> omega))
  have q8 : Below w.heap.size w w8 := q7.trans (hb8.mono (by omega))
  go_wp2_with fail
  refine (rank_as u m r d k (by first | assumption | (constructor <;> omega)) _ h3 _).mono ?_
  rintro e w9 ⟨rfl, hb9⟩
  obtain ⟨hc9, hf9, hz9⟩ := bkeep hb9 (w.heap.size + 3) (by first | omega | (simp <;> omega))
  have q9 : Below w.heap.size w w9 := q8.trans (hb9.mono (by omega))
  go_wp2
  go_ret
  exact ⟨rfl, q9⟩
set_option maxRecDepth 100000 in
set_option maxHeartbeats 2000000 in
theorem ord_d2 (t n : Int) (s : ByteArray) (b : Bool) (c : Int) (t' n' : Int) (s' : ByteArray) (b' : Bool) (c' : Int) (u m : Int) (r : ByteArray) (d : Bool) (k : Int) (hn : -9223372036854775808 ≤ n ∧ n ≤ 9223372036854775807) (hn' : -9223372036854775808 ≤ n' ∧ n' ≤ 9223372036854775807) (hm : -9223372036854775808 ≤ m ∧ m ≤ 9223372036854775807) (hx : cmpV t n s b c t' n' s' b' c' = (0)) (hy : cmpV t' n' s' b' c' u m r d k = (0)) (hz : cmpV t n s b c u m r d k = (0)) (h1 : rankV t n s b c = true) (h2 : rankV t' n' s' b' c' = true) (h3 : rankV u m r d k = true) (hE : vEq t n s b c t' n' s' b' c' = true) (w : World) (ht : Tab w) :
    Calls Tryd.prog 6 #[.agg #[.int .i64 t, .int .i64 n, .string s, .bool b, .int .i64 c], .agg #[.int .i64 t', .int .i64 n', .string s', .bool b', .int .i64 c'], .agg #[.int .i64 u, .int .i64 m, .string r, .bool d, .int .i64 k]] w
      fun e w' => e = .returned (.bool true) ∧ Below w.heap.size w w' := by
  have hx' := Lib.hid (show cmpV t' n' s' b' c' t n s b c = (0) by first | (rw [cmpV_neg, hx]; done) | (rw [cmpV_neg, hx]; rfl))
  have hs := Lib.hid (cmpV_self t n s b c)
  have HX := Lib.hid hx
  have HY := Lib.hid hy
  have HZ := Lib.hid hz
  clear hx hy hz
  go_enter Tryd.func6, Tryd.ntmps6
  go_wp2_with fail
  refine (cmpv_as t n s b c t' n' s' b' c' (by first | assumption | (constructor <;> omega)) (by first | assumption | (constructor <;> omega)) (0) HX.out _).mono ?_
  rintro e w1 ⟨rfl, hb1⟩
  obtain ⟨hc1, hf1, hz1⟩ := bkeep hb1 (w.heap.size + 3) (by first | omega | (simp <;> omega))
  have q1 : Below w.heap.size w w1 := by (repeat (first | (with_reducible exact Below.refl _ _) | (with_reducible refine Below.alloc ?_ (by first | omega | (dsimp only; omega) | (simp <;> omega)) _) | (with_reducible refine Below.setCell ?_ (by first | omega | (dsimp only; omega) | (simp <;> omega)) _) | (with_reducible refine Below.drew ?_) | (with_reducible refine below_drewN ?_ _) | (with_reducible refine Below.trans ?_ (Below.mono (by assumption) (by first | omega | (dsimp only; omega) | (simp <;> omega))))))
  go_wp2_with fail
  refine (cmpv_as t' n' s' b' c' u m r d k (by first | assumption | (constructor <;> omega)) (by first | assumption | (constructor <;> omega)) (0) HY.out _).mono ?_
  rintro e w2 ⟨rfl, hb2⟩
  obtain ⟨hc2, hf2, hz2⟩ := bkeep hb2 (w.heap.size + 3) (by first | omega | (simp <;> omega))
  have q2 : Below w.heap.size w w2 := q1.trans (hb2.mono (by omega))
  go_wp2_with fail
  refine (cmpv_as t n s b c u m r d k (by first | assumption | (constructor <;> omega)) (by first | assumption | (constructor <;> omega)) (0) HZ.out _).mono ?_
  rintro e w3 ⟨rfl, hb3⟩
  obtain ⟨hc3, hf3, hz3⟩ := bkeep hb3 (w.heap.size + 3) (by first | omega | (simp <;> omega))
  have q3 : Below w.heap.size w w3 := q2.trans (hb3.mono (by omega))
  go_wp2_with fail
  refine (known_any _ (Tab.below ht (q3))).mono ?_
  rintro e w4 ⟨rfl, hb4⟩
  obtain ⟨hc4, hf4, hz4⟩ := bkeep hb4 (w.heap.size + 3) (by first | omega | (simp <;> omega))
  have q4 : Below w.heap.size w w4 := q3.trans (hb4.mono (by omega))
  go_wp2_with fail
  refine (cmpv_as t' n' s' b' c' t n s b c (by first | assumption | (constructor <;> omega)) (by first | assumption | (constructor <;> omega)) (0) hx'.out _).mono ?_
  rintro e w5 ⟨rfl, hb5⟩
  obtain ⟨hc5, hf5, hz5⟩ := bkeep hb5 (w.heap.size + 3) (by first | omega | (simp <;> omega))
  have q5 : Below w.heap.size w w5 := q4.trans (hb5.mono (by omega))
  go_wp2_with fail
  refine (cmpv_as t n s b c t n s b c (by first | assumption | (constructor <;> omega)) (by first | assumption | (constructor <;> omega)) 0 hs.out _).mono ?_
  rintro e w6 ⟨rfl, hb6⟩
  obtain ⟨hc6, hf6, hz6⟩ := bkeep hb6 (w.heap.size + 3) (by first | omega | (simp <;> omega))
  have q6 : Below w.heap.size w w6 := q5.trans (hb6.mono (by omega))
  go_wp2_with fail
  refine (rank_as t n s b c (by first | assumption | (constructor <;> omega)) _ h1 _).mono ?_
  rintro e w7 ⟨rfl, hb7⟩
  obtain ⟨hc7, hf7, hz7⟩ := bkeep hb7 (w.heap.size + 3) (by first | omega | (simp <;> omega))
  have q7 : Below w.heap.size w w7 := q6.trans (hb7.mono (by omega))
  go_wp2_with fail
  refine (rank_as t' n' s' b' c' (by first | assumption | (constructor <;> omega)) _ h2 _).mono ?_
  rintro e w8 ⟨rfl, hb8⟩
  obtain ⟨hc8, hf8, hz8⟩ := bkeep hb8 (w.heap.size + 3) (by first | omega | (simp <;> omega))
  have q8 : Below w.heap.size w w8 := q7.trans (hb8.mono (by omega))
  go_wp2_with fail
  refine (rank_as u m r d k (by first | assumption | (constructor <;> omega)) _ h3 _).mono ?_
  rintro e w9 ⟨rfl, hb9⟩
  obtain ⟨hc9, hf9, hz9⟩ := bkeep hb9 (w.heap.size + 3) (by first | omega | (simp <;> omega))
  have q9 : Below w.heap.size w w9 := q8.trans (hb9.mono (by omega))
  go_wp2
  go_ret
  exact ⟨rfl, q9⟩
set_option maxRecDepth 100000 in
set_option maxHeartbeats 2000000 in
theorem ord_d3 (t n : Int) (s : ByteArray) (b : Bool) (c : Int) (t' n' : Int) (s' : ByteArray) (b' : Bool) (c' : Int) (u m : Int) (r : ByteArray) (d : Bool) (k : Int) (hn : -9223372036854775808 ≤ n ∧ n ≤ 9223372036854775807) (hn' : -9223372036854775808 ≤ n' ∧ n' ≤ 9223372036854775807) (hm : -9223372036854775808 ≤ m ∧ m ≤ 9223372036854775807) (hx : cmpV t n s b c t' n' s' b' c' = (0)) (hy : cmpV t' n' s' b' c' u m r d k = (-1)) (hz : cmpV t n s b c u m r d k = (-1)) (h1 : rankV t n s b c = true) (h2 : rankV t' n' s' b' c' = true) (h3 : rankV u m r d k = true) (hE : vEq t n s b c t' n' s' b' c' = true) (w : World) (ht : Tab w) :
    Calls Tryd.prog 6 #[.agg #[.int .i64 t, .int .i64 n, .string s, .bool b, .int .i64 c], .agg #[.int .i64 t', .int .i64 n', .string s', .bool b', .int .i64 c'], .agg #[.int .i64 u, .int .i64 m, .string r, .bool d, .int .i64 k]] w
      fun e w' => e = .returned (.bool true) ∧ Below w.heap.size w w' := by
  have hx' := Lib.hid (show cmpV t' n' s' b' c' t n s b c = (0) by first | (rw [cmpV_neg, hx]; done) | (rw [cmpV_neg, hx]; rfl))
  have hs := Lib.hid (cmpV_self t n s b c)
  have HX := Lib.hid hx
  have HY := Lib.hid hy
  have HZ := Lib.hid hz
  clear hx hy hz
  go_enter Tryd.func6, Tryd.ntmps6
  go_wp2_with fail
  refine (cmpv_as t n s b c t' n' s' b' c' (by first | assumption | (constructor <;> omega)) (by first | assumption | (constructor <;> omega)) (0) HX.out _).mono ?_
  rintro e w1 ⟨rfl, hb1⟩
  obtain ⟨hc1, hf1, hz1⟩ := bkeep hb1 (w.heap.size + 3) (by first | omega | (simp <;> omega))
  have q1 : Below w.heap.size w w1 := by (repeat (first | (with_reducible exact Below.refl _ _) | (with_reducible refine Below.alloc ?_ (by first | omega | (dsimp only; omega) | (simp <;> omega)) _) | (with_reducible refine Below.setCell ?_ (by first | omega | (dsimp only; omega) | (simp <;> omega)) _) | (with_reducible refine Below.drew ?_) | (with_reducible refine below_drewN ?_ _) | (with_reducible refine Below.trans ?_ (Below.mono (by assumption) (by first | omega | (dsimp only; omega) | (simp <;> omega))))))
  go_wp2_with fail
  refine (cmpv_as t' n' s' b' c' u m r d k (by first | assumption | (constructor <;> omega)) (by first | assumption | (constructor <;> omega)) (-1) HY.out _).mono ?_
  rintro e w2 ⟨rfl, hb2⟩
  obtain ⟨hc2, hf2, hz2⟩ := bkeep hb2 (w.heap.size + 3) (by first | omega | (simp <;> omega))
  have q2 : Below w.heap.size w w2 := q1.trans (hb2.mono (by omega))
  go_wp2_with fail
  refine (cmpv_as t n s b c u m r d k (by first | assumption | (constructor <;> omega)) (by first | assumption | (constructor <;> omega)) (-1) HZ.out _).mono ?_
  rintro e w3 ⟨rfl, hb3⟩
  obtain ⟨hc3, hf3, hz3⟩ := bkeep hb3 (w.heap.size + 3) (by first | omega | (simp <;> omega))
  have q3 : Below w.heap.size w w3 := q2.trans (hb3.mono (by omega))
  go_wp2_with fail
  refine (known_any _ (Tab.below ht (q3))).mono ?_
  rintro e w4 ⟨rfl, hb4⟩
  obtain ⟨hc4, hf4, hz4⟩ := bkeep hb4 (w.heap.size + 3) (by first | omega | (simp <;> omega))
  have q4 : Below w.heap.size w w4 := q3.trans (hb4.mono (by omega))
  go_wp2_with fail
  refine (cmpv_as t' n' s' b' c' t n s b c (by first | assumption | (constructor <;> omega)) (by first | assumption | (constructor <;> omega)) (0) hx'.out _).mono ?_
  rintro e w5 ⟨rfl, hb5⟩
  obtain ⟨hc5, hf5, hz5⟩ := bkeep hb5 (w.heap.size + 3) (by first | omega | (simp <;> omega))
  have q5 : Below w.heap.size w w5 := q4.trans (hb5.mono (by omega))
  go_wp2_with fail
  refine (cmpv_as t n s b c t n s b c (by first | assumption | (constructor <;> omega)) (by first | assumption | (constructor <;> omega)) 0 hs.out _).mono ?_
  rintro e w6 ⟨rfl, hb6⟩
  obtain ⟨hc6, hf6, hz6⟩ := bkeep hb6 (w.heap.size + 3) (by first | omega | (simp <;> omega))
  have q6 : Below w.heap.size w w6 := q5.trans (hb6.mono (by omega))
  go_wp2_with fail
  refine (rank_as t n s b c (by first | assumption | (constructor <;> omega)) _ h1 _).mono ?_
  rintro e w7 ⟨rfl, hb7⟩
  obtain ⟨hc7, hf7, hz7⟩ := bkeep hb7 (w.heap.size + 3) (by first | omega | (simp <;> omega))
  have q7 : Below w.heap.size w w7 := q6.trans (hb7.mono (by omega))
  go_wp2_with fail
  refine (rank_as t' n' s' b' c' (by first | assumption | (constructor <;> omega)) _ h2 _).mono ?_
  rintro e w8 ⟨rfl, hb8⟩
  obtain ⟨hc8, hf8, hz8⟩ := bkeep hb8 (w.heap.size + 3) (by first | omega | (simp <;> omega))
  have q8 : Below w.heap.size w w8 := q7.trans (hb8.mono (by omega))
  go_wp2_with fail
  refine (rank_as u m r d k (by first | assumption | (constructor <;> omega)) _ h3 _).mono ?_
  rintro e w9 ⟨rfl, hb9⟩
  obtain ⟨hc9, hf9, hz9⟩ := bkeep hb9 (w.heap.size + 3) (by first | omega | (simp <;> omega))
  have q9 : Below w.heap.size w w9 := q8.trans (hb9.mono (by omega))
  go_wp2
  go_ret
  exact ⟨rfl, q9⟩
set_option maxRecDepth 100000 in
set_option maxHeartbeats 2000000 in
theorem ord_d4 (t n : Int) (s : ByteArray) (b : Bool) (c : Int) (t' n' : Int) (s' : ByteArray) (b' : Bool) (c' : Int) (u m : Int) (r : ByteArray) (d : Bool) (k : Int) (hn : -9223372036854775808 ≤ n ∧ n ≤ 9223372036854775807) (hn' : -9223372036854775808 ≤ n' ∧ n' ≤ 9223372036854775807) (hm : -9223372036854775808 ≤ m ∧ m ≤ 9223372036854775807) (z : Int) (hx : cmpV t n s b c t' n' s' b' c' = (-1)) (hy : cmpV t' n' s' b' c' u m r d k = (1)) (hz : cmpV t n s b c u m r d k = z) (h1 : rankV t n s b c = true) (h2 : rankV t' n' s' b' c' = true) (h3 : rankV u m r d k = true) (hE : vEq t n s b c t' n' s' b' c' = false) (w : World) (ht : Tab w) :
    Calls Tryd.prog 6 #[.agg #[.int .i64 t, .int .i64 n, .string s, .bool b, .int .i64 c], .agg #[.int .i64 t', .int .i64 n', .string s', .bool b', .int .i64 c'], .agg #[.int .i64 u, .int .i64 m, .string r, .bool d, .int .i64 k]] w
      fun e w' => e = .returned (.bool true) ∧ Below w.heap.size w w' := by
  have hx' := Lib.hid (show cmpV t' n' s' b' c' t n s b c = (1) by first | (rw [cmpV_neg, hx]; done) | (rw [cmpV_neg, hx]; rfl))
  have hs := Lib.hid (cmpV_self t n s b c)
  have HX := Lib.hid hx
  have HY := Lib.hid hy
  have HZ := Lib.hid hz
  clear hx hy hz
  go_enter Tryd.func6, Tryd.ntmps6
  go_wp2_with fail
  refine (cmpv_as t n s b c t' n' s' b' c' (by first | assumption | (constructor <;> omega)) (by first | assumption | (constructor <;> omega)) (-1) HX.out _).mono ?_
  rintro e w1 ⟨rfl, hb1⟩
  obtain ⟨hc1, hf1, hz1⟩ := bkeep hb1 (w.heap.size + 3) (by first | omega | (simp <;> omega))
  have q1 : Below w.heap.size w w1 := by (repeat (first | (with_reducible exact Below.refl _ _) | (with_reducible refine Below.alloc ?_ (by first | omega | (dsimp only; omega) | (simp <;> omega)) _) | (with_reducible refine Below.setCell ?_ (by first | omega | (dsimp only; omega) | (simp <;> omega)) _) | (with_reducible refine Below.drew ?_) | (with_reducible refine below_drewN ?_ _) | (with_reducible refine Below.trans ?_ (Below.mono (by assumption) (by first | omega | (dsimp only; omega) | (simp <;> omega))))))
  go_wp2_with fail
  refine (cmpv_as t' n' s' b' c' u m r d k (by first | assumption | (constructor <;> omega)) (by first | assumption | (constructor <;> omega)) (1) HY.out _).mono ?_
  rintro e w2 ⟨rfl, hb2⟩
  obtain ⟨hc2, hf2, hz2⟩ := bkeep hb2 (w.heap.size + 3) (by first | omega | (simp <;> omega))
  have q2 : Below w.heap.size w w2 := q1.trans (hb2.mono (by omega))
  go_wp2_with fail
  refine (cmpv_as t n s b c u m r d k (by first | assumption | (constructor <;> omega)) (by first | assumption | (constructor <;> omega)) z HZ.out _).mono ?_
  rintro e w3 ⟨rfl, hb3⟩
  obtain ⟨hc3, hf3, hz3⟩ := bkeep hb3 (w.heap.size + 3) (by first | omega | (simp <;> omega))
  have q3 : Below w.heap.size w w3 := q2.trans (hb3.mono (by omega))
  go_wp2_with fail
  refine (known_any _ (Tab.below ht (q3))).mono ?_
  rintro e w4 ⟨rfl, hb4⟩
  obtain ⟨hc4, hf4, hz4⟩ := bkeep hb4 (w.heap.size + 3) (by first | omega | (simp <;> omega))
  have q4 : Below w.heap.size w w4 := q3.trans (hb4.mono (by omega))
  go_wp2_with fail
  refine (cmpv_as t' n' s' b' c' t n s b c (by first | assumption | (constructor <;> omega)) (by first | assumption | (constructor <;> omega)) (1) hx'.out _).mono ?_
  rintro e w5 ⟨rfl, hb5⟩
  obtain ⟨hc5, hf5, hz5⟩ := bkeep hb5 (w.heap.size + 3) (by first | omega | (simp <;> omega))
  have q5 : Below w.heap.size w w5 := q4.trans (hb5.mono (by omega))
  go_wp2_with fail
  refine (cmpv_as t n s b c t n s b c (by first | assumption | (constructor <;> omega)) (by first | assumption | (constructor <;> omega)) 0 hs.out _).mono ?_
  rintro e w6 ⟨rfl, hb6⟩
  obtain ⟨hc6, hf6, hz6⟩ := bkeep hb6 (w.heap.size + 3) (by first | omega | (simp <;> omega))
  have q6 : Below w.heap.size w w6 := q5.trans (hb6.mono (by omega))
  go_wp2_with fail
  refine (rank_as t n s b c (by first | assumption | (constructor <;> omega)) _ h1 _).mono ?_
  rintro e w7 ⟨rfl, hb7⟩
  obtain ⟨hc7, hf7, hz7⟩ := bkeep hb7 (w.heap.size + 3) (by first | omega | (simp <;> omega))
  have q7 : Below w.heap.size w w7 := q6.trans (hb7.mono (by omega))
  go_wp2_with fail
  refine (rank_as t' n' s' b' c' (by first | assumption | (constructor <;> omega)) _ h2 _).mono ?_
  rintro e w8 ⟨rfl, hb8⟩
  obtain ⟨hc8, hf8, hz8⟩ := bkeep hb8 (w.heap.size + 3) (by first | omega | (simp <;> omega))
  have q8 : Below w.heap.size w w8 := q7.trans (hb8.mono (by omega))
  go_wp2_with fail
  refine (rank_as u m r d k (by first | assumption | (constructor <;> omega)) _ h3 _).mono ?_
  rintro e w9 ⟨rfl, hb9⟩
  obtain ⟨hc9, hf9, hz9⟩ := bkeep hb9 (w.heap.size + 3) (by first | omega | (simp <;> omega))
  have q9 : Below w.heap.size w w9 := q8.trans (hb9.mono (by omega))
  go_wp2
  go_ret
  exact ⟨rfl, q9⟩
set_option maxRecDepth 100000 in
set_option maxHeartbeats 2000000 in
theorem ord_d5 (t n : Int) (s : ByteArray) (b : Bool) (c : Int) (t' n' : Int) (s' : ByteArray) (b' : Bool) (c' : Int) (u m : Int) (r : ByteArray) (d : Bool) (k : Int) (hn : -9223372036854775808 ≤ n ∧ n ≤ 9223372036854775807) (hn' : -9223372036854775808 ≤ n' ∧ n' ≤ 9223372036854775807) (hm : -9223372036854775808 ≤ m ∧ m ≤ 9223372036854775807) (hx : cmpV t n s b c t' n' s' b' c' = (-1)) (hy : cmpV t' n' s' b' c' u m r d k = (0)) (hz : cmpV t n s b c u m r d k = (-1)) (h1 : rankV t n s b c = true) (h2 : rankV t' n' s' b' c' = true) (h3 : rankV u m r d k = true) (hE : vEq t n s b c t' n' s' b' c' = false) (w : World) (ht : Tab w) :
    Calls Tryd.prog 6 #[.agg #[.int .i64 t, .int .i64 n, .string s, .bool b, .int .i64 c], .agg #[.int .i64 t', .int .i64 n', .string s', .bool b', .int .i64 c'], .agg #[.int .i64 u, .int .i64 m, .string r, .bool d, .int .i64 k]] w
      fun e w' => e = .returned (.bool true) ∧ Below w.heap.size w w' := by
  have hx' := Lib.hid (show cmpV t' n' s' b' c' t n s b c = (1) by first | (rw [cmpV_neg, hx]; done) | (rw [cmpV_neg, hx]; rfl))
  have hs := Lib.hid (cmpV_self t n s b c)
  have HX := Lib.hid hx
  have HY := Lib.hid hy
  have HZ := Lib.hid hz
  clear hx hy hz
  go_enter Tryd.func6, Tryd.ntmps6
  go_wp2_with fail
  refine (cmpv_as t n s b c t' n' s' b' c' (by first | assumption | (constructor <;> omega)) (by first | assumption | (constructor <;> omega)) (-1) HX.out _).mono ?_
  rintro e w1 ⟨rfl, hb1⟩
  obtain ⟨hc1, hf1, hz1⟩ := bkeep hb1 (w.heap.size + 3) (by first | omega | (simp <;> omega))
  have q1 : Below w.heap.size w w1 := by (repeat (first | (with_reducible exact Below.refl _ _) | (with_reducible refine Below.alloc ?_ (by first | omega | (dsimp only; omega) | (simp <;> omega)) _) | (with_reducible refine Below.setCell ?_ (by first | omega | (dsimp only; omega) | (simp <;> omega)) _) | (with_reducible refine Below.drew ?_) | (with_reducible refine below_drewN ?_ _) | (with_reducible refine Below.trans ?_ (Below.mono (by assumption) (by first | omega | (dsimp only; omega) | (simp <;> omega))))))
  go_wp2_with fail
  refine (cmpv_as t' n' s' b' c' u m r d k (by first | assumption | (constructor <;> omega)) (by first | assumption | (constructor <;> omega)) (0) HY.out _).mono ?_
  rintro e w2 ⟨rfl, hb2⟩
  obtain ⟨hc2, hf2, hz2⟩ := bkeep hb2 (w.heap.size + 3) (by first | omega | (simp <;> omega))
  have q2 : Below w.heap.size w w2 := q1.trans (hb2.mono (by omega))
  go_wp2_with fail
  refine (cmpv_as t n s b c u m r d k (by first | assumption | (constructor <;> omega)) (by first | assumption | (constructor <;> omega)) (-1) HZ.out _).mono ?_
  rintro e w3 ⟨rfl, hb3⟩
  obtain ⟨hc3, hf3, hz3⟩ := bkeep hb3 (w.heap.size + 3) (by first | omega | (simp <;> omega))
  have q3 : Below w.heap.size w w3 := q2.trans (hb3.mono (by omega))
  go_wp2_with fail
  refine (known_any _ (Tab.below ht (q3))).mono ?_
  rintro e w4 ⟨rfl, hb4⟩
  obtain ⟨hc4, hf4, hz4⟩ := bkeep hb4 (w.heap.size + 3) (by first | omega | (simp <;> omega))
  have q4 : Below w.heap.size w w4 := q3.trans (hb4.mono (by omega))
  go_wp2_with fail
  refine (cmpv_as t' n' s' b' c' t n s b c (by first | assumption | (constructor <;> omega)) (by first | assumption | (constructor <;> omega)) (1) hx'.out _).mono ?_
  rintro e w5 ⟨rfl, hb5⟩
  obtain ⟨hc5, hf5, hz5⟩ := bkeep hb5 (w.heap.size + 3) (by first | omega | (simp <;> omega))
  have q5 : Below w.heap.size w w5 := q4.trans (hb5.mono (by omega))
  go_wp2_with fail
  refine (cmpv_as t n s b c t n s b c (by first | assumption | (constructor <;> omega)) (by first | assumption | (constructor <;> omega)) 0 hs.out _).mono ?_
  rintro e w6 ⟨rfl, hb6⟩
  obtain ⟨hc6, hf6, hz6⟩ := bkeep hb6 (w.heap.size + 3) (by first | omega | (simp <;> omega))
  have q6 : Below w.heap.size w w6 := q5.trans (hb6.mono (by omega))
  go_wp2_with fail
  refine (rank_as t n s b c (by first | assumption | (constructor <;> omega)) _ h1 _).mono ?_
  rintro e w7 ⟨rfl, hb7⟩
  obtain ⟨hc7, hf7, hz7⟩ := bkeep hb7 (w.heap.size + 3) (by first | omega | (simp <;> omega))
  have q7 : Below w.heap.size w w7 := q6.trans (hb7.mono (by omega))
  go_wp2_with fail
  refine (rank_as t' n' s' b' c' (by first | assumption | (constructor <;> omega)) _ h2 _).mono ?_
  rintro e w8 ⟨rfl, hb8⟩
  obtain ⟨hc8, hf8, hz8⟩ := bkeep hb8 (w.heap.size + 3) (by first | omega | (simp <;> omega))
  have q8 : Below w.heap.size w w8 := q7.trans (hb8.mono (by omega))
  go_wp2_with fail
  refine (rank_as u m r d k (by first | assumption | (constructor <;> omega)) _ h3 _).mono ?_
  rintro e w9 ⟨rfl, hb9⟩
  obtain ⟨hc9, hf9, hz9⟩ := bkeep hb9 (w.heap.size + 3) (by first | omega | (simp <;> omega))
  have q9 : Below w.heap.size w w9 := q8.trans (hb9.mono (by omega))
  go_wp2
  go_ret
  exact ⟨rfl, q9⟩
set_option maxRecDepth 100000 in
set_option maxHeartbeats 2000000 in
theorem ord_d6 (t n : Int) (s : ByteArray) (b : Bool) (c : Int) (t' n' : Int) (s' : ByteArray) (b' : Bool) (c' : Int) (u m : Int) (r : ByteArray) (d : Bool) (k : Int) (hn : -9223372036854775808 ≤ n ∧ n ≤ 9223372036854775807) (hn' : -9223372036854775808 ≤ n' ∧ n' ≤ 9223372036854775807) (hm : -9223372036854775808 ≤ m ∧ m ≤ 9223372036854775807) (hx : cmpV t n s b c t' n' s' b' c' = (-1)) (hy : cmpV t' n' s' b' c' u m r d k = (-1)) (hz : cmpV t n s b c u m r d k = (-1)) (h1 : rankV t n s b c = true) (h2 : rankV t' n' s' b' c' = true) (h3 : rankV u m r d k = true) (hE : vEq t n s b c t' n' s' b' c' = false) (w : World) (ht : Tab w) :
    Calls Tryd.prog 6 #[.agg #[.int .i64 t, .int .i64 n, .string s, .bool b, .int .i64 c], .agg #[.int .i64 t', .int .i64 n', .string s', .bool b', .int .i64 c'], .agg #[.int .i64 u, .int .i64 m, .string r, .bool d, .int .i64 k]] w
      fun e w' => e = .returned (.bool true) ∧ Below w.heap.size w w' := by
  have hx' := Lib.hid (show cmpV t' n' s' b' c' t n s b c = (1) by first | (rw [cmpV_neg, hx]; done) | (rw [cmpV_neg, hx]; rfl))
  have hs := Lib.hid (cmpV_self t n s b c)
  have HX := Lib.hid hx
  have HY := Lib.hid hy
  have HZ := Lib.hid hz
  clear hx hy hz
  go_enter Tryd.func6, Tryd.ntmps6
  go_wp2_with fail
  refine (cmpv_as t n s b c t' n' s' b' c' (by first | assumption | (constructor <;> omega)) (by first | assumption | (constructor <;> omega)) (-1) HX.out _).mono ?_
  rintro e w1 ⟨rfl, hb1⟩
  obtain ⟨hc1, hf1, hz1⟩ := bkeep hb1 (w.heap.size + 3) (by first | omega | (simp <;> omega))
  have q1 : Below w.heap.size w w1 := by (repeat (first | (with_reducible exact Below.refl _ _) | (with_reducible refine Below.alloc ?_ (by first | omega | (dsimp only; omega) | (simp <;> omega)) _) | (with_reducible refine Below.setCell ?_ (by first | omega | (dsimp only; omega) | (simp <;> omega)) _) | (with_reducible refine Below.drew ?_) | (with_reducible refine below_drewN ?_ _) | (with_reducible refine Below.trans ?_ (Below.mono (by assumption) (by first | omega | (dsimp only; omega) | (simp <;> omega))))))
  go_wp2_with fail
  refine (cmpv_as t' n' s' b' c' u m r d k (by first | assumption | (constructor <;> omega)) (by first | assumption | (constructor <;> omega)) (-1) HY.out _).mono ?_
  rintro e w2 ⟨rfl, hb2⟩
  obtain ⟨hc2, hf2, hz2⟩ := bkeep hb2 (w.heap.size + 3) (by first | omega | (simp <;> omega))
  have q2 : Below w.heap.size w w2 := q1.trans (hb2.mono (by omega))
  go_wp2_with fail
  refine (cmpv_as t n s b c u m r d k (by first | assumption | (constructor <;> omega)) (by first | assumption | (constructor <;> omega)) (-1) HZ.out _).mono ?_
  rintro e w3 ⟨rfl, hb3⟩
  obtain ⟨hc3, hf3, hz3⟩ := bkeep hb3 (w.heap.size + 3) (by first | omega | (simp <;> omega))
  have q3 : Below w.heap.size w w3 := q2.trans (hb3.mono (by omega))
  go_wp2_with fail
  refine (known_any _ (Tab.below ht (q3))).mono ?_
  rintro e w4 ⟨rfl, hb4⟩
  obtain ⟨hc4, hf4, hz4⟩ := bkeep hb4 (w.heap.size + 3) (by first | omega | (simp <;> omega))
  have q4 : Below w.heap.size w w4 := q3.trans (hb4.mono (by omega))
  go_wp2_with fail
  refine (cmpv_as t' n' s' b' c' t n s b c (by first | assumption | (constructor <;> omega)) (by first | assumption | (constructor <;> omega)) (1) hx'.out _).mono ?_
  rintro e w5 ⟨rfl, hb5⟩
  obtain ⟨hc5, hf5, hz5⟩ := bkeep hb5 (w.heap.size + 3) (by first | omega | (simp <;> omega))
  have q5 : Below w.heap.size w w5 := q4.trans (hb5.mono (by omega))
  go_wp2_with fail
  refine (cmpv_as t n s b c t n s b c (by first | assumption | (constructor <;> omega)) (by first | assumption | (constructor <;> omega)) 0 hs.out _).mono ?_
  rintro e w6 ⟨rfl, hb6⟩
  obtain ⟨hc6, hf6, hz6⟩ := bkeep hb6 (w.heap.size + 3) (by first | omega | (simp <;> omega))
  have q6 : Below w.heap.size w w6 := q5.trans (hb6.mono (by omega))
  go_wp2_with fail
  refine (rank_as t n s b c (by first | assumption | (constructor <;> omega)) _ h1 _).mono ?_
  rintro e w7 ⟨rfl, hb7⟩
  obtain ⟨hc7, hf7, hz7⟩ := bkeep hb7 (w.heap.size + 3) (by first | omega | (simp <;> omega))
  have q7 : Below w.heap.size w w7 := q6.trans (hb7.mono (by omega))
  go_wp2_with fail
  refine (rank_as t' n' s' b' c' (by first | assumption | (constructor <;> omega)) _ h2 _).mono ?_
  rintro e w8 ⟨rfl, hb8⟩
  obtain ⟨hc8, hf8, hz8⟩ := bkeep hb8 (w.heap.size + 3) (by first | omega | (simp <;> omega))
  have q8 : Below w.heap.size w w8 := q7.trans (hb8.mono (by omega))
  go_wp2_with fail
  refine (rank_as u m r d k (by first | assumption | (constructor <;> omega)) _ h3 _).mono ?_
  rintro e w9 ⟨rfl, hb9⟩
  obtain ⟨hc9, hf9, hz9⟩ := bkeep hb9 (w.heap.size + 3) (by first | omega | (simp <;> omega))
  have q9 : Below w.heap.size w w9 := q8.trans (hb9.mono (by omega))
  go_wp2
  go_ret
  exact ⟨rfl, q9⟩
theorem walk_ValueOrder (t n : Int) (s : ByteArray) (b : Bool) (c : Int) (t' n' : Int) (s' : ByteArray) (b' : Bool) (c' : Int) (u m : Int) (r : ByteArray) (d : Bool) (k : Int) (hn : -9223372036854775808 ≤ n ∧ n ≤ 9223372036854775807) (hn' : -9223372036854775808 ≤ n' ∧ n' ≤ 9223372036854775807) (hm : -9223372036854775808 ≤ m ∧ m ≤ 9223372036854775807) (w : World) (ht : Tab w) : Calls Tryd.prog 6 #[.agg #[.int .i64 t, .int .i64 n, .string s, .bool b, .int .i64 c], .agg #[.int .i64 t', .int .i64 n', .string s', .bool b', .int .i64 c'], .agg #[.int .i64 u, .int .i64 m, .string r, .bool d, .int .i64 k]] w fun e w' => e = .returned (.bool true) ∧ Below w.heap.size w w' := by
  obtain ⟨x, hx⟩ : ∃ x, cmpV t n s b c t' n' s' b' c' = x := ⟨_, rfl⟩
  obtain ⟨y, hy⟩ : ∃ y, cmpV t' n' s' b' c' u m r d k = y := ⟨_, rfl⟩
  obtain ⟨z, hz⟩ : ∃ z, cmpV t n s b c u m r d k = z := ⟨_, rfl⟩
  have rx := cmpV_range t n s b c t' n' s' b' c'
  have ry := cmpV_range t' n' s' b' c' u m r d k
  have rz := cmpV_range t n s b c u m r d k
  rw [hx] at rx
  rw [hy] at ry
  rw [hz] at rz
  have hx3 : x = -1 ∨ x = 0 ∨ x = 1 := by omega
  cases h1 : rankV t n s b c
  · rcases hx3 with rfl | rfl | rfl
    · exact ord_a0 t n s b c t' n' s' b' c' u m r d k hn hn' hm y z hx hy hz h1 w ht
    · exact ord_a1 t n s b c t' n' s' b' c' u m r d k hn hn' hm y z hx hy hz h1 w ht
    · exact ord_a2 t n s b c t' n' s' b' c' u m r d k hn hn' hm y z hx hy hz h1 w ht
  cases h2 : rankV t' n' s' b' c'
  · rcases hx3 with rfl | rfl | rfl
    · exact ord_b0 t n s b c t' n' s' b' c' u m r d k hn hn' hm y z hx hy hz h1 h2 w ht
    · exact ord_b1 t n s b c t' n' s' b' c' u m r d k hn hn' hm y z hx hy hz h1 h2 w ht
    · exact ord_b2 t n s b c t' n' s' b' c' u m r d k hn hn' hm y z hx hy hz h1 h2 w ht
  have hE := cmpV_same h1 h2
  rw [hx] at hE
  cases h3 : rankV u m r d k
  · rcases hx3 with rfl | rfl | rfl
    · exact ord_c0 t n s b c t' n' s' b' c' u m r d k hn hn' hm y z hx hy hz h1 h2 h3 (by rw [← hE]; decide) w ht
    · exact ord_c1 t n s b c t' n' s' b' c' u m r d k hn hn' hm y z hx hy hz h1 h2 h3 (by rw [← hE]; decide) w ht
    · exact ord_c2 t n s b c t' n' s' b' c' u m r d k hn hn' hm y z hx hy hz h1 h2 h3 (by rw [← hE]; decide) w ht
  have hg : x ≤ 0 → y ≤ 0 → z ≤ 0 ∧ (z < 0 ↔ x < 0 ∨ y < 0) := by
    intro g1 g2
    have := cmpV_goes h1 h2 h3 (by rw [hx]; exact g1) (by rw [hy]; exact g2)
    rw [hx, hy, hz] at this
    exact this
  have hy3 : y = -1 ∨ y = 0 ∨ y = 1 := by omega
  rcases hx3 with rfl | rfl | rfl
  · rcases hy3 with rfl | rfl | rfl
    · obtain rfl : z = -1 := by have := hg (by omega) (by omega); omega
      exact ord_d6 t n s b c t' n' s' b' c' u m r d k hn hn' hm hx hy hz h1 h2 h3 (by rw [← hE]; decide) w ht
    · obtain rfl : z = -1 := by have := hg (by omega) (by omega); omega
      exact ord_d5 t n s b c t' n' s' b' c' u m r d k hn hn' hm hx hy hz h1 h2 h3 (by rw [← hE]; decide) w ht
    · exact ord_d4 t n s b c t' n' s' b' c' u m r d k hn hn' hm z hx hy hz h1 h2 h3 (by rw [← hE]; decide) w ht
  · rcases hy3 with rfl | rfl | rfl
    · obtain rfl : z = -1 := by have := hg (by omega) (by omega); omega
      exact ord_d3 t n s b c t' n' s' b' c' u m r d k hn hn' hm hx hy hz h1 h2 h3 (by rw [← hE]; decide) w ht
    · obtain rfl : z = 0 := by have := hg (by omega) (by omega); omega
      exact ord_d2 t n s b c t' n' s' b' c' u m r d k hn hn' hm hx hy hz h1 h2 h3 (by rw [← hE]; decide) w ht
    · exact ord_d1 t n s b c t' n' s' b' c' u m r d k hn hn' hm z hx hy hz h1 h2 h3 (by rw [← hE]; decide) w ht
  · exact ord_d0 t n s b c t' n' s' b' c' u m r d k hn hn' hm y z hx hy hz h1 h2 h3 (by rw [← hE]; decide) w ht
end Go.Proofs.YtjnjklcnccfgaaaDoor
