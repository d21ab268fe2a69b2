/-
  The walk of the law of makers.
-/
import Derived.Test.YtjnjklcnccfgaaaDoorValG
import Derived.WalkSpells
import Derived.WalkLawsBesides
import Derived.StillTactics
import Derived.Laws.Pointers
import Derived.Deep.RegionHeld3
import Derived.Deep.QuietTactic
import Derived.BigQuiet
import Derived.RowKit3
import Derived.Lib.Hide
import Derived.Lib.OthersKept
import Derived.OwnWalk
import Derived.Lib.IndexLaws
import Derived.Lib.ItoaMem
namespace Go.Proofs.YtjnjklcnccfgaaaDoor
open Go.RowKit

theorem vnum_any (x : Int) (hx : -9223372036854775808 ≤ x ∧ x ≤ 9223372036854775807) (w : World) : Calls Tryd.prog 30 #[.int .i64 x] w fun e w' => e = .returned (.agg #[.int .i64 (numT x), .int .i64 (numN x), .string ⟨#[]⟩, .bool false, .int .i64 (numF x)]) ∧ Below w.heap.size w w' := by
  by_cases h : x = -9223372036854775808
  · rw [show numT x = 4 from if_pos h, show numN x = 0 from if_pos h, show numF x = 2 from if_pos h]
    exact vnum_no x hx h w
  · rw [show numT x = 1 from if_neg h, show numN x = x from if_neg h, show numF x = 0 from if_neg h]
    exact vnum_yes x hx h w
theorem verr_any (c : Int) (w : World) : Calls Tryd.prog 36 #[.int .i64 c] w fun e w' => e = .returned (.agg #[.int .i64 4, .int .i64 0, .string ⟨#[]⟩, .bool false, .int .i64 (errC c)]) ∧ Below w.heap.size w w' := by
  by_cases h : 1 ≤ c ∧ c ≤ 8
  · rw [show errC c = c from if_pos h]
    exact verr_yes c h w
  · rw [show errC c = 8 from if_neg h]
    exact verr_no c h w
theorem rvnum_any (x : Int) (hx : -9223372036854775808 ≤ x ∧ x ≤ 9223372036854775807) (w : World) : Calls Tryd.prog 31 #[.int .i64 x] w fun e w' => e = .returned (.agg #[.int .i64 (numT x), .int .i64 (numN x), .string ⟨#[]⟩, .bool false, .int .i64 (numF x)]) ∧ Below w.heap.size w w' := by
  by_cases h : x = -9223372036854775808
  · rw [show numT x = 4 from if_pos h, show numN x = 0 from if_pos h, show numF x = 2 from if_pos h]
    exact rvnum_no x hx h w
  · rw [show numT x = 1 from if_neg h, show numN x = x from if_neg h, show numF x = 0 from if_neg h]
    exact rvnum_yes x hx h w
theorem rverr_any (c : Int) (w : World) : Calls Tryd.prog 37 #[.int .i64 c] w fun e w' => e = .returned (.agg #[.int .i64 4, .int .i64 0, .string ⟨#[]⟩, .bool false, .int .i64 (errC c)]) ∧ Below w.heap.size w w' := by
  by_cases h : 1 ≤ c ∧ c ≤ 8
  · rw [show errC c = c from if_pos h]
    exact rverr_yes c h w
  · rw [show errC c = 8 from if_neg h]
    exact rverr_no c h w
theorem vEq_self (t n : Int) (s : ByteArray) (b : Bool) (c : Int) : vEq t n s b c t n s b c = true := by simp [vEq]
set_option maxRecDepth 100000 in
set_option maxHeartbeats 2000000 in
theorem walk_ValueMakes (x : Int) (hx : -9223372036854775808 ≤ x ∧ x ≤ 9223372036854775807) (s : ByteArray) (c : Int) (hc0 : -9223372036854775808 ≤ c ∧ c ≤ 9223372036854775807) (w : World) (ht : Tab w) :
    Calls Tryd.prog 7 #[.int .i64 x, .string s, .int .i64 c] w
      fun e w' => e = .returned (.bool true) ∧ Below w.heap.size w w' := by
  have e1 := vEq_self (numT x) (numN x) ⟨#[]⟩ false (numF x)
  have e2 := vEq_self 2 0 s false 0
  have e3 := vEq_self 3 0 ⟨#[]⟩ (decide (0 < c)) 0
  have e4 := vEq_self 4 0 ⟨#[]⟩ false (errC c)
  obtain ⟨hc1, hc2⟩ := hc0
  go_enter Tryd.func7, Tryd.ntmps7
  go_wp2_with fail
  refine (vnum_any x (by first | assumption | (constructor <;> omega)) _).mono ?_
  rintro e w1 ⟨rfl, hb1⟩
  obtain ⟨hc1, hf1, hz1⟩ := bkeep hb1 (w.heap.size) (by first | omega | (simp <;> omega))
  have q1 : Below w.heap.size w w1 := by (repeat (first | (with_reducible exact Below.refl _ _) | (with_reducible refine Below.alloc ?_ (by first | omega | (dsimp only; omega) | (simp <;> omega)) _) | (with_reducible refine Below.setCell ?_ (by first | omega | (dsimp only; omega) | (simp <;> omega)) _) | (with_reducible refine Below.drew ?_) | (with_reducible refine below_drewN ?_ _) | (with_reducible refine Below.trans ?_ (Below.mono (by assumption) (by first | omega | (dsimp only; omega) | (simp <;> omega))))))
  go_wp2_with fail
  refine (rvnum_any x (by first | assumption | (constructor <;> omega)) _).mono ?_
  rintro e w2 ⟨rfl, hb2⟩
  obtain ⟨hc2, hf2, hz2⟩ := bkeep hb2 (w.heap.size) (by first | omega | (simp <;> omega))
  have q2 : Below w.heap.size w w2 := q1.trans (hb2.mono (by omega))
  go_wp2_with fail
  refine (vtxt_any s _).mono ?_
  rintro e w3 ⟨rfl, hb3⟩
  obtain ⟨hc3, hf3, hz3⟩ := bkeep hb3 (w.heap.size) (by first | omega | (simp <;> omega))
  have q3 : Below w.heap.size w w3 := q2.trans (hb3.mono (by omega))
  go_wp2_with fail
  refine (rvtxt_any s _).mono ?_
  rintro e w4 ⟨rfl, hb4⟩
  obtain ⟨hc4, hf4, hz4⟩ := bkeep hb4 (w.heap.size) (by first | omega | (simp <;> omega))
  have q4 : Below w.heap.size w w4 := q3.trans (hb4.mono (by omega))
  go_wp2_with fail
  refine (vtruth_any (decide (0 < c)) _).mono ?_
  rintro e w5 ⟨rfl, hb5⟩
  obtain ⟨hc5, hf5, hz5⟩ := bkeep hb5 (w.heap.size) (by first | omega | (simp <;> omega))
  have q5 : Below w.heap.size w w5 := q4.trans (hb5.mono (by omega))
  go_wp2_with fail
  refine (rvtruth_any (decide (0 < c)) _).mono ?_
  rintro e w6 ⟨rfl, hb6⟩
  obtain ⟨hc6, hf6, hz6⟩ := bkeep hb6 (w.heap.size) (by first | omega | (simp <;> omega))
  have q6 : Below w.heap.size w w6 := q5.trans (hb6.mono (by omega))
  go_wp2_with fail
  refine (verr_any c _).mono ?_
  rintro e w7 ⟨rfl, hb7⟩
  obtain ⟨hc7, hf7, hz7⟩ := bkeep hb7 (w.heap.size) (by first | omega | (simp <;> omega))
  have q7 : Below w.heap.size w w7 := q6.trans (hb7.mono (by omega))
  go_wp2_with fail
  refine (rverr_any c _).mono ?_
  rintro e w8 ⟨rfl, hb8⟩
  obtain ⟨hc8, hf8, hz8⟩ := bkeep hb8 (w.heap.size) (by first | omega | (simp <;> omega))
  have q8 : Below w.heap.size w w8 := q7.trans (hb8.mono (by omega))
  go_wp2_with fail
  refine (known_any _ (Tab.below ht q8)).mono ?_
  rintro e w9 ⟨rfl, hb9⟩
  obtain ⟨hc9, hf9, hz9⟩ := bkeep hb9 (w.heap.size) (by first | omega | (simp <;> omega))
  have q9 : Below w.heap.size w w9 := q8.trans (hb9.mono (by omega))
  go_wp2
  go_ret
  exact ⟨rfl, q9⟩
end Go.Proofs.YtjnjklcnccfgaaaDoor
