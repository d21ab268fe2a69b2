/-
  The walk of the law of powers.
-/
import Derived.Test.YtjnjklcnccfgaaaDoorDecK
import Derived.Test.YtjnjklcnccfgaaaDoorRPowJ
import Derived.WalkSpells
import Derived.WalkLawsBesides
import Derived.StillTactics
import Derived.Laws.Pointers
import Derived.Deep.RegionHeld3
import Derived.Deep.QuietTactic
import Derived.BigQuiet
import Derived.RowKit3
import Derived.Lib.Hide
import Derived.Lib.OthersKept
import Derived.OwnWalk
import Derived.Lib.IndexLaws
import Derived.Lib.ItoaMem
namespace Go.Proofs.YtjnjklcnccfgaaaDoor
open Go.RowKit

set_option maxRecDepth 100000 in
set_option maxHeartbeats 2000000 in
theorem walk_DecPowers (x : Int) (n : Int) (hx : -9223372036854775808 ≤ x ∧ x ≤ 9223372036854775807) (_hn : -9223372036854775808 ≤ n ∧ n ≤ 9223372036854775807) (w : World) (ht : Tab w) :
    Calls Tryd.prog 17 #[.int .i64 x, .int .i64 n] w
      fun e w' => e = .returned (.bool true) ∧ Below w.heap.size w w' := by
  go_enter Tryd.func17, Tryd.ntmps17
  go_wp2_with fail
  refine (power_any x n hx _).mono ?_
  rintro e w1 ⟨rfl, hb1⟩
  obtain ⟨hc1, hf1, hz1⟩ := bkeep hb1 (w.heap.size) (by first | omega | (simp <;> omega))
  have q1 : Below w.heap.size w w1 := by (repeat (first | (with_reducible exact Below.refl _ _) | (with_reducible refine Below.alloc ?_ (by first | omega | (dsimp only; omega) | (simp <;> omega)) _) | (with_reducible refine Below.setCell ?_ (by first | omega | (dsimp only; omega) | (simp <;> omega)) _) | (with_reducible refine Below.drew ?_) | (with_reducible refine below_drewN ?_ _) | (with_reducible refine Below.trans ?_ (Below.mono (by assumption) (by first | omega | (dsimp only; omega) | (simp <;> omega))))))
  go_wp2_with fail
  refine (rpower_any x n hx _).mono ?_
  rintro e w2 ⟨rfl, hb2⟩
  obtain ⟨hc2, hf2, hz2⟩ := bkeep hb2 (w.heap.size) (by first | omega | (simp <;> omega))
  have q2 : Below w.heap.size w w2 := q1.trans (hb2.mono (by omega))
  go_wp2_with fail
  refine (alike_self _ _ _).mono ?_
  rintro e w' ⟨rfl, rfl⟩
  go_wp2_with fail
  refine (sqrt_any x hx _).mono ?_
  rintro e w' ⟨rfl, rfl⟩
  go_wp2_with fail
  refine (rsqrt_any x hx _).mono ?_
  rintro e w3 ⟨rfl, hb3⟩
  obtain ⟨hc3, hf3, hz3⟩ := bkeep hb3 (w.heap.size) (by first | omega | (simp <;> omega))
  have q3 : Below w.heap.size w w3 := q2.trans (hb3.mono (by omega))
  go_wp2_with fail
  refine (alike_self _ _ _).mono ?_
  rintro e w' ⟨rfl, rfl⟩
  go_wp2_with fail
  refine (dknown_any _ (Tab.below ht q3)).mono ?_
  rintro e w4 ⟨rfl, hb4⟩
  obtain ⟨hc4, hf4, hz4⟩ := bkeep hb4 (w.heap.size) (by first | omega | (simp <;> omega))
  have q4 : Below w.heap.size w w4 := q3.trans (hb4.mono (by omega))
  go_wp2
  go_ret
  exact ⟨rfl, q4⟩
end Go.Proofs.YtjnjklcnccfgaaaDoor
