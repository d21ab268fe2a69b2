/-
  The walk of the law of Print.
-/
import Derived.Test.YtjnjklcnccfgaaaDoorDecK
import Derived.Test.YtjnjklcnccfgaaaDoorRPr
import Derived.Test.YtjnjklcnccfgaaaDoorNumP
import Derived.WalkSpells
import Derived.WalkLawsBesides
import Derived.StillTactics
import Derived.Laws.Pointers
import Derived.Deep.RegionHeld3
import Derived.Deep.QuietTactic
import Derived.BigQuiet
import Derived.RowKit3
import Derived.Lib.Hide
import Derived.Lib.OthersKept
import Derived.OwnWalk
import Derived.Lib.IndexLaws
import Derived.Lib.ItoaMem
namespace Go.Proofs.YtjnjklcnccfgaaaDoor
open Go.RowKit

theorem print_len (x : Int) (hx : -9223372036854775808 ≤ x ∧ x ≤ 9223372036854775807) : (printL x).length ≤ 40 := by
  unfold printL textOf
  have h1 := dec_len20 (u := x.natAbs / 10000) (by omega)
  have h2 := frac_len (x.natAbs % 10000)
  split
  · simp
  · split <;> split <;> simp <;> omega
theorem parse_print (x : Int) (v : Int) (p : Bool) (hx : -9223372036854775808 ≤ x ∧ x ≤ 9223372036854775807) (h : numV (printL x) = v ∧ numOk (printL x) = p) (w : World) : Calls Tryd.prog 46 #[.string ⟨(printL x).toArray⟩] w fun e w' => e = .returned (.tuple #[.int .i64 v, .bool p]) ∧ Below w.heap.size w w' := by
  have := dparse_l (printL x) (by have := print_len x hx; omega) w
  rw [h.1, h.2] at this
  exact this
set_option maxRecDepth 100000 in
set_option maxHeartbeats 1000000 in
theorem writes_no (x : Int) (hx : -9223372036854775808 ≤ x ∧ x ≤ 9223372036854775807) (h : x = -9223372036854775808) (w : World) (ht : Tab w) :
    Calls Tryd.prog 10 #[.int .i64 x] w
      fun e w' => e = .returned (.bool true) ∧ Below w.heap.size w w' := by
  have hp := Lib.hid (show numV (printL x) = 0 ∧ numOk (printL x) = false from (by rw [h]; exact print_none))
  have m1 := may_no h
  clear h
  go_enter Tryd.func10, Tryd.ntmps10
  go_wp2_with fail
  refine (dprint_any x hx _ ht).mono ?_
  rintro e w1 ⟨rfl, hb1⟩
  obtain ⟨hc1, hf1, hz1⟩ := bkeep hb1 (w.heap.size) (by first | omega | (simp <;> omega))
  have q1 : Below w.heap.size w w1 := by (repeat (first | (with_reducible exact Below.refl _ _) | (with_reducible refine Below.alloc ?_ (by first | omega | (dsimp only; omega) | (simp <;> omega)) _) | (with_reducible refine Below.setCell ?_ (by first | omega | (dsimp only; omega) | (simp <;> omega)) _) | (with_reducible refine Below.drew ?_) | (with_reducible refine below_drewN ?_ _) | (with_reducible refine Below.trans ?_ (Below.mono (by assumption) (by first | omega | (dsimp only; omega) | (simp <;> omega))))))
  go_wp2_with fail
  refine (rprint_any x hx _).mono ?_
  rintro e w2 ⟨rfl, hb2⟩
  obtain ⟨hc2, hf2, hz2⟩ := bkeep hb2 (w.heap.size) (by first | omega | (simp <;> omega))
  have q2 : Below w.heap.size w w2 := q1.trans (hb2.mono (by omega))
  go_wp2_with fail
  refine (parse_print x 0 false hx hp.out _).mono ?_
  rintro e w3 ⟨rfl, hb3⟩
  obtain ⟨hc3, hf3, hz3⟩ := bkeep hb3 (w.heap.size) (by first | omega | (simp <;> omega))
  have q3 : Below w.heap.size w w3 := q2.trans (hb3.mono (by omega))
  go_wp2_with fail
  refine (drmay_any x hx _).mono ?_
  rintro e w' ⟨rfl, rfl⟩
  go_wp2_with fail
  refine (dknown_any _ (Tab.below ht q3)).mono ?_
  rintro e w4 ⟨rfl, hb4⟩
  obtain ⟨hc4, hf4, hz4⟩ := bkeep hb4 (w.heap.size) (by first | omega | (simp <;> omega))
  have q4 : Below w.heap.size w w4 := q3.trans (hb4.mono (by omega))
  go_wp2
  go_ret
  exact ⟨rfl, q4⟩
set_option maxRecDepth 100000 in
set_option maxHeartbeats 1000000 in
theorem writes_yes (x : Int) (hx : -9223372036854775808 ≤ x ∧ x ≤ 9223372036854775807) (h : x ≠ -9223372036854775808) (w : World) (ht : Tab w) :
    Calls Tryd.prog 10 #[.int .i64 x] w
      fun e w' => e = .returned (.bool true) ∧ Below w.heap.size w w' := by
  have hp := Lib.hid (show numV (printL x) = x ∧ numOk (printL x) = true from (print_read hx h))
  have m1 := may_yes h
  clear h
  go_enter Tryd.func10, Tryd.ntmps10
  go_wp2_with fail
  refine (dprint_any x hx _ ht).mono ?_
  rintro e w1 ⟨rfl, hb1⟩
  obtain ⟨hc1, hf1, hz1⟩ := bkeep hb1 (w.heap.size) (by first | omega | (simp <;> omega))
  have q1 : Below w.heap.size w w1 := by (repeat (first | (with_reducible exact Below.refl _ _) | (with_reducible refine Below.alloc ?_ (by first | omega | (dsimp only; omega) | (simp <;> omega)) _) | (with_reducible refine Below.setCell ?_ (by first | omega | (dsimp only; omega) | (simp <;> omega)) _) | (with_reducible refine Below.drew ?_) | (with_reducible refine below_drewN ?_ _) | (with_reducible refine Below.trans ?_ (Below.mono (by assumption) (by first | omega | (dsimp only; omega) | (simp <;> omega))))))
  go_wp2_with fail
  refine (rprint_any x hx _).mono ?_
  rintro e w2 ⟨rfl, hb2⟩
  obtain ⟨hc2, hf2, hz2⟩ := bkeep hb2 (w.heap.size) (by first | omega | (simp <;> omega))
  have q2 : Below w.heap.size w w2 := q1.trans (hb2.mono (by omega))
  go_wp2_with fail
  refine (parse_print x x true hx hp.out _).mono ?_
  rintro e w3 ⟨rfl, hb3⟩
  obtain ⟨hc3, hf3, hz3⟩ := bkeep hb3 (w.heap.size) (by first | omega | (simp <;> omega))
  have q3 : Below w.heap.size w w3 := q2.trans (hb3.mono (by omega))
  go_wp2_with fail
  refine (drmay_any x hx _).mono ?_
  rintro e w' ⟨rfl, rfl⟩
  go_wp2_with fail
  refine (dknown_any _ (Tab.below ht q3)).mono ?_
  rintro e w4 ⟨rfl, hb4⟩
  obtain ⟨hc4, hf4, hz4⟩ := bkeep hb4 (w.heap.size) (by first | omega | (simp <;> omega))
  have q4 : Below w.heap.size w w4 := q3.trans (hb4.mono (by omega))
  go_wp2
  go_ret
  exact ⟨rfl, q4⟩
theorem walk_DecWrites (x : Int) (hx : -9223372036854775808 ≤ x ∧ x ≤ 9223372036854775807) (w : World) (ht : Tab w) : Calls Tryd.prog 10 #[.int .i64 x] w fun e w' => e = .returned (.bool true) ∧ Below w.heap.size w w' := by
  by_cases h : x = -9223372036854775808
  · exact writes_no x hx h w ht
  · exact writes_yes x hx h w ht
end Go.Proofs.YtjnjklcnccfgaaaDoor
