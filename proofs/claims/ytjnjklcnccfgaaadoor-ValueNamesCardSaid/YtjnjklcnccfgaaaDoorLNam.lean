/-
  The walk of the law of codes' names.
-/
import Derived.Test.YtjnjklcnccfgaaaDoorValK
import Derived.Test.YtjnjklcnccfgaaaDoorValG
import Derived.WalkSpells
import Derived.WalkLawsBesides
import Derived.StillTactics
import Derived.Laws.Pointers
import Derived.Deep.RegionHeld3
import Derived.Deep.QuietTactic
import Derived.BigQuiet
import Derived.RowKit3
import Derived.Lib.Hide
import Derived.Lib.OthersKept
import Derived.OwnWalk
import Derived.Lib.IndexLaws
import Derived.Lib.ItoaMem
namespace Go.Proofs.YtjnjklcnccfgaaaDoor
open Go.RowKit

theorem named_yes (c : Int) (h : 1 ≤ c ∧ c ≤ 8) (w : World) : Calls Tryd.prog 26 #[.string (codeName c)] w fun e w' => e = .returned (.tuple #[.int .i64 c, .bool true]) ∧ Below w.heap.size w w' := by
  have := named_any (codeName c) w
  have e1 : codeOf (codeName c) = c := by exact codeOf_name h
  rw [e1] at this
  have e : (!decide (c = 0)) = true := by simp; omega
  rw [e] at this
  exact this
theorem named_no (c : Int) (h : ¬ (1 ≤ c ∧ c ≤ 8)) (w : World) : Calls Tryd.prog 26 #[.string (codeName c)] w fun e w' => e = .returned (.tuple #[.int .i64 0, .bool false]) ∧ Below w.heap.size w w' := by
  have := named_any (codeName c) w
  have e1 : codeOf (codeName c) = 0 := by rw [codeName_no h]; exact codeOf_at0
  rw [e1] at this
  have e : (!decide ((0 : Int) = 0)) = false := by simp
  rw [e] at this
  exact this
set_option maxRecDepth 100000 in
set_option maxHeartbeats 1000000 in
theorem walk_names_yes (c : Int) (hc0 : -9223372036854775808 ≤ c ∧ c ≤ 9223372036854775807) (s : ByteArray) (h : 1 ≤ c ∧ c ≤ 8) (w : World) (ht : Tab w) :
    Calls Tryd.prog 5 #[.int .i64 c, .string s] w
      fun e w' => e = .returned (.bool true) ∧ Below w.heap.size w w' := by
  have H := Lib.hid h
  obtain ⟨hc1, hc2⟩ := hc0
  obtain ⟨g1, g2⟩ := h
  go_enter Tryd.func5, Tryd.ntmps5
  go_wp2_with fail
  refine (name_any _ _).mono ?_
  rintro e w1 ⟨rfl, hb1⟩
  go_wp2_with fail
  refine (named_any _ _).mono ?_
  rintro e w2 ⟨rfl, hb2⟩
  go_wp2_with fail
  refine (rnamed_any _ _).mono ?_
  rintro e w3 ⟨rfl, hb3⟩
  go_wp2_with fail
  refine (named_yes _ H.out _).mono ?_
  rintro e w4 ⟨rfl, hb4⟩
  go_wp2_with fail
  refine (rname_any _ _).mono ?_
  rintro e w5 ⟨rfl, hb5⟩
  have z1 := hb1.size
  have z2 := hb2.size
  have z3 := hb3.size
  have z4 := hb4.size
  have z5 := hb5.size
  have q1 := hb1.trans (hb2.mono z1)
  have q2 := q1.trans (hb3.mono (by omega))
  have q3 := q2.trans (hb4.mono (by omega))
  have q4 := q3.trans (hb5.mono (by omega))
  clear hb1 hb2 hb3 hb4 hb5 q1 q2 q3
  go_wp2_with (go_at_call 20; refine (known_any _ (Tab.below ht q4)).mono ?_; rintro e w6 ⟨rfl, hb6⟩)
  go_ret
  exact ⟨rfl, q4.trans (hb6.mono (by omega))⟩
set_option maxRecDepth 100000 in
set_option maxHeartbeats 1000000 in
theorem walk_names_no (c : Int) (hc0 : -9223372036854775808 ≤ c ∧ c ≤ 9223372036854775807) (s : ByteArray) (h : ¬ (1 ≤ c ∧ c ≤ 8)) (w : World) (ht : Tab w) :
    Calls Tryd.prog 5 #[.int .i64 c, .string s] w
      fun e w' => e = .returned (.bool true) ∧ Below w.heap.size w w' := by
  have H := Lib.hid h
  obtain ⟨hc1, hc2⟩ := hc0
  have g : c < 1 ∨ 8 < c := by omega
  clear h
  rcases g with g | g
  all_goals
    go_enter Tryd.func5, Tryd.ntmps5
    go_wp2_with fail
    refine (name_any _ _).mono ?_
    rintro e w1 ⟨rfl, hb1⟩
    go_wp2_with fail
    refine (named_any _ _).mono ?_
    rintro e w2 ⟨rfl, hb2⟩
    go_wp2_with fail
    refine (rnamed_any _ _).mono ?_
    rintro e w3 ⟨rfl, hb3⟩
    go_wp2_with fail
    refine (named_no _ H.out _).mono ?_
    rintro e w4 ⟨rfl, hb4⟩
    go_wp2_with fail
    refine (rname_any _ _).mono ?_
    rintro e w5 ⟨rfl, hb5⟩
    have z1 := hb1.size
    have z2 := hb2.size
    have z3 := hb3.size
    have z4 := hb4.size
    have z5 := hb5.size
    have q1 := hb1.trans (hb2.mono z1)
    have q2 := q1.trans (hb3.mono (by omega))
    have q3 := q2.trans (hb4.mono (by omega))
    have q4 := q3.trans (hb5.mono (by omega))
    clear hb1 hb2 hb3 hb4 hb5 q1 q2 q3
    go_wp2_with (go_at_call 20; refine (known_any _ (Tab.below ht q4)).mono ?_; rintro e w6 ⟨rfl, hb6⟩)
    go_ret
    exact ⟨rfl, q4.trans (hb6.mono (by omega))⟩
theorem walk_ValueNames (c : Int) (hc : -9223372036854775808 ≤ c ∧ c ≤ 9223372036854775807) (s : ByteArray) (w : World) (ht : Tab w) : Calls Tryd.prog 5 #[.int .i64 c, .string s] w fun e w' => e = .returned (.bool true) ∧ Below w.heap.size w w' := by
  by_cases h : 1 ≤ c ∧ c ≤ 8
  · exact walk_names_yes c hc s h w ht
  · exact walk_names_no c hc s h w ht
end Go.Proofs.YtjnjklcnccfgaaaDoor
