/-
  Package value: the document's May; Txt, Truth, Num, Err of both.
-/
import Derived.Test.YtaomlgpakbjegaaGreatDoorRows
import Derived.Test.YtaomlgpakbjegaaGreatDoorBase
import Derived.Test.YtaomlgpakbjegaaGreatDoorMg4
import Derived.Test.YtaomlgpakbjegaaGreatDoorValA
import Derived.Test.YtaomlgpakbjegaaGreatDoorValB
import Derived.WalkSpells
import Derived.WalkLawsBesides
import Derived.StillTactics
import Derived.Laws.Pointers
import Derived.Deep.RegionHeld3
import Derived.Deep.QuietTactic
import Derived.BigQuiet
import Derived.RowKit3
import Derived.Lib.Hide
import Derived.Lib.OthersKept
import Derived.OwnWalk
import Derived.Lib.IndexLaws
import Derived.Lib.ItoaMem
import Derived.WalkKit
import Derived.ProofKit
import Derived.OpenShut
import Derived.Carry
import Derived.ChangeSame
import Derived.Deep.Draws
namespace Go.Proofs.YtaomlgpakbjegaaGreatDoor
open Go.RowKit

set_option maxHeartbeats 400000 in
theorem rvmay_any (t n : Int) (s : ByteArray) (b : Bool) (c : Int) (hn : -9223372036854775808 ≤ n ∧ n ≤ 9223372036854775807) (w : World) :
    Calls Tryz.prog 75 #[.agg #[.int .i64 t, .int .i64 n, .string s, .bool b, .int .i64 c]] w
      fun e w' => e = .returned (.bool (vMay t n s b c)) ∧ Below w.heap.size w w' := by
  go_enter Tryz.func75, Tryz.ntmps75
  go_wp2_with (go_at_call 154; refine (drmay_any _ (by first | assumption | (constructor <;> omega)) _).mono ?_; rintro e w1 ⟨rfl, rfl⟩)
  all_goals go_ret
  all_goals refine ⟨ret_b (Bool.eq_iff_iff.2 ?_), by (repeat (first | (with_reducible exact Below.refl _ _) | (with_reducible refine Below.alloc ?_ (by first | omega | (dsimp only; omega) | (simp <;> omega)) _) | (with_reducible refine Below.setCell ?_ (by first | omega | (dsimp only; omega) | (simp <;> omega)) _) | (with_reducible refine Below.drew ?_) | (with_reducible refine below_drewN ?_ _) | (with_reducible refine Below.trans ?_ (Below.mono (by assumption) (by first | omega | (dsimp only; omega) | (simp <;> omega))))))⟩
  all_goals try simp only [beq_iff_eq, beq_eq_false_iff_ne, ne_eq, decide_eq_true_eq] at *
  all_goals simp [vMay, decMay, *]
  all_goals first | done | omega | grind
/-- a number's value, and a fault's -/
def numN (x : Int) : Int := if x = -9223372036854775808 then 0 else x
def numT (x : Int) : Int := if x = -9223372036854775808 then 4 else 1
def numF (x : Int) : Int := if x = -9223372036854775808 then 2 else 0
def errC (c : Int) : Int := if 1 ≤ c ∧ c ≤ 8 then c else 8
theorem ne_yes {c : Int} (h : 1 ≤ c ∧ c ≤ 8) : (codeName c = ⟨#[]⟩) = False := eq_false (codeName_yes h)
set_option maxHeartbeats 400000 in
theorem verr_yes (c : Int) (h : 1 ≤ c ∧ c ≤ 8) (w : World) :
    Calls Tryz.prog 40 #[.int .i64 c] w
      fun e w' => e = .returned (.agg #[.int .i64 4, .int .i64 0, .string ⟨#[]⟩, .bool false, .int .i64 c]) ∧ Below w.heap.size w w' := by
  have hn := ne_yes h
  go_enter Tryz.func40, Tryz.ntmps40
  go_wp2_with (go_at_call 79; refine (name_any _ _).mono ?_; rintro e w1 ⟨rfl, hb⟩; obtain ⟨hc, hf, hz⟩ := bkeep hb (w.heap.size + 1) (by first | omega | (simp <;> omega)))
  refine bodyPost_ret (v := .agg #[.int .i64 4, .int .i64 0, .string ⟨#[]⟩, .bool false, .int .i64 c]) ?_ rfl ⟨rfl, by first | assumption | exact Below.trans (by assumption) (Below.mono (by assumption) (by omega)) | ((repeat (first | (with_reducible exact Below.refl _ _) | (with_reducible refine Below.alloc ?_ (by first | omega | (dsimp only; omega) | (simp <;> omega)) _) | (with_reducible refine Below.setCell ?_ (by first | omega | (dsimp only; omega) | (simp <;> omega)) _) | (with_reducible refine Below.drew ?_) | (with_reducible refine below_drewN ?_ _) | (with_reducible refine Below.trans ?_ (Below.mono (by assumption) (by first | omega | (dsimp only; omega) | (simp <;> omega)))))); done)⟩
  simp [results, Tryz.results40, go_sem, *]
theorem ne_no {c : Int} (h : ¬ (1 ≤ c ∧ c ≤ 8)) : (codeName c = ⟨#[]⟩) = True := eq_true (codeName_no h)
set_option maxHeartbeats 400000 in
theorem verr_no (c : Int) (h : ¬ (1 ≤ c ∧ c ≤ 8)) (w : World) :
    Calls Tryz.prog 40 #[.int .i64 c] w
      fun e w' => e = .returned (.agg #[.int .i64 4, .int .i64 0, .string ⟨#[]⟩, .bool false, .int .i64 8]) ∧ Below w.heap.size w w' := by
  have hn := ne_no h
  go_enter Tryz.func40, Tryz.ntmps40
  go_wp2_with (go_at_call 79; refine (name_any _ _).mono ?_; rintro e w1 ⟨rfl, hb⟩; obtain ⟨hc, hf, hz⟩ := bkeep hb (w.heap.size + 1) (by first | omega | (simp <;> omega)))
  refine bodyPost_ret (v := .agg #[.int .i64 4, .int .i64 0, .string ⟨#[]⟩, .bool false, .int .i64 8]) ?_ rfl ⟨rfl, by first | assumption | exact Below.trans (by assumption) (Below.mono (by assumption) (by omega)) | ((repeat (first | (with_reducible exact Below.refl _ _) | (with_reducible refine Below.alloc ?_ (by first | omega | (dsimp only; omega) | (simp <;> omega)) _) | (with_reducible refine Below.setCell ?_ (by first | omega | (dsimp only; omega) | (simp <;> omega)) _) | (with_reducible refine Below.drew ?_) | (with_reducible refine below_drewN ?_ _) | (with_reducible refine Below.trans ?_ (Below.mono (by assumption) (by first | omega | (dsimp only; omega) | (simp <;> omega)))))); done)⟩
  simp [results, Tryz.results40, go_sem, *]
set_option maxHeartbeats 400000 in
theorem vnum_yes (x : Int) (hx : -9223372036854775808 ≤ x ∧ x ≤ 9223372036854775807) (h : x ≠ -9223372036854775808) (w : World) :
    Calls Tryz.prog 162 #[.int .i64 x] w
      fun e w' => e = .returned (.agg #[.int .i64 1, .int .i64 x, .string ⟨#[]⟩, .bool false, .int .i64 0]) ∧ Below w.heap.size w w' := by
  have m1 := may_yes h
  go_enter Tryz.func162, Tryz.ntmps162
  go_wp2_with (first | (go_at_call 107; refine (dmay_any _ hx _).mono ?_; rintro e w1 ⟨rfl, rfl⟩) | (go_at_call 40; refine (verr_yes 2 (by decide) _).mono ?_; rintro e w1 ⟨rfl, hb⟩; obtain ⟨hc, hf, hz⟩ := bkeep hb (w.heap.size + 1) (by first | omega | (simp <;> omega))))
  refine bodyPost_ret (v := .agg #[.int .i64 1, .int .i64 x, .string ⟨#[]⟩, .bool false, .int .i64 0]) ?_ rfl ⟨rfl, by first | assumption | exact Below.trans (by assumption) (Below.mono (by assumption) (by omega)) | ((repeat (first | (with_reducible exact Below.refl _ _) | (with_reducible refine Below.alloc ?_ (by first | omega | (dsimp only; omega) | (simp <;> omega)) _) | (with_reducible refine Below.setCell ?_ (by first | omega | (dsimp only; omega) | (simp <;> omega)) _) | (with_reducible refine Below.drew ?_) | (with_reducible refine below_drewN ?_ _) | (with_reducible refine Below.trans ?_ (Below.mono (by assumption) (by first | omega | (dsimp only; omega) | (simp <;> omega)))))); done)⟩
  simp [results, Tryz.results162, go_sem, *]
set_option maxHeartbeats 400000 in
theorem vnum_no (x : Int) (hx : -9223372036854775808 ≤ x ∧ x ≤ 9223372036854775807) (h : x = -9223372036854775808) (w : World) :
    Calls Tryz.prog 162 #[.int .i64 x] w
      fun e w' => e = .returned (.agg #[.int .i64 4, .int .i64 0, .string ⟨#[]⟩, .bool false, .int .i64 2]) ∧ Below w.heap.size w w' := by
  have m1 := may_no h
  clear h
  go_enter Tryz.func162, Tryz.ntmps162
  go_wp2_with (first | (go_at_call 107; refine (dmay_any _ hx _).mono ?_; rintro e w1 ⟨rfl, rfl⟩) | (go_at_call 40; refine (verr_yes 2 (by decide) _).mono ?_; rintro e w1 ⟨rfl, hb⟩; obtain ⟨hc, hf, hz⟩ := bkeep hb (w.heap.size + 1) (by first | omega | (simp <;> omega))))
  refine bodyPost_ret (v := .agg #[.int .i64 4, .int .i64 0, .string ⟨#[]⟩, .bool false, .int .i64 2]) ?_ rfl ⟨rfl, by first | assumption | exact Below.trans (by assumption) (Below.mono (by assumption) (by omega)) | ((repeat (first | (with_reducible exact Below.refl _ _) | (with_reducible refine Below.alloc ?_ (by first | omega | (dsimp only; omega) | (simp <;> omega)) _) | (with_reducible refine Below.setCell ?_ (by first | omega | (dsimp only; omega) | (simp <;> omega)) _) | (with_reducible refine Below.drew ?_) | (with_reducible refine below_drewN ?_ _) | (with_reducible refine Below.trans ?_ (Below.mono (by assumption) (by first | omega | (dsimp only; omega) | (simp <;> omega)))))); done)⟩
  simp [results, Tryz.results162, go_sem, *]
end Go.Proofs.YtaomlgpakbjegaaGreatDoor
