/-
  Contracts of the functions of package addr that only compute (May, MayRect, In, Before), and of the document's own.
-/
import Derived.Test.YtfbkoieodflcpaaGreatDoorRows
import Derived.Test.YtfbkoieodflcpaaGreatDoorMg0
import Derived.WalkSpells
import Derived.WalkLawsBesides
import Derived.StillTactics
import Derived.Laws.Pointers
import Derived.Deep.RegionHeld3
import Derived.Deep.QuietTactic
import Derived.BigQuiet
import Derived.RowKit3
import Derived.Lib.Hide
import Derived.Lib.OthersKept
import Derived.OwnWalk
import Derived.Lib.IndexLaws
import Derived.WalkKit
import Derived.ProofKit
import Derived.OpenShut
import Derived.Carry
import Derived.ChangeSame
import Derived.Deep.Draws
namespace Go.Proofs.YtfbkoieodflcpaaGreatDoor
open Go.RowKit

/-- may a cell be? -/
def mayB (row col : Int) : Bool := decide (1 ≤ row) && decide (row ≤ 4096) && decide (1 ≤ col) && decide (col ≤ 256)
/-- may a rectangle be? -/
def mayRectB (t l b r : Int) : Bool := mayB t l && mayB b r && decide (t ≤ b) && decide (l ≤ r)
set_option maxHeartbeats 400000 in
theorem may_any (a b : Int) (w : World) :
    Calls Tryz.prog 31 #[.agg #[.int .i64 a, .int .i64 b]] w
      fun e w' => e = .returned (.bool (mayB a b)) ∧ Below w.heap.size w w' := by
  go_enter Tryz.func31, Tryz.ntmps31
  go_wp2
  all_goals go_ret
  all_goals refine ⟨congrArg (fun b => Ending.returned (Value.bool b)) (Bool.eq_iff_iff.2 ?_), by (repeat (first | (with_reducible exact Below.refl _ _) | (with_reducible refine Below.alloc ?_ (by first | omega | (dsimp only; omega) | (simp <;> omega)) _) | (with_reducible refine Below.setCell ?_ (by first | omega | (dsimp only; omega) | (simp <;> omega)) _) | (with_reducible refine Below.drew ?_) | (with_reducible refine below_drewN ?_ _) | (with_reducible refine Below.trans ?_ (Below.mono (by assumption) (by first | omega | (dsimp only; omega) | (simp <;> omega))))))⟩
  all_goals simp [mayB]
  all_goals omega
set_option maxHeartbeats 400000 in
theorem first_any (t l b r : Int) (w : World) :
    Calls Tryz.prog 35 #[.agg #[.int .i64 t, .int .i64 l, .int .i64 b, .int .i64 r]] w
      fun e w' => e = .returned (.agg #[.int .i64 t, .int .i64 l]) ∧ Below w.heap.size w w' := by
  go_enter Tryz.func35, Tryz.ntmps35
  go_wp2
  exact bodyPost_ret (v := .agg #[.int .i64 t, .int .i64 l]) (by simp [results, Tryz.results35, go_sem]) rfl ⟨rfl, by (repeat (first | (with_reducible exact Below.refl _ _) | (with_reducible refine Below.alloc ?_ (by first | omega | (dsimp only; omega) | (simp <;> omega)) _) | (with_reducible refine Below.setCell ?_ (by first | omega | (dsimp only; omega) | (simp <;> omega)) _) | (with_reducible refine Below.drew ?_) | (with_reducible refine below_drewN ?_ _) | (with_reducible refine Below.trans ?_ (Below.mono (by assumption) (by first | omega | (dsimp only; omega) | (simp <;> omega))))))⟩
set_option maxHeartbeats 400000 in
theorem last_any (t l b r : Int) (w : World) :
    Calls Tryz.prog 36 #[.agg #[.int .i64 t, .int .i64 l, .int .i64 b, .int .i64 r]] w
      fun e w' => e = .returned (.agg #[.int .i64 b, .int .i64 r]) ∧ Below w.heap.size w w' := by
  go_enter Tryz.func36, Tryz.ntmps36
  go_wp2
  exact bodyPost_ret (v := .agg #[.int .i64 b, .int .i64 r]) (by simp [results, Tryz.results36, go_sem]) rfl ⟨rfl, by (repeat (first | (with_reducible exact Below.refl _ _) | (with_reducible refine Below.alloc ?_ (by first | omega | (dsimp only; omega) | (simp <;> omega)) _) | (with_reducible refine Below.setCell ?_ (by first | omega | (dsimp only; omega) | (simp <;> omega)) _) | (with_reducible refine Below.drew ?_) | (with_reducible refine below_drewN ?_ _) | (with_reducible refine Below.trans ?_ (Below.mono (by assumption) (by first | omega | (dsimp only; omega) | (simp <;> omega))))))⟩
set_option maxHeartbeats 400000 in
theorem mayRect0 (t l b r : Int) (h1 : mayB t l = true) (h2 : mayB b r = true) (w : World) :
    Calls Tryz.prog 34 #[.agg #[.int .i64 t, .int .i64 l, .int .i64 b, .int .i64 r]] w
      fun e w' => e = .returned (.bool (mayRectB t l b r)) ∧ Below w.heap.size w w' := by
  go_enter Tryz.func34, Tryz.ntmps34
  go_wp2_with (first | (go_at_call 35; refine (first_any _ _ _ _ _).mono ?_; rintro e w1 ⟨rfl, hb⟩; obtain ⟨hc, hf, hz⟩ := bkeep hb (w.heap.size + 1) (by first | omega | (simp <;> omega))) | (go_at_call 36; refine (last_any _ _ _ _ _).mono ?_; rintro e w1 ⟨rfl, hb⟩; obtain ⟨hc, hf, hz⟩ := bkeep hb (w.heap.size + 1) (by first | omega | (simp <;> omega))) | (go_at_call 31; refine (may_any _ _ _).mono ?_; rintro e w1 ⟨rfl, hb⟩; obtain ⟨hc, hf, hz⟩ := bkeep hb (w.heap.size + 1) (by first | omega | (simp <;> omega))))
  all_goals go_ret
  all_goals refine ⟨congrArg (fun b => Ending.returned (Value.bool b)) (Bool.eq_iff_iff.2 ?_), by (repeat (first | (with_reducible exact Below.refl _ _) | (with_reducible refine Below.alloc ?_ (by first | omega | (dsimp only; omega) | (simp <;> omega)) _) | (with_reducible refine Below.setCell ?_ (by first | omega | (dsimp only; omega) | (simp <;> omega)) _) | (with_reducible refine Below.drew ?_) | (with_reducible refine below_drewN ?_ _) | (with_reducible refine Below.trans ?_ (Below.mono (by assumption) (by first | omega | (dsimp only; omega) | (simp <;> omega))))))⟩
  all_goals simp [mayRectB, h1, h2]
  all_goals omega
set_option maxHeartbeats 400000 in
theorem mayRect1 (t l b r : Int) (h1 : mayB t l = true) (h2 : mayB b r = false) (w : World) :
    Calls Tryz.prog 34 #[.agg #[.int .i64 t, .int .i64 l, .int .i64 b, .int .i64 r]] w
      fun e w' => e = .returned (.bool (mayRectB t l b r)) ∧ Below w.heap.size w w' := by
  go_enter Tryz.func34, Tryz.ntmps34
  go_wp2_with (first | (go_at_call 35; refine (first_any _ _ _ _ _).mono ?_; rintro e w1 ⟨rfl, hb⟩; obtain ⟨hc, hf, hz⟩ := bkeep hb (w.heap.size + 1) (by first | omega | (simp <;> omega))) | (go_at_call 36; refine (last_any _ _ _ _ _).mono ?_; rintro e w1 ⟨rfl, hb⟩; obtain ⟨hc, hf, hz⟩ := bkeep hb (w.heap.size + 1) (by first | omega | (simp <;> omega))) | (go_at_call 31; refine (may_any _ _ _).mono ?_; rintro e w1 ⟨rfl, hb⟩; obtain ⟨hc, hf, hz⟩ := bkeep hb (w.heap.size + 1) (by first | omega | (simp <;> omega))))
  all_goals go_ret
  all_goals refine ⟨congrArg (fun b => Ending.returned (Value.bool b)) (Bool.eq_iff_iff.2 ?_), by (repeat (first | (with_reducible exact Below.refl _ _) | (with_reducible refine Below.alloc ?_ (by first | omega | (dsimp only; omega) | (simp <;> omega)) _) | (with_reducible refine Below.setCell ?_ (by first | omega | (dsimp only; omega) | (simp <;> omega)) _) | (with_reducible refine Below.drew ?_) | (with_reducible refine below_drewN ?_ _) | (with_reducible refine Below.trans ?_ (Below.mono (by assumption) (by first | omega | (dsimp only; omega) | (simp <;> omega))))))⟩
  all_goals simp [mayRectB, h1, h2]
  all_goals omega
set_option maxHeartbeats 400000 in
theorem mayRect2 (t l b r : Int) (h1 : mayB t l = false) (w : World) :
    Calls Tryz.prog 34 #[.agg #[.int .i64 t, .int .i64 l, .int .i64 b, .int .i64 r]] w
      fun e w' => e = .returned (.bool (mayRectB t l b r)) ∧ Below w.heap.size w w' := by
  go_enter Tryz.func34, Tryz.ntmps34
  go_wp2_with (first | (go_at_call 35; refine (first_any _ _ _ _ _).mono ?_; rintro e w1 ⟨rfl, hb⟩; obtain ⟨hc, hf, hz⟩ := bkeep hb (w.heap.size + 1) (by first | omega | (simp <;> omega))) | (go_at_call 36; refine (last_any _ _ _ _ _).mono ?_; rintro e w1 ⟨rfl, hb⟩; obtain ⟨hc, hf, hz⟩ := bkeep hb (w.heap.size + 1) (by first | omega | (simp <;> omega))) | (go_at_call 31; refine (may_any _ _ _).mono ?_; rintro e w1 ⟨rfl, hb⟩; obtain ⟨hc, hf, hz⟩ := bkeep hb (w.heap.size + 1) (by first | omega | (simp <;> omega))))
  all_goals go_ret
  all_goals refine ⟨congrArg (fun b => Ending.returned (Value.bool b)) (Bool.eq_iff_iff.2 ?_), by (repeat (first | (with_reducible exact Below.refl _ _) | (with_reducible refine Below.alloc ?_ (by first | omega | (dsimp only; omega) | (simp <;> omega)) _) | (with_reducible refine Below.setCell ?_ (by first | omega | (dsimp only; omega) | (simp <;> omega)) _) | (with_reducible refine Below.drew ?_) | (with_reducible refine below_drewN ?_ _) | (with_reducible refine Below.trans ?_ (Below.mono (by assumption) (by first | omega | (dsimp only; omega) | (simp <;> omega))))))⟩
  all_goals simp [mayRectB, h1]
  all_goals omega
theorem mayRect_any (t l b r : Int) (w : World) :
    Calls Tryz.prog 34 #[.agg #[.int .i64 t, .int .i64 l, .int .i64 b, .int .i64 r]] w
      fun e w' => e = .returned (.bool (mayRectB t l b r)) ∧ Below w.heap.size w w' := by
  cases h1 : mayB t l
  · exact mayRect2 t l b r h1 w
  · cases h2 : mayB b r
    · exact mayRect1 t l b r h1 h2 w
    · exact mayRect0 t l b r h1 h2 w
end Go.Proofs.YtfbkoieodflcpaaGreatDoor
