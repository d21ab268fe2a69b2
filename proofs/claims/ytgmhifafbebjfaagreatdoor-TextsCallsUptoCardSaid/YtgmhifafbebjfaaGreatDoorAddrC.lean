/-
  Contracts of the functions of package addr that only compute (May, MayRect, In, Before), and of the document's own.
-/
import Derived.Test.YtgmhifafbebjfaaGreatDoorMg0
namespace Go.Proofs.YtgmhifafbebjfaaGreatDoor
open Go.RowKit

/-- is a cell in a rectangle? -/
def inB (t l b r row col : Int) : Bool := decide (t ≤ row) && decide (row ≤ b) && decide (l ≤ col) && decide (col ≤ r)
/-- may a cell be? -/
def mayB (row col : Int) : Bool := decide (1 ≤ row) && decide (row ≤ 4096) && decide (1 ≤ col) && decide (col ≤ 256)
/-- may a rectangle be? -/
def mayRectB (t l b r : Int) : Bool := mayB t l && mayB b r && decide (t ≤ b) && decide (l ≤ r)
/-- does a cell stand ahead of another one? -/
def befB (r c r' c' : Int) : Bool := decide (r < r') || (decide (r = r') && decide (c < c'))

set_option maxHeartbeats 400000 in
theorem may_any (a b : Int) (w : World) :
    Calls Tryz.prog 137 #[.agg #[.int .i64 a, .int .i64 b]] w
      fun e w' => e = .returned (.bool (mayB a b)) ∧ Below w.heap.size w w' := by
  go_enter Tryz.func137, Tryz.ntmps137
  go_wp2
  all_goals go_ret
  all_goals refine ⟨congrArg (fun b => Ending.returned (Value.bool b)) (Bool.eq_iff_iff.2 ?_), by (repeat (first | (with_reducible exact Below.refl _ _) | (with_reducible refine Below.alloc ?_ (by first | omega | (dsimp only; omega) | (simp <;> omega)) _) | (with_reducible refine Below.setCell ?_ (by first | omega | (dsimp only; omega) | (simp <;> omega)) _) | (with_reducible refine Below.drew ?_) | (with_reducible refine below_drewN ?_ _) | (with_reducible refine Below.trans ?_ (Below.mono (by assumption) (by first | omega | (dsimp only; omega) | (simp <;> omega))))))⟩
  all_goals simp [mayB]
  all_goals omega
set_option maxHeartbeats 400000 in
theorem rmay_any (a b : Int) (w : World) :
    Calls Tryz.prog 204 #[.agg #[.int .i64 a, .int .i64 b]] w
      fun e w' => e = .returned (.bool (mayB a b)) ∧ Below w.heap.size w w' := by
  go_enter Tryz.func204, Tryz.ntmps204
  go_wp2
  all_goals go_ret
  all_goals refine ⟨congrArg (fun b => Ending.returned (Value.bool b)) (Bool.eq_iff_iff.2 ?_), by (repeat (first | (with_reducible exact Below.refl _ _) | (with_reducible refine Below.alloc ?_ (by first | omega | (dsimp only; omega) | (simp <;> omega)) _) | (with_reducible refine Below.setCell ?_ (by first | omega | (dsimp only; omega) | (simp <;> omega)) _) | (with_reducible refine Below.drew ?_) | (with_reducible refine below_drewN ?_ _) | (with_reducible refine Below.trans ?_ (Below.mono (by assumption) (by first | omega | (dsimp only; omega) | (simp <;> omega))))))⟩
  all_goals simp [mayB]
  all_goals omega
set_option maxHeartbeats 400000 in
theorem first_any (t l b r : Int) (w : World) :
    Calls Tryz.prog 138 #[.agg #[.int .i64 t, .int .i64 l, .int .i64 b, .int .i64 r]] w
      fun e w' => e = .returned (.agg #[.int .i64 t, .int .i64 l]) ∧ Below w.heap.size w w' := by
  go_enter Tryz.func138, Tryz.ntmps138
  go_wp2
  exact bodyPost_ret (v := .agg #[.int .i64 t, .int .i64 l]) (by simp [results, Tryz.results138, go_sem]) rfl ⟨rfl, by (repeat (first | (with_reducible exact Below.refl _ _) | (with_reducible refine Below.alloc ?_ (by first | omega | (dsimp only; omega) | (simp <;> omega)) _) | (with_reducible refine Below.setCell ?_ (by first | omega | (dsimp only; omega) | (simp <;> omega)) _) | (with_reducible refine Below.drew ?_) | (with_reducible refine below_drewN ?_ _) | (with_reducible refine Below.trans ?_ (Below.mono (by assumption) (by first | omega | (dsimp only; omega) | (simp <;> omega))))))⟩
set_option maxHeartbeats 400000 in
theorem last_any (t l b r : Int) (w : World) :
    Calls Tryz.prog 139 #[.agg #[.int .i64 t, .int .i64 l, .int .i64 b, .int .i64 r]] w
      fun e w' => e = .returned (.agg #[.int .i64 b, .int .i64 r]) ∧ Below w.heap.size w w' := by
  go_enter Tryz.func139, Tryz.ntmps139
  go_wp2
  exact bodyPost_ret (v := .agg #[.int .i64 b, .int .i64 r]) (by simp [results, Tryz.results139, go_sem]) rfl ⟨rfl, by (repeat (first | (with_reducible exact Below.refl _ _) | (with_reducible refine Below.alloc ?_ (by first | omega | (dsimp only; omega) | (simp <;> omega)) _) | (with_reducible refine Below.setCell ?_ (by first | omega | (dsimp only; omega) | (simp <;> omega)) _) | (with_reducible refine Below.drew ?_) | (with_reducible refine below_drewN ?_ _) | (with_reducible refine Below.trans ?_ (Below.mono (by assumption) (by first | omega | (dsimp only; omega) | (simp <;> omega))))))⟩
set_option maxHeartbeats 400000 in
theorem mayRect0 (t l b r : Int) (h1 : mayB t l = true) (h2 : mayB b r = true) (w : World) :
    Calls Tryz.prog 60 #[.agg #[.int .i64 t, .int .i64 l, .int .i64 b, .int .i64 r]] w
      fun e w' => e = .returned (.bool (mayRectB t l b r)) ∧ Below w.heap.size w w' := by
  go_enter Tryz.func60, Tryz.ntmps60
  go_wp2_with (first | (go_at_call 138; refine (first_any _ _ _ _ _).mono ?_; rintro e w1 ⟨rfl, hb⟩; obtain ⟨hc, hf, hz⟩ := bkeep hb (w.heap.size + 1) (by first | omega | (simp <;> omega))) | (go_at_call 139; refine (last_any _ _ _ _ _).mono ?_; rintro e w1 ⟨rfl, hb⟩; obtain ⟨hc, hf, hz⟩ := bkeep hb (w.heap.size + 1) (by first | omega | (simp <;> omega))) | (go_at_call 137; refine (may_any _ _ _).mono ?_; rintro e w1 ⟨rfl, hb⟩; obtain ⟨hc, hf, hz⟩ := bkeep hb (w.heap.size + 1) (by first | omega | (simp <;> omega))))
  all_goals go_ret
  all_goals refine ⟨congrArg (fun b => Ending.returned (Value.bool b)) (Bool.eq_iff_iff.2 ?_), by (repeat (first | (with_reducible exact Below.refl _ _) | (with_reducible refine Below.alloc ?_ (by first | omega | (dsimp only; omega) | (simp <;> omega)) _) | (with_reducible refine Below.setCell ?_ (by first | omega | (dsimp only; omega) | (simp <;> omega)) _) | (with_reducible refine Below.drew ?_) | (with_reducible refine below_drewN ?_ _) | (with_reducible refine Below.trans ?_ (Below.mono (by assumption) (by first | omega | (dsimp only; omega) | (simp <;> omega))))))⟩
  all_goals simp [mayRectB, h1, h2]
  all_goals omega
set_option maxHeartbeats 400000 in
theorem mayRect1 (t l b r : Int) (h1 : mayB t l = true) (h2 : mayB b r = false) (w : World) :
    Calls Tryz.prog 60 #[.agg #[.int .i64 t, .int .i64 l, .int .i64 b, .int .i64 r]] w
      fun e w' => e = .returned (.bool (mayRectB t l b r)) ∧ Below w.heap.size w w' := by
  go_enter Tryz.func60, Tryz.ntmps60
  go_wp2_with (first | (go_at_call 138; refine (first_any _ _ _ _ _).mono ?_; rintro e w1 ⟨rfl, hb⟩; obtain ⟨hc, hf, hz⟩ := bkeep hb (w.heap.size + 1) (by first | omega | (simp <;> omega))) | (go_at_call 139; refine (last_any _ _ _ _ _).mono ?_; rintro e w1 ⟨rfl, hb⟩; obtain ⟨hc, hf, hz⟩ := bkeep hb (w.heap.size + 1) (by first | omega | (simp <;> omega))) | (go_at_call 137; refine (may_any _ _ _).mono ?_; rintro e w1 ⟨rfl, hb⟩; obtain ⟨hc, hf, hz⟩ := bkeep hb (w.heap.size + 1) (by first | omega | (simp <;> omega))))
  all_goals go_ret
  all_goals refine ⟨congrArg (fun b => Ending.returned (Value.bool b)) (Bool.eq_iff_iff.2 ?_), by (repeat (first | (with_reducible exact Below.refl _ _) | (with_reducible refine Below.alloc ?_ (by first | omega | (dsimp only; omega) | (simp <;> omega)) _) | (with_reducible refine Below.setCell ?_ (by first | omega | (dsimp only; omega) | (simp <;> omega)) _) | (with_reducible refine Below.drew ?_) | (with_reducible refine below_drewN ?_ _) | (with_reducible refine Below.trans ?_ (Below.mono (by assumption) (by first | omega | (dsimp only; omega) | (simp <;> omega))))))⟩
  all_goals simp [mayRectB, h1, h2]
  all_goals omega
set_option maxHeartbeats 400000 in
theorem mayRect2 (t l b r : Int) (h1 : mayB t l = false) (w : World) :
    Calls Tryz.prog 60 #[.agg #[.int .i64 t, .int .i64 l, .int .i64 b, .int .i64 r]] w
      fun e w' => e = .returned (.bool (mayRectB t l b r)) ∧ Below w.heap.size w w' := by
  go_enter Tryz.func60, Tryz.ntmps60
  go_wp2_with (first | (go_at_call 138; refine (first_any _ _ _ _ _).mono ?_; rintro e w1 ⟨rfl, hb⟩; obtain ⟨hc, hf, hz⟩ := bkeep hb (w.heap.size + 1) (by first | omega | (simp <;> omega))) | (go_at_call 139; refine (last_any _ _ _ _ _).mono ?_; rintro e w1 ⟨rfl, hb⟩; obtain ⟨hc, hf, hz⟩ := bkeep hb (w.heap.size + 1) (by first | omega | (simp <;> omega))) | (go_at_call 137; refine (may_any _ _ _).mono ?_; rintro e w1 ⟨rfl, hb⟩; obtain ⟨hc, hf, hz⟩ := bkeep hb (w.heap.size + 1) (by first | omega | (simp <;> omega))))
  all_goals go_ret
  all_goals refine ⟨congrArg (fun b => Ending.returned (Value.bool b)) (Bool.eq_iff_iff.2 ?_), by (repeat (first | (with_reducible exact Below.refl _ _) | (with_reducible refine Below.alloc ?_ (by first | omega | (dsimp only; omega) | (simp <;> omega)) _) | (with_reducible refine Below.setCell ?_ (by first | omega | (dsimp only; omega) | (simp <;> omega)) _) | (with_reducible refine Below.drew ?_) | (with_reducible refine below_drewN ?_ _) | (with_reducible refine Below.trans ?_ (Below.mono (by assumption) (by first | omega | (dsimp only; omega) | (simp <;> omega))))))⟩
  all_goals simp [mayRectB, h1]
  all_goals omega
theorem mayRect_any (t l b r : Int) (w : World) :
    Calls Tryz.prog 60 #[.agg #[.int .i64 t, .int .i64 l, .int .i64 b, .int .i64 r]] w
      fun e w' => e = .returned (.bool (mayRectB t l b r)) ∧ Below w.heap.size w w' := by
  cases h1 : mayB t l
  · exact mayRect2 t l b r h1 w
  · cases h2 : mayB b r
    · exact mayRect1 t l b r h1 h2 w
    · exact mayRect0 t l b r h1 h2 w
set_option maxHeartbeats 400000 in
theorem rmayRect0 (t l b r : Int) (h1 : mayB t l = true) (h2 : mayB b r = true) (w : World) :
    Calls Tryz.prog 161 #[.agg #[.int .i64 t, .int .i64 l, .int .i64 b, .int .i64 r]] w
      fun e w' => e = .returned (.bool (mayRectB t l b r)) ∧ Below w.heap.size w w' := by
  go_enter Tryz.func161, Tryz.ntmps161
  go_wp2_with (go_at_call 204; refine (rmay_any _ _ _).mono ?_; rintro e w1 ⟨rfl, hb⟩; obtain ⟨hc, hf, hz⟩ := bkeep hb (w.heap.size + 1) (by first | omega | (simp <;> omega)))
  all_goals go_ret
  all_goals refine ⟨congrArg (fun b => Ending.returned (Value.bool b)) (Bool.eq_iff_iff.2 ?_), by (repeat (first | (with_reducible exact Below.refl _ _) | (with_reducible refine Below.alloc ?_ (by first | omega | (dsimp only; omega) | (simp <;> omega)) _) | (with_reducible refine Below.setCell ?_ (by first | omega | (dsimp only; omega) | (simp <;> omega)) _) | (with_reducible refine Below.drew ?_) | (with_reducible refine below_drewN ?_ _) | (with_reducible refine Below.trans ?_ (Below.mono (by assumption) (by first | omega | (dsimp only; omega) | (simp <;> omega))))))⟩
  all_goals simp [mayRectB, h1, h2]
  all_goals omega
set_option maxHeartbeats 400000 in
theorem rmayRect1 (t l b r : Int) (h1 : mayB t l = true) (h2 : mayB b r = false) (w : World) :
    Calls Tryz.prog 161 #[.agg #[.int .i64 t, .int .i64 l, .int .i64 b, .int .i64 r]] w
      fun e w' => e = .returned (.bool (mayRectB t l b r)) ∧ Below w.heap.size w w' := by
  go_enter Tryz.func161, Tryz.ntmps161
  go_wp2_with (go_at_call 204; refine (rmay_any _ _ _).mono ?_; rintro e w1 ⟨rfl, hb⟩; obtain ⟨hc, hf, hz⟩ := bkeep hb (w.heap.size + 1) (by first | omega | (simp <;> omega)))
  all_goals go_ret
  all_goals refine ⟨congrArg (fun b => Ending.returned (Value.bool b)) (Bool.eq_iff_iff.2 ?_), by (repeat (first | (with_reducible exact Below.refl _ _) | (with_reducible refine Below.alloc ?_ (by first | omega | (dsimp only; omega) | (simp <;> omega)) _) | (with_reducible refine Below.setCell ?_ (by first | omega | (dsimp only; omega) | (simp <;> omega)) _) | (with_reducible refine Below.drew ?_) | (with_reducible refine below_drewN ?_ _) | (with_reducible refine Below.trans ?_ (Below.mono (by assumption) (by first | omega | (dsimp only; omega) | (simp <;> omega))))))⟩
  all_goals simp [mayRectB, h1, h2]
  all_goals omega
set_option maxHeartbeats 400000 in
theorem rmayRect2 (t l b r : Int) (h1 : mayB t l = false) (w : World) :
    Calls Tryz.prog 161 #[.agg #[.int .i64 t, .int .i64 l, .int .i64 b, .int .i64 r]] w
      fun e w' => e = .returned (.bool (mayRectB t l b r)) ∧ Below w.heap.size w w' := by
  go_enter Tryz.func161, Tryz.ntmps161
  go_wp2_with (go_at_call 204; refine (rmay_any _ _ _).mono ?_; rintro e w1 ⟨rfl, hb⟩; obtain ⟨hc, hf, hz⟩ := bkeep hb (w.heap.size + 1) (by first | omega | (simp <;> omega)))
  all_goals go_ret
  all_goals refine ⟨congrArg (fun b => Ending.returned (Value.bool b)) (Bool.eq_iff_iff.2 ?_), by (repeat (first | (with_reducible exact Below.refl _ _) | (with_reducible refine Below.alloc ?_ (by first | omega | (dsimp only; omega) | (simp <;> omega)) _) | (with_reducible refine Below.setCell ?_ (by first | omega | (dsimp only; omega) | (simp <;> omega)) _) | (with_reducible refine Below.drew ?_) | (with_reducible refine below_drewN ?_ _) | (with_reducible refine Below.trans ?_ (Below.mono (by assumption) (by first | omega | (dsimp only; omega) | (simp <;> omega))))))⟩
  all_goals simp [mayRectB, h1]
  all_goals omega
theorem rmayRect_any (t l b r : Int) (w : World) :
    Calls Tryz.prog 161 #[.agg #[.int .i64 t, .int .i64 l, .int .i64 b, .int .i64 r]] w
      fun e w' => e = .returned (.bool (mayRectB t l b r)) ∧ Below w.heap.size w w' := by
  cases h1 : mayB t l
  · exact rmayRect2 t l b r h1 w
  · cases h2 : mayB b r
    · exact rmayRect1 t l b r h1 h2 w
    · exact rmayRect0 t l b r h1 h2 w
end Go.Proofs.YtgmhifafbebjfaaGreatDoor
