/-
  Contracts of Span, and of the document's own.
-/
import Derived.Test.YtakgdihocejmiaaAddrC
import Derived.WalkSpells
import Derived.WalkLawsBesides
import Derived.StillTactics
import Derived.Laws.Pointers
import Derived.Deep.RegionHeld3
import Derived.Deep.QuietTactic
import Derived.BigQuiet
import Derived.RowKit3
import Derived.Lib.Hide
namespace Go.Proofs.Ytakgdihocejmiaa
open Go.RowKit

/-- the corners of Span -/
def spT (a b c d : Int) : Int := if mayB a b && mayB c d then min a c else 0
def spL (a b c d : Int) : Int := if mayB a b && mayB c d then min b d else 0
def spB (a b c d : Int) : Int := if mayB a b && mayB c d then max a c else 0
def spR (a b c d : Int) : Int := if mayB a b && mayB c d then max b d else 0
/-- the corners of Cut -/
def cutOk (a b m n : Int) : Bool := mayB a b && decide (0 < m) && decide (0 < n)
def cuT (a b m n : Int) : Int := if cutOk a b m n then a else 0
def cuL (a b m n : Int) : Int := if cutOk a b m n then b else 0
def cuB (a b m n : Int) : Int := if cutOk a b m n then a + min (m - 1) (4096 - a) else 0
def cuR (a b m n : Int) : Int := if cutOk a b m n then b + min (n - 1) (256 - b) else 0

theorem may_of {a b : Int} (h : mayB a b = true) : 1 ≤ a ∧ a ≤ 4096 ∧ 1 ≤ b ∧ b ≤ 256 := by simpa [mayB, and_assoc] using h

theorem less_any (a b : Int) (w : World) : Calls Try.prog 29 #[.int .i64 a, .int .i64 b] w fun e w' => e = .returned (.int .i64 (min a b)) ∧ w = w' := by
  go_enter Try.func29, Try.ntmps29
  go_wp2
  all_goals go_ret
  all_goals exact ⟨congrArg (fun n => Ending.returned (Value.int .i64 n)) (by omega), rfl⟩
theorem more_any (a b : Int) (w : World) : Calls Try.prog 30 #[.int .i64 a, .int .i64 b] w fun e w' => e = .returned (.int .i64 (max a b)) ∧ w = w' := by
  go_enter Try.func30, Try.ntmps30
  go_wp2
  all_goals go_ret
  all_goals exact ⟨congrArg (fun n => Ending.returned (Value.int .i64 n)) (by omega), rfl⟩
set_option maxHeartbeats 400000 in
theorem span0 (a b c d : Int) (h1 : mayB a b = true) (h2 : mayB c d = true) (w : World) :
    Calls Try.prog 18 #[.agg #[.int .i64 a, .int .i64 b], .agg #[.int .i64 c, .int .i64 d]] w
      fun e w' => e = .returned (.agg #[.int .i64 (spT a b c d), .int .i64 (spL a b c d), .int .i64 (spB a b c d), .int .i64 (spR a b c d)]) ∧ Below w.heap.size w w' := by
  go_enter Try.func18, Try.ntmps18
  go_wp2_with (go_at_call 14; refine (may_any _ _ _).mono ?_; rintro e w1 ⟨rfl, hb⟩; obtain ⟨hc, hf, hz⟩ := bkeep hb (w.heap.size + 3) (by first | omega | (simp <;> omega)))
  all_goals refine bodyPost_ret (v := .agg #[.int .i64 (spT a b c d), .int .i64 (spL a b c d), .int .i64 (spB a b c d), .int .i64 (spR a b c d)]) ?_ rfl ⟨rfl, by (repeat (first | (with_reducible exact Below.refl _ _) | (with_reducible refine Below.alloc ?_ (by first | omega | (dsimp only; omega) | (simp <;> omega)) _) | (with_reducible refine Below.setCell ?_ (by first | omega | (dsimp only; omega) | (simp <;> omega)) _) | (with_reducible refine Below.drew ?_) | (with_reducible refine below_drewN ?_ _) | (with_reducible refine Below.trans ?_ (Below.mono (by assumption) (by first | omega | (dsimp only; omega) | (simp <;> omega))))))⟩
  all_goals simp [results, Try.results18, go_sem, spT, spL, spB, spR, *]
  all_goals try omega
set_option maxHeartbeats 400000 in
theorem span1 (a b c d : Int) (h1 : mayB a b = true) (h2 : mayB c d = false) (w : World) :
    Calls Try.prog 18 #[.agg #[.int .i64 a, .int .i64 b], .agg #[.int .i64 c, .int .i64 d]] w
      fun e w' => e = .returned (.agg #[.int .i64 (spT a b c d), .int .i64 (spL a b c d), .int .i64 (spB a b c d), .int .i64 (spR a b c d)]) ∧ Below w.heap.size w w' := by
  go_enter Try.func18, Try.ntmps18
  go_wp2_with (go_at_call 14; refine (may_any _ _ _).mono ?_; rintro e w1 ⟨rfl, hb⟩; obtain ⟨hc, hf, hz⟩ := bkeep hb (w.heap.size + 3) (by first | omega | (simp <;> omega)))
  all_goals refine bodyPost_ret (v := .agg #[.int .i64 (spT a b c d), .int .i64 (spL a b c d), .int .i64 (spB a b c d), .int .i64 (spR a b c d)]) ?_ rfl ⟨rfl, by (repeat (first | (with_reducible exact Below.refl _ _) | (with_reducible refine Below.alloc ?_ (by first | omega | (dsimp only; omega) | (simp <;> omega)) _) | (with_reducible refine Below.setCell ?_ (by first | omega | (dsimp only; omega) | (simp <;> omega)) _) | (with_reducible refine Below.drew ?_) | (with_reducible refine below_drewN ?_ _) | (with_reducible refine Below.trans ?_ (Below.mono (by assumption) (by first | omega | (dsimp only; omega) | (simp <;> omega))))))⟩
  all_goals simp [results, Try.results18, go_sem, spT, spL, spB, spR, *]
  all_goals try omega
set_option maxHeartbeats 400000 in
theorem span2 (a b c d : Int) (h1 : mayB a b = false) (w : World) :
    Calls Try.prog 18 #[.agg #[.int .i64 a, .int .i64 b], .agg #[.int .i64 c, .int .i64 d]] w
      fun e w' => e = .returned (.agg #[.int .i64 (spT a b c d), .int .i64 (spL a b c d), .int .i64 (spB a b c d), .int .i64 (spR a b c d)]) ∧ Below w.heap.size w w' := by
  go_enter Try.func18, Try.ntmps18
  go_wp2_with (go_at_call 14; refine (may_any _ _ _).mono ?_; rintro e w1 ⟨rfl, hb⟩; obtain ⟨hc, hf, hz⟩ := bkeep hb (w.heap.size + 3) (by first | omega | (simp <;> omega)))
  all_goals refine bodyPost_ret (v := .agg #[.int .i64 (spT a b c d), .int .i64 (spL a b c d), .int .i64 (spB a b c d), .int .i64 (spR a b c d)]) ?_ rfl ⟨rfl, by (repeat (first | (with_reducible exact Below.refl _ _) | (with_reducible refine Below.alloc ?_ (by first | omega | (dsimp only; omega) | (simp <;> omega)) _) | (with_reducible refine Below.setCell ?_ (by first | omega | (dsimp only; omega) | (simp <;> omega)) _) | (with_reducible refine Below.drew ?_) | (with_reducible refine below_drewN ?_ _) | (with_reducible refine Below.trans ?_ (Below.mono (by assumption) (by first | omega | (dsimp only; omega) | (simp <;> omega))))))⟩
  all_goals simp [results, Try.results18, go_sem, spT, spL, spB, spR, *]
  all_goals try omega
theorem span_any (a b c d : Int) (w : World) :
    Calls Try.prog 18 #[.agg #[.int .i64 a, .int .i64 b], .agg #[.int .i64 c, .int .i64 d]] w
      fun e w' => e = .returned (.agg #[.int .i64 (spT a b c d), .int .i64 (spL a b c d), .int .i64 (spB a b c d), .int .i64 (spR a b c d)]) ∧ Below w.heap.size w w' := by
  cases h1 : mayB a b
  · exact span2 a b c d h1 w
  · cases h2 : mayB c d
    · exact span1 a b c d h1 h2 w
    · exact span0 a b c d h1 h2 w
set_option maxHeartbeats 400000 in
theorem rspan0 (a b c d : Int) (h1 : mayB a b = true) (h2 : mayB c d = true) (w : World) :
    Calls Try.prog 19 #[.agg #[.int .i64 a, .int .i64 b], .agg #[.int .i64 c, .int .i64 d]] w
      fun e w' => e = .returned (.agg #[.int .i64 (spT a b c d), .int .i64 (spL a b c d), .int .i64 (spB a b c d), .int .i64 (spR a b c d)]) ∧ Below w.heap.size w w' := by
  go_enter Try.func19, Try.ntmps19
  go_wp2_with (go_at_call 15; refine (rmay_any _ _ _).mono ?_; rintro e w1 ⟨rfl, hb⟩; obtain ⟨hc, hf, hz⟩ := bkeep hb (w.heap.size + 3) (by first | omega | (simp <;> omega)))
  go_region_held3 (fun w' => w'.cell? ⟨w.heap.size, 0, none⟩ = some (.int .i64 a) ∧ w'.cell? ⟨w.heap.size, 1, none⟩ = some (.int .i64 b) ∧ w'.cell? ⟨w.heap.size + 1, 0, none⟩ = some (.int .i64 c) ∧ w'.cell? ⟨w.heap.size + 1, 1, none⟩ = some (.int .i64 d)) (first | go_keep | (simp [*]; done)) (first | (go_at_call 29; refine (less_any _ _ _).mono ?_; rintro e w1 ⟨rfl, rfl⟩) | (go_at_call 30; refine (more_any _ _ _).mono ?_; rintro e w1 ⟨rfl, rfl⟩))
  go_wp2
  all_goals refine bodyPost_ret (v := .agg #[.int .i64 (spT a b c d), .int .i64 (spL a b c d), .int .i64 (spB a b c d), .int .i64 (spR a b c d)]) ?_ rfl ⟨rfl, by (repeat (first | (with_reducible exact Below.refl _ _) | (with_reducible refine Below.alloc ?_ (by first | omega | (dsimp only; omega) | (simp <;> omega)) _) | (with_reducible refine Below.setCell ?_ (by first | omega | (dsimp only; omega) | (simp <;> omega)) _) | (with_reducible refine Below.drew ?_) | (with_reducible refine below_drewN ?_ _) | (with_reducible refine Below.trans ?_ (Below.mono (by assumption) (by first | omega | (dsimp only; omega) | (simp <;> omega))))))⟩
  all_goals simp [results, Try.results19, go_sem, spT, spL, spB, spR, *]
  all_goals try omega
set_option maxHeartbeats 400000 in
theorem rspan1 (a b c d : Int) (h1 : mayB a b = true) (h2 : mayB c d = false) (w : World) :
    Calls Try.prog 19 #[.agg #[.int .i64 a, .int .i64 b], .agg #[.int .i64 c, .int .i64 d]] w
      fun e w' => e = .returned (.agg #[.int .i64 (spT a b c d), .int .i64 (spL a b c d), .int .i64 (spB a b c d), .int .i64 (spR a b c d)]) ∧ Below w.heap.size w w' := by
  go_enter Try.func19, Try.ntmps19
  go_wp2_with (go_at_call 15; refine (rmay_any _ _ _).mono ?_; rintro e w1 ⟨rfl, hb⟩; obtain ⟨hc, hf, hz⟩ := bkeep hb (w.heap.size + 3) (by first | omega | (simp <;> omega)))
  all_goals refine bodyPost_ret (v := .agg #[.int .i64 (spT a b c d), .int .i64 (spL a b c d), .int .i64 (spB a b c d), .int .i64 (spR a b c d)]) ?_ rfl ⟨rfl, by (repeat (first | (with_reducible exact Below.refl _ _) | (with_reducible refine Below.alloc ?_ (by first | omega | (dsimp only; omega) | (simp <;> omega)) _) | (with_reducible refine Below.setCell ?_ (by first | omega | (dsimp only; omega) | (simp <;> omega)) _) | (with_reducible refine Below.drew ?_) | (with_reducible refine below_drewN ?_ _) | (with_reducible refine Below.trans ?_ (Below.mono (by assumption) (by first | omega | (dsimp only; omega) | (simp <;> omega))))))⟩
  all_goals simp [results, Try.results19, go_sem, spT, spL, spB, spR, *]
  all_goals try omega
set_option maxHeartbeats 400000 in
theorem rspan2 (a b c d : Int) (h1 : mayB a b = false) (w : World) :
    Calls Try.prog 19 #[.agg #[.int .i64 a, .int .i64 b], .agg #[.int .i64 c, .int .i64 d]] w
      fun e w' => e = .returned (.agg #[.int .i64 (spT a b c d), .int .i64 (spL a b c d), .int .i64 (spB a b c d), .int .i64 (spR a b c d)]) ∧ Below w.heap.size w w' := by
  go_enter Try.func19, Try.ntmps19
  go_wp2_with (go_at_call 15; refine (rmay_any _ _ _).mono ?_; rintro e w1 ⟨rfl, hb⟩; obtain ⟨hc, hf, hz⟩ := bkeep hb (w.heap.size + 3) (by first | omega | (simp <;> omega)))
  all_goals refine bodyPost_ret (v := .agg #[.int .i64 (spT a b c d), .int .i64 (spL a b c d), .int .i64 (spB a b c d), .int .i64 (spR a b c d)]) ?_ rfl ⟨rfl, by (repeat (first | (with_reducible exact Below.refl _ _) | (with_reducible refine Below.alloc ?_ (by first | omega | (dsimp only; omega) | (simp <;> omega)) _) | (with_reducible refine Below.setCell ?_ (by first | omega | (dsimp only; omega) | (simp <;> omega)) _) | (with_reducible refine Below.drew ?_) | (with_reducible refine below_drewN ?_ _) | (with_reducible refine Below.trans ?_ (Below.mono (by assumption) (by first | omega | (dsimp only; omega) | (simp <;> omega))))))⟩
  all_goals simp [results, Try.results19, go_sem, spT, spL, spB, spR, *]
  all_goals try omega
theorem rspan_any (a b c d : Int) (w : World) :
    Calls Try.prog 19 #[.agg #[.int .i64 a, .int .i64 b], .agg #[.int .i64 c, .int .i64 d]] w
      fun e w' => e = .returned (.agg #[.int .i64 (spT a b c d), .int .i64 (spL a b c d), .int .i64 (spB a b c d), .int .i64 (spR a b c d)]) ∧ Below w.heap.size w w' := by
  cases h1 : mayB a b
  · exact rspan2 a b c d h1 w
  · cases h2 : mayB c d
    · exact rspan1 a b c d h1 h2 w
    · exact rspan0 a b c d h1 h2 w
end Go.Proofs.Ytakgdihocejmiaa
