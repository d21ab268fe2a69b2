/-
  Package value: the document's May; Txt, Truth, Num, Err of both.
-/
import Derived.Test.YtgmhifafbebjfaaGreatDoorValB
namespace Go.Proofs.YtgmhifafbebjfaaGreatDoor
open Go.RowKit

set_option maxHeartbeats 400000 in
theorem rvmay_any (t n : Int) (s : ByteArray) (b : Bool) (c : Int) (hn : -9223372036854775808 ≤ n ∧ n ≤ 9223372036854775807) (w : World) :
    Calls Tryz.prog 160 #[.agg #[.int .i64 t, .int .i64 n, .string s, .bool b, .int .i64 c]] w
      fun e w' => e = .returned (.bool (vMay t n s b c)) ∧ Below w.heap.size w w' := by
  go_enter Tryz.func160, Tryz.ntmps160
  go_wp2_with (go_at_call 164; refine (drmay_any _ (by first | assumption | (constructor <;> omega)) _).mono ?_; rintro e w1 ⟨rfl, rfl⟩)
  all_goals go_ret
  all_goals refine ⟨ret_b (Bool.eq_iff_iff.2 ?_), by (repeat (first | (with_reducible exact Below.refl _ _) | (with_reducible refine Below.alloc ?_ (by first | omega | (dsimp only; omega) | (simp <;> omega)) _) | (with_reducible refine Below.setCell ?_ (by first | omega | (dsimp only; omega) | (simp <;> omega)) _) | (with_reducible refine Below.drew ?_) | (with_reducible refine below_drewN ?_ _) | (with_reducible refine Below.trans ?_ (Below.mono (by assumption) (by first | omega | (dsimp only; omega) | (simp <;> omega))))))⟩
  all_goals try simp only [beq_iff_eq, beq_eq_false_iff_ne, ne_eq, decide_eq_true_eq] at *
  all_goals simp [vMay, decMay, *]
  all_goals first | done | omega | grind
set_option maxHeartbeats 400000 in
theorem vtxt_any (s : ByteArray) (w : World) :
    Calls Tryz.prog 184 #[.string s] w
      fun e w' => e = .returned (.agg #[.int .i64 2, .int .i64 0, .string s, .bool false, .int .i64 0]) ∧ Below w.heap.size w w' := by
  go_enter Tryz.func184, Tryz.ntmps184
  go_wp2
  refine bodyPost_ret (v := .agg #[.int .i64 2, .int .i64 0, .string s, .bool false, .int .i64 0]) ?_ rfl ⟨rfl, by (repeat (first | (with_reducible exact Below.refl _ _) | (with_reducible refine Below.alloc ?_ (by first | omega | (dsimp only; omega) | (simp <;> omega)) _) | (with_reducible refine Below.setCell ?_ (by first | omega | (dsimp only; omega) | (simp <;> omega)) _) | (with_reducible refine Below.drew ?_) | (with_reducible refine below_drewN ?_ _) | (with_reducible refine Below.trans ?_ (Below.mono (by assumption) (by first | omega | (dsimp only; omega) | (simp <;> omega))))))⟩
  simp [results, Tryz.results184, go_sem, *]
set_option maxHeartbeats 400000 in
theorem vtruth_any (b : Bool) (w : World) :
    Calls Tryz.prog 82 #[.bool b] w
      fun e w' => e = .returned (.agg #[.int .i64 3, .int .i64 0, .string ⟨#[]⟩, .bool b, .int .i64 0]) ∧ Below w.heap.size w w' := by
  go_enter Tryz.func82, Tryz.ntmps82
  go_wp2
  refine bodyPost_ret (v := .agg #[.int .i64 3, .int .i64 0, .string ⟨#[]⟩, .bool b, .int .i64 0]) ?_ rfl ⟨rfl, by (repeat (first | (with_reducible exact Below.refl _ _) | (with_reducible refine Below.alloc ?_ (by first | omega | (dsimp only; omega) | (simp <;> omega)) _) | (with_reducible refine Below.setCell ?_ (by first | omega | (dsimp only; omega) | (simp <;> omega)) _) | (with_reducible refine Below.drew ?_) | (with_reducible refine below_drewN ?_ _) | (with_reducible refine Below.trans ?_ (Below.mono (by assumption) (by first | omega | (dsimp only; omega) | (simp <;> omega))))))⟩
  simp [results, Tryz.results82, go_sem, *]
set_option maxHeartbeats 400000 in
theorem rvtxt_any (s : ByteArray) (w : World) :
    Calls Tryz.prog 91 #[.string s] w
      fun e w' => e = .returned (.agg #[.int .i64 2, .int .i64 0, .string s, .bool false, .int .i64 0]) ∧ Below w.heap.size w w' := by
  go_enter Tryz.func91, Tryz.ntmps91
  go_wp2
  refine bodyPost_ret (v := .agg #[.int .i64 2, .int .i64 0, .string s, .bool false, .int .i64 0]) ?_ rfl ⟨rfl, by (repeat (first | (with_reducible exact Below.refl _ _) | (with_reducible refine Below.alloc ?_ (by first | omega | (dsimp only; omega) | (simp <;> omega)) _) | (with_reducible refine Below.setCell ?_ (by first | omega | (dsimp only; omega) | (simp <;> omega)) _) | (with_reducible refine Below.drew ?_) | (with_reducible refine below_drewN ?_ _) | (with_reducible refine Below.trans ?_ (Below.mono (by assumption) (by first | omega | (dsimp only; omega) | (simp <;> omega))))))⟩
  simp [results, Tryz.results91, go_sem, *]
set_option maxHeartbeats 400000 in
theorem rvtruth_any (b : Bool) (w : World) :
    Calls Tryz.prog 30 #[.bool b] w
      fun e w' => e = .returned (.agg #[.int .i64 3, .int .i64 0, .string ⟨#[]⟩, .bool b, .int .i64 0]) ∧ Below w.heap.size w w' := by
  go_enter Tryz.func30, Tryz.ntmps30
  go_wp2
  refine bodyPost_ret (v := .agg #[.int .i64 3, .int .i64 0, .string ⟨#[]⟩, .bool b, .int .i64 0]) ?_ rfl ⟨rfl, by (repeat (first | (with_reducible exact Below.refl _ _) | (with_reducible refine Below.alloc ?_ (by first | omega | (dsimp only; omega) | (simp <;> omega)) _) | (with_reducible refine Below.setCell ?_ (by first | omega | (dsimp only; omega) | (simp <;> omega)) _) | (with_reducible refine Below.drew ?_) | (with_reducible refine below_drewN ?_ _) | (with_reducible refine Below.trans ?_ (Below.mono (by assumption) (by first | omega | (dsimp only; omega) | (simp <;> omega))))))⟩
  simp [results, Tryz.results30, go_sem, *]
/-- a number's value, and a fault's -/
def numN (x : Int) : Int := if x = -9223372036854775808 then 0 else x
def numT (x : Int) : Int := if x = -9223372036854775808 then 4 else 1
def numF (x : Int) : Int := if x = -9223372036854775808 then 2 else 0
def errC (c : Int) : Int := if 1 ≤ c ∧ c ≤ 8 then c else 8
theorem ne_yes {c : Int} (h : 1 ≤ c ∧ c ≤ 8) : (codeName c = ⟨#[]⟩) = False := eq_false (codeName_yes h)
set_option maxHeartbeats 400000 in
theorem verr_yes (c : Int) (h : 1 ≤ c ∧ c ≤ 8) (w : World) :
    Calls Tryz.prog 11 #[.int .i64 c] w
      fun e w' => e = .returned (.agg #[.int .i64 4, .int .i64 0, .string ⟨#[]⟩, .bool false, .int .i64 c]) ∧ Below w.heap.size w w' := by
  have hn := ne_yes h
  go_enter Tryz.func11, Tryz.ntmps11
  go_wp2_with (go_at_call 58; refine (name_any _ _).mono ?_; rintro e w1 ⟨rfl, hb⟩; obtain ⟨hc, hf, hz⟩ := bkeep hb (w.heap.size + 1) (by first | omega | (simp <;> omega)))
  refine bodyPost_ret (v := .agg #[.int .i64 4, .int .i64 0, .string ⟨#[]⟩, .bool false, .int .i64 c]) ?_ rfl ⟨rfl, by first | assumption | exact Below.trans (by assumption) (Below.mono (by assumption) (by omega)) | ((repeat (first | (with_reducible exact Below.refl _ _) | (with_reducible refine Below.alloc ?_ (by first | omega | (dsimp only; omega) | (simp <;> omega)) _) | (with_reducible refine Below.setCell ?_ (by first | omega | (dsimp only; omega) | (simp <;> omega)) _) | (with_reducible refine Below.drew ?_) | (with_reducible refine below_drewN ?_ _) | (with_reducible refine Below.trans ?_ (Below.mono (by assumption) (by first | omega | (dsimp only; omega) | (simp <;> omega)))))); done)⟩
  simp [results, Tryz.results11, go_sem, *]
set_option maxHeartbeats 400000 in
theorem rverr_yes (c : Int) (h : 1 ≤ c ∧ c ≤ 8) (w : World) :
    Calls Tryz.prog 20 #[.int .i64 c] w
      fun e w' => e = .returned (.agg #[.int .i64 4, .int .i64 0, .string ⟨#[]⟩, .bool false, .int .i64 c]) ∧ Below w.heap.size w w' := by
  obtain ⟨h1, h2⟩ := h
  go_enter Tryz.func20, Tryz.ntmps20
  go_wp2
  refine bodyPost_ret (v := .agg #[.int .i64 4, .int .i64 0, .string ⟨#[]⟩, .bool false, .int .i64 c]) ?_ rfl ⟨rfl, by (repeat (first | (with_reducible exact Below.refl _ _) | (with_reducible refine Below.alloc ?_ (by first | omega | (dsimp only; omega) | (simp <;> omega)) _) | (with_reducible refine Below.setCell ?_ (by first | omega | (dsimp only; omega) | (simp <;> omega)) _) | (with_reducible refine Below.drew ?_) | (with_reducible refine below_drewN ?_ _) | (with_reducible refine Below.trans ?_ (Below.mono (by assumption) (by first | omega | (dsimp only; omega) | (simp <;> omega))))))⟩
  simp [results, Tryz.results20, go_sem, *]
theorem ne_no {c : Int} (h : ¬ (1 ≤ c ∧ c ≤ 8)) : (codeName c = ⟨#[]⟩) = True := eq_true (codeName_no h)
set_option maxHeartbeats 400000 in
theorem verr_no (c : Int) (h : ¬ (1 ≤ c ∧ c ≤ 8)) (w : World) :
    Calls Tryz.prog 11 #[.int .i64 c] w
      fun e w' => e = .returned (.agg #[.int .i64 4, .int .i64 0, .string ⟨#[]⟩, .bool false, .int .i64 8]) ∧ Below w.heap.size w w' := by
  have hn := ne_no h
  go_enter Tryz.func11, Tryz.ntmps11
  go_wp2_with (go_at_call 58; refine (name_any _ _).mono ?_; rintro e w1 ⟨rfl, hb⟩; obtain ⟨hc, hf, hz⟩ := bkeep hb (w.heap.size + 1) (by first | omega | (simp <;> omega)))
  refine bodyPost_ret (v := .agg #[.int .i64 4, .int .i64 0, .string ⟨#[]⟩, .bool false, .int .i64 8]) ?_ rfl ⟨rfl, by first | assumption | exact Below.trans (by assumption) (Below.mono (by assumption) (by omega)) | ((repeat (first | (with_reducible exact Below.refl _ _) | (with_reducible refine Below.alloc ?_ (by first | omega | (dsimp only; omega) | (simp <;> omega)) _) | (with_reducible refine Below.setCell ?_ (by first | omega | (dsimp only; omega) | (simp <;> omega)) _) | (with_reducible refine Below.drew ?_) | (with_reducible refine below_drewN ?_ _) | (with_reducible refine Below.trans ?_ (Below.mono (by assumption) (by first | omega | (dsimp only; omega) | (simp <;> omega)))))); done)⟩
  simp [results, Tryz.results11, go_sem, *]
set_option maxHeartbeats 400000 in
theorem rverr_no (c : Int) (h : ¬ (1 ≤ c ∧ c ≤ 8)) (w : World) :
    Calls Tryz.prog 20 #[.int .i64 c] w
      fun e w' => e = .returned (.agg #[.int .i64 4, .int .i64 0, .string ⟨#[]⟩, .bool false, .int .i64 8]) ∧ Below w.heap.size w w' := by
  have h' : c < 1 ∨ 8 < c := by omega
  clear h
  rcases h' with h | h
  all_goals
    go_enter Tryz.func20, Tryz.ntmps20
    go_wp2
  all_goals refine bodyPost_ret (v := .agg #[.int .i64 4, .int .i64 0, .string ⟨#[]⟩, .bool false, .int .i64 8]) ?_ rfl ⟨rfl, by (repeat (first | (with_reducible exact Below.refl _ _) | (with_reducible refine Below.alloc ?_ (by first | omega | (dsimp only; omega) | (simp <;> omega)) _) | (with_reducible refine Below.setCell ?_ (by first | omega | (dsimp only; omega) | (simp <;> omega)) _) | (with_reducible refine Below.drew ?_) | (with_reducible refine below_drewN ?_ _) | (with_reducible refine Below.trans ?_ (Below.mono (by assumption) (by first | omega | (dsimp only; omega) | (simp <;> omega))))))⟩
  all_goals simp [results, Tryz.results20, go_sem, *]
set_option maxHeartbeats 400000 in
theorem vnum_yes (x : Int) (hx : -9223372036854775808 ≤ x ∧ x ≤ 9223372036854775807) (h : x ≠ -9223372036854775808) (w : World) :
    Calls Tryz.prog 141 #[.int .i64 x] w
      fun e w' => e = .returned (.agg #[.int .i64 1, .int .i64 x, .string ⟨#[]⟩, .bool false, .int .i64 0]) ∧ Below w.heap.size w w' := by
  have m1 := may_yes h
  go_enter Tryz.func141, Tryz.ntmps141
  go_wp2_with (first | (go_at_call 87; refine (dmay_any _ hx _).mono ?_; rintro e w1 ⟨rfl, rfl⟩) | (go_at_call 11; refine (verr_yes 2 (by decide) _).mono ?_; rintro e w1 ⟨rfl, hb⟩; obtain ⟨hc, hf, hz⟩ := bkeep hb (w.heap.size + 1) (by first | omega | (simp <;> omega))))
  refine bodyPost_ret (v := .agg #[.int .i64 1, .int .i64 x, .string ⟨#[]⟩, .bool false, .int .i64 0]) ?_ rfl ⟨rfl, by first | assumption | exact Below.trans (by assumption) (Below.mono (by assumption) (by omega)) | ((repeat (first | (with_reducible exact Below.refl _ _) | (with_reducible refine Below.alloc ?_ (by first | omega | (dsimp only; omega) | (simp <;> omega)) _) | (with_reducible refine Below.setCell ?_ (by first | omega | (dsimp only; omega) | (simp <;> omega)) _) | (with_reducible refine Below.drew ?_) | (with_reducible refine below_drewN ?_ _) | (with_reducible refine Below.trans ?_ (Below.mono (by assumption) (by first | omega | (dsimp only; omega) | (simp <;> omega)))))); done)⟩
  simp [results, Tryz.results141, go_sem, *]
set_option maxHeartbeats 400000 in
theorem rvnum_yes (x : Int) (hx : -9223372036854775808 ≤ x ∧ x ≤ 9223372036854775807) (h : x ≠ -9223372036854775808) (w : World) :
    Calls Tryz.prog 99 #[.int .i64 x] w
      fun e w' => e = .returned (.agg #[.int .i64 1, .int .i64 x, .string ⟨#[]⟩, .bool false, .int .i64 0]) ∧ Below w.heap.size w w' := by
  have m1 := may_yes h
  go_enter Tryz.func99, Tryz.ntmps99
  go_wp2_with (go_at_call 164; refine (drmay_any _ hx _).mono ?_; rintro e w1 ⟨rfl, rfl⟩)
  refine bodyPost_ret (v := .agg #[.int .i64 1, .int .i64 x, .string ⟨#[]⟩, .bool false, .int .i64 0]) ?_ rfl ⟨rfl, by first | assumption | exact Below.trans (by assumption) (Below.mono (by assumption) (by omega)) | ((repeat (first | (with_reducible exact Below.refl _ _) | (with_reducible refine Below.alloc ?_ (by first | omega | (dsimp only; omega) | (simp <;> omega)) _) | (with_reducible refine Below.setCell ?_ (by first | omega | (dsimp only; omega) | (simp <;> omega)) _) | (with_reducible refine Below.drew ?_) | (with_reducible refine below_drewN ?_ _) | (with_reducible refine Below.trans ?_ (Below.mono (by assumption) (by first | omega | (dsimp only; omega) | (simp <;> omega)))))); done)⟩
  simp [results, Tryz.results99, go_sem, *]
set_option maxHeartbeats 400000 in
theorem vnum_no (x : Int) (hx : -9223372036854775808 ≤ x ∧ x ≤ 9223372036854775807) (h : x = -9223372036854775808) (w : World) :
    Calls Tryz.prog 141 #[.int .i64 x] w
      fun e w' => e = .returned (.agg #[.int .i64 4, .int .i64 0, .string ⟨#[]⟩, .bool false, .int .i64 2]) ∧ Below w.heap.size w w' := by
  have m1 := may_no h
  clear h
  go_enter Tryz.func141, Tryz.ntmps141
  go_wp2_with (first | (go_at_call 87; refine (dmay_any _ hx _).mono ?_; rintro e w1 ⟨rfl, rfl⟩) | (go_at_call 11; refine (verr_yes 2 (by decide) _).mono ?_; rintro e w1 ⟨rfl, hb⟩; obtain ⟨hc, hf, hz⟩ := bkeep hb (w.heap.size + 1) (by first | omega | (simp <;> omega))))
  refine bodyPost_ret (v := .agg #[.int .i64 4, .int .i64 0, .string ⟨#[]⟩, .bool false, .int .i64 2]) ?_ rfl ⟨rfl, by first | assumption | exact Below.trans (by assumption) (Below.mono (by assumption) (by omega)) | ((repeat (first | (with_reducible exact Below.refl _ _) | (with_reducible refine Below.alloc ?_ (by first | omega | (dsimp only; omega) | (simp <;> omega)) _) | (with_reducible refine Below.setCell ?_ (by first | omega | (dsimp only; omega) | (simp <;> omega)) _) | (with_reducible refine Below.drew ?_) | (with_reducible refine below_drewN ?_ _) | (with_reducible refine Below.trans ?_ (Below.mono (by assumption) (by first | omega | (dsimp only; omega) | (simp <;> omega)))))); done)⟩
  simp [results, Tryz.results141, go_sem, *]
set_option maxHeartbeats 400000 in
theorem rvnum_no (x : Int) (hx : -9223372036854775808 ≤ x ∧ x ≤ 9223372036854775807) (h : x = -9223372036854775808) (w : World) :
    Calls Tryz.prog 99 #[.int .i64 x] w
      fun e w' => e = .returned (.agg #[.int .i64 4, .int .i64 0, .string ⟨#[]⟩, .bool false, .int .i64 2]) ∧ Below w.heap.size w w' := by
  have m1 := may_no h
  clear h
  go_enter Tryz.func99, Tryz.ntmps99
  go_wp2_with (go_at_call 164; refine (drmay_any _ hx _).mono ?_; rintro e w1 ⟨rfl, rfl⟩)
  refine bodyPost_ret (v := .agg #[.int .i64 4, .int .i64 0, .string ⟨#[]⟩, .bool false, .int .i64 2]) ?_ rfl ⟨rfl, by first | assumption | exact Below.trans (by assumption) (Below.mono (by assumption) (by omega)) | ((repeat (first | (with_reducible exact Below.refl _ _) | (with_reducible refine Below.alloc ?_ (by first | omega | (dsimp only; omega) | (simp <;> omega)) _) | (with_reducible refine Below.setCell ?_ (by first | omega | (dsimp only; omega) | (simp <;> omega)) _) | (with_reducible refine Below.drew ?_) | (with_reducible refine below_drewN ?_ _) | (with_reducible refine Below.trans ?_ (Below.mono (by assumption) (by first | omega | (dsimp only; omega) | (simp <;> omega)))))); done)⟩
  simp [results, Tryz.results99, go_sem, *]
end Go.Proofs.YtgmhifafbebjfaaGreatDoor
