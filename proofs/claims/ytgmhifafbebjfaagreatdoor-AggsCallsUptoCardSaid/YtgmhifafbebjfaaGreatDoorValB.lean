/-
 Package value: bare, May.
-/
import Derived.Test.YtgmhifafbebjfaaGreatDoorValA
set_option maxRecDepth 100000
set_option maxHeartbeats 32000000
namespace Go.Proofs.YtgmhifafbebjfaaGreatDoor
open Go.RowKit

theorem beq_val (t n : Int) (s : ByteArray) (b : Bool) (c : Int) (t' n' : Int) (s' : ByteArray) (b' : Bool) (c' : Int) : vEq t n s b c t' n' s' b' c' = true ↔ t = t' ∧ n = n' ∧ s = s' ∧ b = b' ∧ c = c' := by
 simp [vEq, and_assoc]

theorem bare_0 (n : Int) (s : ByteArray) (b : Bool) (c : Int) (w : World) :
  Calls Tryz.prog 136 #[.agg #[.int .i64 0, .int .i64 n, .string s, .bool b, .int .i64 c]] w
   fun e w' => e = .returned (.agg #[.int .i64 0, .int .i64 n, .string s, .bool b, .int .i64 c]) ∧ Below w.heap.size w w' := by
 go_enter Tryz.func136, Tryz.ntmps136
 go_wp2
 refine bodyPost_ret (v := .agg #[.int .i64 0, .int .i64 n, .string s, .bool b, .int .i64 c]) ?_ rfl ⟨rfl, belq⟩
 simp [results, Tryz.results136, go_sem, *]
theorem bare_1 (n : Int) (s : ByteArray) (b : Bool) (c : Int) (w : World) :
  Calls Tryz.prog 136 #[.agg #[.int .i64 1, .int .i64 n, .string s, .bool b, .int .i64 c]] w
   fun e w' => e = .returned (.agg #[.int .i64 1, .int .i64 0, .string s, .bool b, .int .i64 c]) ∧ Below w.heap.size w w' := by
 go_enter Tryz.func136, Tryz.ntmps136
 go_wp2
 refine bodyPost_ret (v := .agg #[.int .i64 1, .int .i64 0, .string s, .bool b, .int .i64 c]) ?_ rfl ⟨rfl, belq⟩
 simp [results, Tryz.results136, go_sem, *]
theorem bare_2 (n : Int) (s : ByteArray) (b : Bool) (c : Int) (w : World) :
  Calls Tryz.prog 136 #[.agg #[.int .i64 2, .int .i64 n, .string s, .bool b, .int .i64 c]] w
   fun e w' => e = .returned (.agg #[.int .i64 2, .int .i64 n, .string ⟨#[]⟩, .bool b, .int .i64 c]) ∧ Below w.heap.size w w' := by
 go_enter Tryz.func136, Tryz.ntmps136
 go_wp2
 refine bodyPost_ret (v := .agg #[.int .i64 2, .int .i64 n, .string ⟨#[]⟩, .bool b, .int .i64 c]) ?_ rfl ⟨rfl, belq⟩
 simp [results, Tryz.results136, go_sem, *]
theorem bare_3 (n : Int) (s : ByteArray) (b : Bool) (c : Int) (w : World) :
  Calls Tryz.prog 136 #[.agg #[.int .i64 3, .int .i64 n, .string s, .bool b, .int .i64 c]] w
   fun e w' => e = .returned (.agg #[.int .i64 3, .int .i64 n, .string s, .bool false, .int .i64 c]) ∧ Below w.heap.size w w' := by
 go_enter Tryz.func136, Tryz.ntmps136
 go_wp2
 refine bodyPost_ret (v := .agg #[.int .i64 3, .int .i64 n, .string s, .bool false, .int .i64 c]) ?_ rfl ⟨rfl, belq⟩
 simp [results, Tryz.results136, go_sem, *]
theorem bare_4 (n : Int) (s : ByteArray) (b : Bool) (c : Int) (w : World) :
  Calls Tryz.prog 136 #[.agg #[.int .i64 4, .int .i64 n, .string s, .bool b, .int .i64 c]] w
   fun e w' => e = .returned (.agg #[.int .i64 4, .int .i64 n, .string s, .bool b, .int .i64 0]) ∧ Below w.heap.size w w' := by
 go_enter Tryz.func136, Tryz.ntmps136
 go_wp2
 refine bodyPost_ret (v := .agg #[.int .i64 4, .int .i64 n, .string s, .bool b, .int .i64 0]) ?_ rfl ⟨rfl, belq⟩
 simp [results, Tryz.results136, go_sem, *]
theorem vMay_iff (t n : Int) (s : ByteArray) (b : Bool) (c : Int) : vMay t n s b c = true ↔ 0 ≤ t ∧ t ≤ 4 ∧ (t = 1 ∨ n = 0) ∧ (t = 2 ∨ s = ⟨#[]⟩) ∧ (t = 3 ∨ b = false) ∧ (t = 4 ∨ c = 0) ∧ (t = 1 → n ≠ -9223372036854775808) ∧ (t = 4 → 1 ≤ c ∧ c ≤ 8) := by
 simp [vMay, and_assoc, Decidable.imp_iff_not_or]
theorem name_empty (c : Int) : decide (codeName c = ⟨#[]⟩) = !(decide (1 ≤ c) && decide (c ≤ 8)) := by
 by_cases h : 1 ≤ c ∧ c ≤ 8
 ·have := codeName_yes h
  simp [this, h.1, h.2]
 ·rw [codeName_no h]
  have : (decide (1 ≤ c) && decide (c ≤ 8)) = false := by simp; omega
  simp [this]
theorem vmay_0 (n : Int) (s : ByteArray) (b : Bool) (c : Int) (hn : -9223372036854775808 ≤ n ∧ n ≤ 9223372036854775807) (w : World) :
  Calls Tryz.prog 59 #[.agg #[.int .i64 0, .int .i64 n, .string s, .bool b, .int .i64 c]] w
   fun e w' => e = .returned (.bool (vMay 0 n s b c)) ∧ Below w.heap.size w w' := by
 go_enter Tryz.func59, Tryz.ntmps59
 go_wp2
 go_region_held3 (fun w' => w'.cell? ⟨w.heap.size, 0, none⟩ = some (.int .i64 0) ∧ w'.cell? ⟨w.heap.size, 1, none⟩ = some (.int .i64 n) ∧ w'.cell? ⟨w.heap.size, 2, none⟩ = some (.string s) ∧ w'.cell? ⟨w.heap.size, 3, none⟩ = some (.bool b) ∧ w'.cell? ⟨w.heap.size, 4, none⟩ = some (.int .i64 c) ∧ Below w.heap.size w w' ∧ w.heap.size + 1 ≤ w'.heap.size)
  (first | ((go_split_ands; refine ⟨?_, ?_, ?_, ?_, ?_, ?_, ?_⟩ <;> first | (rw [hb.cell (by dsimp only; omega)]; assumption) | exact Below.trans (by assumption) (hb.mono (by omega)) | (have := hb.size; omega))) | ((refine ⟨?_, ?_, ?_, ?_, ?_, ?_, ?_⟩ <;> first | (simp [go_sem, *]; done) | exact belq | (simp; omega))))
  (first | (go_at_call 136; refine (bare_0 _ _ _ _ _).mono ?_; rintro e w1 ⟨rfl, hb⟩))
 go_split_ands
 go_wp2_with (first | (go_at_call 87; refine (dmay_any _ (by first | assumption | (constructor <;> omega)) _).mono ?_; rintro e w1 ⟨rfl, rfl⟩) | (go_at_call 58; refine (name_any _ _).mono ?_; rintro e w1 ⟨rfl, hb⟩))
 all_goals go_ret
 all_goals refine ⟨ret_b (Bool.eq_iff_iff.2 ?_), by first | assumption | (repeat (first | assumption | (refine Below.trans ?_ (Below.mono (by assumption) (by omega)))))⟩
 all_goals simp [vMay, vEq] at *
 all_goals first | done | assumption | omega | grind
theorem vmay_1 (n : Int) (s : ByteArray) (b : Bool) (c : Int) (hn : -9223372036854775808 ≤ n ∧ n ≤ 9223372036854775807) (w : World) :
  Calls Tryz.prog 59 #[.agg #[.int .i64 1, .int .i64 n, .string s, .bool b, .int .i64 c]] w
   fun e w' => e = .returned (.bool (vMay 1 n s b c)) ∧ Below w.heap.size w w' := by
 go_enter Tryz.func59, Tryz.ntmps59
 go_wp2
 go_region_held3 (fun w' => w'.cell? ⟨w.heap.size, 0, none⟩ = some (.int .i64 1) ∧ w'.cell? ⟨w.heap.size, 1, none⟩ = some (.int .i64 n) ∧ w'.cell? ⟨w.heap.size, 2, none⟩ = some (.string s) ∧ w'.cell? ⟨w.heap.size, 3, none⟩ = some (.bool b) ∧ w'.cell? ⟨w.heap.size, 4, none⟩ = some (.int .i64 c) ∧ Below w.heap.size w w' ∧ w.heap.size + 1 ≤ w'.heap.size)
  (first | ((go_split_ands; refine ⟨?_, ?_, ?_, ?_, ?_, ?_, ?_⟩ <;> first | (rw [hb.cell (by dsimp only; omega)]; assumption) | exact Below.trans (by assumption) (hb.mono (by omega)) | (have := hb.size; omega))) | ((refine ⟨?_, ?_, ?_, ?_, ?_, ?_, ?_⟩ <;> first | (simp [go_sem, *]; done) | exact belq | (simp; omega))))
  (first | (go_at_call 136; refine (bare_1 _ _ _ _ _).mono ?_; rintro e w1 ⟨rfl, hb⟩))
 go_split_ands
 go_wp2_with (first | (go_at_call 87; refine (dmay_any _ (by first | assumption | (constructor <;> omega)) _).mono ?_; rintro e w1 ⟨rfl, rfl⟩) | (go_at_call 58; refine (name_any _ _).mono ?_; rintro e w1 ⟨rfl, hb⟩))
 all_goals go_ret
 all_goals refine ⟨ret_b (Bool.eq_iff_iff.2 ?_), by first | assumption | (repeat (first | assumption | (refine Below.trans ?_ (Below.mono (by assumption) (by omega)))))⟩
 all_goals simp [vMay, vEq, decMay] at *
 all_goals first | done | assumption | omega | grind
theorem vmay_2 (n : Int) (s : ByteArray) (b : Bool) (c : Int) (hn : -9223372036854775808 ≤ n ∧ n ≤ 9223372036854775807) (w : World) :
  Calls Tryz.prog 59 #[.agg #[.int .i64 2, .int .i64 n, .string s, .bool b, .int .i64 c]] w
   fun e w' => e = .returned (.bool (vMay 2 n s b c)) ∧ Below w.heap.size w w' := by
 go_enter Tryz.func59, Tryz.ntmps59
 go_wp2
 go_region_held3 (fun w' => w'.cell? ⟨w.heap.size, 0, none⟩ = some (.int .i64 2) ∧ w'.cell? ⟨w.heap.size, 1, none⟩ = some (.int .i64 n) ∧ w'.cell? ⟨w.heap.size, 2, none⟩ = some (.string s) ∧ w'.cell? ⟨w.heap.size, 3, none⟩ = some (.bool b) ∧ w'.cell? ⟨w.heap.size, 4, none⟩ = some (.int .i64 c) ∧ Below w.heap.size w w' ∧ w.heap.size + 1 ≤ w'.heap.size)
  (first | ((go_split_ands; refine ⟨?_, ?_, ?_, ?_, ?_, ?_, ?_⟩ <;> first | (rw [hb.cell (by dsimp only; omega)]; assumption) | exact Below.trans (by assumption) (hb.mono (by omega)) | (have := hb.size; omega))) | ((refine ⟨?_, ?_, ?_, ?_, ?_, ?_, ?_⟩ <;> first | (simp [go_sem, *]; done) | exact belq | (simp; omega))))
  (first | (go_at_call 136; refine (bare_2 _ _ _ _ _).mono ?_; rintro e w1 ⟨rfl, hb⟩))
 go_split_ands
 go_wp2_with (first | (go_at_call 87; refine (dmay_any _ (by first | assumption | (constructor <;> omega)) _).mono ?_; rintro e w1 ⟨rfl, rfl⟩) | (go_at_call 58; refine (name_any _ _).mono ?_; rintro e w1 ⟨rfl, hb⟩))
 all_goals go_ret
 all_goals refine ⟨ret_b (Bool.eq_iff_iff.2 ?_), by first | assumption | (repeat (first | assumption | (refine Below.trans ?_ (Below.mono (by assumption) (by omega)))))⟩
 all_goals simp [vMay, vEq] at *
 all_goals first | done | assumption | omega | grind
theorem vmay_3 (n : Int) (s : ByteArray) (b : Bool) (c : Int) (hn : -9223372036854775808 ≤ n ∧ n ≤ 9223372036854775807) (w : World) :
  Calls Tryz.prog 59 #[.agg #[.int .i64 3, .int .i64 n, .string s, .bool b, .int .i64 c]] w
   fun e w' => e = .returned (.bool (vMay 3 n s b c)) ∧ Below w.heap.size w w' := by
 go_enter Tryz.func59, Tryz.ntmps59
 go_wp2
 go_region_held3 (fun w' => w'.cell? ⟨w.heap.size, 0, none⟩ = some (.int .i64 3) ∧ w'.cell? ⟨w.heap.size, 1, none⟩ = some (.int .i64 n) ∧ w'.cell? ⟨w.heap.size, 2, none⟩ = some (.string s) ∧ w'.cell? ⟨w.heap.size, 3, none⟩ = some (.bool b) ∧ w'.cell? ⟨w.heap.size, 4, none⟩ = some (.int .i64 c) ∧ Below w.heap.size w w' ∧ w.heap.size + 1 ≤ w'.heap.size)
  (first | ((go_split_ands; refine ⟨?_, ?_, ?_, ?_, ?_, ?_, ?_⟩ <;> first | (rw [hb.cell (by dsimp only; omega)]; assumption) | exact Below.trans (by assumption) (hb.mono (by omega)) | (have := hb.size; omega))) | ((refine ⟨?_, ?_, ?_, ?_, ?_, ?_, ?_⟩ <;> first | (simp [go_sem, *]; done) | exact belq | (simp; omega))))
  (first | (go_at_call 136; refine (bare_3 _ _ _ _ _).mono ?_; rintro e w1 ⟨rfl, hb⟩))
 go_split_ands
 go_wp2_with (first | (go_at_call 87; refine (dmay_any _ (by first | assumption | (constructor <;> omega)) _).mono ?_; rintro e w1 ⟨rfl, rfl⟩) | (go_at_call 58; refine (name_any _ _).mono ?_; rintro e w1 ⟨rfl, hb⟩))
 all_goals go_ret
 all_goals refine ⟨ret_b (Bool.eq_iff_iff.2 ?_), by first | assumption | (repeat (first | assumption | (refine Below.trans ?_ (Below.mono (by assumption) (by omega)))))⟩
 all_goals simp [vMay, vEq] at *
 all_goals first | done | assumption | omega | grind
theorem vmay_4 (n : Int) (s : ByteArray) (b : Bool) (c : Int) (hn : -9223372036854775808 ≤ n ∧ n ≤ 9223372036854775807) (w : World) :
  Calls Tryz.prog 59 #[.agg #[.int .i64 4, .int .i64 n, .string s, .bool b, .int .i64 c]] w
   fun e w' => e = .returned (.bool (vMay 4 n s b c)) ∧ Below w.heap.size w w' := by
 go_enter Tryz.func59, Tryz.ntmps59
 go_wp2
 go_region_held3 (fun w' => w'.cell? ⟨w.heap.size, 0, none⟩ = some (.int .i64 4) ∧ w'.cell? ⟨w.heap.size, 1, none⟩ = some (.int .i64 n) ∧ w'.cell? ⟨w.heap.size, 2, none⟩ = some (.string s) ∧ w'.cell? ⟨w.heap.size, 3, none⟩ = some (.bool b) ∧ w'.cell? ⟨w.heap.size, 4, none⟩ = some (.int .i64 c) ∧ Below w.heap.size w w' ∧ w.heap.size + 1 ≤ w'.heap.size)
  (first | ((go_split_ands; refine ⟨?_, ?_, ?_, ?_, ?_, ?_, ?_⟩ <;> first | (rw [hb.cell (by dsimp only; omega)]; assumption) | exact Below.trans (by assumption) (hb.mono (by omega)) | (have := hb.size; omega))) | ((refine ⟨?_, ?_, ?_, ?_, ?_, ?_, ?_⟩ <;> first | (simp [go_sem, *]; done) | exact belq | (simp; omega))))
  (first | (go_at_call 136; refine (bare_4 _ _ _ _ _).mono ?_; rintro e w1 ⟨rfl, hb⟩))
 go_split_ands
 go_wp2_with (first | (go_at_call 87; refine (dmay_any _ (by first | assumption | (constructor <;> omega)) _).mono ?_; rintro e w1 ⟨rfl, rfl⟩) | (go_at_call 58; refine (name_any _ _).mono ?_; rintro e w1 ⟨rfl, hb⟩))
 all_goals go_ret
 all_goals refine ⟨ret_b (Bool.eq_iff_iff.2 ?_), by first | assumption | (repeat (first | assumption | (refine Below.trans ?_ (Below.mono (by assumption) (by omega)))))⟩
 all_goals simp [vMay, vEq, name_empty] at *
 all_goals first | done | assumption | omega | grind
def lowT (k : Nat) : Int := -(k : Int) - 1
def highT (k : Nat) : Int := (k : Int) + 5
@[go_sem, simp] theorem lowT_lt (k : Nat) : (lowT k < 0) = True := by unfold lowT; simp; omega
@[go_sem, simp] theorem highT_lt (k : Nat) : (highT k < 0) = False := by unfold highT; simp; omega
@[go_sem, simp] theorem highT_gt (k : Nat) : (4 < highT k) = True := by unfold highT; simp; omega
@[go_sem, simp] theorem highT_ge (k : Nat) : (highT k > 4) = True := by unfold highT; simp; omega
theorem vmay_low (k : Nat) (n : Int) (s : ByteArray) (b : Bool) (c : Int) (w : World) :
  Calls Tryz.prog 59 #[.agg #[.int .i64 (lowT k), .int .i64 n, .string s, .bool b, .int .i64 c]] w
   fun e w' => e = .returned (.bool false) ∧ Below w.heap.size w w' := by
 go_enter Tryz.func59, Tryz.ntmps59
 go_wp2
 go_quiet (fail)
 go_wp2
 go_ret
 exact ⟨rfl, belq⟩
theorem vmay_high (k : Nat) (n : Int) (s : ByteArray) (b : Bool) (c : Int) (w : World) :
  Calls Tryz.prog 59 #[.agg #[.int .i64 (highT k), .int .i64 n, .string s, .bool b, .int .i64 c]] w
   fun e w' => e = .returned (.bool false) ∧ Below w.heap.size w w' := by
 go_enter Tryz.func59, Tryz.ntmps59
 go_wp2
 go_quiet (fail)
 go_wp2
 go_ret
 exact ⟨rfl, belq⟩
theorem vmay_any (t n : Int) (s : ByteArray) (b : Bool) (c : Int) (hn : -9223372036854775808 ≤ n ∧ n ≤ 9223372036854775807) (w : World) : Calls Tryz.prog 59 #[.agg #[.int .i64 t, .int .i64 n, .string s, .bool b, .int .i64 c]] w fun e w' => e = .returned (.bool (vMay t n s b c)) ∧ Below w.heap.size w w' := by
 by_cases h : t < 0
 ·obtain ⟨k, rfl⟩ : ∃ k : Nat, t = lowT k := ⟨(-t - 1).toNat, by unfold lowT; omega⟩
  have : vMay (lowT k) n s b c = false := by simp [vMay]; intro h0; omega
  rw [this]
  exact vmay_low k n s b c w
 by_cases h4 : 4 < t
 ·obtain ⟨k, rfl⟩ : ∃ k : Nat, t = highT k := ⟨(t - 5).toNat, by unfold highT; omega⟩
  have : vMay (highT k) n s b c = false := by simp [vMay]; intro _ h0; omega
  rw [this]
  exact vmay_high k n s b c w
 have : t = 0 ∨ t = 1 ∨ t = 2 ∨ t = 3 ∨ t = 4 := by omega
 rcases this with rfl | rfl | rfl | rfl | rfl
 ·exact vmay_0 n s b c hn w
 ·exact vmay_1 n s b c hn w
 ·exact vmay_2 n s b c hn w
 ·exact vmay_3 n s b c hn w
 ·exact vmay_4 n s b c hn w
end Go.Proofs.YtgmhifafbebjfaaGreatDoor
