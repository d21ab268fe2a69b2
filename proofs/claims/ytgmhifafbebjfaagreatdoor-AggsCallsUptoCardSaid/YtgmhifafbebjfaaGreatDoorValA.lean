/-
 Package value: names of codes; equality of values.
-/
import Derived.Test.YtgmhifafbebjfaaGreatDoorMg2
set_option maxRecDepth 100000
set_option maxHeartbeats 32000000
namespace Go.Proofs.YtgmhifafbebjfaaGreatDoor
open Go.RowKit

def codeName (c : Int) : ByteArray :=
 if c = 1 then ⟨#[35, 67, 89, 67, 76, 69, 33]⟩ else
 if c = 2 then ⟨#[35, 78, 85, 77, 33]⟩ else
 if c = 3 then ⟨#[35, 68, 73, 86, 33]⟩ else
 if c = 4 then ⟨#[35, 84, 89, 80, 69, 33]⟩ else
 if c = 5 then ⟨#[35, 82, 65, 78, 71, 69, 33]⟩ else
 if c = 6 then ⟨#[35, 77, 73, 83, 83, 33]⟩ else
 if c = 7 then ⟨#[35, 76, 79, 78, 71, 33]⟩ else
 if c = 8 then ⟨#[35, 65, 82, 71, 33]⟩ else
 ⟨#[]⟩
def vMay (t n : Int) (s : ByteArray) (b : Bool) (c : Int) : Bool :=
 decide (0 ≤ t) && decide (t ≤ 4) && (decide (t = 1) || decide (n = 0)) && (decide (t = 2) || decide (s = ⟨#[]⟩)) && (decide (t = 3) || !b) && (decide (t = 4) || decide (c = 0)) && (!decide (t = 1) || decide (n ≠ -9223372036854775808)) && (!decide (t = 4) || (decide (1 ≤ c) && decide (c ≤ 8)))
def vEq (t n : Int) (s : ByteArray) (b : Bool) (c : Int) (t' n' : Int) (s' : ByteArray) (b' : Bool) (c' : Int) : Bool :=
 decide (t = t') && decide (n = n') && decide (s = s') && decide (b = b') && decide (c = c')
theorem codeName_no {c : Int} (h : ¬ (1 ≤ c ∧ c ≤ 8)) : codeName c = ⟨#[]⟩ := by
 unfold codeName
 repeat (rw [if_neg (by omega)])
theorem codeName_yes {c : Int} (h : 1 ≤ c ∧ c ≤ 8) : codeName c ≠ ⟨#[]⟩ := by
 obtain ⟨h1, h2⟩ := h
 have : c = 1 ∨ c = 2 ∨ c = 3 ∨ c = 4 ∨ c = 5 ∨ c = 6 ∨ c = 7 ∨ c = 8 := by omega
 rcases this with rfl | rfl | rfl | rfl | rfl | rfl | rfl | rfl <;> decide +kernel

theorem bytes_list (a b : ByteArray) : (a.toList = b.toList) = (a = b) := by
 apply propext
 constructor
 ·intro h
  rw [ByteArray.toList_eq, ByteArray.toList_eq] at h
  exact ByteArray.ext (Array.ext' h)
 ·rintro rfl; rfl
theorem bytes_beq (a b : ByteArray) : (a.toList == b.toList) = decide (a = b) := by
 rw [Bool.eq_iff_iff]; simp [bytes_list]
@[go_sem high] theorem str_eql (t : TypeId) (a b : ByteArray) : binOp .eql t (.string a) (.string b) = pure (.bool (decide (a = b))) := by rw [binOp_string_eql, bytes_beq]
@[go_sem high] theorem str_neq (t : TypeId) (a b : ByteArray) : binOp .neq t (.string a) (.string b) = pure (.bool (!decide (a = b))) := by simp [binOp, Op.stringOp, bytes_beq]
@[go_sem high] theorem eql_val (t n : Int) (s : ByteArray) (b : Bool) (c : Int) (t' n' : Int) (s' : ByteArray) (b' : Bool) (c' : Int) (w : World) : (binOp .eql 26 (.agg #[.int .i64 t, .int .i64 n, .string s, .bool b, .int .i64 c]) (.agg #[.int .i64 t', .int .i64 n', .string s', .bool b', .int .i64 c'])).run Tryz.prog w = .ok (.bool (vEq t n s b c t' n' s' b' c')) w := by
 by_cases h1 : t = t' <;> by_cases h2 : n = n' <;> by_cases h3 : s = s' <;> by_cases h4 : b = b' <;> by_cases h5 : c = c' <;> simp [go_sem, vEq, bytes_list, h1, h2, h3, h4, h5]
@[go_sem high] theorem neq_val (t n : Int) (s : ByteArray) (b : Bool) (c : Int) (t' n' : Int) (s' : ByteArray) (b' : Bool) (c' : Int) (w : World) : (binOp .neq 26 (.agg #[.int .i64 t, .int .i64 n, .string s, .bool b, .int .i64 c]) (.agg #[.int .i64 t', .int .i64 n', .string s', .bool b', .int .i64 c'])).run Tryz.prog w = .ok (.bool (!vEq t n s b c t' n' s' b' c')) w := by
 by_cases h1 : t = t' <;> by_cases h2 : n = n' <;> by_cases h3 : s = s' <;> by_cases h4 : b = b' <;> by_cases h5 : c = c' <;> simp [go_sem, vEq, bytes_list, h1, h2, h3, h4, h5]
theorem names_any  (w : World) :
  Calls Tryz.prog 135 #[] w
   fun e w' => e = .returned (.agg #[.string (⟨#[]⟩), .string (⟨#[35, 67, 89, 67, 76, 69, 33]⟩), .string (⟨#[35, 78, 85, 77, 33]⟩), .string (⟨#[35, 68, 73, 86, 33]⟩), .string (⟨#[35, 84, 89, 80, 69, 33]⟩), .string (⟨#[35, 82, 65, 78, 71, 69, 33]⟩), .string (⟨#[35, 77, 73, 83, 83, 33]⟩), .string (⟨#[35, 76, 79, 78, 71, 33]⟩), .string (⟨#[35, 65, 82, 71, 33]⟩)]) ∧ Below w.heap.size w w' := by
 go_enter Tryz.func135, Tryz.ntmps135
 go_wp2
 refine bodyPost_ret (v := .agg #[.string (⟨#[]⟩), .string (⟨#[35, 67, 89, 67, 76, 69, 33]⟩), .string (⟨#[35, 78, 85, 77, 33]⟩), .string (⟨#[35, 68, 73, 86, 33]⟩), .string (⟨#[35, 84, 89, 80, 69, 33]⟩), .string (⟨#[35, 82, 65, 78, 71, 69, 33]⟩), .string (⟨#[35, 77, 73, 83, 83, 33]⟩), .string (⟨#[35, 76, 79, 78, 71, 33]⟩), .string (⟨#[35, 65, 82, 71, 33]⟩)]) ?_ rfl ⟨rfl, belq⟩
 simp [results, Tryz.results135, go_sem, *]
@[go_sem high] theorem names_at0 (w : World) : (Instr.index 138 (.agg #[.string (⟨#[]⟩), .string (⟨#[35, 67, 89, 67, 76, 69, 33]⟩), .string (⟨#[35, 78, 85, 77, 33]⟩), .string (⟨#[35, 68, 73, 86, 33]⟩), .string (⟨#[35, 84, 89, 80, 69, 33]⟩), .string (⟨#[35, 82, 65, 78, 71, 69, 33]⟩), .string (⟨#[35, 77, 73, 83, 83, 33]⟩), .string (⟨#[35, 76, 79, 78, 71, 33]⟩), .string (⟨#[35, 65, 82, 71, 33]⟩)]) (.int .i64 0)).run Tryz.prog w = .ok (.string (⟨#[]⟩)) w := by kernel_rfl
@[go_sem high] theorem names_at1 (w : World) : (Instr.index 138 (.agg #[.string (⟨#[]⟩), .string (⟨#[35, 67, 89, 67, 76, 69, 33]⟩), .string (⟨#[35, 78, 85, 77, 33]⟩), .string (⟨#[35, 68, 73, 86, 33]⟩), .string (⟨#[35, 84, 89, 80, 69, 33]⟩), .string (⟨#[35, 82, 65, 78, 71, 69, 33]⟩), .string (⟨#[35, 77, 73, 83, 83, 33]⟩), .string (⟨#[35, 76, 79, 78, 71, 33]⟩), .string (⟨#[35, 65, 82, 71, 33]⟩)]) (.int .i64 1)).run Tryz.prog w = .ok (.string (⟨#[35, 67, 89, 67, 76, 69, 33]⟩)) w := by kernel_rfl
@[go_sem high] theorem names_at2 (w : World) : (Instr.index 138 (.agg #[.string (⟨#[]⟩), .string (⟨#[35, 67, 89, 67, 76, 69, 33]⟩), .string (⟨#[35, 78, 85, 77, 33]⟩), .string (⟨#[35, 68, 73, 86, 33]⟩), .string (⟨#[35, 84, 89, 80, 69, 33]⟩), .string (⟨#[35, 82, 65, 78, 71, 69, 33]⟩), .string (⟨#[35, 77, 73, 83, 83, 33]⟩), .string (⟨#[35, 76, 79, 78, 71, 33]⟩), .string (⟨#[35, 65, 82, 71, 33]⟩)]) (.int .i64 2)).run Tryz.prog w = .ok (.string (⟨#[35, 78, 85, 77, 33]⟩)) w := by kernel_rfl
@[go_sem high] theorem names_at3 (w : World) : (Instr.index 138 (.agg #[.string (⟨#[]⟩), .string (⟨#[35, 67, 89, 67, 76, 69, 33]⟩), .string (⟨#[35, 78, 85, 77, 33]⟩), .string (⟨#[35, 68, 73, 86, 33]⟩), .string (⟨#[35, 84, 89, 80, 69, 33]⟩), .string (⟨#[35, 82, 65, 78, 71, 69, 33]⟩), .string (⟨#[35, 77, 73, 83, 83, 33]⟩), .string (⟨#[35, 76, 79, 78, 71, 33]⟩), .string (⟨#[35, 65, 82, 71, 33]⟩)]) (.int .i64 3)).run Tryz.prog w = .ok (.string (⟨#[35, 68, 73, 86, 33]⟩)) w := by kernel_rfl
@[go_sem high] theorem names_at4 (w : World) : (Instr.index 138 (.agg #[.string (⟨#[]⟩), .string (⟨#[35, 67, 89, 67, 76, 69, 33]⟩), .string (⟨#[35, 78, 85, 77, 33]⟩), .string (⟨#[35, 68, 73, 86, 33]⟩), .string (⟨#[35, 84, 89, 80, 69, 33]⟩), .string (⟨#[35, 82, 65, 78, 71, 69, 33]⟩), .string (⟨#[35, 77, 73, 83, 83, 33]⟩), .string (⟨#[35, 76, 79, 78, 71, 33]⟩), .string (⟨#[35, 65, 82, 71, 33]⟩)]) (.int .i64 4)).run Tryz.prog w = .ok (.string (⟨#[35, 84, 89, 80, 69, 33]⟩)) w := by kernel_rfl
@[go_sem high] theorem names_at5 (w : World) : (Instr.index 138 (.agg #[.string (⟨#[]⟩), .string (⟨#[35, 67, 89, 67, 76, 69, 33]⟩), .string (⟨#[35, 78, 85, 77, 33]⟩), .string (⟨#[35, 68, 73, 86, 33]⟩), .string (⟨#[35, 84, 89, 80, 69, 33]⟩), .string (⟨#[35, 82, 65, 78, 71, 69, 33]⟩), .string (⟨#[35, 77, 73, 83, 83, 33]⟩), .string (⟨#[35, 76, 79, 78, 71, 33]⟩), .string (⟨#[35, 65, 82, 71, 33]⟩)]) (.int .i64 5)).run Tryz.prog w = .ok (.string (⟨#[35, 82, 65, 78, 71, 69, 33]⟩)) w := by kernel_rfl
@[go_sem high] theorem names_at6 (w : World) : (Instr.index 138 (.agg #[.string (⟨#[]⟩), .string (⟨#[35, 67, 89, 67, 76, 69, 33]⟩), .string (⟨#[35, 78, 85, 77, 33]⟩), .string (⟨#[35, 68, 73, 86, 33]⟩), .string (⟨#[35, 84, 89, 80, 69, 33]⟩), .string (⟨#[35, 82, 65, 78, 71, 69, 33]⟩), .string (⟨#[35, 77, 73, 83, 83, 33]⟩), .string (⟨#[35, 76, 79, 78, 71, 33]⟩), .string (⟨#[35, 65, 82, 71, 33]⟩)]) (.int .i64 6)).run Tryz.prog w = .ok (.string (⟨#[35, 77, 73, 83, 83, 33]⟩)) w := by kernel_rfl
@[go_sem high] theorem names_at7 (w : World) : (Instr.index 138 (.agg #[.string (⟨#[]⟩), .string (⟨#[35, 67, 89, 67, 76, 69, 33]⟩), .string (⟨#[35, 78, 85, 77, 33]⟩), .string (⟨#[35, 68, 73, 86, 33]⟩), .string (⟨#[35, 84, 89, 80, 69, 33]⟩), .string (⟨#[35, 82, 65, 78, 71, 69, 33]⟩), .string (⟨#[35, 77, 73, 83, 83, 33]⟩), .string (⟨#[35, 76, 79, 78, 71, 33]⟩), .string (⟨#[35, 65, 82, 71, 33]⟩)]) (.int .i64 7)).run Tryz.prog w = .ok (.string (⟨#[35, 76, 79, 78, 71, 33]⟩)) w := by kernel_rfl
@[go_sem high] theorem names_at8 (w : World) : (Instr.index 138 (.agg #[.string (⟨#[]⟩), .string (⟨#[35, 67, 89, 67, 76, 69, 33]⟩), .string (⟨#[35, 78, 85, 77, 33]⟩), .string (⟨#[35, 68, 73, 86, 33]⟩), .string (⟨#[35, 84, 89, 80, 69, 33]⟩), .string (⟨#[35, 82, 65, 78, 71, 69, 33]⟩), .string (⟨#[35, 77, 73, 83, 83, 33]⟩), .string (⟨#[35, 76, 79, 78, 71, 33]⟩), .string (⟨#[35, 65, 82, 71, 33]⟩)]) (.int .i64 8)).run Tryz.prog w = .ok (.string (⟨#[35, 65, 82, 71, 33]⟩)) w := by kernel_rfl
theorem name_out (c : Int) (h : c < 0 ∨ 8 < c) (w : World) :
  Calls Tryz.prog 58 #[.int .i64 c] w
   fun e w' => e = .returned (.string (codeName c)) ∧ Below w.heap.size w w' := by
 have hn := Lib.hid (codeName_no (c := c) (by omega))
 go_enter Tryz.func58, Tryz.ntmps58
 rcases h with h | h
 all_goals go_wp2
 all_goals go_ret
 all_goals exact ⟨by rw [hn.out]; rfl, Below.refl _ _⟩
theorem name_0  (w : World) :
  Calls Tryz.prog 58 #[.int .i64 0] w
   fun e w' => e = .returned (.string (⟨#[]⟩)) ∧ Below w.heap.size w w' := by
 go_enter Tryz.func58, Tryz.ntmps58
 go_wp2_with (go_at_call 135; refine (names_any _).mono ?_; rintro e w1 ⟨rfl, hb⟩; obtain ⟨hc, hf, hz⟩ := bkeep hb (w.heap.size) (by first | omega | (simp <;> omega)))
 go_ret
 exact ⟨rfl, belq⟩
theorem name_1  (w : World) :
  Calls Tryz.prog 58 #[.int .i64 1] w
   fun e w' => e = .returned (.string (⟨#[35, 67, 89, 67, 76, 69, 33]⟩)) ∧ Below w.heap.size w w' := by
 go_enter Tryz.func58, Tryz.ntmps58
 go_wp2_with (go_at_call 135; refine (names_any _).mono ?_; rintro e w1 ⟨rfl, hb⟩; obtain ⟨hc, hf, hz⟩ := bkeep hb (w.heap.size) (by first | omega | (simp <;> omega)))
 go_ret
 exact ⟨rfl, belq⟩
theorem name_2  (w : World) :
  Calls Tryz.prog 58 #[.int .i64 2] w
   fun e w' => e = .returned (.string (⟨#[35, 78, 85, 77, 33]⟩)) ∧ Below w.heap.size w w' := by
 go_enter Tryz.func58, Tryz.ntmps58
 go_wp2_with (go_at_call 135; refine (names_any _).mono ?_; rintro e w1 ⟨rfl, hb⟩; obtain ⟨hc, hf, hz⟩ := bkeep hb (w.heap.size) (by first | omega | (simp <;> omega)))
 go_ret
 exact ⟨rfl, belq⟩
theorem name_3  (w : World) :
  Calls Tryz.prog 58 #[.int .i64 3] w
   fun e w' => e = .returned (.string (⟨#[35, 68, 73, 86, 33]⟩)) ∧ Below w.heap.size w w' := by
 go_enter Tryz.func58, Tryz.ntmps58
 go_wp2_with (go_at_call 135; refine (names_any _).mono ?_; rintro e w1 ⟨rfl, hb⟩; obtain ⟨hc, hf, hz⟩ := bkeep hb (w.heap.size) (by first | omega | (simp <;> omega)))
 go_ret
 exact ⟨rfl, belq⟩
theorem name_4  (w : World) :
  Calls Tryz.prog 58 #[.int .i64 4] w
   fun e w' => e = .returned (.string (⟨#[35, 84, 89, 80, 69, 33]⟩)) ∧ Below w.heap.size w w' := by
 go_enter Tryz.func58, Tryz.ntmps58
 go_wp2_with (go_at_call 135; refine (names_any _).mono ?_; rintro e w1 ⟨rfl, hb⟩; obtain ⟨hc, hf, hz⟩ := bkeep hb (w.heap.size) (by first | omega | (simp <;> omega)))
 go_ret
 exact ⟨rfl, belq⟩
theorem name_5  (w : World) :
  Calls Tryz.prog 58 #[.int .i64 5] w
   fun e w' => e = .returned (.string (⟨#[35, 82, 65, 78, 71, 69, 33]⟩)) ∧ Below w.heap.size w w' := by
 go_enter Tryz.func58, Tryz.ntmps58
 go_wp2_with (go_at_call 135; refine (names_any _).mono ?_; rintro e w1 ⟨rfl, hb⟩; obtain ⟨hc, hf, hz⟩ := bkeep hb (w.heap.size) (by first | omega | (simp <;> omega)))
 go_ret
 exact ⟨rfl, belq⟩
theorem name_6  (w : World) :
  Calls Tryz.prog 58 #[.int .i64 6] w
   fun e w' => e = .returned (.string (⟨#[35, 77, 73, 83, 83, 33]⟩)) ∧ Below w.heap.size w w' := by
 go_enter Tryz.func58, Tryz.ntmps58
 go_wp2_with (go_at_call 135; refine (names_any _).mono ?_; rintro e w1 ⟨rfl, hb⟩; obtain ⟨hc, hf, hz⟩ := bkeep hb (w.heap.size) (by first | omega | (simp <;> omega)))
 go_ret
 exact ⟨rfl, belq⟩
theorem name_7  (w : World) :
  Calls Tryz.prog 58 #[.int .i64 7] w
   fun e w' => e = .returned (.string (⟨#[35, 76, 79, 78, 71, 33]⟩)) ∧ Below w.heap.size w w' := by
 go_enter Tryz.func58, Tryz.ntmps58
 go_wp2_with (go_at_call 135; refine (names_any _).mono ?_; rintro e w1 ⟨rfl, hb⟩; obtain ⟨hc, hf, hz⟩ := bkeep hb (w.heap.size) (by first | omega | (simp <;> omega)))
 go_ret
 exact ⟨rfl, belq⟩
theorem name_8  (w : World) :
  Calls Tryz.prog 58 #[.int .i64 8] w
   fun e w' => e = .returned (.string (⟨#[35, 65, 82, 71, 33]⟩)) ∧ Below w.heap.size w w' := by
 go_enter Tryz.func58, Tryz.ntmps58
 go_wp2_with (go_at_call 135; refine (names_any _).mono ?_; rintro e w1 ⟨rfl, hb⟩; obtain ⟨hc, hf, hz⟩ := bkeep hb (w.heap.size) (by first | omega | (simp <;> omega)))
 go_ret
 exact ⟨rfl, belq⟩
theorem name_any (c : Int) (w : World) : Calls Tryz.prog 58 #[.int .i64 c] w fun e w' => e = .returned (.string (codeName c)) ∧ Below w.heap.size w w' := by
 by_cases h : c < 0 ∨ 8 < c
 ·exact name_out c h w
 ·have : c = 0 ∨ c = 1 ∨ c = 2 ∨ c = 3 ∨ c = 4 ∨ c = 5 ∨ c = 6 ∨ c = 7 ∨ c = 8 := by omega
  rcases this with rfl | rfl | rfl | rfl | rfl | rfl | rfl | rfl | rfl
  ·exact name_0 w
  ·exact name_1 w
  ·exact name_2 w
  ·exact name_3 w
  ·exact name_4 w
  ·exact name_5 w
  ·exact name_6 w
  ·exact name_7 w
  ·exact name_8 w
end Go.Proofs.YtgmhifafbebjfaaGreatDoor
