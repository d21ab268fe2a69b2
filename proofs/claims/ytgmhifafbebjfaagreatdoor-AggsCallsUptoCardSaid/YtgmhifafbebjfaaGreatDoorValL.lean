/-
 Package value: AsNumber, AsText, AsBool, Show of both, by kinds of values.
-/
import Derived.Test.YtgmhifafbebjfaaGreatDoorMg5
import Derived.Test.YtgmhifafbebjfaaGreatDoorRPr
set_option maxRecDepth 100000
set_option maxHeartbeats 32000000
namespace Go.Proofs.YtgmhifafbebjfaaGreatDoor
open Go.RowKit

theorem may_l0 : vMay 0 0 ⟨#[]⟩ false 0 = true := by decide +kernel
theorem may_l1 {n : Int} (h : n ≠ -9223372036854775808) : vMay 1 n ⟨#[]⟩ false 0 = true := by rw [vMay_iff]; simp [h]
theorem may_l2 (s : ByteArray) : vMay 2 0 s false 0 = true := by rw [vMay_iff]; simp
theorem may_l3 (b : Bool) : vMay 3 0 ⟨#[]⟩ b 0 = true := by rw [vMay_iff]; simp
theorem may_l4 {c : Int} (h : 1 ≤ c ∧ c ≤ 8) : vMay 4 0 ⟨#[]⟩ false c = true := by rw [vMay_iff]; simp [h]
theorem truth_t (w : World) : Calls Tryz.prog 86 #[.bool true] w fun e w' => e = .returned (.int .i64 1) ∧ w = w' := truth_int true w
theorem truth_f (w : World) : Calls Tryz.prog 86 #[.bool false] w fun e w' => e = .returned (.int .i64 0) ∧ w = w' := truth_int false w
@[go_sem high] theorem two_at0 (w : World) : (Instr.index 109 (.agg #[.string ⟨#[70, 65, 76, 83, 69]⟩, .string ⟨#[84, 82, 85, 69]⟩]) (.int .i64 0)).run Tryz.prog w = .ok (.string (⟨#[70, 65, 76, 83, 69]⟩)) w := by kernel_rfl
@[go_sem high] theorem two_at1 (w : World) : (Instr.index 109 (.agg #[.string ⟨#[70, 65, 76, 83, 69]⟩, .string ⟨#[84, 82, 85, 69]⟩]) (.int .i64 1)).run Tryz.prog w = .ok (.string (⟨#[84, 82, 85, 69]⟩)) w := by kernel_rfl
theorem asnum_N (t n : Int) (s : ByteArray) (b : Bool) (c : Int) (hn : -9223372036854775808 ≤ n ∧ n ≤ 9223372036854775807) (m : vMay t n s b c = false) (w : World) :
  Calls Tryz.prog 16 #[.agg #[.int .i64 t, .int .i64 n, .string s, .bool b, .int .i64 c]] w
   fun e w' => e = .returned (.tuple #[.int .i64 0, .int .i64 8]) ∧ Below w.heap.size w w' := by
 go_enter Tryz.func16, Tryz.ntmps16
 go_wp2_with (first | (go_at_call 59; refine (vmay_not _ _ _ _ _ hn m _).mono ?_; rintro e w1 ⟨rfl, hb⟩; obtain ⟨hc, hf, hz⟩ := bkeep hb (w.heap.size + 1) (by first | omega | (simp <;> omega))) | (go_at_call 86; refine (truth_f _).mono ?_; rintro e w1 ⟨rfl, rfl⟩))
 refine bodyPost_ret (v := .tuple #[.int .i64 0, .int .i64 8]) ?_ rfl ⟨rfl, by first | assumption | (go_split_ands; first | assumption | exact belq) | exact belq⟩
 simp [results, Tryz.results16, go_sem, *]
theorem rfault_N (t n : Int) (s : ByteArray) (b : Bool) (c : Int) (hn : -9223372036854775808 ≤ n ∧ n ≤ 9223372036854775807) (m : vMay t n s b c = false) (w : World) :
  Calls Tryz.prog 89 #[.agg #[.int .i64 t, .int .i64 n, .string s, .bool b, .int .i64 c]] w
   fun e w' => e = .returned (.int .i64 8) ∧ Below w.heap.size w w' := by
 go_enter Tryz.func89, Tryz.ntmps89
 go_wp2_with (go_at_call 160; refine (rvmay_not _ _ _ _ _ hn m _).mono ?_; rintro e w1 ⟨rfl, hb⟩; obtain ⟨hc, hf, hz⟩ := bkeep hb (w.heap.size + 1) (by first | omega | (simp <;> omega)))
 go_ret
 exact ⟨rfl, by first | assumption | (go_split_ands; first | assumption | exact belq) | exact belq⟩
theorem rasnum_N (t n : Int) (s : ByteArray) (b : Bool) (c : Int) (hn : -9223372036854775808 ≤ n ∧ n ≤ 9223372036854775807) (m : vMay t n s b c = false) (w : World) :
  Calls Tryz.prog 24 #[.agg #[.int .i64 t, .int .i64 n, .string s, .bool b, .int .i64 c]] w
   fun e w' => e = .returned (.tuple #[.int .i64 0, .int .i64 8]) ∧ Below w.heap.size w w' := by
 go_enter Tryz.func24, Tryz.ntmps24
 go_wp2_with (go_at_call 89; refine (rfault_N t n s b c hn m _).mono ?_; rintro e w1 ⟨rfl, hb⟩; obtain ⟨hc, hf, hz⟩ := bkeep hb (w.heap.size + 1) (by first | omega | (simp <;> omega)))
 refine bodyPost_ret (v := .tuple #[.int .i64 0, .int .i64 8]) ?_ rfl ⟨rfl, by first | assumption | (go_split_ands; first | assumption | exact belq) | exact belq⟩
 simp [results, Tryz.results24, go_sem, *]
theorem asnum_0  (w : World) :
  Calls Tryz.prog 16 #[.agg #[.int .i64 0, .int .i64 0, .string ⟨#[]⟩, .bool false, .int .i64 0]] w
   fun e w' => e = .returned (.tuple #[.int .i64 0, .int .i64 0]) ∧ Below w.heap.size w w' := by
 go_enter Tryz.func16, Tryz.ntmps16
 go_wp2_with (first | (go_at_call 59; refine (vmay_yes _ _ _ _ _ (by first | assumption | (constructor <;> omega)) may_l0 _).mono ?_; rintro e w1 ⟨rfl, hb⟩; obtain ⟨hc, hf, hz⟩ := bkeep hb (w.heap.size + 1) (by first | omega | (simp <;> omega))) | (go_at_call 86; refine (truth_f _).mono ?_; rintro e w1 ⟨rfl, rfl⟩))
 refine bodyPost_ret (v := .tuple #[.int .i64 0, .int .i64 0]) ?_ rfl ⟨rfl, by first | assumption | (go_split_ands; first | assumption | exact belq) | exact belq⟩
 simp [results, Tryz.results16, go_sem, *]
theorem astxt_0  (w : World) :
  Calls Tryz.prog 15 #[.agg #[.int .i64 0, .int .i64 0, .string ⟨#[]⟩, .bool false, .int .i64 0]] w
   fun e w' => e = .returned (.tuple #[.string ⟨#[]⟩, .int .i64 0]) ∧ Below w.heap.size w w' := by
 go_enter Tryz.func15, Tryz.ntmps15
 go_wp2_with (first | (go_at_call 59; refine (vmay_yes _ _ _ _ _ (by first | assumption | (constructor <;> omega)) may_l0 _).mono ?_; rintro e w1 ⟨rfl, hb⟩; obtain ⟨hc, hf, hz⟩ := bkeep hb (w.heap.size + 1) (by first | omega | (simp <;> omega))) | (go_at_call 86; refine (truth_f _).mono ?_; rintro e w1 ⟨rfl, rfl⟩))
 refine bodyPost_ret (v := .tuple #[.string ⟨#[]⟩, .int .i64 0]) ?_ rfl ⟨rfl, by first | assumption | (go_split_ands; first | assumption | exact belq) | exact belq⟩
 simp [results, Tryz.results15, go_sem, *]
theorem rfault_0  (w : World) :
  Calls Tryz.prog 89 #[.agg #[.int .i64 0, .int .i64 0, .string ⟨#[]⟩, .bool false, .int .i64 0]] w
   fun e w' => e = .returned (.int .i64 0) ∧ Below w.heap.size w w' := by
 go_enter Tryz.func89, Tryz.ntmps89
 go_wp2_with (go_at_call 160; refine (rvmay_yes _ _ _ _ _ (by first | assumption | (constructor <;> omega)) may_l0 _).mono ?_; rintro e w1 ⟨rfl, hb⟩; obtain ⟨hc, hf, hz⟩ := bkeep hb (w.heap.size + 1) (by first | omega | (simp <;> omega)))
 go_ret
 exact ⟨rfl, by first | assumption | (go_split_ands; first | assumption | exact belq) | exact belq⟩
theorem rasnum_0  (w : World) :
  Calls Tryz.prog 24 #[.agg #[.int .i64 0, .int .i64 0, .string ⟨#[]⟩, .bool false, .int .i64 0]] w
   fun e w' => e = .returned (.tuple #[.int .i64 0, .int .i64 0]) ∧ Below w.heap.size w w' := by
 go_enter Tryz.func24, Tryz.ntmps24
 go_wp2_with (go_at_call 89; refine (rfault_0  _).mono ?_; rintro e w1 ⟨rfl, hb⟩; obtain ⟨hc, hf, hz⟩ := bkeep hb (w.heap.size + 1) (by first | omega | (simp <;> omega)))
 refine bodyPost_ret (v := .tuple #[.int .i64 0, .int .i64 0]) ?_ rfl ⟨rfl, by first | assumption | (go_split_ands; first | assumption | exact belq) | exact belq⟩
 simp [results, Tryz.results24, go_sem, *]
theorem rastxt_0  (w : World) :
  Calls Tryz.prog 23 #[.agg #[.int .i64 0, .int .i64 0, .string ⟨#[]⟩, .bool false, .int .i64 0]] w
   fun e w' => e = .returned (.tuple #[.string ⟨#[]⟩, .int .i64 0]) ∧ Below w.heap.size w w' := by
 go_enter Tryz.func23, Tryz.ntmps23
 go_wp2_with (go_at_call 89; refine (rfault_0  _).mono ?_; rintro e w1 ⟨rfl, hb⟩; obtain ⟨hc, hf, hz⟩ := bkeep hb (w.heap.size + 1) (by first | omega | (simp <;> omega)))
 refine bodyPost_ret (v := .tuple #[.string ⟨#[]⟩, .int .i64 0]) ?_ rfl ⟨rfl, by first | assumption | (go_split_ands; first | assumption | exact belq) | exact belq⟩
 simp [results, Tryz.results23, go_sem, *]
theorem asnum_1 (n : Int) (hn : -9223372036854775808 ≤ n ∧ n ≤ 9223372036854775807) (h : n ≠ -9223372036854775808) (w : World) :
  Calls Tryz.prog 16 #[.agg #[.int .i64 1, .int .i64 n, .string ⟨#[]⟩, .bool false, .int .i64 0]] w
   fun e w' => e = .returned (.tuple #[.int .i64 n, .int .i64 0]) ∧ Below w.heap.size w w' := by
 have H := Lib.hid h
 clear h
 go_enter Tryz.func16, Tryz.ntmps16
 go_wp2_with (first | (go_at_call 59; refine (vmay_yes _ _ _ _ _ (by first | assumption | (constructor <;> omega)) (may_l1 H.out) _).mono ?_; rintro e w1 ⟨rfl, hb⟩; obtain ⟨hc, hf, hz⟩ := bkeep hb (w.heap.size + 1) (by first | omega | (simp <;> omega))) | (go_at_call 86; refine (truth_f _).mono ?_; rintro e w1 ⟨rfl, rfl⟩))
 refine bodyPost_ret (v := .tuple #[.int .i64 n, .int .i64 0]) ?_ rfl ⟨rfl, by first | assumption | (go_split_ands; first | assumption | exact belq) | exact belq⟩
 simp [results, Tryz.results16, go_sem, *]
theorem astxt_1 (n : Int) (hn : -9223372036854775808 ≤ n ∧ n ≤ 9223372036854775807) (h : n ≠ -9223372036854775808) (w : World) (ht : Tab w) : Calls Tryz.prog 15 #[.agg #[.int .i64 1, .int .i64 n, .string ⟨#[]⟩, .bool false, .int .i64 0]] w fun e w' => e = .returned (.tuple #[.string ⟨(printL n).toArray⟩, .int .i64 0]) ∧ Below w.heap.size w w' :=
 astext_1 n ⟨#[]⟩ false 0 hn (may_l1 h) w ht
theorem rfault_1 (n : Int) (hn : -9223372036854775808 ≤ n ∧ n ≤ 9223372036854775807) (h : n ≠ -9223372036854775808) (w : World) :
  Calls Tryz.prog 89 #[.agg #[.int .i64 1, .int .i64 n, .string ⟨#[]⟩, .bool false, .int .i64 0]] w
   fun e w' => e = .returned (.int .i64 0) ∧ Below w.heap.size w w' := by
 have H := Lib.hid h
 clear h
 go_enter Tryz.func89, Tryz.ntmps89
 go_wp2_with (go_at_call 160; refine (rvmay_yes _ _ _ _ _ (by first | assumption | (constructor <;> omega)) (may_l1 H.out) _).mono ?_; rintro e w1 ⟨rfl, hb⟩; obtain ⟨hc, hf, hz⟩ := bkeep hb (w.heap.size + 1) (by first | omega | (simp <;> omega)))
 go_ret
 exact ⟨rfl, by first | assumption | (go_split_ands; first | assumption | exact belq) | exact belq⟩
theorem rasnum_1 (n : Int) (hn : -9223372036854775808 ≤ n ∧ n ≤ 9223372036854775807) (h : n ≠ -9223372036854775808) (w : World) :
  Calls Tryz.prog 24 #[.agg #[.int .i64 1, .int .i64 n, .string ⟨#[]⟩, .bool false, .int .i64 0]] w
   fun e w' => e = .returned (.tuple #[.int .i64 n, .int .i64 0]) ∧ Below w.heap.size w w' := by
 have H := Lib.hid h
 clear h
 go_enter Tryz.func24, Tryz.ntmps24
 go_wp2_with (go_at_call 89; refine (rfault_1 n hn H.out _).mono ?_; rintro e w1 ⟨rfl, hb⟩; obtain ⟨hc, hf, hz⟩ := bkeep hb (w.heap.size + 1) (by first | omega | (simp <;> omega)))
 refine bodyPost_ret (v := .tuple #[.int .i64 n, .int .i64 0]) ?_ rfl ⟨rfl, by first | assumption | (go_split_ands; first | assumption | exact belq) | exact belq⟩
 simp [results, Tryz.results24, go_sem, *]
theorem rastxt_1 (n : Int) (hn : -9223372036854775808 ≤ n ∧ n ≤ 9223372036854775807) (h : n ≠ -9223372036854775808) (w : World) :
  Calls Tryz.prog 23 #[.agg #[.int .i64 1, .int .i64 n, .string ⟨#[]⟩, .bool false, .int .i64 0]] w
   fun e w' => e = .returned (.tuple #[.string ⟨(printL n).toArray⟩, .int .i64 0]) ∧ Below w.heap.size w w' := by
 have H := Lib.hid h
 clear h
 go_enter Tryz.func23, Tryz.ntmps23
 go_wp2_with (first | (go_at_call 89; refine (rfault_1 n hn H.out _).mono ?_; rintro e w1 ⟨rfl, hb⟩; obtain ⟨hc, hf, hz⟩ := bkeep hb (w.heap.size + 1) (by first | omega | (simp <;> omega))) | (go_at_call 90; refine (rprint_any _ (by first | assumption | (constructor <;> omega)) _).mono ?_; rintro e w1 ⟨rfl, hb⟩; obtain ⟨hc, hf, hz⟩ := bkeep hb (w.heap.size + 1) (by first | omega | (simp <;> omega))))
 refine bodyPost_ret (v := .tuple #[.string ⟨(printL n).toArray⟩, .int .i64 0]) ?_ rfl ⟨rfl, by first | assumption | (go_split_ands; first | assumption | exact belq) | exact belq⟩
 simp [results, Tryz.results23, go_sem, *]
theorem asnum_2 (s : ByteArray) (w : World) :
  Calls Tryz.prog 16 #[.agg #[.int .i64 2, .int .i64 0, .string s, .bool false, .int .i64 0]] w
   fun e w' => e = .returned (.tuple #[.int .i64 0, .int .i64 4]) ∧ Below w.heap.size w w' := by
 go_enter Tryz.func16, Tryz.ntmps16
 go_wp2_with (first | (go_at_call 59; refine (vmay_yes _ _ _ _ _ (by first | assumption | (constructor <;> omega)) (may_l2 _) _).mono ?_; rintro e w1 ⟨rfl, hb⟩; obtain ⟨hc, hf, hz⟩ := bkeep hb (w.heap.size + 1) (by first | omega | (simp <;> omega))) | (go_at_call 86; refine (truth_f _).mono ?_; rintro e w1 ⟨rfl, rfl⟩))
 refine bodyPost_ret (v := .tuple #[.int .i64 0, .int .i64 4]) ?_ rfl ⟨rfl, by first | assumption | (go_split_ands; first | assumption | exact belq) | exact belq⟩
 simp [results, Tryz.results16, go_sem, *]
theorem astxt_2 (s : ByteArray) (w : World) :
  Calls Tryz.prog 15 #[.agg #[.int .i64 2, .int .i64 0, .string s, .bool false, .int .i64 0]] w
   fun e w' => e = .returned (.tuple #[.string s, .int .i64 0]) ∧ Below w.heap.size w w' := by
 go_enter Tryz.func15, Tryz.ntmps15
 go_wp2_with (first | (go_at_call 59; refine (vmay_yes _ _ _ _ _ (by first | assumption | (constructor <;> omega)) (may_l2 _) _).mono ?_; rintro e w1 ⟨rfl, hb⟩; obtain ⟨hc, hf, hz⟩ := bkeep hb (w.heap.size + 1) (by first | omega | (simp <;> omega))) | (go_at_call 86; refine (truth_f _).mono ?_; rintro e w1 ⟨rfl, rfl⟩))
 refine bodyPost_ret (v := .tuple #[.string s, .int .i64 0]) ?_ rfl ⟨rfl, by first | assumption | (go_split_ands; first | assumption | exact belq) | exact belq⟩
 simp [results, Tryz.results15, go_sem, *]
theorem rfault_2 (s : ByteArray) (w : World) :
  Calls Tryz.prog 89 #[.agg #[.int .i64 2, .int .i64 0, .string s, .bool false, .int .i64 0]] w
   fun e w' => e = .returned (.int .i64 0) ∧ Below w.heap.size w w' := by
 go_enter Tryz.func89, Tryz.ntmps89
 go_wp2_with (go_at_call 160; refine (rvmay_yes _ _ _ _ _ (by first | assumption | (constructor <;> omega)) (may_l2 _) _).mono ?_; rintro e w1 ⟨rfl, hb⟩; obtain ⟨hc, hf, hz⟩ := bkeep hb (w.heap.size + 1) (by first | omega | (simp <;> omega)))
 go_ret
 exact ⟨rfl, by first | assumption | (go_split_ands; first | assumption | exact belq) | exact belq⟩
theorem rasnum_2 (s : ByteArray) (w : World) :
  Calls Tryz.prog 24 #[.agg #[.int .i64 2, .int .i64 0, .string s, .bool false, .int .i64 0]] w
   fun e w' => e = .returned (.tuple #[.int .i64 0, .int .i64 4]) ∧ Below w.heap.size w w' := by
 go_enter Tryz.func24, Tryz.ntmps24
 go_wp2_with (go_at_call 89; refine (rfault_2 s _).mono ?_; rintro e w1 ⟨rfl, hb⟩; obtain ⟨hc, hf, hz⟩ := bkeep hb (w.heap.size + 1) (by first | omega | (simp <;> omega)))
 refine bodyPost_ret (v := .tuple #[.int .i64 0, .int .i64 4]) ?_ rfl ⟨rfl, by first | assumption | (go_split_ands; first | assumption | exact belq) | exact belq⟩
 simp [results, Tryz.results24, go_sem, *]
theorem rastxt_2 (s : ByteArray) (w : World) :
  Calls Tryz.prog 23 #[.agg #[.int .i64 2, .int .i64 0, .string s, .bool false, .int .i64 0]] w
   fun e w' => e = .returned (.tuple #[.string s, .int .i64 0]) ∧ Below w.heap.size w w' := by
 go_enter Tryz.func23, Tryz.ntmps23
 go_wp2_with (go_at_call 89; refine (rfault_2 s _).mono ?_; rintro e w1 ⟨rfl, hb⟩; obtain ⟨hc, hf, hz⟩ := bkeep hb (w.heap.size + 1) (by first | omega | (simp <;> omega)))
 refine bodyPost_ret (v := .tuple #[.string s, .int .i64 0]) ?_ rfl ⟨rfl, by first | assumption | (go_split_ands; first | assumption | exact belq) | exact belq⟩
 simp [results, Tryz.results23, go_sem, *]
theorem asnum_t  (w : World) :
  Calls Tryz.prog 16 #[.agg #[.int .i64 3, .int .i64 0, .string ⟨#[]⟩, .bool true, .int .i64 0]] w
   fun e w' => e = .returned (.tuple #[.int .i64 10000, .int .i64 0]) ∧ Below w.heap.size w w' := by
 go_enter Tryz.func16, Tryz.ntmps16
 go_wp2_with (first | (go_at_call 59; refine (vmay_yes _ _ _ _ _ (by first | assumption | (constructor <;> omega)) (may_l3 true) _).mono ?_; rintro e w1 ⟨rfl, hb⟩; obtain ⟨hc, hf, hz⟩ := bkeep hb (w.heap.size + 1) (by first | omega | (simp <;> omega))) | (go_at_call 86; refine (truth_t _).mono ?_; rintro e w1 ⟨rfl, rfl⟩))
 refine bodyPost_ret (v := .tuple #[.int .i64 10000, .int .i64 0]) ?_ rfl ⟨rfl, by first | assumption | (go_split_ands; first | assumption | exact belq) | exact belq⟩
 simp [results, Tryz.results16, go_sem, *]
theorem astxt_t  (w : World) :
  Calls Tryz.prog 15 #[.agg #[.int .i64 3, .int .i64 0, .string ⟨#[]⟩, .bool true, .int .i64 0]] w
   fun e w' => e = .returned (.tuple #[.string ⟨#[84, 82, 85, 69]⟩, .int .i64 0]) ∧ Below w.heap.size w w' := by
 go_enter Tryz.func15, Tryz.ntmps15
 go_wp2_with (first | (go_at_call 59; refine (vmay_yes _ _ _ _ _ (by first | assumption | (constructor <;> omega)) (may_l3 true) _).mono ?_; rintro e w1 ⟨rfl, hb⟩; obtain ⟨hc, hf, hz⟩ := bkeep hb (w.heap.size + 1) (by first | omega | (simp <;> omega))) | (go_at_call 86; refine (truth_t _).mono ?_; rintro e w1 ⟨rfl, rfl⟩))
 refine bodyPost_ret (v := .tuple #[.string ⟨#[84, 82, 85, 69]⟩, .int .i64 0]) ?_ rfl ⟨rfl, by first | assumption | (go_split_ands; first | assumption | exact belq) | exact belq⟩
 simp [results, Tryz.results15, go_sem, *]
theorem rfault_t  (w : World) :
  Calls Tryz.prog 89 #[.agg #[.int .i64 3, .int .i64 0, .string ⟨#[]⟩, .bool true, .int .i64 0]] w
   fun e w' => e = .returned (.int .i64 0) ∧ Below w.heap.size w w' := by
 go_enter Tryz.func89, Tryz.ntmps89
 go_wp2_with (go_at_call 160; refine (rvmay_yes _ _ _ _ _ (by first | assumption | (constructor <;> omega)) (may_l3 true) _).mono ?_; rintro e w1 ⟨rfl, hb⟩; obtain ⟨hc, hf, hz⟩ := bkeep hb (w.heap.size + 1) (by first | omega | (simp <;> omega)))
 go_ret
 exact ⟨rfl, by first | assumption | (go_split_ands; first | assumption | exact belq) | exact belq⟩
theorem rasnum_t  (w : World) :
  Calls Tryz.prog 24 #[.agg #[.int .i64 3, .int .i64 0, .string ⟨#[]⟩, .bool true, .int .i64 0]] w
   fun e w' => e = .returned (.tuple #[.int .i64 10000, .int .i64 0]) ∧ Below w.heap.size w w' := by
 go_enter Tryz.func24, Tryz.ntmps24
 go_wp2_with (go_at_call 89; refine (rfault_t  _).mono ?_; rintro e w1 ⟨rfl, hb⟩; obtain ⟨hc, hf, hz⟩ := bkeep hb (w.heap.size + 1) (by first | omega | (simp <;> omega)))
 refine bodyPost_ret (v := .tuple #[.int .i64 10000, .int .i64 0]) ?_ rfl ⟨rfl, by first | assumption | (go_split_ands; first | assumption | exact belq) | exact belq⟩
 simp [results, Tryz.results24, go_sem, *]
theorem rastxt_t  (w : World) :
  Calls Tryz.prog 23 #[.agg #[.int .i64 3, .int .i64 0, .string ⟨#[]⟩, .bool true, .int .i64 0]] w
   fun e w' => e = .returned (.tuple #[.string ⟨#[84, 82, 85, 69]⟩, .int .i64 0]) ∧ Below w.heap.size w w' := by
 go_enter Tryz.func23, Tryz.ntmps23
 go_wp2_with (go_at_call 89; refine (rfault_t  _).mono ?_; rintro e w1 ⟨rfl, hb⟩; obtain ⟨hc, hf, hz⟩ := bkeep hb (w.heap.size + 1) (by first | omega | (simp <;> omega)))
 refine bodyPost_ret (v := .tuple #[.string ⟨#[84, 82, 85, 69]⟩, .int .i64 0]) ?_ rfl ⟨rfl, by first | assumption | (go_split_ands; first | assumption | exact belq) | exact belq⟩
 simp [results, Tryz.results23, go_sem, *]
theorem asnum_f  (w : World) :
  Calls Tryz.prog 16 #[.agg #[.int .i64 3, .int .i64 0, .string ⟨#[]⟩, .bool false, .int .i64 0]] w
   fun e w' => e = .returned (.tuple #[.int .i64 0, .int .i64 0]) ∧ Below w.heap.size w w' := by
 go_enter Tryz.func16, Tryz.ntmps16
 go_wp2_with (first | (go_at_call 59; refine (vmay_yes _ _ _ _ _ (by first | assumption | (constructor <;> omega)) (may_l3 false) _).mono ?_; rintro e w1 ⟨rfl, hb⟩; obtain ⟨hc, hf, hz⟩ := bkeep hb (w.heap.size + 1) (by first | omega | (simp <;> omega))) | (go_at_call 86; refine (truth_f _).mono ?_; rintro e w1 ⟨rfl, rfl⟩))
 refine bodyPost_ret (v := .tuple #[.int .i64 0, .int .i64 0]) ?_ rfl ⟨rfl, by first | assumption | (go_split_ands; first | assumption | exact belq) | exact belq⟩
 simp [results, Tryz.results16, go_sem, *]
theorem astxt_f  (w : World) :
  Calls Tryz.prog 15 #[.agg #[.int .i64 3, .int .i64 0, .string ⟨#[]⟩, .bool false, .int .i64 0]] w
   fun e w' => e = .returned (.tuple #[.string ⟨#[70, 65, 76, 83, 69]⟩, .int .i64 0]) ∧ Below w.heap.size w w' := by
 go_enter Tryz.func15, Tryz.ntmps15
 go_wp2_with (first | (go_at_call 59; refine (vmay_yes _ _ _ _ _ (by first | assumption | (constructor <;> omega)) (may_l3 false) _).mono ?_; rintro e w1 ⟨rfl, hb⟩; obtain ⟨hc, hf, hz⟩ := bkeep hb (w.heap.size + 1) (by first | omega | (simp <;> omega))) | (go_at_call 86; refine (truth_f _).mono ?_; rintro e w1 ⟨rfl, rfl⟩))
 refine bodyPost_ret (v := .tuple #[.string ⟨#[70, 65, 76, 83, 69]⟩, .int .i64 0]) ?_ rfl ⟨rfl, by first | assumption | (go_split_ands; first | assumption | exact belq) | exact belq⟩
 simp [results, Tryz.results15, go_sem, *]
theorem rfault_f  (w : World) :
  Calls Tryz.prog 89 #[.agg #[.int .i64 3, .int .i64 0, .string ⟨#[]⟩, .bool false, .int .i64 0]] w
   fun e w' => e = .returned (.int .i64 0) ∧ Below w.heap.size w w' := by
 go_enter Tryz.func89, Tryz.ntmps89
 go_wp2_with (go_at_call 160; refine (rvmay_yes _ _ _ _ _ (by first | assumption | (constructor <;> omega)) (may_l3 false) _).mono ?_; rintro e w1 ⟨rfl, hb⟩; obtain ⟨hc, hf, hz⟩ := bkeep hb (w.heap.size + 1) (by first | omega | (simp <;> omega)))
 go_ret
 exact ⟨rfl, by first | assumption | (go_split_ands; first | assumption | exact belq) | exact belq⟩
theorem rasnum_f  (w : World) :
  Calls Tryz.prog 24 #[.agg #[.int .i64 3, .int .i64 0, .string ⟨#[]⟩, .bool false, .int .i64 0]] w
   fun e w' => e = .returned (.tuple #[.int .i64 0, .int .i64 0]) ∧ Below w.heap.size w w' := by
 go_enter Tryz.func24, Tryz.ntmps24
 go_wp2_with (go_at_call 89; refine (rfault_f  _).mono ?_; rintro e w1 ⟨rfl, hb⟩; obtain ⟨hc, hf, hz⟩ := bkeep hb (w.heap.size + 1) (by first | omega | (simp <;> omega)))
 refine bodyPost_ret (v := .tuple #[.int .i64 0, .int .i64 0]) ?_ rfl ⟨rfl, by first | assumption | (go_split_ands; first | assumption | exact belq) | exact belq⟩
 simp [results, Tryz.results24, go_sem, *]
theorem rastxt_f  (w : World) :
  Calls Tryz.prog 23 #[.agg #[.int .i64 3, .int .i64 0, .string ⟨#[]⟩, .bool false, .int .i64 0]] w
   fun e w' => e = .returned (.tuple #[.string ⟨#[70, 65, 76, 83, 69]⟩, .int .i64 0]) ∧ Below w.heap.size w w' := by
 go_enter Tryz.func23, Tryz.ntmps23
 go_wp2_with (go_at_call 89; refine (rfault_f  _).mono ?_; rintro e w1 ⟨rfl, hb⟩; obtain ⟨hc, hf, hz⟩ := bkeep hb (w.heap.size + 1) (by first | omega | (simp <;> omega)))
 refine bodyPost_ret (v := .tuple #[.string ⟨#[70, 65, 76, 83, 69]⟩, .int .i64 0]) ?_ rfl ⟨rfl, by first | assumption | (go_split_ands; first | assumption | exact belq) | exact belq⟩
 simp [results, Tryz.results23, go_sem, *]
theorem asnum_4 (c : Int) (h : 1 ≤ c ∧ c ≤ 8) (w : World) :
  Calls Tryz.prog 16 #[.agg #[.int .i64 4, .int .i64 0, .string ⟨#[]⟩, .bool false, .int .i64 c]] w
   fun e w' => e = .returned (.tuple #[.int .i64 0, .int .i64 c]) ∧ Below w.heap.size w w' := by
 have H := Lib.hid h
 obtain ⟨h1, h2⟩ := h
 have h3 : ¬ c = 0 := by omega
 go_enter Tryz.func16, Tryz.ntmps16
 go_wp2_with (first | (go_at_call 59; refine (vmay_yes _ _ _ _ _ (by first | assumption | (constructor <;> omega)) (may_l4 H.out) _).mono ?_; rintro e w1 ⟨rfl, hb⟩; obtain ⟨hc, hf, hz⟩ := bkeep hb (w.heap.size + 1) (by first | omega | (simp <;> omega))) | (go_at_call 86; refine (truth_f _).mono ?_; rintro e w1 ⟨rfl, rfl⟩))
 go_quiet (fail)
 go_wp2
 refine bodyPost_ret (v := .tuple #[.int .i64 0, .int .i64 c]) ?_ rfl ⟨rfl, by first | assumption | (go_split_ands; first | assumption | exact belq) | exact belq⟩
 simp [results, Tryz.results16, go_sem, *]
theorem rfault_4 (c : Int) (h : 1 ≤ c ∧ c ≤ 8) (w : World) :
  Calls Tryz.prog 89 #[.agg #[.int .i64 4, .int .i64 0, .string ⟨#[]⟩, .bool false, .int .i64 c]] w
   fun e w' => e = .returned (.int .i64 c) ∧ Below w.heap.size w w' := by
 have H := Lib.hid h
 obtain ⟨h1, h2⟩ := h
 have h3 : ¬ c = 0 := by omega
 go_enter Tryz.func89, Tryz.ntmps89
 go_wp2_with (go_at_call 160; refine (rvmay_yes _ _ _ _ _ (by first | assumption | (constructor <;> omega)) (may_l4 H.out) _).mono ?_; rintro e w1 ⟨rfl, hb⟩; obtain ⟨hc, hf, hz⟩ := bkeep hb (w.heap.size + 1) (by first | omega | (simp <;> omega)))
 go_ret
 exact ⟨rfl, by first | assumption | (go_split_ands; first | assumption | exact belq) | exact belq⟩
theorem rasnum_4 (c : Int) (h : 1 ≤ c ∧ c ≤ 8) (w : World) :
  Calls Tryz.prog 24 #[.agg #[.int .i64 4, .int .i64 0, .string ⟨#[]⟩, .bool false, .int .i64 c]] w
   fun e w' => e = .returned (.tuple #[.int .i64 0, .int .i64 c]) ∧ Below w.heap.size w w' := by
 have H := Lib.hid h
 obtain ⟨h1, h2⟩ := h
 have h3 : ¬ c = 0 := by omega
 go_enter Tryz.func24, Tryz.ntmps24
 go_wp2_with (go_at_call 89; refine (rfault_4 c H.out _).mono ?_; rintro e w1 ⟨rfl, hb⟩; obtain ⟨hc, hf, hz⟩ := bkeep hb (w.heap.size + 1) (by first | omega | (simp <;> omega)))
 refine bodyPost_ret (v := .tuple #[.int .i64 0, .int .i64 c]) ?_ rfl ⟨rfl, by first | assumption | (go_split_ands; first | assumption | exact belq) | exact belq⟩
 simp [results, Tryz.results24, go_sem, *]
end Go.Proofs.YtgmhifafbebjfaaGreatDoor
