/-
  Print of package dec: the text of any number; Package value: cmp.Compare, truth; Package value: Compare; Package value: what the laws' known tells; Package value: the document's Same, Compare.
-/
import Derived.Test.YtgmhifafbebjfaaGreatDoorMg2
import Derived.Test.YtgmhifafbebjfaaGreatDoorMg11
import Derived.Test.YtgmhifafbebjfaaGreatDoorValC
import Derived.Lib.Bytealg
namespace Go.Proofs.YtgmhifafbebjfaaGreatDoor
open Go.RowKit

theorem absI_nat (x : Int) : absI x = (x.natAbs : Int) := by unfold absI; split <;> omega
theorem size_nat (x : Int) (N : Nat) (hx : -9223372036854775808 ≤ x ∧ x ≤ 9223372036854775807) (h : x.natAbs = N) (w : World) : Calls Tryz.prog 157 #[.int .i64 x] w fun e w' => e = .returned (.tuple #[.int .u64 N, .bool (decide (x < 0))]) ∧ w = w' := by
  have := size_any x hx w
  rw [absI_nat, h] at this
  exact this
set_option maxHeartbeats 400000 in
theorem dprint_no (x : Int) (h : x = -9223372036854775808) (w : World) : Calls Tryz.prog 85 #[.int .i64 x] w fun e w' => e = .returned (.string ⟨(printL x).toArray⟩) ∧ Below w.heap.size w w' := by
  have hr := Lib.hid (show printL x = [] by simp [printL, h])
  have hx : -9223372036854775808 ≤ x ∧ x ≤ 9223372036854775807 := by omega
  have m1 := may_no h
  clear h
  go_enter Tryz.func85, Tryz.ntmps85
  go_wp2_with (go_at_call 87; refine (dmay_any _ (by first | assumption | (constructor <;> omega)) _).mono ?_; rintro e w1 ⟨rfl, rfl⟩)
  go_ret
  exact ⟨by rw [hr.out]; rfl, Below.refl _ _⟩
set_option maxHeartbeats 1000000 in
theorem dprint0 (x : Int) (hx : -9223372036854775808 ≤ x ∧ x ≤ 9223372036854775807) (h : x ≠ -9223372036854775808) (hs : 0 ≤ x) (N : Nat) (hN : x.natAbs = N) (hN1 : N ≤ 9223372036854775807) (hr : N % 10000 = 0) (w : World) (ht : Tab w) : Calls Tryz.prog 85 #[.int .i64 x] w fun e w' => e = .returned (.string ⟨(printL x).toArray⟩) ∧ Below w.heap.size w w' := by
  have hp : printL x = (Lib.decDigits (N / 10000)) := by
    have e2 : decide (x < 0) = false := by simp; omega
    have e3 : N % 10000 = 0 := hr
    simp [printL, textOf, h, hN, e2, e3]
  have hp' := Lib.hid hp
  clear hp
  have m1 := may_yes h
  have hd : decide (x < 0) = false := by simp; omega
  have hl1 := dec_len20 (u := N / 10000) (by omega)
  have hl2 := frac_len (N % 10000)
  have hN' := Lib.hid hN
  clear hN h
  go_enter Tryz.func85, Tryz.ntmps85
  go_wp2_with (first | (go_at_call 87; refine (dmay_any _ (by first | assumption | (constructor <;> omega)) _).mono ?_; rintro e w1 ⟨rfl, rfl⟩) | (go_at_call 157; refine (size_nat x N hx hN'.out _).mono ?_; rintro e w1 ⟨rfl, rfl⟩))
  rw [show ((N : Int) / 10000) = ((N / 10000 : Nat) : Int) from by omega]
  refine (fmtU_any _ (by omega) _ ht).mono ?_
  rintro e w1 ⟨rfl, hb1⟩
  have ht1 := Tab.below ht hb1
  have z1 := hb1.size
  go_wp2
  go_ret
  exact ⟨by rw [hp'.out]; rfl, hb1⟩
set_option maxHeartbeats 1000000 in
theorem dprint1 (x : Int) (hx : -9223372036854775808 ≤ x ∧ x ≤ 9223372036854775807) (h : x ≠ -9223372036854775808) (hs : 0 ≤ x) (N : Nat) (hN : x.natAbs = N) (hN1 : N ≤ 9223372036854775807) (hr : 0 < N % 10000) (w : World) (ht : Tab w) : Calls Tryz.prog 85 #[.int .i64 x] w fun e w' => e = .returned (.string ⟨(printL x).toArray⟩) ∧ Below w.heap.size w w' := by
  have hp : printL x = (Lib.decDigits (N / 10000) ++ 46 :: frac (N % 10000)) := by
    have e2 : decide (x < 0) = false := by simp; omega
    have e3 : ¬ N % 10000 = 0 := by omega
    simp [printL, textOf, h, hN, e2, e3]
  have hp' := Lib.hid hp
  clear hp
  have m1 := may_yes h
  have hd : decide (x < 0) = false := by simp; omega
  have hl1 := dec_len20 (u := N / 10000) (by omega)
  have hl2 := frac_len (N % 10000)
  have ha2 : ∀ w' : World, (Op.stringOp .add ⟨#[46]⟩ ⟨(frac (N % 10000)).toArray⟩).run Tryz.prog w' = .ok (.string ⟨(46 :: frac (N % 10000)).toArray⟩) w' := fun w' => run_string_add_lists (P := Tryz.prog) w' [46] (frac (N % 10000)) (by decide) (by omega)
  have ha3 : ∀ w' : World, (Op.stringOp .add ⟨(Lib.decDigits (N / 10000)).toArray⟩ ⟨(46 :: frac (N % 10000)).toArray⟩).run Tryz.prog w' = .ok (.string ⟨(Lib.decDigits (N / 10000) ++ 46 :: frac (N % 10000)).toArray⟩) w' := fun w' => run_string_add_lists (P := Tryz.prog) w' (Lib.decDigits (N / 10000)) (46 :: frac (N % 10000)) (by first | omega | (simp; omega)) (by simp; omega)
  have h5 : Lib.decDigits (10000 + N % 10000) = 49 :: four (N % 10000) := dec_five (by omega)
  have hx1 : (⟨(49 :: four (N % 10000)).toArray⟩ : ByteArray).extract 1 ((four (N % 10000)).length + 1) = ⟨(four (N % 10000)).toArray⟩ := by
    apply ByteArray.ext
    simp [four]
  have h5' := Lib.hid h5
  clear h5
  have hN' := Lib.hid hN
  clear hN h
  go_enter Tryz.func85, Tryz.ntmps85
  go_wp2_with (first | (go_at_call 87; refine (dmay_any _ (by first | assumption | (constructor <;> omega)) _).mono ?_; rintro e w1 ⟨rfl, rfl⟩) | (go_at_call 157; refine (size_nat x N hx hN'.out _).mono ?_; rintro e w1 ⟨rfl, rfl⟩))
  rw [show ((N : Int) / 10000) = ((N / 10000 : Nat) : Int) from by omega]
  refine (fmtU_any _ (by omega) _ ht).mono ?_
  rintro e w1 ⟨rfl, hb1⟩
  have ht1 := Tab.below ht hb1
  have z1 := hb1.size
  go_wp2_with fail
  rw [show (10000 + (N : Int) % 10000) = ((10000 + N % 10000 : Nat) : Int) from by omega]
  refine (fmtU_any _ (by omega) _ ht1).mono ?_
  rintro e w2 ⟨rfl, hb2⟩
  rw [h5'.out]
  go_wp2_with fail
  refine (Tryz.strings_TrimRight_one ⟨(four (N % 10000)).toArray⟩ 48 (by decide) _ (by show (four (N % 10000)).toArray.size ≤ _; simp [four])).mono ?_
  rintro e w3 ⟨rfl, rfl⟩
  rw [show Lib.trimRightB (⟨(four (N % 10000)).toArray⟩ : ByteArray).data.toList 48 = frac (N % 10000) from by simp [frac]]
  go_wp2
  go_ret
  exact ⟨by rw [hp'.out]; rfl, by (repeat (first | (with_reducible exact Below.refl _ _) | (with_reducible refine Below.alloc ?_ (by first | omega | (dsimp only; omega) | (simp <;> omega)) _) | (with_reducible refine Below.setCell ?_ (by first | omega | (dsimp only; omega) | (simp <;> omega)) _) | (with_reducible refine Below.drew ?_) | (with_reducible refine below_drewN ?_ _) | (with_reducible refine Below.trans ?_ (Below.mono (by assumption) (by first | omega | (dsimp only; omega) | (simp <;> omega))))))⟩
set_option maxHeartbeats 1000000 in
theorem dprint2 (x : Int) (hx : -9223372036854775808 ≤ x ∧ x ≤ 9223372036854775807) (h : x ≠ -9223372036854775808) (hs : x < 0) (N : Nat) (hN : x.natAbs = N) (hN1 : N ≤ 9223372036854775807) (hr : N % 10000 = 0) (w : World) (ht : Tab w) : Calls Tryz.prog 85 #[.int .i64 x] w fun e w' => e = .returned (.string ⟨(printL x).toArray⟩) ∧ Below w.heap.size w w' := by
  have hp : printL x = 45 :: (Lib.decDigits (N / 10000)) := by
    have e2 : decide (x < 0) = true := by simp; omega
    have e3 : N % 10000 = 0 := hr
    simp [printL, textOf, h, hN, e2, e3]
  have hp' := Lib.hid hp
  clear hp
  have m1 := may_yes h
  have hd : decide (x < 0) = true := by simp; omega
  have hl1 := dec_len20 (u := N / 10000) (by omega)
  have hl2 := frac_len (N % 10000)
  have ha1 : ∀ w' : World, (Op.stringOp .add ⟨#[45]⟩ ⟨(Lib.decDigits (N / 10000)).toArray⟩).run Tryz.prog w' = .ok (.string ⟨(45 :: Lib.decDigits (N / 10000)).toArray⟩) w' := fun w' => run_string_add_lists (P := Tryz.prog) w' [45] (Lib.decDigits (N / 10000)) (by decide) (by omega)
  have hN' := Lib.hid hN
  clear hN h
  go_enter Tryz.func85, Tryz.ntmps85
  go_wp2_with (first | (go_at_call 87; refine (dmay_any _ (by first | assumption | (constructor <;> omega)) _).mono ?_; rintro e w1 ⟨rfl, rfl⟩) | (go_at_call 157; refine (size_nat x N hx hN'.out _).mono ?_; rintro e w1 ⟨rfl, rfl⟩))
  rw [show ((N : Int) / 10000) = ((N / 10000 : Nat) : Int) from by omega]
  refine (fmtU_any _ (by omega) _ ht).mono ?_
  rintro e w1 ⟨rfl, hb1⟩
  have ht1 := Tab.below ht hb1
  have z1 := hb1.size
  go_wp2
  go_ret
  exact ⟨by rw [hp'.out]; rfl, hb1⟩
set_option maxHeartbeats 1000000 in
theorem dprint3 (x : Int) (hx : -9223372036854775808 ≤ x ∧ x ≤ 9223372036854775807) (h : x ≠ -9223372036854775808) (hs : x < 0) (N : Nat) (hN : x.natAbs = N) (hN1 : N ≤ 9223372036854775807) (hr : 0 < N % 10000) (w : World) (ht : Tab w) : Calls Tryz.prog 85 #[.int .i64 x] w fun e w' => e = .returned (.string ⟨(printL x).toArray⟩) ∧ Below w.heap.size w w' := by
  have hp : printL x = 45 :: (Lib.decDigits (N / 10000) ++ 46 :: frac (N % 10000)) := by
    have e2 : decide (x < 0) = true := by simp; omega
    have e3 : ¬ N % 10000 = 0 := by omega
    simp [printL, textOf, h, hN, e2, e3]
  have hp' := Lib.hid hp
  clear hp
  have m1 := may_yes h
  have hd : decide (x < 0) = true := by simp; omega
  have hl1 := dec_len20 (u := N / 10000) (by omega)
  have hl2 := frac_len (N % 10000)
  have ha1 : ∀ w' : World, (Op.stringOp .add ⟨#[45]⟩ ⟨(Lib.decDigits (N / 10000)).toArray⟩).run Tryz.prog w' = .ok (.string ⟨(45 :: Lib.decDigits (N / 10000)).toArray⟩) w' := fun w' => run_string_add_lists (P := Tryz.prog) w' [45] (Lib.decDigits (N / 10000)) (by decide) (by omega)
  have ha2 : ∀ w' : World, (Op.stringOp .add ⟨#[46]⟩ ⟨(frac (N % 10000)).toArray⟩).run Tryz.prog w' = .ok (.string ⟨(46 :: frac (N % 10000)).toArray⟩) w' := fun w' => run_string_add_lists (P := Tryz.prog) w' [46] (frac (N % 10000)) (by decide) (by omega)
  have ha3 : ∀ w' : World, (Op.stringOp .add ⟨(45 :: Lib.decDigits (N / 10000)).toArray⟩ ⟨(46 :: frac (N % 10000)).toArray⟩).run Tryz.prog w' = .ok (.string ⟨(45 :: Lib.decDigits (N / 10000) ++ 46 :: frac (N % 10000)).toArray⟩) w' := fun w' => run_string_add_lists (P := Tryz.prog) w' (45 :: Lib.decDigits (N / 10000)) (46 :: frac (N % 10000)) (by first | omega | (simp; omega)) (by simp; omega)
  have h5 : Lib.decDigits (10000 + N % 10000) = 49 :: four (N % 10000) := dec_five (by omega)
  have hx1 : (⟨(49 :: four (N % 10000)).toArray⟩ : ByteArray).extract 1 ((four (N % 10000)).length + 1) = ⟨(four (N % 10000)).toArray⟩ := by
    apply ByteArray.ext
    simp [four]
  have h5' := Lib.hid h5
  clear h5
  have hN' := Lib.hid hN
  clear hN h
  go_enter Tryz.func85, Tryz.ntmps85
  go_wp2_with (first | (go_at_call 87; refine (dmay_any _ (by first | assumption | (constructor <;> omega)) _).mono ?_; rintro e w1 ⟨rfl, rfl⟩) | (go_at_call 157; refine (size_nat x N hx hN'.out _).mono ?_; rintro e w1 ⟨rfl, rfl⟩))
  rw [show ((N : Int) / 10000) = ((N / 10000 : Nat) : Int) from by omega]
  refine (fmtU_any _ (by omega) _ ht).mono ?_
  rintro e w1 ⟨rfl, hb1⟩
  have ht1 := Tab.below ht hb1
  have z1 := hb1.size
  go_wp2_with fail
  rw [show (10000 + (N : Int) % 10000) = ((10000 + N % 10000 : Nat) : Int) from by omega]
  refine (fmtU_any _ (by omega) _ ht1).mono ?_
  rintro e w2 ⟨rfl, hb2⟩
  rw [h5'.out]
  go_wp2_with fail
  refine (Tryz.strings_TrimRight_one ⟨(four (N % 10000)).toArray⟩ 48 (by decide) _ (by show (four (N % 10000)).toArray.size ≤ _; simp [four])).mono ?_
  rintro e w3 ⟨rfl, rfl⟩
  rw [show Lib.trimRightB (⟨(four (N % 10000)).toArray⟩ : ByteArray).data.toList 48 = frac (N % 10000) from by simp [frac]]
  go_wp2
  go_ret
  exact ⟨by rw [hp'.out]; rfl, by (repeat (first | (with_reducible exact Below.refl _ _) | (with_reducible refine Below.alloc ?_ (by first | omega | (dsimp only; omega) | (simp <;> omega)) _) | (with_reducible refine Below.setCell ?_ (by first | omega | (dsimp only; omega) | (simp <;> omega)) _) | (with_reducible refine Below.drew ?_) | (with_reducible refine below_drewN ?_ _) | (with_reducible refine Below.trans ?_ (Below.mono (by assumption) (by first | omega | (dsimp only; omega) | (simp <;> omega))))))⟩
theorem dprint_any (x : Int) (hx : -9223372036854775808 ≤ x ∧ x ≤ 9223372036854775807) (w : World) (ht : Tab w) : Calls Tryz.prog 85 #[.int .i64 x] w fun e w' => e = .returned (.string ⟨(printL x).toArray⟩) ∧ Below w.heap.size w w' := by
  by_cases h : x = -9223372036854775808
  · exact dprint_no x h w
  have hN1 : x.natAbs ≤ 9223372036854775807 := by omega
  by_cases hs : x < 0 <;> by_cases hr : x.natAbs % 10000 = 0
  · exact dprint2 x hx h hs _ rfl hN1 hr w ht
  · exact dprint3 x hx h hs _ rfl hN1 (by omega) w ht
  · exact dprint0 x hx h (by omega) _ rfl hN1 hr w ht
  · exact dprint1 x hx h (by omega) _ rfl hN1 (by omega) w ht
end Go.Proofs.YtgmhifafbebjfaaGreatDoor
namespace Go.Proofs.YtgmhifafbebjfaaGreatDoor
open Go.RowKit

def b2i (b : Bool) : Int := if b then 1 else 0
set_option maxHeartbeats 400000 in
theorem truth_int (b : Bool) (w : World) : Calls Tryz.prog 86 #[.bool b] w fun e w' => e = .returned (.int .i64 (b2i b)) ∧ w = w' := by
  cases b
  all_goals
    go_enter Tryz.func86, Tryz.ntmps86
    go_wp2
    go_ret
    exact ⟨rfl, rfl⟩
end Go.Proofs.YtgmhifafbebjfaaGreatDoor
namespace Go.Proofs.YtgmhifafbebjfaaGreatDoor
open Go.RowKit

theorem vmay_yes (t n : Int) (s : ByteArray) (b : Bool) (c : Int) (hn : -9223372036854775808 ≤ n ∧ n ≤ 9223372036854775807) (h : vMay t n s b c = true) (w : World) : Calls Tryz.prog 59 #[.agg #[.int .i64 t, .int .i64 n, .string s, .bool b, .int .i64 c]] w fun e w' => e = .returned (.bool true) ∧ Below w.heap.size w w' := by
  have := vmay_any t n s b c hn w
  rw [h] at this
  exact this
theorem vmay_not (t n : Int) (s : ByteArray) (b : Bool) (c : Int) (hn : -9223372036854775808 ≤ n ∧ n ≤ 9223372036854775807) (h : vMay t n s b c = false) (w : World) : Calls Tryz.prog 59 #[.agg #[.int .i64 t, .int .i64 n, .string s, .bool b, .int .i64 c]] w fun e w' => e = .returned (.bool false) ∧ Below w.heap.size w w' := by
  have := vmay_any t n s b c hn w
  rw [h] at this
  exact this
end Go.Proofs.YtgmhifafbebjfaaGreatDoor
namespace Go.Proofs.YtgmhifafbebjfaaGreatDoor
open Go.RowKit

set_option maxHeartbeats 400000 in
theorem astext_1 (n : Int) (s : ByteArray) (b : Bool) (c : Int) (hn : -9223372036854775808 ≤ n ∧ n ≤ 9223372036854775807) (m : vMay 1 n s b c = true) (w : World) (ht : Tab w) :
    Calls Tryz.prog 15 #[.agg #[.int .i64 1, .int .i64 n, .string s, .bool b, .int .i64 c]] w
      fun e w' => e = .returned (.tuple #[.string ⟨(printL n).toArray⟩, .int .i64 0]) ∧ Below w.heap.size w w' := by
  go_enter Tryz.func15, Tryz.ntmps15
  go_wp2_with fail
  go_wp2_with (go_at_call 59; refine (vmay_yes _ _ _ _ _ (by first | assumption | (constructor <;> omega)) (by assumption) _).mono ?_; rintro e w1 ⟨rfl, hb⟩; obtain ⟨hc, hf, hz⟩ := bkeep hb (w.heap.size + 1) (by first | omega | (simp <;> omega)))
  go_wp2_with (go_at_call 85; refine (dprint_any _ (by first | assumption | (constructor <;> omega)) _ (Tab.below ht (by first | assumption | ((repeat (first | (with_reducible exact Below.refl _ _) | (with_reducible refine Below.alloc ?_ (by first | omega | (dsimp only; omega) | (simp <;> omega)) _) | (with_reducible refine Below.setCell ?_ (by first | omega | (dsimp only; omega) | (simp <;> omega)) _) | (with_reducible refine Below.drew ?_) | (with_reducible refine below_drewN ?_ _) | (with_reducible refine Below.trans ?_ (Below.mono (by assumption) (by first | omega | (dsimp only; omega) | (simp <;> omega)))))); done)))).mono ?_; rintro e w2 ⟨rfl, hb2⟩)
  refine bodyPost_ret (v := .tuple #[.string ⟨(printL n).toArray⟩, .int .i64 0]) ?_ rfl ⟨rfl, by first | assumption | ((repeat (first | (with_reducible exact Below.refl _ _) | (with_reducible refine Below.alloc ?_ (by first | omega | (dsimp only; omega) | (simp <;> omega)) _) | (with_reducible refine Below.setCell ?_ (by first | omega | (dsimp only; omega) | (simp <;> omega)) _) | (with_reducible refine Below.drew ?_) | (with_reducible refine below_drewN ?_ _) | (with_reducible refine Below.trans ?_ (Below.mono (by assumption) (by first | omega | (dsimp only; omega) | (simp <;> omega)))))); done)⟩
  simp [results, Tryz.results15, go_sem, *]
end Go.Proofs.YtgmhifafbebjfaaGreatDoor
namespace Go.Proofs.YtgmhifafbebjfaaGreatDoor
open Go.RowKit

theorem rvmay_yes (t n : Int) (s : ByteArray) (b : Bool) (c : Int) (hn : -9223372036854775808 ≤ n ∧ n ≤ 9223372036854775807) (h : vMay t n s b c = true) (w : World) : Calls Tryz.prog 160 #[.agg #[.int .i64 t, .int .i64 n, .string s, .bool b, .int .i64 c]] w fun e w' => e = .returned (.bool true) ∧ Below w.heap.size w w' := by
  have := rvmay_any t n s b c hn w
  rw [h] at this
  exact this
theorem rvmay_not (t n : Int) (s : ByteArray) (b : Bool) (c : Int) (hn : -9223372036854775808 ≤ n ∧ n ≤ 9223372036854775807) (h : vMay t n s b c = false) (w : World) : Calls Tryz.prog 160 #[.agg #[.int .i64 t, .int .i64 n, .string s, .bool b, .int .i64 c]] w fun e w' => e = .returned (.bool false) ∧ Below w.heap.size w w' := by
  have := rvmay_any t n s b c hn w
  rw [h] at this
  exact this
end Go.Proofs.YtgmhifafbebjfaaGreatDoor
