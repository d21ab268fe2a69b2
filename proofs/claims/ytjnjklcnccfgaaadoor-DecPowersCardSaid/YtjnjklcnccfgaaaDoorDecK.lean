/-
  Package dec: what the laws' known tells; alike.
-/
import Derived.Test.YtjnjklcnccfgaaaDoorDParse
import Derived.Test.YtjnjklcnccfgaaaDoorDPrint
import Derived.WalkSpells
import Derived.WalkLawsBesides
import Derived.StillTactics
import Derived.Laws.Pointers
import Derived.Deep.RegionHeld3
import Derived.Deep.QuietTactic
import Derived.BigQuiet
import Derived.RowKit3
import Derived.Lib.Hide
import Derived.Lib.OthersKept
import Derived.OwnWalk
import Derived.Lib.IndexLaws
import Derived.Lib.ItoaMem
namespace Go.Proofs.YtjnjklcnccfgaaaDoor
open Go.RowKit

set_option maxRecDepth 100000 in
set_option maxHeartbeats 1000000 in
theorem div64_small (lo y : Nat) (hlo : lo < 18446744073709551616) (hy : y < 18446744073709551616) (h0 : 0 < y) (w : World) : Calls Tryd.prog 98 #[.int .u64 0, .int .u64 lo, .int .u64 y] w fun e w' => e = .returned (.tuple #[.int .u64 ((lo / y : Nat) : Int), .int .u64 ((lo % y : Nat) : Int)]) ∧ Below w.heap.size w w' := by
  have T1 : IntKind.u64.wrap ((lo : Int).tdiv y) = (lo : Int) / y := IntWalk.u64_quo _ _ (by omega)
  have T2 : (lo : Int).tmod y = (lo : Int) % y := Int.tmod_eq_emod_of_nonneg (by omega)
  have hq : (lo : Int) / y = ((lo / y : Nat) : Int) := by simp
  have hr : (lo : Int) % y = ((lo % y : Nat) : Int) := by simp
  have hq' := Lib.hid hq
  have hr' := Lib.hid hr
  have T3 : IntKind.u64.wrap ((lo : Int) % y) = (lo : Int) % y := IntWalk.u64_in _ (by rw [hr]; have := Nat.mod_lt lo h0; omega)
  have T4 : IntKind.u64.wrap ((lo : Int) / y) = (lo : Int) / y := IntWalk.u64_in _ (by rw [hq]; exact ⟨Int.natCast_nonneg _, Int.le_trans (Int.ofNat_le.2 (Nat.div_le_self lo y)) (by omega)⟩)
  clear hq hr
  go_enter Tryd.func98, Tryd.ntmps98
  go_wp2
  go_quiet (fail)
  go_wp2
  go_ret2
  refine ⟨?_, by first | assumption | (go_split_ands; first | assumption | ((repeat (first | (with_reducible exact Below.refl _ _) | (with_reducible refine Below.alloc ?_ (by first | omega | (dsimp only; omega) | (simp <;> omega)) _) | (with_reducible refine Below.setCell ?_ (by first | omega | (dsimp only; omega) | (simp <;> omega)) _) | (with_reducible refine Below.drew ?_) | (with_reducible refine below_drewN ?_ _) | (with_reducible refine Below.trans ?_ (Below.mono (by assumption) (by first | omega | (dsimp only; omega) | (simp <;> omega)))))); done)) | ((repeat (first | (with_reducible exact Below.refl _ _) | (with_reducible refine Below.alloc ?_ (by first | omega | (dsimp only; omega) | (simp <;> omega)) _) | (with_reducible refine Below.setCell ?_ (by first | omega | (dsimp only; omega) | (simp <;> omega)) _) | (with_reducible refine Below.drew ?_) | (with_reducible refine below_drewN ?_ _) | (with_reducible refine Below.trans ?_ (Below.mono (by assumption) (by first | omega | (dsimp only; omega) | (simp <;> omega)))))); done)⟩
  rw [← hq'.out, ← hr'.out]
  rfl
theorem mul64_k (w : World) : Calls Tryd.prog 97 #[.int .u64 15000, .int .u64 15000] w fun e w' => e = .returned (.tuple #[.int .u64 0, .int .u64 225000000]) ∧ w = w' :=
  (Tryd.bits_Mul64 15000 15000 (by omega) (by omega) w).mono fun _ _ ⟨he, hw⟩ => ⟨by rw [he]; rfl, hw.symm⟩
theorem div64_k (w : World) : Calls Tryd.prog 98 #[.int .u64 0, .int .u64 225000000, .int .u64 10000] w fun e w' => e = .returned (.tuple #[.int .u64 22500, .int .u64 0]) ∧ Below w.heap.size w w' :=
  (div64_small 225000000 10000 (by omega) (by omega) (by omega) w).mono fun _ _ ⟨he, hw⟩ => ⟨by rw [he]; rfl, hw⟩
set_option maxRecDepth 100000 in
set_option maxHeartbeats 1000000 in
theorem mul_k (w : World) : Calls Tryd.prog 60 #[.int .i64 15000, .int .i64 15000] w fun e w' => e = .returned (.tuple #[.int .i64 22500, .int .i64 0]) ∧ Below w.heap.size w w' := by
  have m1 : decMay 15000 = true := by decide
  go_enter Tryd.func60, Tryd.ntmps60
  go_wp2_with (go_at_call 59; refine (dmay_any _ (by first | assumption | (constructor <;> omega)) _).mono ?_; rintro e w1 ⟨rfl, rfl⟩)
  refine (size_nat 15000 15000 (by omega) rfl _).mono ?_
  rintro e w1 ⟨rfl, rfl⟩
  go_wp2_with fail
  refine (size_nat 15000 15000 (by omega) rfl _).mono ?_
  rintro e w1 ⟨rfl, rfl⟩
  go_wp2_with fail
  refine (mul64_k _).mono ?_
  rintro e w2 ⟨rfl, rfl⟩
  go_wp2_with fail
  refine (div64_k _).mono ?_
  rintro e w3 ⟨rfl, hb3⟩
  go_wp2_with fail
  refine (signed_any 22500 (by omega) _ _).mono ?_
  rintro e w4 ⟨rfl, rfl⟩
  go_wp2
  go_ret2
  exact ⟨rfl, hb3⟩
theorem add_k (w : World) : Calls Tryd.prog 52 #[.int .i64 15000, .int .i64 (-5000)] w fun e w' => e = .returned (.tuple #[.int .i64 10000, .int .i64 0]) ∧ Below w.heap.size w w' :=
  (add_any 15000 (-5000) (by omega) (by omega) w).mono fun _ _ ⟨he, hw⟩ => ⟨he, by first | exact hw | (rw [hw]; exact Below.refl _ _)⟩
theorem parse_k (w : World) : Calls Tryd.prog 46 #[.string ⟨#[45, 49, 46, 53, 48]⟩] w fun e w' => e = .returned (.tuple #[.int .i64 (-15000), .bool true]) ∧ Below w.heap.size w w' := by
  have := dparse_l [45, 49, 46, 53, 48] (by decide) w
  rw [show numV [45, 49, 46, 53, 48] = -15000 from by decide +kernel, show numOk [45, 49, 46, 53, 48] = true from by decide +kernel] at this
  exact this
theorem print_k (w : World) (ht : Tab w) : Calls Tryd.prog 49 #[.int .i64 (-15000)] w fun e w' => e = .returned (.string ⟨#[45, 49, 46, 53]⟩) ∧ Below w.heap.size w w' := by
  have := dprint_any (-15000) (by omega) w ht
  rw [show printL (-15000) = [45, 49, 46, 53] from by decide +kernel] at this
  exact this
set_option maxHeartbeats 1000000 in
theorem dknown_any (w : World) (ht : Tab w) : Calls Tryd.prog 48 #[] w fun e w' => e = .returned (.bool true) ∧ Below w.heap.size w w' := by
  go_enter Tryd.func48, Tryd.ntmps48
  go_wp2_with fail
  refine (add_k _).mono ?_
  rintro e w1 ⟨rfl, hb1⟩
  obtain ⟨hc1, hf1, hz1⟩ := bkeep hb1 (w.heap.size) (by first | omega | (simp <;> omega))
  have q1 : Below w.heap.size w w1 := by (repeat (first | (with_reducible exact Below.refl _ _) | (with_reducible refine Below.alloc ?_ (by first | omega | (dsimp only; omega) | (simp <;> omega)) _) | (with_reducible refine Below.setCell ?_ (by first | omega | (dsimp only; omega) | (simp <;> omega)) _) | (with_reducible refine Below.drew ?_) | (with_reducible refine below_drewN ?_ _) | (with_reducible refine Below.trans ?_ (Below.mono (by assumption) (by first | omega | (dsimp only; omega) | (simp <;> omega))))))
  go_wp2_with fail
  refine (mul_k _).mono ?_
  rintro e w2 ⟨rfl, hb2⟩
  obtain ⟨hc2, hf2, hz2⟩ := bkeep hb2 (w.heap.size) (by first | omega | (simp <;> omega))
  have q2 : Below w.heap.size w w2 := q1.trans (hb2.mono (by omega))
  go_wp2_with fail
  refine (parse_k _).mono ?_
  rintro e w3 ⟨rfl, hb3⟩
  obtain ⟨hc3, hf3, hz3⟩ := bkeep hb3 (w.heap.size) (by first | omega | (simp <;> omega))
  have q3 : Below w.heap.size w w3 := q2.trans (hb3.mono (by omega))
  go_wp2_with fail
  refine (print_k _ (Tab.below ht q3)).mono ?_
  rintro e w4 ⟨rfl, hb4⟩
  obtain ⟨hc4, hf4, hz4⟩ := bkeep hb4 (w.heap.size) (by first | omega | (simp <;> omega))
  have q4 : Below w.heap.size w w4 := q3.trans (hb4.mono (by omega))
  go_wp2
  go_ret
  exact ⟨rfl, q4⟩
set_option maxHeartbeats 400000 in
theorem alike_self (a x : Int) (w : World) : Calls Tryd.prog 54 #[.int .i64 a, .int .i64 x, .int .i64 a, .int .i64 x] w fun e w' => e = .returned (.bool true) ∧ w = w' := by
  go_enter Tryd.func54, Tryd.ntmps54
  go_wp2
  go_ret
  exact ⟨rfl, rfl⟩
set_option maxHeartbeats 400000 in
theorem alike_any (a x b y : Int) (w : World) : Calls Tryd.prog 54 #[.int .i64 a, .int .i64 x, .int .i64 b, .int .i64 y] w fun e w' => e = .returned (.bool (decide (a = b) && decide (x = y))) ∧ w = w' := by
  go_enter Tryd.func54, Tryd.ntmps54
  go_wp2
  all_goals go_ret
  all_goals refine ⟨ret_b (Bool.eq_iff_iff.2 ?_), rfl⟩
  all_goals simp [*]
end Go.Proofs.YtjnjklcnccfgaaaDoor
