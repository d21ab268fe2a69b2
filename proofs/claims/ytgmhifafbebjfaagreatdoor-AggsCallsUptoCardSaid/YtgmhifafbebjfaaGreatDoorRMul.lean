/-
 The document's product, by cases.
-/
import Derived.Test.YtgmhifafbebjfaaGreatDoorMg8
set_option maxRecDepth 100000
set_option maxHeartbeats 32000000
namespace Go.Proofs.YtgmhifafbebjfaaGreatDoor
open Go.RowKit

theorem rmul_a (a b : Int) (ha : -9223372036854775808 ≤ a ∧ a ≤ 9223372036854775807) (_hb : -9223372036854775808 ≤ b ∧ b ≤ 9223372036854775807) (h : a = -9223372036854775808) (w : World) : Calls Tryz.prog 186 #[.int .i64 a, .int .i64 b] w fun e w' => e = .returned (.tuple #[.int .i64 0, .int .i64 2]) ∧ Below w.heap.size w w' := by
 have m1 := may_no h
 clear h
 go_enter Tryz.func186, Tryz.ntmps186
 go_wp2_with (go_at_call 164; refine (drmay_any _ (by first | assumption | (constructor <;> omega)) _).mono ?_; rintro e w1 ⟨rfl, rfl⟩)
 go_ret2
 exact ⟨rfl, Below.refl _ _⟩
theorem rmul_b (a b : Int) (ha : -9223372036854775808 ≤ a ∧ a ≤ 9223372036854775807) (hb : -9223372036854775808 ≤ b ∧ b ≤ 9223372036854775807) (h : a ≠ -9223372036854775808) (h2 : b = -9223372036854775808) (w : World) : Calls Tryz.prog 186 #[.int .i64 a, .int .i64 b] w fun e w' => e = .returned (.tuple #[.int .i64 0, .int .i64 2]) ∧ Below w.heap.size w w' := by
 have m1 := may_yes h
 have m2 := may_no h2
 clear h h2
 go_enter Tryz.func186, Tryz.ntmps186
 go_wp2_with (go_at_call 164; refine (drmay_any _ (by first | assumption | (constructor <;> omega)) _).mono ?_; rintro e w1 ⟨rfl, rfl⟩)
 go_ret2
 exact ⟨rfl, Below.refl _ _⟩
theorem rmul_over (a b : Int) (ha : -9223372036854775808 ≤ a ∧ a ≤ 9223372036854775807) (hb : -9223372036854775808 ≤ b ∧ b ≤ 9223372036854775807) (h : a ≠ -9223372036854775808) (h2 : b ≠ -9223372036854775808) (m n p q m1 n1 : Nat) (hm : a.natAbs = m) (hn : b.natAbs = n) (_hmb : m ≤ 9223372036854775807 ∧ 0 ≤ m) (_hnb : n ≤ 9223372036854775807 ∧ 0 ≤ n) (E1 : (m : Int) / 10000 = (p : Int)) (E2 : (n : Int) / 10000 = (q : Int)) (_E3 : (m : Int) % 10000 = (m1 : Int)) (_E4 : (n : Int) % 10000 = (n1 : Int)) (hpb : p ≤ 922337203685477 ∧ 0 ≤ p) (hqb : q ≤ 922337203685477 ∧ 0 ≤ q) (_hm1 : m1 < 10000 ∧ 0 ≤ m1) (_hn1 : n1 < 10000 ∧ 0 ≤ n1) (cp : Nat) (T1 : IntKind.u64.wrap ((922337203685477 : Int).tdiv p) = (cp : Int)) (_T2 : (922337203685477 : Int) / p = (cp : Int)) (_hp0 : decide ((0 : Int) < (p : Int)) = true) (hp1 : decide (0 < p) = true) (_ho : decide ((cp : Int) < (q : Int)) = true) (ho2 : decide (cp < q) = true) (w : World) : Calls Tryz.prog 186 #[.int .i64 a, .int .i64 b] w fun e w' => e = .returned (.tuple #[.int .i64 0, .int .i64 2]) ∧ Below w.heap.size w w' := by
 have hpp : 0 < p := of_decide_eq_true hp1
 have y1 := may_yes h
 have y2 := may_yes h2
 have hm' := Lib.hid hm
 have hn' := Lib.hid hn
 clear h h2 hm hn
 go_enter Tryz.func186, Tryz.ntmps186
 go_wp2_with (go_at_call 164; refine (drmay_any _ (by first | assumption | (constructor <;> omega)) _).mono ?_; rintro e w1 ⟨rfl, rfl⟩)
 refine (rsize_nat a m ha hm'.out _).mono ?_
 rintro e w' ⟨rfl, rfl⟩
 go_wp2_with fail
 refine (rsize_nat b n hb hn'.out _).mono ?_
 rintro e w' ⟨rfl, rfl⟩
 go_wp2
 go_ret2
 exact ⟨rfl, Below.refl _ _⟩
theorem rmul_y1 (a b : Int) (ha : -9223372036854775808 ≤ a ∧ a ≤ 9223372036854775807) (hb : -9223372036854775808 ≤ b ∧ b ≤ 9223372036854775807) (h : a ≠ -9223372036854775808) (h2 : b ≠ -9223372036854775808) (m n p q m1 n1 : Nat) (hm : a.natAbs = m) (hn : b.natAbs = n) (hmb : m ≤ 9223372036854775807 ∧ 0 ≤ m) (hnb : n ≤ 9223372036854775807 ∧ 0 ≤ n) (E1 : (m : Int) / 10000 = (p : Int)) (E2 : (n : Int) / 10000 = (q : Int)) (E3 : (m : Int) % 10000 = (m1 : Int)) (E4 : (n : Int) % 10000 = (n1 : Int)) (hpb : p ≤ 922337203685477 ∧ 0 ≤ p) (hqb : q ≤ 922337203685477 ∧ 0 ≤ q) (_hm1 : m1 < 10000 ∧ 0 ≤ m1) (_hn1 : n1 < 10000 ∧ 0 ≤ n1) (pq L0 L1 L2 t L3 : Nat) (G1 : IntKind.u64.wrap ((p : Int) * (q : Int)) = (pq : Int)) (G2 : IntKind.u64.wrap ((pq : Int) * 10000) = (L0 : Int)) (G3 : IntKind.u64.wrap ((p : Int) * (n1 : Int)) = (L1 : Int)) (G4 : IntKind.u64.wrap ((q : Int) * (m1 : Int)) = (L2 : Int)) (G5 : IntKind.u64.wrap ((m1 : Int) * (n1 : Int)) = (t : Int)) (G6 : IntKind.u64.wrap ((t : Int) + 5000) = (t : Int) + 5000) (_G7 : ((t : Int) + 5000) / 10000 = (L3 : Int)) (G8 : IntKind.u64.wrap (((t : Int) + 5000).tdiv 10000) = (L3 : Int)) (S2 S3 S4 : Nat) (hL0 : L0 ≤ 9223372036854775807 ∧ 0 ≤ L0) (cp : Nat) (T1 : IntKind.u64.wrap ((922337203685477 : Int).tdiv p) = (cp : Int)) (_T2 : (922337203685477 : Int) / p = (cp : Int)) (_hp0 : decide ((0 : Int) < (p : Int)) = true) (hp1 : decide (0 < p) = true) (_ho : decide ((cp : Int) < (q : Int)) = false) (ho2 : decide (cp < q) = false) (B1 : 9223372036854775807 < L0 + L1 ∧ 0 ≤ L1) (w : World) : Calls Tryz.prog 186 #[.int .i64 a, .int .i64 b] w fun e w' => e = .returned (.tuple #[.int .i64 0, .int .i64 2]) ∧ Below w.heap.size w w' := by
 have y1 := may_yes h
 have y2 := may_yes h2
 have hm' := Lib.hid hm
 have hn' := Lib.hid hn
 clear h h2 hm hn
 have hpp : 0 < p := of_decide_eq_true hp1
 go_enter Tryz.func186, Tryz.ntmps186
 go_wp2_with (go_at_call 164; refine (drmay_any _ (by first | assumption | (constructor <;> omega)) _).mono ?_; rintro e w1 ⟨rfl, rfl⟩)
 refine (rsize_nat a m ha hm'.out _).mono ?_
 rintro e w' ⟨rfl, rfl⟩
 go_wp2_with fail
 refine (rsize_nat b n hb hn'.out _).mono ?_
 rintro e w' ⟨rfl, rfl⟩
 go_wp2
 go_loop [13, 14] (fun sv iv => ∃ k : Nat, k ≤ 1 ∧ iv = .int .i64 (k : Int) ∧ sv = .int .u64 ((fun k : Nat => if k = 0 then 0 else if k = 1 then (L0 : Int) else if k = 2 then (S2 : Int) else if k = 3 then (S3 : Int) else (S4 : Int)) k)) (fun _ iv => 4 - (intOf iv).toNat)
 case atStart => exact ⟨0, by omega, rfl, rfl⟩
 case round =>
  obtain ⟨k, hk, rfl, rfl⟩ := hrel
  have hk5 : k = 0 ∨ k = 1 := by omega
  rcases hk5 with rfl | rfl
  ·go_wp2
   go_round
   case rel => exact ⟨1, by omega, rfl, rfl⟩
   case measure => simp [intOf]
  ·go_wp2
   go_ret2
   exact ⟨rfl, belq⟩
theorem rmul_y2 (a b : Int) (ha : -9223372036854775808 ≤ a ∧ a ≤ 9223372036854775807) (hb : -9223372036854775808 ≤ b ∧ b ≤ 9223372036854775807) (h : a ≠ -9223372036854775808) (h2 : b ≠ -9223372036854775808) (m n p q m1 n1 : Nat) (hm : a.natAbs = m) (hn : b.natAbs = n) (hmb : m ≤ 9223372036854775807 ∧ 0 ≤ m) (hnb : n ≤ 9223372036854775807 ∧ 0 ≤ n) (E1 : (m : Int) / 10000 = (p : Int)) (E2 : (n : Int) / 10000 = (q : Int)) (E3 : (m : Int) % 10000 = (m1 : Int)) (E4 : (n : Int) % 10000 = (n1 : Int)) (hpb : p ≤ 922337203685477 ∧ 0 ≤ p) (hqb : q ≤ 922337203685477 ∧ 0 ≤ q) (_hm1 : m1 < 10000 ∧ 0 ≤ m1) (_hn1 : n1 < 10000 ∧ 0 ≤ n1) (pq L0 L1 L2 t L3 : Nat) (G1 : IntKind.u64.wrap ((p : Int) * (q : Int)) = (pq : Int)) (G2 : IntKind.u64.wrap ((pq : Int) * 10000) = (L0 : Int)) (G3 : IntKind.u64.wrap ((p : Int) * (n1 : Int)) = (L1 : Int)) (G4 : IntKind.u64.wrap ((q : Int) * (m1 : Int)) = (L2 : Int)) (G5 : IntKind.u64.wrap ((m1 : Int) * (n1 : Int)) = (t : Int)) (G6 : IntKind.u64.wrap ((t : Int) + 5000) = (t : Int) + 5000) (_G7 : ((t : Int) + 5000) / 10000 = (L3 : Int)) (G8 : IntKind.u64.wrap (((t : Int) + 5000).tdiv 10000) = (L3 : Int)) (S2 S3 S4 : Nat) (hL0 : L0 ≤ 9223372036854775807 ∧ 0 ≤ L0) (cp : Nat) (T1 : IntKind.u64.wrap ((922337203685477 : Int).tdiv p) = (cp : Int)) (_T2 : (922337203685477 : Int) / p = (cp : Int)) (_hp0 : decide ((0 : Int) < (p : Int)) = true) (hp1 : decide (0 < p) = true) (_ho : decide ((cp : Int) < (q : Int)) = false) (ho2 : decide (cp < q) = false) (A1 : (L0 : Int) + (L1 : Int) = (S2 : Int)) (B1 : S2 ≤ 9223372036854775807 ∧ 0 ≤ S2) (B2 : 9223372036854775807 < S2 + L2 ∧ 0 ≤ L2) (w : World) : Calls Tryz.prog 186 #[.int .i64 a, .int .i64 b] w fun e w' => e = .returned (.tuple #[.int .i64 0, .int .i64 2]) ∧ Below w.heap.size w w' := by
 have y1 := may_yes h
 have y2 := may_yes h2
 have hm' := Lib.hid hm
 have hn' := Lib.hid hn
 clear h h2 hm hn
 have hpp : 0 < p := of_decide_eq_true hp1
 go_enter Tryz.func186, Tryz.ntmps186
 go_wp2_with (go_at_call 164; refine (drmay_any _ (by first | assumption | (constructor <;> omega)) _).mono ?_; rintro e w1 ⟨rfl, rfl⟩)
 refine (rsize_nat a m ha hm'.out _).mono ?_
 rintro e w' ⟨rfl, rfl⟩
 go_wp2_with fail
 refine (rsize_nat b n hb hn'.out _).mono ?_
 rintro e w' ⟨rfl, rfl⟩
 go_wp2
 go_loop [13, 14] (fun sv iv => ∃ k : Nat, k ≤ 2 ∧ iv = .int .i64 (k : Int) ∧ sv = .int .u64 ((fun k : Nat => if k = 0 then 0 else if k = 1 then (L0 : Int) else if k = 2 then (S2 : Int) else if k = 3 then (S3 : Int) else (S4 : Int)) k)) (fun _ iv => 4 - (intOf iv).toNat)
 case atStart => exact ⟨0, by omega, rfl, rfl⟩
 case round =>
  obtain ⟨k, hk, rfl, rfl⟩ := hrel
  have hk5 : k = 0 ∨ k = 1 ∨ k = 2 := by omega
  rcases hk5 with rfl | rfl | rfl
  ·go_wp2
   go_round
   case rel => exact ⟨1, by omega, rfl, rfl⟩
   case measure => simp [intOf]
  ·go_wp2
   go_round
   case rel => exact ⟨2, by omega, rfl, rfl⟩
   case measure => simp [intOf]
  ·go_wp2
   go_ret2
   exact ⟨rfl, belq⟩
theorem rmul_y3 (a b : Int) (ha : -9223372036854775808 ≤ a ∧ a ≤ 9223372036854775807) (hb : -9223372036854775808 ≤ b ∧ b ≤ 9223372036854775807) (h : a ≠ -9223372036854775808) (h2 : b ≠ -9223372036854775808) (m n p q m1 n1 : Nat) (hm : a.natAbs = m) (hn : b.natAbs = n) (hmb : m ≤ 9223372036854775807 ∧ 0 ≤ m) (hnb : n ≤ 9223372036854775807 ∧ 0 ≤ n) (E1 : (m : Int) / 10000 = (p : Int)) (E2 : (n : Int) / 10000 = (q : Int)) (E3 : (m : Int) % 10000 = (m1 : Int)) (E4 : (n : Int) % 10000 = (n1 : Int)) (hpb : p ≤ 922337203685477 ∧ 0 ≤ p) (hqb : q ≤ 922337203685477 ∧ 0 ≤ q) (_hm1 : m1 < 10000 ∧ 0 ≤ m1) (_hn1 : n1 < 10000 ∧ 0 ≤ n1) (pq L0 L1 L2 t L3 : Nat) (G1 : IntKind.u64.wrap ((p : Int) * (q : Int)) = (pq : Int)) (G2 : IntKind.u64.wrap ((pq : Int) * 10000) = (L0 : Int)) (G3 : IntKind.u64.wrap ((p : Int) * (n1 : Int)) = (L1 : Int)) (G4 : IntKind.u64.wrap ((q : Int) * (m1 : Int)) = (L2 : Int)) (G5 : IntKind.u64.wrap ((m1 : Int) * (n1 : Int)) = (t : Int)) (G6 : IntKind.u64.wrap ((t : Int) + 5000) = (t : Int) + 5000) (_G7 : ((t : Int) + 5000) / 10000 = (L3 : Int)) (G8 : IntKind.u64.wrap (((t : Int) + 5000).tdiv 10000) = (L3 : Int)) (S2 S3 S4 : Nat) (hL0 : L0 ≤ 9223372036854775807 ∧ 0 ≤ L0) (cp : Nat) (T1 : IntKind.u64.wrap ((922337203685477 : Int).tdiv p) = (cp : Int)) (_T2 : (922337203685477 : Int) / p = (cp : Int)) (_hp0 : decide ((0 : Int) < (p : Int)) = true) (hp1 : decide (0 < p) = true) (_ho : decide ((cp : Int) < (q : Int)) = false) (ho2 : decide (cp < q) = false) (A1 : (L0 : Int) + (L1 : Int) = (S2 : Int)) (B1 : S2 ≤ 9223372036854775807 ∧ 0 ≤ S2) (A2 : (S2 : Int) + (L2 : Int) = (S3 : Int)) (B2 : S3 ≤ 9223372036854775807 ∧ 0 ≤ S3) (B3 : 9223372036854775807 < S3 + L3 ∧ 0 ≤ L3) (w : World) : Calls Tryz.prog 186 #[.int .i64 a, .int .i64 b] w fun e w' => e = .returned (.tuple #[.int .i64 0, .int .i64 2]) ∧ Below w.heap.size w w' := by
 have y1 := may_yes h
 have y2 := may_yes h2
 have hm' := Lib.hid hm
 have hn' := Lib.hid hn
 clear h h2 hm hn
 have hpp : 0 < p := of_decide_eq_true hp1
 go_enter Tryz.func186, Tryz.ntmps186
 go_wp2_with (go_at_call 164; refine (drmay_any _ (by first | assumption | (constructor <;> omega)) _).mono ?_; rintro e w1 ⟨rfl, rfl⟩)
 refine (rsize_nat a m ha hm'.out _).mono ?_
 rintro e w' ⟨rfl, rfl⟩
 go_wp2_with fail
 refine (rsize_nat b n hb hn'.out _).mono ?_
 rintro e w' ⟨rfl, rfl⟩
 go_wp2
 go_loop [13, 14] (fun sv iv => ∃ k : Nat, k ≤ 3 ∧ iv = .int .i64 (k : Int) ∧ sv = .int .u64 ((fun k : Nat => if k = 0 then 0 else if k = 1 then (L0 : Int) else if k = 2 then (S2 : Int) else if k = 3 then (S3 : Int) else (S4 : Int)) k)) (fun _ iv => 4 - (intOf iv).toNat)
 case atStart => exact ⟨0, by omega, rfl, rfl⟩
 case round =>
  obtain ⟨k, hk, rfl, rfl⟩ := hrel
  have hk5 : k = 0 ∨ k = 1 ∨ k = 2 ∨ k = 3 := by omega
  rcases hk5 with rfl | rfl | rfl | rfl
  ·go_wp2
   go_round
   case rel => exact ⟨1, by omega, rfl, rfl⟩
   case measure => simp [intOf]
  ·go_wp2
   go_round
   case rel => exact ⟨2, by omega, rfl, rfl⟩
   case measure => simp [intOf]
  ·go_wp2
   go_round
   case rel => exact ⟨3, by omega, rfl, rfl⟩
   case measure => simp [intOf]
  ·go_wp2
   go_ret2
   exact ⟨rfl, belq⟩
theorem rmul_y4 (a b : Int) (ha : -9223372036854775808 ≤ a ∧ a ≤ 9223372036854775807) (hb : -9223372036854775808 ≤ b ∧ b ≤ 9223372036854775807) (h : a ≠ -9223372036854775808) (h2 : b ≠ -9223372036854775808) (m n p q m1 n1 : Nat) (hm : a.natAbs = m) (hn : b.natAbs = n) (hmb : m ≤ 9223372036854775807 ∧ 0 ≤ m) (hnb : n ≤ 9223372036854775807 ∧ 0 ≤ n) (E1 : (m : Int) / 10000 = (p : Int)) (E2 : (n : Int) / 10000 = (q : Int)) (E3 : (m : Int) % 10000 = (m1 : Int)) (E4 : (n : Int) % 10000 = (n1 : Int)) (hpb : p ≤ 922337203685477 ∧ 0 ≤ p) (hqb : q ≤ 922337203685477 ∧ 0 ≤ q) (_hm1 : m1 < 10000 ∧ 0 ≤ m1) (_hn1 : n1 < 10000 ∧ 0 ≤ n1) (pq L0 L1 L2 t L3 : Nat) (G1 : IntKind.u64.wrap ((p : Int) * (q : Int)) = (pq : Int)) (G2 : IntKind.u64.wrap ((pq : Int) * 10000) = (L0 : Int)) (G3 : IntKind.u64.wrap ((p : Int) * (n1 : Int)) = (L1 : Int)) (G4 : IntKind.u64.wrap ((q : Int) * (m1 : Int)) = (L2 : Int)) (G5 : IntKind.u64.wrap ((m1 : Int) * (n1 : Int)) = (t : Int)) (G6 : IntKind.u64.wrap ((t : Int) + 5000) = (t : Int) + 5000) (_G7 : ((t : Int) + 5000) / 10000 = (L3 : Int)) (G8 : IntKind.u64.wrap (((t : Int) + 5000).tdiv 10000) = (L3 : Int)) (S2 S3 S4 : Nat) (hL0 : L0 ≤ 9223372036854775807 ∧ 0 ≤ L0) (cp : Nat) (T1 : IntKind.u64.wrap ((922337203685477 : Int).tdiv p) = (cp : Int)) (_T2 : (922337203685477 : Int) / p = (cp : Int)) (_hp0 : decide ((0 : Int) < (p : Int)) = true) (hp1 : decide (0 < p) = true) (_ho : decide ((cp : Int) < (q : Int)) = false) (ho2 : decide (cp < q) = false) (A1 : (L0 : Int) + (L1 : Int) = (S2 : Int)) (B1 : S2 ≤ 9223372036854775807 ∧ 0 ≤ S2) (A2 : (S2 : Int) + (L2 : Int) = (S3 : Int)) (B2 : S3 ≤ 9223372036854775807 ∧ 0 ≤ S3) (A3 : (S3 : Int) + (L3 : Int) = (S4 : Int)) (B3 : S4 ≤ 9223372036854775807 ∧ 0 ≤ S4) (low : Bool) (hlow : (decide (a < 0) != decide (b < 0)) = low) (w : World) : Calls Tryz.prog 186 #[.int .i64 a, .int .i64 b] w fun e w' => e = .returned (.tuple #[.int .i64 (exV (if low then -(S4 : Int) else (S4 : Int))), .int .i64 (exC (if low then -(S4 : Int) else (S4 : Int)))]) ∧ Below w.heap.size w w' := by
 have y1 := may_yes h
 have y2 := may_yes h2
 have hm' := Lib.hid hm
 have hn' := Lib.hid hn
 clear h h2 hm hn
 have hpp : 0 < p := of_decide_eq_true hp1
 have hl2 : (!(decide (a < 0) == decide (b < 0))) = low := hlow
 clear hlow
 go_enter Tryz.func186, Tryz.ntmps186
 go_wp2_with (go_at_call 164; refine (drmay_any _ (by first | assumption | (constructor <;> omega)) _).mono ?_; rintro e w1 ⟨rfl, rfl⟩)
 refine (rsize_nat a m ha hm'.out _).mono ?_
 rintro e w' ⟨rfl, rfl⟩
 go_wp2_with fail
 refine (rsize_nat b n hb hn'.out _).mono ?_
 rintro e w' ⟨rfl, rfl⟩
 go_wp2
 go_loop [13, 14] (fun sv iv => ∃ k : Nat, k ≤ 4 ∧ iv = .int .i64 (k : Int) ∧ sv = .int .u64 ((fun k : Nat => if k = 0 then 0 else if k = 1 then (L0 : Int) else if k = 2 then (S2 : Int) else if k = 3 then (S3 : Int) else (S4 : Int)) k)) (fun _ iv => 4 - (intOf iv).toNat)
 case atStart => exact ⟨0, by omega, rfl, rfl⟩
 case round =>
  obtain ⟨k, hk, rfl, rfl⟩ := hrel
  have hk5 : k = 0 ∨ k = 1 ∨ k = 2 ∨ k = 3 ∨ k = 4 := by omega
  rcases hk5 with rfl | rfl | rfl | rfl | rfl
  ·go_wp2
   go_round
   case rel => exact ⟨1, by omega, rfl, rfl⟩
   case measure => simp [intOf]
  ·go_wp2
   go_round
   case rel => exact ⟨2, by omega, rfl, rfl⟩
   case measure => simp [intOf]
  ·go_wp2
   go_round
   case rel => exact ⟨3, by omega, rfl, rfl⟩
   case measure => simp [intOf]
  ·go_wp2
   go_round
   case rel => exact ⟨4, by omega, rfl, rfl⟩
   case measure => simp [intOf]
  ·go_wp2_with fail
   have hsg := rsigned_any (S4 : Int) (by omega) low (w.alloc (.cells #[.int .u64 (L0 : Int), .int .u64 (L1 : Int), .int .u64 (L2 : Int), .int .u64 (L3 : Int)] 119))
   with_reducible refine hsg.mono ?_
   clear hsg
   rintro e w' ⟨rfl, rfl⟩
   go_wp2
   all_goals go_ret2
   all_goals exact ⟨rfl, belq⟩
theorem rmul_z1 (a b : Int) (ha : -9223372036854775808 ≤ a ∧ a ≤ 9223372036854775807) (hb : -9223372036854775808 ≤ b ∧ b ≤ 9223372036854775807) (h : a ≠ -9223372036854775808) (h2 : b ≠ -9223372036854775808) (m n p q m1 n1 : Nat) (hm : a.natAbs = m) (hn : b.natAbs = n) (hmb : m ≤ 9223372036854775807 ∧ 0 ≤ m) (hnb : n ≤ 9223372036854775807 ∧ 0 ≤ n) (E1 : (m : Int) / 10000 = (p : Int)) (E2 : (n : Int) / 10000 = (q : Int)) (E3 : (m : Int) % 10000 = (m1 : Int)) (E4 : (n : Int) % 10000 = (n1 : Int)) (hpb : p ≤ 922337203685477 ∧ 0 ≤ p) (hqb : q ≤ 922337203685477 ∧ 0 ≤ q) (_hm1 : m1 < 10000 ∧ 0 ≤ m1) (_hn1 : n1 < 10000 ∧ 0 ≤ n1) (pq L0 L1 L2 t L3 : Nat) (G1 : IntKind.u64.wrap ((p : Int) * (q : Int)) = (pq : Int)) (G2 : IntKind.u64.wrap ((pq : Int) * 10000) = (L0 : Int)) (G3 : IntKind.u64.wrap ((p : Int) * (n1 : Int)) = (L1 : Int)) (G4 : IntKind.u64.wrap ((q : Int) * (m1 : Int)) = (L2 : Int)) (G5 : IntKind.u64.wrap ((m1 : Int) * (n1 : Int)) = (t : Int)) (G6 : IntKind.u64.wrap ((t : Int) + 5000) = (t : Int) + 5000) (_G7 : ((t : Int) + 5000) / 10000 = (L3 : Int)) (G8 : IntKind.u64.wrap (((t : Int) + 5000).tdiv 10000) = (L3 : Int)) (S2 S3 S4 : Nat) (hL0 : L0 ≤ 9223372036854775807 ∧ 0 ≤ L0) (_hp0 : decide ((0 : Int) < (p : Int)) = false) (hp1 : decide (0 < p) = false) (B1 : 9223372036854775807 < L0 + L1 ∧ 0 ≤ L1) (w : World) : Calls Tryz.prog 186 #[.int .i64 a, .int .i64 b] w fun e w' => e = .returned (.tuple #[.int .i64 0, .int .i64 2]) ∧ Below w.heap.size w w' := by
 have y1 := may_yes h
 have y2 := may_yes h2
 have hm' := Lib.hid hm
 have hn' := Lib.hid hn
 clear h h2 hm hn
 go_enter Tryz.func186, Tryz.ntmps186
 go_wp2_with (go_at_call 164; refine (drmay_any _ (by first | assumption | (constructor <;> omega)) _).mono ?_; rintro e w1 ⟨rfl, rfl⟩)
 refine (rsize_nat a m ha hm'.out _).mono ?_
 rintro e w' ⟨rfl, rfl⟩
 go_wp2_with fail
 refine (rsize_nat b n hb hn'.out _).mono ?_
 rintro e w' ⟨rfl, rfl⟩
 go_wp2
 go_loop [13, 14] (fun sv iv => ∃ k : Nat, k ≤ 1 ∧ iv = .int .i64 (k : Int) ∧ sv = .int .u64 ((fun k : Nat => if k = 0 then 0 else if k = 1 then (L0 : Int) else if k = 2 then (S2 : Int) else if k = 3 then (S3 : Int) else (S4 : Int)) k)) (fun _ iv => 4 - (intOf iv).toNat)
 case atStart => exact ⟨0, by omega, rfl, rfl⟩
 case round =>
  obtain ⟨k, hk, rfl, rfl⟩ := hrel
  have hk5 : k = 0 ∨ k = 1 := by omega
  rcases hk5 with rfl | rfl
  ·go_wp2
   go_round
   case rel => exact ⟨1, by omega, rfl, rfl⟩
   case measure => simp [intOf]
  ·go_wp2
   go_ret2
   exact ⟨rfl, belq⟩
theorem rmul_z2 (a b : Int) (ha : -9223372036854775808 ≤ a ∧ a ≤ 9223372036854775807) (hb : -9223372036854775808 ≤ b ∧ b ≤ 9223372036854775807) (h : a ≠ -9223372036854775808) (h2 : b ≠ -9223372036854775808) (m n p q m1 n1 : Nat) (hm : a.natAbs = m) (hn : b.natAbs = n) (hmb : m ≤ 9223372036854775807 ∧ 0 ≤ m) (hnb : n ≤ 9223372036854775807 ∧ 0 ≤ n) (E1 : (m : Int) / 10000 = (p : Int)) (E2 : (n : Int) / 10000 = (q : Int)) (E3 : (m : Int) % 10000 = (m1 : Int)) (E4 : (n : Int) % 10000 = (n1 : Int)) (hpb : p ≤ 922337203685477 ∧ 0 ≤ p) (hqb : q ≤ 922337203685477 ∧ 0 ≤ q) (_hm1 : m1 < 10000 ∧ 0 ≤ m1) (_hn1 : n1 < 10000 ∧ 0 ≤ n1) (pq L0 L1 L2 t L3 : Nat) (G1 : IntKind.u64.wrap ((p : Int) * (q : Int)) = (pq : Int)) (G2 : IntKind.u64.wrap ((pq : Int) * 10000) = (L0 : Int)) (G3 : IntKind.u64.wrap ((p : Int) * (n1 : Int)) = (L1 : Int)) (G4 : IntKind.u64.wrap ((q : Int) * (m1 : Int)) = (L2 : Int)) (G5 : IntKind.u64.wrap ((m1 : Int) * (n1 : Int)) = (t : Int)) (G6 : IntKind.u64.wrap ((t : Int) + 5000) = (t : Int) + 5000) (_G7 : ((t : Int) + 5000) / 10000 = (L3 : Int)) (G8 : IntKind.u64.wrap (((t : Int) + 5000).tdiv 10000) = (L3 : Int)) (S2 S3 S4 : Nat) (hL0 : L0 ≤ 9223372036854775807 ∧ 0 ≤ L0) (_hp0 : decide ((0 : Int) < (p : Int)) = false) (hp1 : decide (0 < p) = false) (A1 : (L0 : Int) + (L1 : Int) = (S2 : Int)) (B1 : S2 ≤ 9223372036854775807 ∧ 0 ≤ S2) (B2 : 9223372036854775807 < S2 + L2 ∧ 0 ≤ L2) (w : World) : Calls Tryz.prog 186 #[.int .i64 a, .int .i64 b] w fun e w' => e = .returned (.tuple #[.int .i64 0, .int .i64 2]) ∧ Below w.heap.size w w' := by
 have y1 := may_yes h
 have y2 := may_yes h2
 have hm' := Lib.hid hm
 have hn' := Lib.hid hn
 clear h h2 hm hn
 go_enter Tryz.func186, Tryz.ntmps186
 go_wp2_with (go_at_call 164; refine (drmay_any _ (by first | assumption | (constructor <;> omega)) _).mono ?_; rintro e w1 ⟨rfl, rfl⟩)
 refine (rsize_nat a m ha hm'.out _).mono ?_
 rintro e w' ⟨rfl, rfl⟩
 go_wp2_with fail
 refine (rsize_nat b n hb hn'.out _).mono ?_
 rintro e w' ⟨rfl, rfl⟩
 go_wp2
 go_loop [13, 14] (fun sv iv => ∃ k : Nat, k ≤ 2 ∧ iv = .int .i64 (k : Int) ∧ sv = .int .u64 ((fun k : Nat => if k = 0 then 0 else if k = 1 then (L0 : Int) else if k = 2 then (S2 : Int) else if k = 3 then (S3 : Int) else (S4 : Int)) k)) (fun _ iv => 4 - (intOf iv).toNat)
 case atStart => exact ⟨0, by omega, rfl, rfl⟩
 case round =>
  obtain ⟨k, hk, rfl, rfl⟩ := hrel
  have hk5 : k = 0 ∨ k = 1 ∨ k = 2 := by omega
  rcases hk5 with rfl | rfl | rfl
  ·go_wp2
   go_round
   case rel => exact ⟨1, by omega, rfl, rfl⟩
   case measure => simp [intOf]
  ·go_wp2
   go_round
   case rel => exact ⟨2, by omega, rfl, rfl⟩
   case measure => simp [intOf]
  ·go_wp2
   go_ret2
   exact ⟨rfl, belq⟩
theorem rmul_z3 (a b : Int) (ha : -9223372036854775808 ≤ a ∧ a ≤ 9223372036854775807) (hb : -9223372036854775808 ≤ b ∧ b ≤ 9223372036854775807) (h : a ≠ -9223372036854775808) (h2 : b ≠ -9223372036854775808) (m n p q m1 n1 : Nat) (hm : a.natAbs = m) (hn : b.natAbs = n) (hmb : m ≤ 9223372036854775807 ∧ 0 ≤ m) (hnb : n ≤ 9223372036854775807 ∧ 0 ≤ n) (E1 : (m : Int) / 10000 = (p : Int)) (E2 : (n : Int) / 10000 = (q : Int)) (E3 : (m : Int) % 10000 = (m1 : Int)) (E4 : (n : Int) % 10000 = (n1 : Int)) (hpb : p ≤ 922337203685477 ∧ 0 ≤ p) (hqb : q ≤ 922337203685477 ∧ 0 ≤ q) (_hm1 : m1 < 10000 ∧ 0 ≤ m1) (_hn1 : n1 < 10000 ∧ 0 ≤ n1) (pq L0 L1 L2 t L3 : Nat) (G1 : IntKind.u64.wrap ((p : Int) * (q : Int)) = (pq : Int)) (G2 : IntKind.u64.wrap ((pq : Int) * 10000) = (L0 : Int)) (G3 : IntKind.u64.wrap ((p : Int) * (n1 : Int)) = (L1 : Int)) (G4 : IntKind.u64.wrap ((q : Int) * (m1 : Int)) = (L2 : Int)) (G5 : IntKind.u64.wrap ((m1 : Int) * (n1 : Int)) = (t : Int)) (G6 : IntKind.u64.wrap ((t : Int) + 5000) = (t : Int) + 5000) (_G7 : ((t : Int) + 5000) / 10000 = (L3 : Int)) (G8 : IntKind.u64.wrap (((t : Int) + 5000).tdiv 10000) = (L3 : Int)) (S2 S3 S4 : Nat) (hL0 : L0 ≤ 9223372036854775807 ∧ 0 ≤ L0) (_hp0 : decide ((0 : Int) < (p : Int)) = false) (hp1 : decide (0 < p) = false) (A1 : (L0 : Int) + (L1 : Int) = (S2 : Int)) (B1 : S2 ≤ 9223372036854775807 ∧ 0 ≤ S2) (A2 : (S2 : Int) + (L2 : Int) = (S3 : Int)) (B2 : S3 ≤ 9223372036854775807 ∧ 0 ≤ S3) (B3 : 9223372036854775807 < S3 + L3 ∧ 0 ≤ L3) (w : World) : Calls Tryz.prog 186 #[.int .i64 a, .int .i64 b] w fun e w' => e = .returned (.tuple #[.int .i64 0, .int .i64 2]) ∧ Below w.heap.size w w' := by
 have y1 := may_yes h
 have y2 := may_yes h2
 have hm' := Lib.hid hm
 have hn' := Lib.hid hn
 clear h h2 hm hn
 go_enter Tryz.func186, Tryz.ntmps186
 go_wp2_with (go_at_call 164; refine (drmay_any _ (by first | assumption | (constructor <;> omega)) _).mono ?_; rintro e w1 ⟨rfl, rfl⟩)
 refine (rsize_nat a m ha hm'.out _).mono ?_
 rintro e w' ⟨rfl, rfl⟩
 go_wp2_with fail
 refine (rsize_nat b n hb hn'.out _).mono ?_
 rintro e w' ⟨rfl, rfl⟩
 go_wp2
 go_loop [13, 14] (fun sv iv => ∃ k : Nat, k ≤ 3 ∧ iv = .int .i64 (k : Int) ∧ sv = .int .u64 ((fun k : Nat => if k = 0 then 0 else if k = 1 then (L0 : Int) else if k = 2 then (S2 : Int) else if k = 3 then (S3 : Int) else (S4 : Int)) k)) (fun _ iv => 4 - (intOf iv).toNat)
 case atStart => exact ⟨0, by omega, rfl, rfl⟩
 case round =>
  obtain ⟨k, hk, rfl, rfl⟩ := hrel
  have hk5 : k = 0 ∨ k = 1 ∨ k = 2 ∨ k = 3 := by omega
  rcases hk5 with rfl | rfl | rfl | rfl
  ·go_wp2
   go_round
   case rel => exact ⟨1, by omega, rfl, rfl⟩
   case measure => simp [intOf]
  ·go_wp2
   go_round
   case rel => exact ⟨2, by omega, rfl, rfl⟩
   case measure => simp [intOf]
  ·go_wp2
   go_round
   case rel => exact ⟨3, by omega, rfl, rfl⟩
   case measure => simp [intOf]
  ·go_wp2
   go_ret2
   exact ⟨rfl, belq⟩
theorem rmul_z4 (a b : Int) (ha : -9223372036854775808 ≤ a ∧ a ≤ 9223372036854775807) (hb : -9223372036854775808 ≤ b ∧ b ≤ 9223372036854775807) (h : a ≠ -9223372036854775808) (h2 : b ≠ -9223372036854775808) (m n p q m1 n1 : Nat) (hm : a.natAbs = m) (hn : b.natAbs = n) (hmb : m ≤ 9223372036854775807 ∧ 0 ≤ m) (hnb : n ≤ 9223372036854775807 ∧ 0 ≤ n) (E1 : (m : Int) / 10000 = (p : Int)) (E2 : (n : Int) / 10000 = (q : Int)) (E3 : (m : Int) % 10000 = (m1 : Int)) (E4 : (n : Int) % 10000 = (n1 : Int)) (hpb : p ≤ 922337203685477 ∧ 0 ≤ p) (hqb : q ≤ 922337203685477 ∧ 0 ≤ q) (_hm1 : m1 < 10000 ∧ 0 ≤ m1) (_hn1 : n1 < 10000 ∧ 0 ≤ n1) (pq L0 L1 L2 t L3 : Nat) (G1 : IntKind.u64.wrap ((p : Int) * (q : Int)) = (pq : Int)) (G2 : IntKind.u64.wrap ((pq : Int) * 10000) = (L0 : Int)) (G3 : IntKind.u64.wrap ((p : Int) * (n1 : Int)) = (L1 : Int)) (G4 : IntKind.u64.wrap ((q : Int) * (m1 : Int)) = (L2 : Int)) (G5 : IntKind.u64.wrap ((m1 : Int) * (n1 : Int)) = (t : Int)) (G6 : IntKind.u64.wrap ((t : Int) + 5000) = (t : Int) + 5000) (_G7 : ((t : Int) + 5000) / 10000 = (L3 : Int)) (G8 : IntKind.u64.wrap (((t : Int) + 5000).tdiv 10000) = (L3 : Int)) (S2 S3 S4 : Nat) (hL0 : L0 ≤ 9223372036854775807 ∧ 0 ≤ L0) (_hp0 : decide ((0 : Int) < (p : Int)) = false) (hp1 : decide (0 < p) = false) (A1 : (L0 : Int) + (L1 : Int) = (S2 : Int)) (B1 : S2 ≤ 9223372036854775807 ∧ 0 ≤ S2) (A2 : (S2 : Int) + (L2 : Int) = (S3 : Int)) (B2 : S3 ≤ 9223372036854775807 ∧ 0 ≤ S3) (A3 : (S3 : Int) + (L3 : Int) = (S4 : Int)) (B3 : S4 ≤ 9223372036854775807 ∧ 0 ≤ S4) (low : Bool) (hlow : (decide (a < 0) != decide (b < 0)) = low) (w : World) : Calls Tryz.prog 186 #[.int .i64 a, .int .i64 b] w fun e w' => e = .returned (.tuple #[.int .i64 (exV (if low then -(S4 : Int) else (S4 : Int))), .int .i64 (exC (if low then -(S4 : Int) else (S4 : Int)))]) ∧ Below w.heap.size w w' := by
 have y1 := may_yes h
 have y2 := may_yes h2
 have hm' := Lib.hid hm
 have hn' := Lib.hid hn
 clear h h2 hm hn
 have hl2 : (!(decide (a < 0) == decide (b < 0))) = low := hlow
 clear hlow
 go_enter Tryz.func186, Tryz.ntmps186
 go_wp2_with (go_at_call 164; refine (drmay_any _ (by first | assumption | (constructor <;> omega)) _).mono ?_; rintro e w1 ⟨rfl, rfl⟩)
 refine (rsize_nat a m ha hm'.out _).mono ?_
 rintro e w' ⟨rfl, rfl⟩
 go_wp2_with fail
 refine (rsize_nat b n hb hn'.out _).mono ?_
 rintro e w' ⟨rfl, rfl⟩
 go_wp2
 go_loop [13, 14] (fun sv iv => ∃ k : Nat, k ≤ 4 ∧ iv = .int .i64 (k : Int) ∧ sv = .int .u64 ((fun k : Nat => if k = 0 then 0 else if k = 1 then (L0 : Int) else if k = 2 then (S2 : Int) else if k = 3 then (S3 : Int) else (S4 : Int)) k)) (fun _ iv => 4 - (intOf iv).toNat)
 case atStart => exact ⟨0, by omega, rfl, rfl⟩
 case round =>
  obtain ⟨k, hk, rfl, rfl⟩ := hrel
  have hk5 : k = 0 ∨ k = 1 ∨ k = 2 ∨ k = 3 ∨ k = 4 := by omega
  rcases hk5 with rfl | rfl | rfl | rfl | rfl
  ·go_wp2
   go_round
   case rel => exact ⟨1, by omega, rfl, rfl⟩
   case measure => simp [intOf]
  ·go_wp2
   go_round
   case rel => exact ⟨2, by omega, rfl, rfl⟩
   case measure => simp [intOf]
  ·go_wp2
   go_round
   case rel => exact ⟨3, by omega, rfl, rfl⟩
   case measure => simp [intOf]
  ·go_wp2
   go_round
   case rel => exact ⟨4, by omega, rfl, rfl⟩
   case measure => simp [intOf]
  ·go_wp2_with fail
   have hsg := rsigned_any (S4 : Int) (by omega) low (w.alloc (.cells #[.int .u64 (L0 : Int), .int .u64 (L1 : Int), .int .u64 (L2 : Int), .int .u64 (L3 : Int)] 119))
   with_reducible refine hsg.mono ?_
   clear hsg
   rintro e w' ⟨rfl, rfl⟩
   go_wp2
   all_goals go_ret2
   all_goals exact ⟨rfl, belq⟩
end Go.Proofs.YtgmhifafbebjfaaGreatDoor
