/-
 The document's Print of a number.
-/
import Derived.Test.YtgmhifafbebjfaaGreatDoorMg1
set_option maxRecDepth 100000
set_option maxHeartbeats 32000000
namespace Go.Proofs.YtgmhifafbebjfaaGreatDoor
open Go.RowKit

theorem ofNat_toNat8 {n : Nat} (h : n < 256) : (UInt8.ofNat n).toNat = n := by simp; omega
theorem conv_fresh (W : World) (v : UInt8) : (convert 61 9 (.slice (some ⟨W.heap.size, 0, none⟩) 1 1)).run Tryz.prog (W.alloc (.cells #[.int .u8 (v.toNat : Int)] 5)) = .ok (.string ⟨[v].toArray⟩) (W.alloc (.cells #[.int .u8 (v.toNat : Int)] 5)) :=
 run_convert_bytes_back (P := Tryz.prog) (W.alloc (.cells #[.int .u8 (v.toNat : Int)] 5)) 61 9 5 ⟨W.heap.size, 0, none⟩ 1 [v] Tryz.underlying61 Tryz.underlying5 Tryz.underlying9 (fun j hj => by
  obtain rfl : j = 0 := by simp at hj; exact hj
  rw [Lib.add_plain, World.cell?_alloc_new]
  rfl)
theorem conv_cell (d : Nat) (h : d < 10) (W : World) (b : Nat) (hc : W.cell? ⟨b, 0, .none⟩ = some (.int .u8 (48 + (d : Int)))) : (convert 61 9 (.slice (some ⟨b, 0, none⟩) 1 1)).run Tryz.prog W = .ok (.string ⟨[UInt8.ofNat (48 + d)].toArray⟩) W :=
 run_convert_bytes_back (P := Tryz.prog) W 61 9 5 ⟨b, 0, none⟩ 1 [UInt8.ofNat (48 + d)] Tryz.underlying61 Tryz.underlying5 Tryz.underlying9 (fun j hj => by
  obtain rfl : j = 0 := by simp at hj; exact hj
  rw [Lib.add_plain, hc]
  simp only [List.getElem_cons_zero]
  rw [ofNat_toNat8 (by omega), show ((48 + d : Nat) : Int) = 48 + (d : Int) from by omega])
theorem conv_dig (W : World) (d : Nat) (h : d < 10) : (convert 61 9 (.slice (some ⟨W.heap.size, 0, none⟩) 1 1)).run Tryz.prog (W.alloc (.cells #[.int .u8 (48 + (d : Int))] 5)) = .ok (.string ⟨[UInt8.ofNat (48 + d)].toArray⟩) (W.alloc (.cells #[.int .u8 (48 + (d : Int))] 5)) := by
 have := conv_fresh W (UInt8.ofNat (48 + d))
 rw [ofNat_toNat8 (by omega), show ((48 + d : Nat) : Int) = 48 + (d : Int) from by omega] at this
 exact this
theorem decimal_one (n : Nat) (h : n < 10) (w : World) : Calls Tryz.prog 166 #[.int .u64 n] w fun e w' => e = .returned (.string ⟨(Lib.decDigits n).toArray⟩) ∧ Below w.heap.size w w' := by
 have hc := Lib.hid (Lib.decDigits_one h)
 have hcv := fun W => conv_dig W n h
 go_enter Tryz.func166, Tryz.ntmps166
 go_wp2
 go_ret
 exact ⟨by rw [hc.out]; simp, belq⟩
theorem decimal_more (n : Nat) (h : 10 ≤ n) (hn : n < 18446744073709551616) (ih : ∀ w : World, Calls Tryz.prog 166 #[.int .u64 ((n : Int) / 10)] w fun e w' => e = .returned (.string ⟨(Lib.decDigits (n / 10)).toArray⟩) ∧ Below w.heap.size w w') (w : World) : Calls Tryz.prog 166 #[.int .u64 n] w fun e w' => e = .returned (.string ⟨(Lib.decDigits n).toArray⟩) ∧ Below w.heap.size w w' := by
 have he : (⟨(Lib.decDigits (n / 10)).toArray⟩ : ByteArray) ++ ⟨#[48 + UInt8.ofNat (n % 10)]⟩ = ⟨(Lib.decDigits n).toArray⟩ := by
  rw [decSnoc h]
  apply ByteArray.ext
  simp
 have hlen := dec_len20 (u := n / 10) (by omega)
 have hcv := conv_cell (n % 10) (by omega)
 rw [show ((n % 10 : Nat) : Int) = (n : Int) % 10 from by omega] at hcv
 have ih' := Lib.hid ih
 have W0 : (n : Int).tmod 10 = (n : Int) % 10 := Int.tmod_eq_emod_of_nonneg (by omega)
 have W1 : IntKind.u64.wrap ((n : Int) / 10) = (n : Int) / 10 := IntWalk.u64_in _ (by omega)
 have W2 : IntKind.u64.wrap (48 + (n : Int) % 10) = 48 + (n : Int) % 10 := IntWalk.u64_in _ (by omega)
 have W3 : IntKind.u8.wrap (48 + (n : Int) % 10) = 48 + (n : Int) % 10 := IntWalk.u8_in _ (by omega)
 clear ih
 go_enter Tryz.func166, Tryz.ntmps166
 go_wp2_with fail
 go_region_with (with_reducible first | (go_at_call 166; refine (ih'.out _).mono ?_; rintro e w1 ⟨rfl, hb⟩; obtain ⟨hc, hf⟩ := bcell hb; obtain ⟨_, _, hz⟩ := bkeep hb (w.heap.size) (by first | omega | (simp <;> omega))))
 all_goals go_wp2
 all_goals go_ret
 all_goals exact ⟨rfl, belq⟩
theorem decimal_any : ∀ (k n : Nat), n ≤ k → n < 18446744073709551616 → ∀ w : World, Calls Tryz.prog 166 #[.int .u64 (n : Int)] w fun e w' => e = .returned (.string ⟨(Lib.decDigits n).toArray⟩) ∧ Below w.heap.size w w'
 | 0, n, h, _, w => decimal_one n (by omega) w
 |
  k + 1, n, h, hn, w => by
  by_cases h10 : n < 10
  ·exact decimal_one n h10 w
  ·refine decimal_more n (by omega) hn (fun w => ?_) w
   have := decimal_any k (n / 10) (by omega) (by omega) w
   rw [show ((n / 10 : Nat) : Int) = (n : Int) / 10 from by omega] at this
   exact this
def okd : Nat → Nat → Prop
 | 0, m => m = 0
 | 1, m => m % 1000 = 0
 | 2, m => m % 100 = 0
 | 3, m => m % 10 = 0
 | _, _ => True
theorem okd_step {k m : Nat} (hk : k ≤ 3) (h : okd (k + 1) m) : okd k (m % 1000 * 10) := by
 have : k = 0 ∨ k = 1 ∨ k = 2 ∨ k = 3 := by omega
 rcases this with rfl | rfl | rfl | rfl <;> simp only [okd] at * <;> omega
theorem okd_pos {k m : Nat} (h : okd k m) (h0 : 0 < m) : 0 < k := by
 rcases k with _ | k
 ·simp only [okd] at h; omega
 ·omega
theorem digs_step {k m : Nat} (h0 : 0 < m) : digs (k + 1) m = UInt8.ofNat (48 + m / 1000) :: digs k (m % 1000 * 10) := by
 simp only [digs]; rw [if_neg (by omega)]
theorem digs_zero (k : Nat) : digs k 0 = [] := by cases k <;> simp [digs]
def strSize : Value → Nat
 | .string b => b.size
 | _ => 0
theorem rsize_nat (x : Int) (N : Nat) (hx : -9223372036854775808 ≤ x ∧ x ≤ 9223372036854775807) (h : x.natAbs = N) (w : World) : Calls Tryz.prog 165 #[.int .i64 x] w fun e w' => e = .returned (.tuple #[.int .u64 N, .bool (decide (x < 0))]) ∧ w = w' := by
 have := rsize_any x hx w
 rw [absI_nat, h] at this
 exact this
theorem rprint_no (x : Int) (h : x = -9223372036854775808) (w : World) : Calls Tryz.prog 90 #[.int .i64 x] w fun e w' => e = .returned (.string ⟨(printL x).toArray⟩) ∧ Below w.heap.size w w' := by
 have hr := Lib.hid (show printL x = [] by simp [printL, h])
 have hx : -9223372036854775808 ≤ x ∧ x ≤ 9223372036854775807 := by omega
 have m1 := may_no h
 clear h
 go_enter Tryz.func90, Tryz.ntmps90
 go_wp2_with (go_at_call 164; refine (drmay_any _ (by first | assumption | (constructor <;> omega)) _).mono ?_; rintro e w1 ⟨rfl, rfl⟩)
 go_ret
 exact ⟨by rw [hr.out]; rfl, Below.refl _ _⟩
theorem rprint0 (x : Int) (hx : -9223372036854775808 ≤ x ∧ x ≤ 9223372036854775807) (h : x ≠ -9223372036854775808) (hs : 0 ≤ x) (N : Nat) (hN : x.natAbs = N) (hN1 : N ≤ 9223372036854775807) (hr : N % 10000 = 0) (w : World) : Calls Tryz.prog 90 #[.int .i64 x] w fun e w' => e = .returned (.string ⟨(printL x).toArray⟩) ∧ Below w.heap.size w w' := by
 have hp : printL x = Lib.decDigits (N / 10000) := by
  have e2 : decide (x < 0) = false := by simp; omega
  have e3 : N % 10000 = 0 := hr
  simp [printL, textOf, h, hN, e2, e3]
 have hp' := Lib.hid hp
 clear hp
 have m1 := may_yes h
 have hd : decide (x < 0) = false := by simp; omega
 have hl1 := dec_len20 (u := N / 10000) (by omega)
 have hN' := Lib.hid hN
 clear hN h
 go_enter Tryz.func90, Tryz.ntmps90
 go_wp2_with (first | (go_at_call 164; refine (drmay_any _ (by first | assumption | (constructor <;> omega)) _).mono ?_; rintro e w1 ⟨rfl, rfl⟩) | (go_at_call 165; refine (rsize_nat x N hx hN'.out _).mono ?_; rintro e w1 ⟨rfl, rfl⟩))
 rw [show ((N : Int) / 10000) = ((N / 10000 : Nat) : Int) from by omega]
 refine (decimal_any _ (N / 10000) (Nat.le_refl _) (by omega) _).mono ?_
 rintro e w1 ⟨rfl, hb1⟩
 have z1 := hb1.size
 go_wp2
 go_ret
 exact ⟨by rw [hp'.out]; rfl, hb1⟩
theorem rprint1 (x : Int) (hx : -9223372036854775808 ≤ x ∧ x ≤ 9223372036854775807) (h : x ≠ -9223372036854775808) (hs : 0 ≤ x) (N : Nat) (hN : x.natAbs = N) (hN1 : N ≤ 9223372036854775807) (hr : 0 < N % 10000) (w : World) : Calls Tryz.prog 90 #[.int .i64 x] w fun e w' => e = .returned (.string ⟨(printL x).toArray⟩) ∧ Below w.heap.size w w' := by
 have hp : printL x = Lib.decDigits (N / 10000) ++ 46 :: frac (N % 10000) := by
  have e2 : decide (x < 0) = false := by simp; omega
  have e3 : ¬ N % 10000 = 0 := by omega
  simp [printL, textOf, h, hN, e2, e3]
 have hp' := Lib.hid hp
 clear hp
 have m1 := may_yes h
 have hd : decide (x < 0) = false := by simp; omega
 have hl1 := dec_len20 (u := N / 10000) (by omega)
 have ha2 : ∀ w' : World, (Op.stringOp .add ⟨(Lib.decDigits (N / 10000)).toArray⟩ ⟨#[46]⟩).run Tryz.prog w' = .ok (.string ⟨(Lib.decDigits (N / 10000) ++ [46]).toArray⟩) w' := fun w' => run_string_add_lists (P := Tryz.prog) w' (Lib.decDigits (N / 10000)) [46] (by first | omega | (simp; omega)) (by simp)
 have hN' := Lib.hid hN
 clear hN h
 go_enter Tryz.func90, Tryz.ntmps90
 go_wp2_with (first | (go_at_call 164; refine (drmay_any _ (by first | assumption | (constructor <;> omega)) _).mono ?_; rintro e w1 ⟨rfl, rfl⟩) | (go_at_call 165; refine (rsize_nat x N hx hN'.out _).mono ?_; rintro e w1 ⟨rfl, rfl⟩))
 rw [show ((N : Int) / 10000) = ((N / 10000 : Nat) : Int) from by omega]
 refine (decimal_any _ (N / 10000) (Nat.le_refl _) (by omega) _).mono ?_
 rintro e w1 ⟨rfl, hb1⟩
 have z1 := hb1.size
 have hfr := Lib.hid (digs_four (r := N % 10000) (by omega) (by omega))
 go_wp2
 go_loopw [5, 6] (fun t r wr => ∃ (k m : Nat) (l : List UInt8), k ≤ 4 ∧ r = .int .u64 m ∧ t = .string ⟨l.toArray⟩ ∧ m < 10000 ∧ Hid (okd k m) ∧ l.length + k ≤ 30 ∧ Hid (l ++ digs k m = Lib.decDigits (N / 10000) ++ 46 :: frac (N % 10000)) ∧ Below w.heap.size w wr) (fun t _ _ => 31 - strSize t)
 case atStart => exact ⟨4, N % 10000, Lib.decDigits (N / 10000) ++ [46], by omega, by go_num, rfl, by omega, Lib.hid trivial, by simp; omega, Lib.hid (by rw [hfr.out]; simp), by assumption⟩
 case round =>
  obtain ⟨k, m, l, hk, rfl, rfl, hm, ho, hlen, ht, hb⟩ := hrel
  by_cases h0 : 0 < m
  ·obtain ⟨j, rfl⟩ : ∃ j, k = j + 1 := ⟨k - 1, by have := okd_pos ho.out h0; omega⟩
   have hcv := conv_cell (m / 1000) (by omega)
   rw [show ((m / 1000 : Nat) : Int) = (m : Int) / 1000 from by omega] at hcv
   have ha := Lib.hid (show (⟨l.toArray⟩ : ByteArray) ++ ⟨#[48 + UInt8.ofNat (m / 1000)]⟩ = ⟨(l ++ [UInt8.ofNat (48 + m / 1000)]).toArray⟩ by
    apply ByteArray.ext
    simp)
   have ho2 := Lib.hid (okd_step (by omega) ho.out)
   have ht2 := Lib.hid (show (l ++ [UInt8.ofNat (48 + m / 1000)]) ++ digs j (m % 1000 * 10) = Lib.decDigits (N / 10000) ++ 46 :: frac (N % 10000) by rw [← ht.out, digs_step h0]; simp)
   go_wp2
   go_roundw
   case rel => exact ⟨j, m % 1000 * 10, l ++ [UInt8.ofNat (48 + m / 1000)], by omega, by go_num, congrArg Value.string ha.out, by omega, ho2, by simp; omega, ht2, by (repeat (first | assumption | (refine Below.alloc ?_ (by have := hb.size; first | omega | (simp <;> omega)) _)))⟩
   case measure => simp [strSize, ByteArray.size]; omega
  ·obtain rfl : m = 0 := by omega
   have ht2 := ht.out
   rw [digs_zero, List.append_nil] at ht2
   have ht3 := Lib.hid ht2
   clear ht2
   go_wp2
   go_ret
   exact ⟨by rw [hp'.out, ← ht3.out]; rfl, hb⟩
theorem rprint2 (x : Int) (hx : -9223372036854775808 ≤ x ∧ x ≤ 9223372036854775807) (h : x ≠ -9223372036854775808) (hs : x < 0) (N : Nat) (hN : x.natAbs = N) (hN1 : N ≤ 9223372036854775807) (hr : N % 10000 = 0) (w : World) : Calls Tryz.prog 90 #[.int .i64 x] w fun e w' => e = .returned (.string ⟨(printL x).toArray⟩) ∧ Below w.heap.size w w' := by
 have hp : printL x = 45 :: Lib.decDigits (N / 10000) := by
  have e2 : decide (x < 0) = true := by simp; omega
  have e3 : N % 10000 = 0 := hr
  simp [printL, textOf, h, hN, e2, e3]
 have hp' := Lib.hid hp
 clear hp
 have m1 := may_yes h
 have hd : decide (x < 0) = true := by simp; omega
 have hl1 := dec_len20 (u := N / 10000) (by omega)
 have ha1 : ∀ w' : World, (Op.stringOp .add ⟨#[45]⟩ ⟨(Lib.decDigits (N / 10000)).toArray⟩).run Tryz.prog w' = .ok (.string ⟨(45 :: Lib.decDigits (N / 10000)).toArray⟩) w' := fun w' => run_string_add_lists (P := Tryz.prog) w' [45] (Lib.decDigits (N / 10000)) (by decide) (by omega)
 have hN' := Lib.hid hN
 clear hN h
 go_enter Tryz.func90, Tryz.ntmps90
 go_wp2_with (first | (go_at_call 164; refine (drmay_any _ (by first | assumption | (constructor <;> omega)) _).mono ?_; rintro e w1 ⟨rfl, rfl⟩) | (go_at_call 165; refine (rsize_nat x N hx hN'.out _).mono ?_; rintro e w1 ⟨rfl, rfl⟩))
 rw [show ((N : Int) / 10000) = ((N / 10000 : Nat) : Int) from by omega]
 refine (decimal_any _ (N / 10000) (Nat.le_refl _) (by omega) _).mono ?_
 rintro e w1 ⟨rfl, hb1⟩
 have z1 := hb1.size
 go_wp2
 go_ret
 exact ⟨by rw [hp'.out]; rfl, hb1⟩
theorem rprint3 (x : Int) (hx : -9223372036854775808 ≤ x ∧ x ≤ 9223372036854775807) (h : x ≠ -9223372036854775808) (hs : x < 0) (N : Nat) (hN : x.natAbs = N) (hN1 : N ≤ 9223372036854775807) (hr : 0 < N % 10000) (w : World) : Calls Tryz.prog 90 #[.int .i64 x] w fun e w' => e = .returned (.string ⟨(printL x).toArray⟩) ∧ Below w.heap.size w w' := by
 have hp : printL x = 45 :: Lib.decDigits (N / 10000) ++ 46 :: frac (N % 10000) := by
  have e2 : decide (x < 0) = true := by simp; omega
  have e3 : ¬ N % 10000 = 0 := by omega
  simp [printL, textOf, h, hN, e2, e3]
 have hp' := Lib.hid hp
 clear hp
 have m1 := may_yes h
 have hd : decide (x < 0) = true := by simp; omega
 have hl1 := dec_len20 (u := N / 10000) (by omega)
 have ha1 : ∀ w' : World, (Op.stringOp .add ⟨#[45]⟩ ⟨(Lib.decDigits (N / 10000)).toArray⟩).run Tryz.prog w' = .ok (.string ⟨(45 :: Lib.decDigits (N / 10000)).toArray⟩) w' := fun w' => run_string_add_lists (P := Tryz.prog) w' [45] (Lib.decDigits (N / 10000)) (by decide) (by omega)
 have ha2 : ∀ w' : World, (Op.stringOp .add ⟨(45 :: Lib.decDigits (N / 10000)).toArray⟩ ⟨#[46]⟩).run Tryz.prog w' = .ok (.string ⟨(45 :: Lib.decDigits (N / 10000) ++ [46]).toArray⟩) w' := fun w' => run_string_add_lists (P := Tryz.prog) w' (45 :: Lib.decDigits (N / 10000)) [46] (by first | omega | (simp; omega)) (by simp)
 have hN' := Lib.hid hN
 clear hN h
 go_enter Tryz.func90, Tryz.ntmps90
 go_wp2_with (first | (go_at_call 164; refine (drmay_any _ (by first | assumption | (constructor <;> omega)) _).mono ?_; rintro e w1 ⟨rfl, rfl⟩) | (go_at_call 165; refine (rsize_nat x N hx hN'.out _).mono ?_; rintro e w1 ⟨rfl, rfl⟩))
 rw [show ((N : Int) / 10000) = ((N / 10000 : Nat) : Int) from by omega]
 refine (decimal_any _ (N / 10000) (Nat.le_refl _) (by omega) _).mono ?_
 rintro e w1 ⟨rfl, hb1⟩
 have z1 := hb1.size
 have hfr := Lib.hid (digs_four (r := N % 10000) (by omega) (by omega))
 go_wp2
 go_loopw [5, 6] (fun t r wr => ∃ (k m : Nat) (l : List UInt8), k ≤ 4 ∧ r = .int .u64 m ∧ t = .string ⟨l.toArray⟩ ∧ m < 10000 ∧ Hid (okd k m) ∧ l.length + k ≤ 30 ∧ Hid (l ++ digs k m = 45 :: Lib.decDigits (N / 10000) ++ 46 :: frac (N % 10000)) ∧ Below w.heap.size w wr) (fun t _ _ => 31 - strSize t)
 case atStart => exact ⟨4, N % 10000, 45 :: Lib.decDigits (N / 10000) ++ [46], by omega, by go_num, rfl, by omega, Lib.hid trivial, by simp; omega, Lib.hid (by rw [hfr.out]; simp), by assumption⟩
 case round =>
  obtain ⟨k, m, l, hk, rfl, rfl, hm, ho, hlen, ht, hb⟩ := hrel
  by_cases h0 : 0 < m
  ·obtain ⟨j, rfl⟩ : ∃ j, k = j + 1 := ⟨k - 1, by have := okd_pos ho.out h0; omega⟩
   have hcv := conv_cell (m / 1000) (by omega)
   rw [show ((m / 1000 : Nat) : Int) = (m : Int) / 1000 from by omega] at hcv
   have ha := Lib.hid (show (⟨l.toArray⟩ : ByteArray) ++ ⟨#[48 + UInt8.ofNat (m / 1000)]⟩ = ⟨(l ++ [UInt8.ofNat (48 + m / 1000)]).toArray⟩ by
    apply ByteArray.ext
    simp)
   have ho2 := Lib.hid (okd_step (by omega) ho.out)
   have ht2 := Lib.hid (show (l ++ [UInt8.ofNat (48 + m / 1000)]) ++ digs j (m % 1000 * 10) = 45 :: Lib.decDigits (N / 10000) ++ 46 :: frac (N % 10000) by rw [← ht.out, digs_step h0]; simp)
   go_wp2
   go_roundw
   case rel => exact ⟨j, m % 1000 * 10, l ++ [UInt8.ofNat (48 + m / 1000)], by omega, by go_num, congrArg Value.string ha.out, by omega, ho2, by simp; omega, ht2, by (repeat (first | assumption | (refine Below.alloc ?_ (by have := hb.size; first | omega | (simp <;> omega)) _)))⟩
   case measure => simp [strSize, ByteArray.size]; omega
  ·obtain rfl : m = 0 := by omega
   have ht2 := ht.out
   rw [digs_zero, List.append_nil] at ht2
   have ht3 := Lib.hid ht2
   clear ht2
   go_wp2
   go_ret
   exact ⟨by rw [hp'.out, ← ht3.out]; rfl, hb⟩
theorem rprint_any (x : Int) (hx : -9223372036854775808 ≤ x ∧ x ≤ 9223372036854775807) (w : World) : Calls Tryz.prog 90 #[.int .i64 x] w fun e w' => e = .returned (.string ⟨(printL x).toArray⟩) ∧ Below w.heap.size w w' := by
 by_cases h : x = -9223372036854775808
 ·exact rprint_no x h w
 have hN1 : x.natAbs ≤ 9223372036854775807 := by omega
 by_cases hs : x < 0 <;> by_cases hr : x.natAbs % 10000 = 0
 ·exact rprint2 x hx h hs _ rfl hN1 hr w
 ·exact rprint3 x hx h hs _ rfl hN1 (by omega) w
 ·exact rprint0 x hx h (by omega) _ rfl hN1 hr w
 ·exact rprint1 x hx h (by omega) _ rfl hN1 (by omega) w
end Go.Proofs.YtgmhifafbebjfaaGreatDoor
