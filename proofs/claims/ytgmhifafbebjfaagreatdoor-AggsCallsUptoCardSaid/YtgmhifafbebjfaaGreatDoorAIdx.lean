/-
 aggs: INDEX.
-/
import Derived.Test.YtgmhifafbebjfaaGreatDoorAHld
set_option maxRecDepth 100000
set_option maxHeartbeats 32000000
namespace Go.Proofs.YtgmhifafbebjfaaGreatDoor
open Go.RowKit

theorem aindex_c1 (x0 x1 x2 : AL) (text : Int) (w : World) (A : Option Addr) (cap : Nat) (hR : RdB w w.heap.size A 11 ([x0, x1, x2].map AL.cs)) (hin : ∀ x ∈ [x0, x1, x2], x.In w w.heap.size) (c : Int) (hc1 : intC x1.v = c) (hc : ¬ c = 0) : Calls Tryz.prog 118 #[.slice A 3 cap, .int .i64 text] w fun e w' => e = .returned (.agg #[.int .i64 ((errL c)).t, .int .i64 ((errL c)).n, .string ((errL c)).s, .bool ((errL c)).b, .int .i64 ((errL c)).c]) ∧ Below w.heap.size w w' := by
 have b0 : Below w.heap.size w (w.alloc (.cells #[.int .i64 0, .int .i64 0, .string ⟨#[]⟩, .bool false, .int .i64 0] 26)) := (Below.refl _ _).alloc (Nat.le_refl _) _
 obtain ⟨ab, ao, hA2, hab, hcell⟩ := hR 0 x0.cs rfl
 obtain rfl : A = some ⟨ab, ao, none⟩ := hA2
 obtain ⟨hc0_, hc1_, hc2_, hc3_, hc4_, hc5_, hc6_, hc7_, hc8_, hc9_, hc10_⟩ := cs11_0 hcell
 have hcell1 : ∀ (j : Nat) (u : Value), x1.cs[j]? = some u → w.cell? ⟨ab, ao + 1 * 11 + j, none⟩ = some u := by
  obtain ⟨ab2, ao2, hA3, _, hcell1⟩ := hR 1 x1.cs rfl
  cases hA3
  exact hcell1
 obtain ⟨hd1_1, hd1_2, hd1_3, hd1_4, hd1_5⟩ := cs5_1 hcell1
 clear hcell1
 have hcell2 : ∀ (j : Nat) (u : Value), x2.cs[j]? = some u → w.cell? ⟨ab, ao + 2 * 11 + j, none⟩ = some u := by
  obtain ⟨ab2, ao2, hA3, _, hcell2⟩ := hR 2 x2.cs rfl
  cases hA3
  exact hcell2
 obtain ⟨hd2_1, hd2_2, hd2_3, hd2_4, hd2_5⟩ := cs5_2 hcell2
 clear hcell2
 have hne : ab ≠ w.heap.size := by omega
 have C1 := aint_any x1.v (hin x1 (by simp)).1 (w.alloc (.cells #[.int .i64 0, .int .i64 0, .string ⟨#[]⟩, .bool false, .int .i64 0] 26))
 rw [hc1] at C1
 generalize intV x1.v = i at *
 have C1' := Lib.hid C1
 clear C1 hc1 hcell hR hin
 go_enter Tryz.func118, Tryz.ntmps118
 go_wp2_with fail
 refine C1'.out.mono ?_
 rintro e w1 ⟨rfl, hb1⟩
 obtain ⟨gc1, gf1, gz1⟩ := bkeep hb1 (w.heap.size + 1) (by first | (simp; done) | omega)
 have l1 : w.heap.size < w1.heap.size := by omega
 have q1 : Below w.heap.size w w1 := b0.trans (hb1.mono (by first | omega | (simp; done)))
 go_wp2_with (go_at_call 11; refine (verr_any c _).mono ?_; rintro e w9 ⟨rfl, hb9⟩; obtain ⟨gc9, gf9, gz9⟩ := bkeep hb9 (w.heap.size + 1) (by first | omega | (simp <;> omega)))
 refine bodyPost_ret (v := .agg #[.int .i64 ((errL c)).t, .int .i64 ((errL c)).n, .string ((errL c)).s, .bool ((errL c)).b, .int .i64 ((errL c)).c]) ?_ rfl ⟨rfl, belq⟩
 simp [results, Tryz.results118, go_sem, errL, *]
theorem aindex_c2 (x0 x1 x2 : AL) (text : Int) (w : World) (A : Option Addr) (cap : Nat) (hR : RdB w w.heap.size A 11 ([x0, x1, x2].map AL.cs)) (hin : ∀ x ∈ [x0, x1, x2], x.In w w.heap.size) (hc1 : intC x1.v = 0) (c : Int) (hc2 : intC x2.v = c) (hc : ¬ c = 0) : Calls Tryz.prog 118 #[.slice A 3 cap, .int .i64 text] w fun e w' => e = .returned (.agg #[.int .i64 ((errL c)).t, .int .i64 ((errL c)).n, .string ((errL c)).s, .bool ((errL c)).b, .int .i64 ((errL c)).c]) ∧ Below w.heap.size w w' := by
 have b0 : Below w.heap.size w (w.alloc (.cells #[.int .i64 0, .int .i64 0, .string ⟨#[]⟩, .bool false, .int .i64 0] 26)) := (Below.refl _ _).alloc (Nat.le_refl _) _
 obtain ⟨ab, ao, hA2, hab, hcell⟩ := hR 0 x0.cs rfl
 obtain rfl : A = some ⟨ab, ao, none⟩ := hA2
 obtain ⟨hc0_, hc1_, hc2_, hc3_, hc4_, hc5_, hc6_, hc7_, hc8_, hc9_, hc10_⟩ := cs11_0 hcell
 have hcell1 : ∀ (j : Nat) (u : Value), x1.cs[j]? = some u → w.cell? ⟨ab, ao + 1 * 11 + j, none⟩ = some u := by
  obtain ⟨ab2, ao2, hA3, _, hcell1⟩ := hR 1 x1.cs rfl
  cases hA3
  exact hcell1
 obtain ⟨hd1_1, hd1_2, hd1_3, hd1_4, hd1_5⟩ := cs5_1 hcell1
 clear hcell1
 have hcell2 : ∀ (j : Nat) (u : Value), x2.cs[j]? = some u → w.cell? ⟨ab, ao + 2 * 11 + j, none⟩ = some u := by
  obtain ⟨ab2, ao2, hA3, _, hcell2⟩ := hR 2 x2.cs rfl
  cases hA3
  exact hcell2
 obtain ⟨hd2_1, hd2_2, hd2_3, hd2_4, hd2_5⟩ := cs5_2 hcell2
 clear hcell2
 have hne : ab ≠ w.heap.size := by omega
 have C1 := aint_any x1.v (hin x1 (by simp)).1 (w.alloc (.cells #[.int .i64 0, .int .i64 0, .string ⟨#[]⟩, .bool false, .int .i64 0] 26))
 have C2 := fun w' => aint_any x2.v (hin x2 (by simp)).1 w'
 rw [hc1] at C1
 rw [hc2] at C2
 generalize intV x1.v = i at *
 generalize intV x2.v = j at *
 have C1' := Lib.hid C1
 have C2' := Lib.hid C2
 clear C1 C2 hc1 hc2 hcell hR hin
 go_enter Tryz.func118, Tryz.ntmps118
 go_wp2_with fail
 refine C1'.out.mono ?_
 rintro e w1 ⟨rfl, hb1⟩
 obtain ⟨gc1, gf1, gz1⟩ := bkeep hb1 (w.heap.size + 1) (by first | (simp; done) | omega)
 have l1 : w.heap.size < w1.heap.size := by omega
 have q1 : Below w.heap.size w w1 := b0.trans (hb1.mono (by first | omega | (simp; done)))
 go_wp2_with fail
 refine (C2'.out _).mono ?_
 rintro e w2 ⟨rfl, hb2⟩
 obtain ⟨gc2, gf2, gz2⟩ := bkeep hb2 (w.heap.size + 1) (by first | (simp; done) | omega)
 have l2 : w.heap.size < w2.heap.size := by omega
 have q2 : Below w.heap.size w w2 := q1.trans (hb2.mono (by first | omega | (simp; done)))
 go_wp2_with (go_at_call 11; refine (verr_any c _).mono ?_; rintro e w9 ⟨rfl, hb9⟩; obtain ⟨gc9, gf9, gz9⟩ := bkeep hb9 (w.heap.size + 1) (by first | omega | (simp <;> omega)))
 refine bodyPost_ret (v := .agg #[.int .i64 ((errL c)).t, .int .i64 ((errL c)).n, .string ((errL c)).s, .bool ((errL c)).b, .int .i64 ((errL c)).c]) ?_ rfl ⟨rfl, belq⟩
 simp [results, Tryz.results118, go_sem, errL, *]
theorem aindex_r1 (x0 x1 x2 : AL) (text : Int) (w : World) (A : Option Addr) (cap : Nat) (hR : RdB w w.heap.size A 11 ([x0, x1, x2].map AL.cs)) (hin : ∀ x ∈ [x0, x1, x2], x.In w w.heap.size) (hc1 : intC x1.v = 0) (hc2 : intC x2.v = 0) (i j : Int) (hi : intV x1.v = i) (hj : intV x2.v = j) (hm : mayRectB x0.t x0.l x0.b x0.r = true) (t0 : i < 1) : Calls Tryz.prog 118 #[.slice A 3 cap, .int .i64 text] w fun e w' => e = .returned (.agg #[.int .i64 ((errL 5)).t, .int .i64 ((errL 5)).n, .string ((errL 5)).s, .bool ((errL 5)).b, .int .i64 ((errL 5)).c]) ∧ Below w.heap.size w w' := by
 have b0 : Below w.heap.size w (w.alloc (.cells #[.int .i64 0, .int .i64 0, .string ⟨#[]⟩, .bool false, .int .i64 0] 26)) := (Below.refl _ _).alloc (Nat.le_refl _) _
 obtain ⟨ab, ao, hA2, hab, hcell⟩ := hR 0 x0.cs rfl
 obtain rfl : A = some ⟨ab, ao, none⟩ := hA2
 obtain ⟨hc0_, hc1_, hc2_, hc3_, hc4_, hc5_, hc6_, hc7_, hc8_, hc9_, hc10_⟩ := cs11_0 hcell
 have hcell1 : ∀ (j : Nat) (u : Value), x1.cs[j]? = some u → w.cell? ⟨ab, ao + 1 * 11 + j, none⟩ = some u := by
  obtain ⟨ab2, ao2, hA3, _, hcell1⟩ := hR 1 x1.cs rfl
  cases hA3
  exact hcell1
 obtain ⟨hd1_1, hd1_2, hd1_3, hd1_4, hd1_5⟩ := cs5_1 hcell1
 clear hcell1
 have hcell2 : ∀ (j : Nat) (u : Value), x2.cs[j]? = some u → w.cell? ⟨ab, ao + 2 * 11 + j, none⟩ = some u := by
  obtain ⟨ab2, ao2, hA3, _, hcell2⟩ := hR 2 x2.cs rfl
  cases hA3
  exact hcell2
 obtain ⟨hd2_1, hd2_2, hd2_3, hd2_4, hd2_5⟩ := cs5_2 hcell2
 clear hcell2
 have hne : ab ≠ w.heap.size := by omega
 have C1 := aint_any x1.v (hin x1 (by simp)).1 (w.alloc (.cells #[.int .i64 0, .int .i64 0, .string ⟨#[]⟩, .bool false, .int .i64 0] 26))
 have C2 := fun w' => aint_any x2.v (hin x2 (by simp)).1 w'
 rw [hc1, hi] at C1
 rw [hc2, hj] at C2
 obtain ⟨R, hRr⟩ : ∃ R, rowsL x0 = R := ⟨_, rfl⟩
 obtain ⟨C, hCc⟩ : ∃ C, colsL x0 = C := ⟨_, rfl⟩
 have CR := fun w' => arows_any x0 hm w'
 have CC := fun w' => acols_any x0 hm w'
 rw [hRr] at CR
 rw [hCc] at CC
 have hx0 := hin x0 (by simp)
 have C1' := Lib.hid C1
 have C2' := Lib.hid C2
 have CR' := Lib.hid CR
 have CC' := Lib.hid CC
 clear C1 C2 CR CC hc1 hc2 hi hj hcell hR hin hRr hCc hm hx0
 go_enter Tryz.func118, Tryz.ntmps118
 go_wp2_with fail
 refine C1'.out.mono ?_
 rintro e w1 ⟨rfl, hb1⟩
 obtain ⟨gc1, gf1, gz1⟩ := bkeep hb1 (w.heap.size + 1) (by first | (simp; done) | omega)
 have l1 : w.heap.size < w1.heap.size := by omega
 have q1 : Below w.heap.size w w1 := b0.trans (hb1.mono (by first | omega | (simp; done)))
 go_wp2_with fail
 refine (C2'.out _).mono ?_
 rintro e w2 ⟨rfl, hb2⟩
 obtain ⟨gc2, gf2, gz2⟩ := bkeep hb2 (w.heap.size + 1) (by first | (simp; done) | omega)
 have l2 : w.heap.size < w2.heap.size := by omega
 have q2 : Below w.heap.size w w2 := q1.trans (hb2.mono (by first | omega | (simp; done)))
 go_wp2_with (go_at_call 11; refine (verr_any 5 _).mono ?_; rintro e w9 ⟨rfl, hb9⟩; obtain ⟨gc9, gf9, gz9⟩ := bkeep hb9 (w.heap.size + 1) (by first | omega | (simp <;> omega)))
 refine bodyPost_ret (v := .agg #[.int .i64 ((errL 5)).t, .int .i64 ((errL 5)).n, .string ((errL 5)).s, .bool ((errL 5)).b, .int .i64 ((errL 5)).c]) ?_ rfl ⟨rfl, belq⟩
 simp [results, Tryz.results118, go_sem, errL, *]
theorem aindex_r2 (x0 x1 x2 : AL) (text : Int) (w : World) (A : Option Addr) (cap : Nat) (hR : RdB w w.heap.size A 11 ([x0, x1, x2].map AL.cs)) (hin : ∀ x ∈ [x0, x1, x2], x.In w w.heap.size) (hc1 : intC x1.v = 0) (hc2 : intC x2.v = 0) (i j : Int) (hi : intV x1.v = i) (hj : intV x2.v = j) (hm : mayRectB x0.t x0.l x0.b x0.r = true) (t0 : ¬ i < 1) (t1 : rowsL x0 < i) : Calls Tryz.prog 118 #[.slice A 3 cap, .int .i64 text] w fun e w' => e = .returned (.agg #[.int .i64 ((errL 5)).t, .int .i64 ((errL 5)).n, .string ((errL 5)).s, .bool ((errL 5)).b, .int .i64 ((errL 5)).c]) ∧ Below w.heap.size w w' := by
 have b0 : Below w.heap.size w (w.alloc (.cells #[.int .i64 0, .int .i64 0, .string ⟨#[]⟩, .bool false, .int .i64 0] 26)) := (Below.refl _ _).alloc (Nat.le_refl _) _
 obtain ⟨ab, ao, hA2, hab, hcell⟩ := hR 0 x0.cs rfl
 obtain rfl : A = some ⟨ab, ao, none⟩ := hA2
 obtain ⟨hc0_, hc1_, hc2_, hc3_, hc4_, hc5_, hc6_, hc7_, hc8_, hc9_, hc10_⟩ := cs11_0 hcell
 have hcell1 : ∀ (j : Nat) (u : Value), x1.cs[j]? = some u → w.cell? ⟨ab, ao + 1 * 11 + j, none⟩ = some u := by
  obtain ⟨ab2, ao2, hA3, _, hcell1⟩ := hR 1 x1.cs rfl
  cases hA3
  exact hcell1
 obtain ⟨hd1_1, hd1_2, hd1_3, hd1_4, hd1_5⟩ := cs5_1 hcell1
 clear hcell1
 have hcell2 : ∀ (j : Nat) (u : Value), x2.cs[j]? = some u → w.cell? ⟨ab, ao + 2 * 11 + j, none⟩ = some u := by
  obtain ⟨ab2, ao2, hA3, _, hcell2⟩ := hR 2 x2.cs rfl
  cases hA3
  exact hcell2
 obtain ⟨hd2_1, hd2_2, hd2_3, hd2_4, hd2_5⟩ := cs5_2 hcell2
 clear hcell2
 have hne : ab ≠ w.heap.size := by omega
 have C1 := aint_any x1.v (hin x1 (by simp)).1 (w.alloc (.cells #[.int .i64 0, .int .i64 0, .string ⟨#[]⟩, .bool false, .int .i64 0] 26))
 have C2 := fun w' => aint_any x2.v (hin x2 (by simp)).1 w'
 rw [hc1, hi] at C1
 rw [hc2, hj] at C2
 obtain ⟨R, hRr⟩ : ∃ R, rowsL x0 = R := ⟨_, rfl⟩
 obtain ⟨C, hCc⟩ : ∃ C, colsL x0 = C := ⟨_, rfl⟩
 have CR := fun w' => arows_any x0 hm w'
 have CC := fun w' => acols_any x0 hm w'
 rw [hRr] at CR
 rw [hCc] at CC
 have hx0 := hin x0 (by simp)
 rw [hRr] at t1
 have C1' := Lib.hid C1
 have C2' := Lib.hid C2
 have CR' := Lib.hid CR
 have CC' := Lib.hid CC
 clear C1 C2 CR CC hc1 hc2 hi hj hcell hR hin hRr hCc hm hx0
 go_enter Tryz.func118, Tryz.ntmps118
 go_wp2_with fail
 refine C1'.out.mono ?_
 rintro e w1 ⟨rfl, hb1⟩
 obtain ⟨gc1, gf1, gz1⟩ := bkeep hb1 (w.heap.size + 1) (by first | (simp; done) | omega)
 have l1 : w.heap.size < w1.heap.size := by omega
 have q1 : Below w.heap.size w w1 := b0.trans (hb1.mono (by first | omega | (simp; done)))
 go_wp2_with fail
 refine (C2'.out _).mono ?_
 rintro e w2 ⟨rfl, hb2⟩
 obtain ⟨gc2, gf2, gz2⟩ := bkeep hb2 (w.heap.size + 1) (by first | (simp; done) | omega)
 have l2 : w.heap.size < w2.heap.size := by omega
 have q2 : Below w.heap.size w w2 := q1.trans (hb2.mono (by first | omega | (simp; done)))
 go_wp2_with fail
 refine (CR'.out _).mono ?_
 rintro e w3 ⟨rfl, hb3⟩
 obtain ⟨gc3, gf3, gz3⟩ := bkeep hb3 (w.heap.size + 1) (by first | (simp; done) | omega)
 have l3 : w.heap.size < w3.heap.size := by omega
 have q3 : Below w.heap.size w w3 := q2.trans (hb3.mono (by first | omega | (simp; done)))
 go_wp2_with (go_at_call 11; refine (verr_any 5 _).mono ?_; rintro e w9 ⟨rfl, hb9⟩; obtain ⟨gc9, gf9, gz9⟩ := bkeep hb9 (w.heap.size + 1) (by first | omega | (simp <;> omega)))
 refine bodyPost_ret (v := .agg #[.int .i64 ((errL 5)).t, .int .i64 ((errL 5)).n, .string ((errL 5)).s, .bool ((errL 5)).b, .int .i64 ((errL 5)).c]) ?_ rfl ⟨rfl, belq⟩
 simp [results, Tryz.results118, go_sem, errL, *]
theorem aindex_r3 (x0 x1 x2 : AL) (text : Int) (w : World) (A : Option Addr) (cap : Nat) (hR : RdB w w.heap.size A 11 ([x0, x1, x2].map AL.cs)) (hin : ∀ x ∈ [x0, x1, x2], x.In w w.heap.size) (hc1 : intC x1.v = 0) (hc2 : intC x2.v = 0) (i j : Int) (hi : intV x1.v = i) (hj : intV x2.v = j) (hm : mayRectB x0.t x0.l x0.b x0.r = true) (t0 : ¬ i < 1) (t1 : ¬ rowsL x0 < i) (t2 : j < 1) : Calls Tryz.prog 118 #[.slice A 3 cap, .int .i64 text] w fun e w' => e = .returned (.agg #[.int .i64 ((errL 5)).t, .int .i64 ((errL 5)).n, .string ((errL 5)).s, .bool ((errL 5)).b, .int .i64 ((errL 5)).c]) ∧ Below w.heap.size w w' := by
 have b0 : Below w.heap.size w (w.alloc (.cells #[.int .i64 0, .int .i64 0, .string ⟨#[]⟩, .bool false, .int .i64 0] 26)) := (Below.refl _ _).alloc (Nat.le_refl _) _
 obtain ⟨ab, ao, hA2, hab, hcell⟩ := hR 0 x0.cs rfl
 obtain rfl : A = some ⟨ab, ao, none⟩ := hA2
 obtain ⟨hc0_, hc1_, hc2_, hc3_, hc4_, hc5_, hc6_, hc7_, hc8_, hc9_, hc10_⟩ := cs11_0 hcell
 have hcell1 : ∀ (j : Nat) (u : Value), x1.cs[j]? = some u → w.cell? ⟨ab, ao + 1 * 11 + j, none⟩ = some u := by
  obtain ⟨ab2, ao2, hA3, _, hcell1⟩ := hR 1 x1.cs rfl
  cases hA3
  exact hcell1
 obtain ⟨hd1_1, hd1_2, hd1_3, hd1_4, hd1_5⟩ := cs5_1 hcell1
 clear hcell1
 have hcell2 : ∀ (j : Nat) (u : Value), x2.cs[j]? = some u → w.cell? ⟨ab, ao + 2 * 11 + j, none⟩ = some u := by
  obtain ⟨ab2, ao2, hA3, _, hcell2⟩ := hR 2 x2.cs rfl
  cases hA3
  exact hcell2
 obtain ⟨hd2_1, hd2_2, hd2_3, hd2_4, hd2_5⟩ := cs5_2 hcell2
 clear hcell2
 have hne : ab ≠ w.heap.size := by omega
 have C1 := aint_any x1.v (hin x1 (by simp)).1 (w.alloc (.cells #[.int .i64 0, .int .i64 0, .string ⟨#[]⟩, .bool false, .int .i64 0] 26))
 have C2 := fun w' => aint_any x2.v (hin x2 (by simp)).1 w'
 rw [hc1, hi] at C1
 rw [hc2, hj] at C2
 obtain ⟨R, hRr⟩ : ∃ R, rowsL x0 = R := ⟨_, rfl⟩
 obtain ⟨C, hCc⟩ : ∃ C, colsL x0 = C := ⟨_, rfl⟩
 have CR := fun w' => arows_any x0 hm w'
 have CC := fun w' => acols_any x0 hm w'
 rw [hRr] at CR
 rw [hCc] at CC
 have hx0 := hin x0 (by simp)
 rw [hRr] at t1
 have C1' := Lib.hid C1
 have C2' := Lib.hid C2
 have CR' := Lib.hid CR
 have CC' := Lib.hid CC
 clear C1 C2 CR CC hc1 hc2 hi hj hcell hR hin hRr hCc hm hx0
 go_enter Tryz.func118, Tryz.ntmps118
 go_wp2_with fail
 refine C1'.out.mono ?_
 rintro e w1 ⟨rfl, hb1⟩
 obtain ⟨gc1, gf1, gz1⟩ := bkeep hb1 (w.heap.size + 1) (by first | (simp; done) | omega)
 have l1 : w.heap.size < w1.heap.size := by omega
 have q1 : Below w.heap.size w w1 := b0.trans (hb1.mono (by first | omega | (simp; done)))
 go_wp2_with fail
 refine (C2'.out _).mono ?_
 rintro e w2 ⟨rfl, hb2⟩
 obtain ⟨gc2, gf2, gz2⟩ := bkeep hb2 (w.heap.size + 1) (by first | (simp; done) | omega)
 have l2 : w.heap.size < w2.heap.size := by omega
 have q2 : Below w.heap.size w w2 := q1.trans (hb2.mono (by first | omega | (simp; done)))
 go_wp2_with fail
 refine (CR'.out _).mono ?_
 rintro e w3 ⟨rfl, hb3⟩
 obtain ⟨gc3, gf3, gz3⟩ := bkeep hb3 (w.heap.size + 1) (by first | (simp; done) | omega)
 have l3 : w.heap.size < w3.heap.size := by omega
 have q3 : Below w.heap.size w w3 := q2.trans (hb3.mono (by first | omega | (simp; done)))
 go_wp2_with (go_at_call 11; refine (verr_any 5 _).mono ?_; rintro e w9 ⟨rfl, hb9⟩; obtain ⟨gc9, gf9, gz9⟩ := bkeep hb9 (w.heap.size + 1) (by first | omega | (simp <;> omega)))
 refine bodyPost_ret (v := .agg #[.int .i64 ((errL 5)).t, .int .i64 ((errL 5)).n, .string ((errL 5)).s, .bool ((errL 5)).b, .int .i64 ((errL 5)).c]) ?_ rfl ⟨rfl, belq⟩
 simp [results, Tryz.results118, go_sem, errL, *]
theorem aindex_r4 (x0 x1 x2 : AL) (text : Int) (w : World) (A : Option Addr) (cap : Nat) (hR : RdB w w.heap.size A 11 ([x0, x1, x2].map AL.cs)) (hin : ∀ x ∈ [x0, x1, x2], x.In w w.heap.size) (hc1 : intC x1.v = 0) (hc2 : intC x2.v = 0) (i j : Int) (hi : intV x1.v = i) (hj : intV x2.v = j) (hm : mayRectB x0.t x0.l x0.b x0.r = true) (t0 : ¬ i < 1) (t1 : ¬ rowsL x0 < i) (t2 : ¬ j < 1) (t3 : colsL x0 < j) : Calls Tryz.prog 118 #[.slice A 3 cap, .int .i64 text] w fun e w' => e = .returned (.agg #[.int .i64 ((errL 5)).t, .int .i64 ((errL 5)).n, .string ((errL 5)).s, .bool ((errL 5)).b, .int .i64 ((errL 5)).c]) ∧ Below w.heap.size w w' := by
 have b0 : Below w.heap.size w (w.alloc (.cells #[.int .i64 0, .int .i64 0, .string ⟨#[]⟩, .bool false, .int .i64 0] 26)) := (Below.refl _ _).alloc (Nat.le_refl _) _
 obtain ⟨ab, ao, hA2, hab, hcell⟩ := hR 0 x0.cs rfl
 obtain rfl : A = some ⟨ab, ao, none⟩ := hA2
 obtain ⟨hc0_, hc1_, hc2_, hc3_, hc4_, hc5_, hc6_, hc7_, hc8_, hc9_, hc10_⟩ := cs11_0 hcell
 have hcell1 : ∀ (j : Nat) (u : Value), x1.cs[j]? = some u → w.cell? ⟨ab, ao + 1 * 11 + j, none⟩ = some u := by
  obtain ⟨ab2, ao2, hA3, _, hcell1⟩ := hR 1 x1.cs rfl
  cases hA3
  exact hcell1
 obtain ⟨hd1_1, hd1_2, hd1_3, hd1_4, hd1_5⟩ := cs5_1 hcell1
 clear hcell1
 have hcell2 : ∀ (j : Nat) (u : Value), x2.cs[j]? = some u → w.cell? ⟨ab, ao + 2 * 11 + j, none⟩ = some u := by
  obtain ⟨ab2, ao2, hA3, _, hcell2⟩ := hR 2 x2.cs rfl
  cases hA3
  exact hcell2
 obtain ⟨hd2_1, hd2_2, hd2_3, hd2_4, hd2_5⟩ := cs5_2 hcell2
 clear hcell2
 have hne : ab ≠ w.heap.size := by omega
 have C1 := aint_any x1.v (hin x1 (by simp)).1 (w.alloc (.cells #[.int .i64 0, .int .i64 0, .string ⟨#[]⟩, .bool false, .int .i64 0] 26))
 have C2 := fun w' => aint_any x2.v (hin x2 (by simp)).1 w'
 rw [hc1, hi] at C1
 rw [hc2, hj] at C2
 obtain ⟨R, hRr⟩ : ∃ R, rowsL x0 = R := ⟨_, rfl⟩
 obtain ⟨C, hCc⟩ : ∃ C, colsL x0 = C := ⟨_, rfl⟩
 have CR := fun w' => arows_any x0 hm w'
 have CC := fun w' => acols_any x0 hm w'
 rw [hRr] at CR
 rw [hCc] at CC
 have hx0 := hin x0 (by simp)
 rw [hRr] at t1
 rw [hCc] at t3
 have C1' := Lib.hid C1
 have C2' := Lib.hid C2
 have CR' := Lib.hid CR
 have CC' := Lib.hid CC
 clear C1 C2 CR CC hc1 hc2 hi hj hcell hR hin hRr hCc hm hx0
 go_enter Tryz.func118, Tryz.ntmps118
 go_wp2_with fail
 refine C1'.out.mono ?_
 rintro e w1 ⟨rfl, hb1⟩
 obtain ⟨gc1, gf1, gz1⟩ := bkeep hb1 (w.heap.size + 1) (by first | (simp; done) | omega)
 have l1 : w.heap.size < w1.heap.size := by omega
 have q1 : Below w.heap.size w w1 := b0.trans (hb1.mono (by first | omega | (simp; done)))
 go_wp2_with fail
 refine (C2'.out _).mono ?_
 rintro e w2 ⟨rfl, hb2⟩
 obtain ⟨gc2, gf2, gz2⟩ := bkeep hb2 (w.heap.size + 1) (by first | (simp; done) | omega)
 have l2 : w.heap.size < w2.heap.size := by omega
 have q2 : Below w.heap.size w w2 := q1.trans (hb2.mono (by first | omega | (simp; done)))
 go_wp2_with fail
 refine (CR'.out _).mono ?_
 rintro e w3 ⟨rfl, hb3⟩
 obtain ⟨gc3, gf3, gz3⟩ := bkeep hb3 (w.heap.size + 1) (by first | (simp; done) | omega)
 have l3 : w.heap.size < w3.heap.size := by omega
 have q3 : Below w.heap.size w w3 := q2.trans (hb3.mono (by first | omega | (simp; done)))
 go_wp2_with fail
 refine (CC'.out _).mono ?_
 rintro e w4 ⟨rfl, hb4⟩
 obtain ⟨gc4, gf4, gz4⟩ := bkeep hb4 (w.heap.size + 1) (by first | (simp; done) | omega)
 have l4 : w.heap.size < w4.heap.size := by omega
 have q4 : Below w.heap.size w w4 := q3.trans (hb4.mono (by first | omega | (simp; done)))
 go_wp2_with (go_at_call 11; refine (verr_any 5 _).mono ?_; rintro e w9 ⟨rfl, hb9⟩; obtain ⟨gc9, gf9, gz9⟩ := bkeep hb9 (w.heap.size + 1) (by first | omega | (simp <;> omega)))
 refine bodyPost_ret (v := .agg #[.int .i64 ((errL 5)).t, .int .i64 ((errL 5)).n, .string ((errL 5)).s, .bool ((errL 5)).b, .int .i64 ((errL 5)).c]) ?_ rfl ⟨rfl, belq⟩
 simp [results, Tryz.results118, go_sem, errL, *]
theorem aindex_y (x0 x1 x2 : AL) (text : Int) (w : World) (A : Option Addr) (cap : Nat) (hR : RdB w w.heap.size A 11 ([x0, x1, x2].map AL.cs)) (hin : ∀ x ∈ [x0, x1, x2], x.In w w.heap.size) (hc1 : intC x1.v = 0) (hc2 : intC x2.v = 0) (i j : Int) (hi : intV x1.v = i) (hj : intV x2.v = j) (hm : mayRectB x0.t x0.l x0.b x0.r = true) (he : entsOk x0 = true) (t0 : ¬ i < 1) (t1 : ¬ rowsL x0 < i) (t2 : ¬ j < 1) (t3 : ¬ colsL x0 < j) : Calls Tryz.prog 118 #[.slice A 3 cap, .int .i64 text] w fun e w' => e = .returned (.agg #[.int .i64 ((lookP (heldL x0) (i - 1, j - 1))).t, .int .i64 ((lookP (heldL x0) (i - 1, j - 1))).n, .string ((lookP (heldL x0) (i - 1, j - 1))).s, .bool ((lookP (heldL x0) (i - 1, j - 1))).b, .int .i64 ((lookP (heldL x0) (i - 1, j - 1))).c]) ∧ Below w.heap.size w w' := by
 have b0 : Below w.heap.size w (w.alloc (.cells #[.int .i64 0, .int .i64 0, .string ⟨#[]⟩, .bool false, .int .i64 0] 26)) := (Below.refl _ _).alloc (Nat.le_refl _) _
 obtain ⟨ab, ao, hA2, hab, hcell⟩ := hR 0 x0.cs rfl
 obtain rfl : A = some ⟨ab, ao, none⟩ := hA2
 obtain ⟨hc0_, hc1_, hc2_, hc3_, hc4_, hc5_, hc6_, hc7_, hc8_, hc9_, hc10_⟩ := cs11_0 hcell
 have hcell1 : ∀ (j : Nat) (u : Value), x1.cs[j]? = some u → w.cell? ⟨ab, ao + 1 * 11 + j, none⟩ = some u := by
  obtain ⟨ab2, ao2, hA3, _, hcell1⟩ := hR 1 x1.cs rfl
  cases hA3
  exact hcell1
 obtain ⟨hd1_1, hd1_2, hd1_3, hd1_4, hd1_5⟩ := cs5_1 hcell1
 clear hcell1
 have hcell2 : ∀ (j : Nat) (u : Value), x2.cs[j]? = some u → w.cell? ⟨ab, ao + 2 * 11 + j, none⟩ = some u := by
  obtain ⟨ab2, ao2, hA3, _, hcell2⟩ := hR 2 x2.cs rfl
  cases hA3
  exact hcell2
 obtain ⟨hd2_1, hd2_2, hd2_3, hd2_4, hd2_5⟩ := cs5_2 hcell2
 clear hcell2
 have hne : ab ≠ w.heap.size := by omega
 have C1 := aint_any x1.v (hin x1 (by simp)).1 (w.alloc (.cells #[.int .i64 0, .int .i64 0, .string ⟨#[]⟩, .bool false, .int .i64 0] 26))
 have C2 := fun w' => aint_any x2.v (hin x2 (by simp)).1 w'
 rw [hc1, hi] at C1
 rw [hc2, hj] at C2
 obtain ⟨R, hRr⟩ : ∃ R, rowsL x0 = R := ⟨_, rfl⟩
 obtain ⟨C, hCc⟩ : ∃ C, colsL x0 = C := ⟨_, rfl⟩
 have CR := fun w' => arows_any x0 hm w'
 have CC := fun w' => acols_any x0 hm w'
 rw [hRr] at CR
 rw [hCc] at CC
 have hx0 := hin x0 (by simp)
 rw [hRr] at t1
 rw [hCc] at t3
 obtain ⟨m1, m2, m3, m4, m5, m6⟩ := rect_in hm
 have hR9 : R ≤ 1048576 := by unfold rowsL at hRr; omega
 have hC9 : C ≤ 1048576 := by unfold colsL at hCc; omega
 have e1 : IntKind.i64.wrap (i - 1) = i - 1 := IntWalk.i64_in _ (by omega)
 have e2 : IntKind.i64.wrap (j - 1) = j - 1 := IntWalk.i64_in _ (by omega)
 have hpb : plB (i - 1, j - 1) := by unfold plB; dsimp only; omega
 have CH := fun (w' : World) (q' : Below w.heap.size w w') => aheld_any x0 hm he w' ((hx0.below q').mono q'.size)
 have CH' := Lib.hid CH
 have hpb' := Lib.hid hpb
 clear CH hpb m1 m2 m3 m4 m5 m6 hR9 hC9
 have C1' := Lib.hid C1
 have C2' := Lib.hid C2
 have CR' := Lib.hid CR
 have CC' := Lib.hid CC
 clear C1 C2 CR CC hc1 hc2 hi hj hcell hR hin hRr hCc hm hx0 he
 go_enter Tryz.func118, Tryz.ntmps118
 go_wp2_with fail
 refine C1'.out.mono ?_
 rintro e w1 ⟨rfl, hb1⟩
 obtain ⟨gc1, gf1, gz1⟩ := bkeep hb1 (w.heap.size + 1) (by first | (simp; done) | omega)
 have l1 : w.heap.size < w1.heap.size := by omega
 have q1 : Below w.heap.size w w1 := b0.trans (hb1.mono (by first | omega | (simp; done)))
 go_wp2_with fail
 refine (C2'.out _).mono ?_
 rintro e w2 ⟨rfl, hb2⟩
 obtain ⟨gc2, gf2, gz2⟩ := bkeep hb2 (w.heap.size + 1) (by first | (simp; done) | omega)
 have l2 : w.heap.size < w2.heap.size := by omega
 have q2 : Below w.heap.size w w2 := q1.trans (hb2.mono (by first | omega | (simp; done)))
 go_wp2_with fail
 refine (CR'.out _).mono ?_
 rintro e w3 ⟨rfl, hb3⟩
 obtain ⟨gc3, gf3, gz3⟩ := bkeep hb3 (w.heap.size + 1) (by first | (simp; done) | omega)
 have l3 : w.heap.size < w3.heap.size := by omega
 have q3 : Below w.heap.size w w3 := q2.trans (hb3.mono (by first | omega | (simp; done)))
 go_wp2_with fail
 refine (CC'.out _).mono ?_
 rintro e w4 ⟨rfl, hb4⟩
 obtain ⟨gc4, gf4, gz4⟩ := bkeep hb4 (w.heap.size + 1) (by first | (simp; done) | omega)
 have l4 : w.heap.size < w4.heap.size := by omega
 have q4 : Below w.heap.size w w4 := q3.trans (hb4.mono (by first | omega | (simp; done)))
 go_wp2_with fail
 refine (CH'.out _ q4).mono ?_
 clear CH'
 rintro e w5 ⟨⟨b, rfl, hbl, hown⟩, hb5⟩
 obtain ⟨gc5, gf5, gz5⟩ := bkeep hb5 (w.heap.size + 1) (by omega)
 have l5 : w.heap.size < w5.heap.size := by omega
 have hrun := run_lookP hown hpb'.out
 obtain ⟨y, hy⟩ : ∃ y, lookP (heldL x0) (i - 1, j - 1) = y := ⟨_, rfl⟩
 rw [hy] at hrun
 have hy' := Lib.hid hy
 unfold vlV at hrun
 dsimp only at hrun
 clear hown hpb' hy
 go_wp2
 refine bodyPost_ret (v := .agg #[.int .i64 (y).t, .int .i64 (y).n, .string (y).s, .bool (y).b, .int .i64 (y).c]) ?_ rfl ⟨by rw [hy'.out], belq⟩
 simp [results, Tryz.results118, go_sem, *]
def indexR (x0 x1 x2 : AL) : VL :=
 if intC x1.v = 0 then
  if intC x2.v = 0 then
   if intV x1.v < 1 ∨ rowsL x0 < intV x1.v ∨ intV x2.v < 1 ∨ colsL x0 < intV x2.v then errL 5 else lookP (heldL x0) (intV x1.v - 1, intV x2.v - 1)
  else errL (intC x2.v)
 else errL (intC x1.v)
theorem aindex_any (x0 x1 x2 : AL) (text : Int) (w : World) (A : Option Addr) (cap : Nat) (hR : RdB w w.heap.size A 11 ([x0, x1, x2].map AL.cs)) (hin : ∀ x ∈ [x0, x1, x2], x.In w w.heap.size) (hm : mayRectB x0.t x0.l x0.b x0.r = true) (he : entsOk x0 = true) : Calls Tryz.prog 118 #[.slice A 3 cap, .int .i64 text] w fun e w' => e = .returned (.agg #[.int .i64 ((indexR x0 x1 x2)).t, .int .i64 ((indexR x0 x1 x2)).n, .string ((indexR x0 x1 x2)).s, .bool ((indexR x0 x1 x2)).b, .int .i64 ((indexR x0 x1 x2)).c]) ∧ Below w.heap.size w w' := by
 unfold indexR
 by_cases h1 : intC x1.v = 0
 ·rw [if_pos h1]
  by_cases h2 : intC x2.v = 0
  ·rw [if_pos h2]
   by_cases t0 : intV x1.v < 1
   ·rw [if_pos (Or.inl t0)]; exact aindex_r1 x0 x1 x2 text w A cap hR hin h1 h2 _ _ rfl rfl hm t0
   by_cases t1 : rowsL x0 < intV x1.v
   ·rw [if_pos (Or.inr (Or.inl t1))]; exact aindex_r2 x0 x1 x2 text w A cap hR hin h1 h2 _ _ rfl rfl hm t0 t1
   by_cases t2 : intV x2.v < 1
   ·rw [if_pos (Or.inr (Or.inr (Or.inl t2)))]; exact aindex_r3 x0 x1 x2 text w A cap hR hin h1 h2 _ _ rfl rfl hm t0 t1 t2
   by_cases t3 : colsL x0 < intV x2.v
   ·rw [if_pos (Or.inr (Or.inr (Or.inr t3)))]; exact aindex_r4 x0 x1 x2 text w A cap hR hin h1 h2 _ _ rfl rfl hm t0 t1 t2 t3
   rw [if_neg (by omega)]
   exact aindex_y x0 x1 x2 text w A cap hR hin h1 h2 _ _ rfl rfl hm he t0 t1 t2 t3
  ·rw [if_neg h2]; exact aindex_c2 x0 x1 x2 text w A cap hR hin h1 _ rfl h2
 ·rw [if_neg h1]; exact aindex_c1 x0 x1 x2 text w A cap hR hin _ rfl h1
end Go.Proofs.YtgmhifafbebjfaaGreatDoor
