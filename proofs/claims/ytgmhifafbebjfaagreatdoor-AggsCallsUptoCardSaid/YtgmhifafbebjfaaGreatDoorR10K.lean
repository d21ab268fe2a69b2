/-
 the document's aggs: folded.
-/
import Derived.Test.YtgmhifafbebjfaaGreatDoorMg37
import Derived.Test.YtgmhifafbebjfaaGreatDoorMg40
import Derived.Test.YtgmhifafbebjfaaGreatDoorR10D
set_option maxRecDepth 100000
set_option maxHeartbeats 32000000
namespace Go.Proofs.YtgmhifafbebjfaaGreatDoor
open Go.RowKit

theorem r10fold_SUM (l : List VL) (hl : ∀ v ∈ l, v.ok) (hlen : l.length ≤ 1073741824) (w : World) (A : Option Addr) (cap : Nat) (hR : RdB w w.heap.size A 5 (l.map VL.cs)) : Calls Tryz.prog 53 #[.string ⟨#[83, 85, 77]⟩, .slice A l.length cap] w fun e w' => e = .returned (.agg #[.int .i64 ((faultR l (fitL (numsL l).sum))).t, .int .i64 ((faultR l (fitL (numsL l).sum))).n, .string ((faultR l (fitL (numsL l).sum))).s, .bool ((faultR l (fitL (numsL l).sum))).b, .int .i64 ((faultR l (fitL (numsL l).sum))).c]) ∧ Below w.heap.size w w' := by
 obtain ⟨V, hV0⟩ : ∃ V, faultR l (fitL (numsL l).sum) = V := ⟨_, rfl⟩
 rw [hV0]
 have hV := Lib.hid hV0
 have b0 : Below w.heap.size w (w.alloc (.cells #[.int .i64 0, .int .i64 0, .string ⟨#[]⟩, .bool false, .int .i64 0] 26)) := (Below.refl _ _).alloc (Nat.le_refl _) _
 have CF := Lib.hid (r10faulty l (by omega) (w.alloc (.cells #[.int .i64 0, .int .i64 0, .string ⟨#[]⟩, .bool false, .int .i64 0] 26)) A cap ((hR.below b0).mono b0.size))
 have hR' := Lib.hid hR
 have hl' := Lib.hid hl
 have hno := nums_ok hl
 have hnl := numsL_len l
 have hS : Hid (∀ x ∈ sortL (numsL l), -9223372036854775808 ≤ x ∧ x ≤ 9223372036854775807) := Lib.hid fun x hx => hno x (sortL_mem.1 hx)
 clear hV0 hR hl
 go_enter Tryz.func53, Tryz.ntmps53
 cases hfl : fltL l with
 |
  some f =>
  have hVe := Lib.hid (show V = f from by rw [← hV.out]; unfold faultR; rw [show l.find? (fun v => decide (v.t = 4)) = some f from hfl])
  rw [fltV_some hfl, hfl] at CF
  simp only [Option.isSome_some] at CF
  go_wp2_with (refine CF.out.mono ?_; rintro e w9 ⟨rfl, hb⟩; obtain ⟨hc, hf, hz⟩ := bkeep hb (w.heap.size + 1) (by first | omega | (simp <;> omega)); have hz9 : w.heap.size ≠ w9.heap.size := (by omega); have hz8 : w.heap.size < w9.heap.size := by omega)
  refine bodyPost_ret (v := .agg #[.int .i64 (f).t, .int .i64 (f).n, .string (f).s, .bool (f).b, .int .i64 (f).c]) ?_ rfl ⟨by rw [hVe.out], belq⟩
  simp [results, Tryz.results53, go_sem, *]
 |
  none =>
  have hVV3 := Lib.hid (show V = fitL (numsL l).sum from by rw [← hV.out]; unfold faultR; rw [show l.find? (fun v => decide (v.t = 4)) = none from hfl])
  rw [hfl] at CF
  simp only [Option.isSome_none] at CF
  clear hV hfl
  go_wp2_with fail
  refine CF.out.mono ?_
  clear CF
  rintro e w3 ⟨rfl, hb3⟩
  have h3 : Below (w.heap.size + 1) (w.alloc (.cells #[.int .i64 0, .int .i64 0, .string ⟨#[]⟩, .bool false, .int .i64 0] 26)) (w3.alloc (.cells #[.int .i64 (fltV l).t, .int .i64 (fltV l).n, .string (fltV l).s, .bool (fltV l).b, .int .i64 (fltV l).c] 26)) := (hb3.mono (by simp)).alloc (by have := hb3.size; simp at this; omega) _
  have g3 : Below w.heap.size w (w3.alloc (.cells #[.int .i64 (fltV l).t, .int .i64 (fltV l).n, .string (fltV l).s, .bool (fltV l).b, .int .i64 (fltV l).c] 26)) := b0.trans (h3.mono (by omega))
  have CN := Lib.hid (r10numbers l (by omega) (w3.alloc (.cells #[.int .i64 (fltV l).t, .int .i64 (fltV l).n, .string (fltV l).s, .bool (fltV l).b, .int .i64 (fltV l).c] 26)) A cap ((hR'.out.below g3).mono g3.size))
  have hz3 := hb3.size
  simp only [World.size_alloc] at hz3
  clear hb3
  go_wp2_with fail
  refine CN.out.mono ?_
  clear CN
  rintro e w4 ⟨⟨u4, rfl, hown4⟩, hb4⟩
  have h4 : Below (w.heap.size + 1) (w.alloc (.cells #[.int .i64 0, .int .i64 0, .string ⟨#[]⟩, .bool false, .int .i64 0] 26)) w4 := h3.trans (hb4.mono (by simp; omega))
  have hz4 := h4.size
  simp only [World.size_alloc] at hz4
  have g_w4 : Below w.heap.size w w4 := b0.trans (h4.mono (by omega))
  have l0 : w.heap.size < w4.heap.size := by omega
  obtain ⟨hr0, hr1, hr2, hr3, hr4, hs0, hs1, hs2, hs3, hs4⟩ := res5 h4
  clear h3 g3 hb4 h4 hz3
  obtain ⟨A4, cap4, rfl, hrd4⟩ := own_rdi hown4
  have CS := Lib.hid (r10sum (sortL (numsL l)) hS.out (by rw [sortL_len]; omega) w4 A4 cap4 hrd4)
  rw [numsL_perm_sum] at CS
  have hVe := Lib.hid (show V = fitL (numsL l).sum from hVV3.out)
  clear hrd4 hown4
  go_wp2_with (go_at_call 129; refine (CS.out).mono ?_; rintro e w9 ⟨rfl, hb⟩; obtain ⟨hc, hf, hz⟩ := bkeep hb w4.heap.size (by first | omega | (simp <;> omega)))
  refine bodyPost_ret (v := .agg #[.int .i64 ((fitL (numsL l).sum)).t, .int .i64 ((fitL (numsL l).sum)).n, .string ((fitL (numsL l).sum)).s, .bool ((fitL (numsL l).sum)).b, .int .i64 ((fitL (numsL l).sum)).c]) ?_ rfl ⟨by rw [hVe.out], belq⟩
  simp [results, Tryz.results53, go_sem, *]
theorem r10fold_PROD (l : List VL) (hl : ∀ v ∈ l, v.ok) (hlen : l.length ≤ 1073741824) (w : World) (A : Option Addr) (cap : Nat) (hR : RdB w w.heap.size A 5 (l.map VL.cs)) : Calls Tryz.prog 53 #[.string ⟨#[80, 82, 79, 68]⟩, .slice A l.length cap] w fun e w' => e = .returned (.agg #[.int .i64 ((faultR l (prodG 10000 (numsL l)))).t, .int .i64 ((faultR l (prodG 10000 (numsL l)))).n, .string ((faultR l (prodG 10000 (numsL l)))).s, .bool ((faultR l (prodG 10000 (numsL l)))).b, .int .i64 ((faultR l (prodG 10000 (numsL l)))).c]) ∧ Below w.heap.size w w' := by
 obtain ⟨V, hV0⟩ : ∃ V, faultR l (prodG 10000 (numsL l)) = V := ⟨_, rfl⟩
 rw [hV0]
 have hV := Lib.hid hV0
 have b0 : Below w.heap.size w (w.alloc (.cells #[.int .i64 0, .int .i64 0, .string ⟨#[]⟩, .bool false, .int .i64 0] 26)) := (Below.refl _ _).alloc (Nat.le_refl _) _
 have CF := Lib.hid (r10faulty l (by omega) (w.alloc (.cells #[.int .i64 0, .int .i64 0, .string ⟨#[]⟩, .bool false, .int .i64 0] 26)) A cap ((hR.below b0).mono b0.size))
 have hR' := Lib.hid hR
 have hl' := Lib.hid hl
 have hno := nums_ok hl
 have hnl := numsL_len l
 have hS : Hid (∀ x ∈ sortL (numsL l), -9223372036854775808 ≤ x ∧ x ≤ 9223372036854775807) := Lib.hid fun x hx => hno x (sortL_mem.1 hx)
 clear hV0 hR hl
 go_enter Tryz.func53, Tryz.ntmps53
 cases hfl : fltL l with
 |
  some f =>
  have hVe := Lib.hid (show V = f from by rw [← hV.out]; unfold faultR; rw [show l.find? (fun v => decide (v.t = 4)) = some f from hfl])
  rw [fltV_some hfl, hfl] at CF
  simp only [Option.isSome_some] at CF
  go_wp2_with (refine CF.out.mono ?_; rintro e w9 ⟨rfl, hb⟩; obtain ⟨hc, hf, hz⟩ := bkeep hb (w.heap.size + 1) (by first | omega | (simp <;> omega)); have hz9 : w.heap.size ≠ w9.heap.size := (by omega); have hz8 : w.heap.size < w9.heap.size := by omega)
  refine bodyPost_ret (v := .agg #[.int .i64 (f).t, .int .i64 (f).n, .string (f).s, .bool (f).b, .int .i64 (f).c]) ?_ rfl ⟨by rw [hVe.out], belq⟩
  simp [results, Tryz.results53, go_sem, *]
 |
  none =>
  have hVV3 := Lib.hid (show V = prodG 10000 (numsL l) from by rw [← hV.out]; unfold faultR; rw [show l.find? (fun v => decide (v.t = 4)) = none from hfl])
  rw [hfl] at CF
  simp only [Option.isSome_none] at CF
  clear hV hfl
  go_wp2_with fail
  refine CF.out.mono ?_
  clear CF
  rintro e w3 ⟨rfl, hb3⟩
  have h3 : Below (w.heap.size + 1) (w.alloc (.cells #[.int .i64 0, .int .i64 0, .string ⟨#[]⟩, .bool false, .int .i64 0] 26)) (w3.alloc (.cells #[.int .i64 (fltV l).t, .int .i64 (fltV l).n, .string (fltV l).s, .bool (fltV l).b, .int .i64 (fltV l).c] 26)) := (hb3.mono (by simp)).alloc (by have := hb3.size; simp at this; omega) _
  have g3 : Below w.heap.size w (w3.alloc (.cells #[.int .i64 (fltV l).t, .int .i64 (fltV l).n, .string (fltV l).s, .bool (fltV l).b, .int .i64 (fltV l).c] 26)) := b0.trans (h3.mono (by omega))
  have CN := Lib.hid (r10numbers l (by omega) (w3.alloc (.cells #[.int .i64 (fltV l).t, .int .i64 (fltV l).n, .string (fltV l).s, .bool (fltV l).b, .int .i64 (fltV l).c] 26)) A cap ((hR'.out.below g3).mono g3.size))
  have hz3 := hb3.size
  simp only [World.size_alloc] at hz3
  clear hb3
  go_wp2_with fail
  refine CN.out.mono ?_
  clear CN
  rintro e w4 ⟨⟨u4, rfl, hown4⟩, hb4⟩
  have h4 : Below (w.heap.size + 1) (w.alloc (.cells #[.int .i64 0, .int .i64 0, .string ⟨#[]⟩, .bool false, .int .i64 0] 26)) w4 := h3.trans (hb4.mono (by simp; omega))
  have hz4 := h4.size
  simp only [World.size_alloc] at hz4
  have g_w4 : Below w.heap.size w w4 := b0.trans (h4.mono (by omega))
  have l0 : w.heap.size < w4.heap.size := by omega
  obtain ⟨hr0, hr1, hr2, hr3, hr4, hs0, hs1, hs2, hs3, hs4⟩ := res5 h4
  clear h3 g3 hb4 h4 hz3
  obtain ⟨A4, cap4, rfl, hrd4⟩ := own_rdi hown4
  have CS := Lib.hid (r10prod l hl'.out (by omega) w4 A cap ((hR'.out.below g_w4).mono g_w4.size))
  have hVe := Lib.hid (show V = prodG 10000 (numsL l) from hVV3.out)
  clear hrd4 hown4
  go_wp2_with (go_at_call 133; refine (CS.out).mono ?_; rintro e w9 ⟨rfl, hb⟩; obtain ⟨hc, hf, hz⟩ := bkeep hb w4.heap.size (by first | omega | (simp <;> omega)))
  refine bodyPost_ret (v := .agg #[.int .i64 ((prodG 10000 (numsL l))).t, .int .i64 ((prodG 10000 (numsL l))).n, .string ((prodG 10000 (numsL l))).s, .bool ((prodG 10000 (numsL l))).b, .int .i64 ((prodG 10000 (numsL l))).c]) ?_ rfl ⟨by rw [hVe.out], belq⟩
  simp [results, Tryz.results53, go_sem, *]
theorem r10fold_MIN (l : List VL) (hl : ∀ v ∈ l, v.ok) (hlen : l.length ≤ 1073741824) (w : World) (A : Option Addr) (cap : Nat) (hR : RdB w w.heap.size A 5 (l.map VL.cs)) : Calls Tryz.prog 53 #[.string ⟨#[77, 73, 78]⟩, .slice A l.length cap] w fun e w' => e = .returned (.agg #[.int .i64 ((faultR l (someR (numsL l) (Lib.minOf (numsL l))))).t, .int .i64 ((faultR l (someR (numsL l) (Lib.minOf (numsL l))))).n, .string ((faultR l (someR (numsL l) (Lib.minOf (numsL l))))).s, .bool ((faultR l (someR (numsL l) (Lib.minOf (numsL l))))).b, .int .i64 ((faultR l (someR (numsL l) (Lib.minOf (numsL l))))).c]) ∧ Below w.heap.size w w' := by
 obtain ⟨V, hV0⟩ : ∃ V, faultR l (someR (numsL l) (Lib.minOf (numsL l))) = V := ⟨_, rfl⟩
 rw [hV0]
 have hV := Lib.hid hV0
 have b0 : Below w.heap.size w (w.alloc (.cells #[.int .i64 0, .int .i64 0, .string ⟨#[]⟩, .bool false, .int .i64 0] 26)) := (Below.refl _ _).alloc (Nat.le_refl _) _
 have CF := Lib.hid (r10faulty l (by omega) (w.alloc (.cells #[.int .i64 0, .int .i64 0, .string ⟨#[]⟩, .bool false, .int .i64 0] 26)) A cap ((hR.below b0).mono b0.size))
 have hR' := Lib.hid hR
 have hl' := Lib.hid hl
 have hno := nums_ok hl
 have hnl := numsL_len l
 have hS : Hid (∀ x ∈ sortL (numsL l), -9223372036854775808 ≤ x ∧ x ≤ 9223372036854775807) := Lib.hid fun x hx => hno x (sortL_mem.1 hx)
 clear hV0 hR hl
 go_enter Tryz.func53, Tryz.ntmps53
 cases hfl : fltL l with
 |
  some f =>
  have hVe := Lib.hid (show V = f from by rw [← hV.out]; unfold faultR; rw [show l.find? (fun v => decide (v.t = 4)) = some f from hfl])
  rw [fltV_some hfl, hfl] at CF
  simp only [Option.isSome_some] at CF
  go_wp2_with (refine CF.out.mono ?_; rintro e w9 ⟨rfl, hb⟩; obtain ⟨hc, hf, hz⟩ := bkeep hb (w.heap.size + 1) (by first | omega | (simp <;> omega)); have hz9 : w.heap.size ≠ w9.heap.size := (by omega); have hz8 : w.heap.size < w9.heap.size := by omega)
  refine bodyPost_ret (v := .agg #[.int .i64 (f).t, .int .i64 (f).n, .string (f).s, .bool (f).b, .int .i64 (f).c]) ?_ rfl ⟨by rw [hVe.out], belq⟩
  simp [results, Tryz.results53, go_sem, *]
 |
  none =>
  have hVV3 := Lib.hid (show V = someR (numsL l) (Lib.minOf (numsL l)) from by rw [← hV.out]; unfold faultR; rw [show l.find? (fun v => decide (v.t = 4)) = none from hfl])
  rw [hfl] at CF
  simp only [Option.isSome_none] at CF
  clear hV hfl
  go_wp2_with fail
  refine CF.out.mono ?_
  clear CF
  rintro e w3 ⟨rfl, hb3⟩
  have h3 : Below (w.heap.size + 1) (w.alloc (.cells #[.int .i64 0, .int .i64 0, .string ⟨#[]⟩, .bool false, .int .i64 0] 26)) (w3.alloc (.cells #[.int .i64 (fltV l).t, .int .i64 (fltV l).n, .string (fltV l).s, .bool (fltV l).b, .int .i64 (fltV l).c] 26)) := (hb3.mono (by simp)).alloc (by have := hb3.size; simp at this; omega) _
  have g3 : Below w.heap.size w (w3.alloc (.cells #[.int .i64 (fltV l).t, .int .i64 (fltV l).n, .string (fltV l).s, .bool (fltV l).b, .int .i64 (fltV l).c] 26)) := b0.trans (h3.mono (by omega))
  have CN := Lib.hid (r10numbers l (by omega) (w3.alloc (.cells #[.int .i64 (fltV l).t, .int .i64 (fltV l).n, .string (fltV l).s, .bool (fltV l).b, .int .i64 (fltV l).c] 26)) A cap ((hR'.out.below g3).mono g3.size))
  have hz3 := hb3.size
  simp only [World.size_alloc] at hz3
  clear hb3
  go_wp2_with fail
  refine CN.out.mono ?_
  clear CN
  rintro e w4 ⟨⟨u4, rfl, hown4⟩, hb4⟩
  have h4 : Below (w.heap.size + 1) (w.alloc (.cells #[.int .i64 0, .int .i64 0, .string ⟨#[]⟩, .bool false, .int .i64 0] 26)) w4 := h3.trans (hb4.mono (by simp; omega))
  have hz4 := h4.size
  simp only [World.size_alloc] at hz4
  have g_w4 : Below w.heap.size w w4 := b0.trans (h4.mono (by omega))
  have l0 : w.heap.size < w4.heap.size := by omega
  obtain ⟨hr0, hr1, hr2, hr3, hr4, hs0, hs1, hs2, hs3, hs4⟩ := res5 h4
  clear h3 g3 hb4 h4 hz3
  by_cases h0 : numsL l = []
  ·have hVe := Lib.hid (show V = errL 6 from by rw [hVV3.out]; unfold someR; rw [if_pos h0])
   obtain ⟨A4, cap4, rfl, hrd4⟩ := own_rdi hown4
   have hz0 : (sortL (numsL l)).length = 0 := by rw [sortL_len, h0]; rfl
   rw [hz0]
   clear hrd4 hown4
   go_wp2_with (go_at_call 20; refine (rverrA 6 _).mono ?_; rintro e w9 ⟨rfl, hb⟩; obtain ⟨hc, hf, hz⟩ := bkeep hb w4.heap.size (by first | omega | (simp <;> omega)))
   refine bodyPost_ret (v := .agg #[.int .i64 4, .int .i64 0, .string ⟨#[]⟩, .bool false, .int .i64 (errC 6)]) ?_ rfl ⟨by rw [hVe.out]; rfl, belq⟩
   simp [results, Tryz.results53, go_sem, *]
  ·have hlp : 0 < (numsL l).length := List.length_pos_iff.2 h0
   have hsl : (sortL (numsL l)).length = (numsL l).length := sortL_len _
   have hs0 : sortL (numsL l) ≠ [] := fun e9 => by rw [e9] at hsl; simp at hsl; omega
   have hVs := Lib.hid (show V = numL ((Lib.minOf (numsL l))) from by rw [hVV3.out]; unfold someR; rw [if_neg h0])
   obtain ⟨gb, gcap, rfl, hgb, hgc, hcs⟩ := own_rdc hown4 hs0
   have hmem : ∀ i, i < (numsL l).length → -9223372036854775808 ≤ (sortL (numsL l)).getD i 0 ∧ (sortL (numsL l)).getD i 0 ≤ 9223372036854775807 := fun i hi => hno _ (sortL_getD_mem hi)
   rw [hsl] at hgc hcs ⊢
   obtain ⟨N, hN⟩ : ∃ N, (numsL l).length = N := ⟨_, rfl⟩
   rw [hN] at hgc hcs hmem hlp hnl ⊢
   have hll : ¬ ((N : Int) = 0) := by omega
   have hll2 : ((N : Int) == 0) = false := by simp; omega
   have hll3 : (N == 0) = false := by simp; omega
   have hNp : (0 : Int) < (N : Int) := by omega
   have hNb : N ≤ 1073741824 := by omega
   clear hown4 hsl
   obtain ⟨y, hy⟩ : ∃ y, (sortL (numsL l)).getD 0 0 = y := ⟨_, rfl⟩
   have hck := hcs 0 (by omega)
   have hyb := hmem 0 (by omega)
   rw [hy] at hck hyb
   have hVe := Lib.hid (show V = numL y from by rw [hVs.out]; rw [← hy, sortL_first h0])
   have CY := rvnumA y hyb
   clear hcs hmem hy
   go_wp2_with (go_at_call 99; refine (CY _).mono ?_; rintro e w9 ⟨rfl, hb⟩; obtain ⟨hc, hf, hz⟩ := bkeep hb w4.heap.size (by first | omega | (simp <;> omega)))
   refine bodyPost_ret (v := .agg #[.int .i64 ((numL y)).t, .int .i64 ((numL y)).n, .string ((numL y)).s, .bool ((numL y)).b, .int .i64 ((numL y)).c]) ?_ rfl ⟨by rw [hVe.out], belq⟩
   simp [results, Tryz.results53, go_sem, numL, *]
theorem r10fold_MAX (l : List VL) (hl : ∀ v ∈ l, v.ok) (hlen : l.length ≤ 1073741824) (w : World) (A : Option Addr) (cap : Nat) (hR : RdB w w.heap.size A 5 (l.map VL.cs)) : Calls Tryz.prog 53 #[.string ⟨#[77, 65, 88]⟩, .slice A l.length cap] w fun e w' => e = .returned (.agg #[.int .i64 ((faultR l (someR (numsL l) (Lib.maxOf (numsL l))))).t, .int .i64 ((faultR l (someR (numsL l) (Lib.maxOf (numsL l))))).n, .string ((faultR l (someR (numsL l) (Lib.maxOf (numsL l))))).s, .bool ((faultR l (someR (numsL l) (Lib.maxOf (numsL l))))).b, .int .i64 ((faultR l (someR (numsL l) (Lib.maxOf (numsL l))))).c]) ∧ Below w.heap.size w w' := by
 obtain ⟨V, hV0⟩ : ∃ V, faultR l (someR (numsL l) (Lib.maxOf (numsL l))) = V := ⟨_, rfl⟩
 rw [hV0]
 have hV := Lib.hid hV0
 have b0 : Below w.heap.size w (w.alloc (.cells #[.int .i64 0, .int .i64 0, .string ⟨#[]⟩, .bool false, .int .i64 0] 26)) := (Below.refl _ _).alloc (Nat.le_refl _) _
 have CF := Lib.hid (r10faulty l (by omega) (w.alloc (.cells #[.int .i64 0, .int .i64 0, .string ⟨#[]⟩, .bool false, .int .i64 0] 26)) A cap ((hR.below b0).mono b0.size))
 have hR' := Lib.hid hR
 have hl' := Lib.hid hl
 have hno := nums_ok hl
 have hnl := numsL_len l
 have hS : Hid (∀ x ∈ sortL (numsL l), -9223372036854775808 ≤ x ∧ x ≤ 9223372036854775807) := Lib.hid fun x hx => hno x (sortL_mem.1 hx)
 clear hV0 hR hl
 go_enter Tryz.func53, Tryz.ntmps53
 cases hfl : fltL l with
 |
  some f =>
  have hVe := Lib.hid (show V = f from by rw [← hV.out]; unfold faultR; rw [show l.find? (fun v => decide (v.t = 4)) = some f from hfl])
  rw [fltV_some hfl, hfl] at CF
  simp only [Option.isSome_some] at CF
  go_wp2_with (refine CF.out.mono ?_; rintro e w9 ⟨rfl, hb⟩; obtain ⟨hc, hf, hz⟩ := bkeep hb (w.heap.size + 1) (by first | omega | (simp <;> omega)); have hz9 : w.heap.size ≠ w9.heap.size := (by omega); have hz8 : w.heap.size < w9.heap.size := by omega)
  refine bodyPost_ret (v := .agg #[.int .i64 (f).t, .int .i64 (f).n, .string (f).s, .bool (f).b, .int .i64 (f).c]) ?_ rfl ⟨by rw [hVe.out], belq⟩
  simp [results, Tryz.results53, go_sem, *]
 |
  none =>
  have hVV3 := Lib.hid (show V = someR (numsL l) (Lib.maxOf (numsL l)) from by rw [← hV.out]; unfold faultR; rw [show l.find? (fun v => decide (v.t = 4)) = none from hfl])
  rw [hfl] at CF
  simp only [Option.isSome_none] at CF
  clear hV hfl
  go_wp2_with fail
  refine CF.out.mono ?_
  clear CF
  rintro e w3 ⟨rfl, hb3⟩
  have h3 : Below (w.heap.size + 1) (w.alloc (.cells #[.int .i64 0, .int .i64 0, .string ⟨#[]⟩, .bool false, .int .i64 0] 26)) (w3.alloc (.cells #[.int .i64 (fltV l).t, .int .i64 (fltV l).n, .string (fltV l).s, .bool (fltV l).b, .int .i64 (fltV l).c] 26)) := (hb3.mono (by simp)).alloc (by have := hb3.size; simp at this; omega) _
  have g3 : Below w.heap.size w (w3.alloc (.cells #[.int .i64 (fltV l).t, .int .i64 (fltV l).n, .string (fltV l).s, .bool (fltV l).b, .int .i64 (fltV l).c] 26)) := b0.trans (h3.mono (by omega))
  have CN := Lib.hid (r10numbers l (by omega) (w3.alloc (.cells #[.int .i64 (fltV l).t, .int .i64 (fltV l).n, .string (fltV l).s, .bool (fltV l).b, .int .i64 (fltV l).c] 26)) A cap ((hR'.out.below g3).mono g3.size))
  have hz3 := hb3.size
  simp only [World.size_alloc] at hz3
  clear hb3
  go_wp2_with fail
  refine CN.out.mono ?_
  clear CN
  rintro e w4 ⟨⟨u4, rfl, hown4⟩, hb4⟩
  have h4 : Below (w.heap.size + 1) (w.alloc (.cells #[.int .i64 0, .int .i64 0, .string ⟨#[]⟩, .bool false, .int .i64 0] 26)) w4 := h3.trans (hb4.mono (by simp; omega))
  have hz4 := h4.size
  simp only [World.size_alloc] at hz4
  have g_w4 : Below w.heap.size w w4 := b0.trans (h4.mono (by omega))
  have l0 : w.heap.size < w4.heap.size := by omega
  obtain ⟨hr0, hr1, hr2, hr3, hr4, hs0, hs1, hs2, hs3, hs4⟩ := res5 h4
  clear h3 g3 hb4 h4 hz3
  by_cases h0 : numsL l = []
  ·have hVe := Lib.hid (show V = errL 6 from by rw [hVV3.out]; unfold someR; rw [if_pos h0])
   obtain ⟨A4, cap4, rfl, hrd4⟩ := own_rdi hown4
   have hz0 : (sortL (numsL l)).length = 0 := by rw [sortL_len, h0]; rfl
   rw [hz0]
   clear hrd4 hown4
   go_wp2_with (go_at_call 20; refine (rverrA 6 _).mono ?_; rintro e w9 ⟨rfl, hb⟩; obtain ⟨hc, hf, hz⟩ := bkeep hb w4.heap.size (by first | omega | (simp <;> omega)))
   refine bodyPost_ret (v := .agg #[.int .i64 4, .int .i64 0, .string ⟨#[]⟩, .bool false, .int .i64 (errC 6)]) ?_ rfl ⟨by rw [hVe.out]; rfl, belq⟩
   simp [results, Tryz.results53, go_sem, *]
  ·have hlp : 0 < (numsL l).length := List.length_pos_iff.2 h0
   have hsl : (sortL (numsL l)).length = (numsL l).length := sortL_len _
   have hs0 : sortL (numsL l) ≠ [] := fun e9 => by rw [e9] at hsl; simp at hsl; omega
   have hVs := Lib.hid (show V = numL ((Lib.maxOf (numsL l))) from by rw [hVV3.out]; unfold someR; rw [if_neg h0])
   obtain ⟨gb, gcap, rfl, hgb, hgc, hcs⟩ := own_rdc hown4 hs0
   have hmem : ∀ i, i < (numsL l).length → -9223372036854775808 ≤ (sortL (numsL l)).getD i 0 ∧ (sortL (numsL l)).getD i 0 ≤ 9223372036854775807 := fun i hi => hno _ (sortL_getD_mem hi)
   rw [hsl] at hgc hcs ⊢
   obtain ⟨N, hN⟩ : ∃ N, (numsL l).length = N := ⟨_, rfl⟩
   rw [hN] at hgc hcs hmem hlp hnl ⊢
   have hll : ¬ ((N : Int) = 0) := by omega
   have hll2 : ((N : Int) == 0) = false := by simp; omega
   have hll3 : (N == 0) = false := by simp; omega
   have hNp : (0 : Int) < (N : Int) := by omega
   have hNb : N ≤ 1073741824 := by omega
   clear hown4 hsl
   obtain ⟨y, hy⟩ : ∃ y, (sortL (numsL l)).getD (N - 1) 0 = y := ⟨_, rfl⟩
   have hck := hcs (N - 1) (by omega)
   have hyb := hmem (N - 1) (by omega)
   rw [hy] at hck hyb
   have hVe := Lib.hid (show V = numL y from by rw [hVs.out]; rw [← hy, ← hN, sortL_last h0])
   have CY := rvnumA y hyb
   clear hcs hmem hy
   have wm : IntKind.i64.wrap ((N : Int) - 1) = ((N - 1 : Nat) : Int) := by rw [show (N : Int) - 1 = ((N - 1 : Nat) : Int) by omega]; exact IntWalk.i64_in _ (by omega)
   have wm0 : (0 : Int) ≤ ((N - 1 : Nat) : Int) := by omega
   have wm1 : ((N - 1 : Nat) : Int) < (N : Int) := by omega
   generalize N - 1 = m at *
   go_wp2_with (go_at_call 99; refine (CY _).mono ?_; rintro e w9 ⟨rfl, hb⟩; obtain ⟨hc, hf, hz⟩ := bkeep hb w4.heap.size (by first | omega | (simp <;> omega)))
   refine bodyPost_ret (v := .agg #[.int .i64 ((numL y)).t, .int .i64 ((numL y)).n, .string ((numL y)).s, .bool ((numL y)).b, .int .i64 ((numL y)).c]) ?_ rfl ⟨by rw [hVe.out], belq⟩
   simp [results, Tryz.results53, go_sem, numL, *]
theorem r10fold_AVG (l : List VL) (hl : ∀ v ∈ l, v.ok) (hlen : l.length ≤ 1073741824) (w : World) (A : Option Addr) (cap : Nat) (hR : RdB w w.heap.size A 5 (l.map VL.cs)) : Calls Tryz.prog 53 #[.string ⟨#[65, 86, 71]⟩, .slice A l.length cap] w fun e w' => e = .returned (.agg #[.int .i64 ((faultR l (someR (numsL l) (meanL (numsL l))))).t, .int .i64 ((faultR l (someR (numsL l) (meanL (numsL l))))).n, .string ((faultR l (someR (numsL l) (meanL (numsL l))))).s, .bool ((faultR l (someR (numsL l) (meanL (numsL l))))).b, .int .i64 ((faultR l (someR (numsL l) (meanL (numsL l))))).c]) ∧ Below w.heap.size w w' := by
 obtain ⟨V, hV0⟩ : ∃ V, faultR l (someR (numsL l) (meanL (numsL l))) = V := ⟨_, rfl⟩
 rw [hV0]
 have hV := Lib.hid hV0
 have b0 : Below w.heap.size w (w.alloc (.cells #[.int .i64 0, .int .i64 0, .string ⟨#[]⟩, .bool false, .int .i64 0] 26)) := (Below.refl _ _).alloc (Nat.le_refl _) _
 have CF := Lib.hid (r10faulty l (by omega) (w.alloc (.cells #[.int .i64 0, .int .i64 0, .string ⟨#[]⟩, .bool false, .int .i64 0] 26)) A cap ((hR.below b0).mono b0.size))
 have hR' := Lib.hid hR
 have hl' := Lib.hid hl
 have hno := nums_ok hl
 have hnl := numsL_len l
 have hS : Hid (∀ x ∈ sortL (numsL l), -9223372036854775808 ≤ x ∧ x ≤ 9223372036854775807) := Lib.hid fun x hx => hno x (sortL_mem.1 hx)
 clear hV0 hR hl
 go_enter Tryz.func53, Tryz.ntmps53
 cases hfl : fltL l with
 |
  some f =>
  have hVe := Lib.hid (show V = f from by rw [← hV.out]; unfold faultR; rw [show l.find? (fun v => decide (v.t = 4)) = some f from hfl])
  rw [fltV_some hfl, hfl] at CF
  simp only [Option.isSome_some] at CF
  go_wp2_with (refine CF.out.mono ?_; rintro e w9 ⟨rfl, hb⟩; obtain ⟨hc, hf, hz⟩ := bkeep hb (w.heap.size + 1) (by first | omega | (simp <;> omega)); have hz9 : w.heap.size ≠ w9.heap.size := (by omega); have hz8 : w.heap.size < w9.heap.size := by omega)
  refine bodyPost_ret (v := .agg #[.int .i64 (f).t, .int .i64 (f).n, .string (f).s, .bool (f).b, .int .i64 (f).c]) ?_ rfl ⟨by rw [hVe.out], belq⟩
  simp [results, Tryz.results53, go_sem, *]
 |
  none =>
  have hVV3 := Lib.hid (show V = someR (numsL l) (meanL (numsL l)) from by rw [← hV.out]; unfold faultR; rw [show l.find? (fun v => decide (v.t = 4)) = none from hfl])
  rw [hfl] at CF
  simp only [Option.isSome_none] at CF
  clear hV hfl
  go_wp2_with fail
  refine CF.out.mono ?_
  clear CF
  rintro e w3 ⟨rfl, hb3⟩
  have h3 : Below (w.heap.size + 1) (w.alloc (.cells #[.int .i64 0, .int .i64 0, .string ⟨#[]⟩, .bool false, .int .i64 0] 26)) (w3.alloc (.cells #[.int .i64 (fltV l).t, .int .i64 (fltV l).n, .string (fltV l).s, .bool (fltV l).b, .int .i64 (fltV l).c] 26)) := (hb3.mono (by simp)).alloc (by have := hb3.size; simp at this; omega) _
  have g3 : Below w.heap.size w (w3.alloc (.cells #[.int .i64 (fltV l).t, .int .i64 (fltV l).n, .string (fltV l).s, .bool (fltV l).b, .int .i64 (fltV l).c] 26)) := b0.trans (h3.mono (by omega))
  have CN := Lib.hid (r10numbers l (by omega) (w3.alloc (.cells #[.int .i64 (fltV l).t, .int .i64 (fltV l).n, .string (fltV l).s, .bool (fltV l).b, .int .i64 (fltV l).c] 26)) A cap ((hR'.out.below g3).mono g3.size))
  have hz3 := hb3.size
  simp only [World.size_alloc] at hz3
  clear hb3
  go_wp2_with fail
  refine CN.out.mono ?_
  clear CN
  rintro e w4 ⟨⟨u4, rfl, hown4⟩, hb4⟩
  have h4 : Below (w.heap.size + 1) (w.alloc (.cells #[.int .i64 0, .int .i64 0, .string ⟨#[]⟩, .bool false, .int .i64 0] 26)) w4 := h3.trans (hb4.mono (by simp; omega))
  have hz4 := h4.size
  simp only [World.size_alloc] at hz4
  have g_w4 : Below w.heap.size w w4 := b0.trans (h4.mono (by omega))
  have l0 : w.heap.size < w4.heap.size := by omega
  obtain ⟨hr0, hr1, hr2, hr3, hr4, hs0, hs1, hs2, hs3, hs4⟩ := res5 h4
  clear h3 g3 hb4 h4 hz3
  by_cases h0 : numsL l = []
  ·have hVe := Lib.hid (show V = errL 6 from by rw [hVV3.out]; unfold someR; rw [if_pos h0])
   obtain ⟨A4, cap4, rfl, hrd4⟩ := own_rdi hown4
   have hz0 : (sortL (numsL l)).length = 0 := by rw [sortL_len, h0]; rfl
   rw [hz0]
   clear hrd4 hown4
   go_wp2_with (go_at_call 20; refine (rverrA 6 _).mono ?_; rintro e w9 ⟨rfl, hb⟩; obtain ⟨hc, hf, hz⟩ := bkeep hb w4.heap.size (by first | omega | (simp <;> omega)))
   refine bodyPost_ret (v := .agg #[.int .i64 4, .int .i64 0, .string ⟨#[]⟩, .bool false, .int .i64 (errC 6)]) ?_ rfl ⟨by rw [hVe.out]; rfl, belq⟩
   simp [results, Tryz.results53, go_sem, *]
  ·have hlp : 0 < (numsL l).length := List.length_pos_iff.2 h0
   have hsl : (sortL (numsL l)).length = (numsL l).length := sortL_len _
   have hs0 : sortL (numsL l) ≠ [] := fun e9 => by rw [e9] at hsl; simp at hsl; omega
   have hVs := Lib.hid (show V = numL ((meanL (numsL l))) from by rw [hVV3.out]; unfold someR; rw [if_neg h0])
   obtain ⟨A4, cap4, rfl, hrd4⟩ := own_rdi hown4
   have CS := Lib.hid (r10mean (sortL (numsL l)) hS.out (by omega) w4 A4 cap4 hrd4 hs0)
   rw [meanL_perm (show (sortL (numsL l)).Perm (numsL l) from List.mergeSort_perm _ _), hsl] at CS
   rw [hsl]
   have hll : ¬ (((numsL l).length : Int) = 0) := by omega
   have hll2 : (((numsL l).length : Int) == 0) = false := by simp; omega
   have hll3 : ((numsL l).length == 0) = false := by simp; omega
   clear hrd4 hown4 hsl
   go_wp2_with (go_at_call 134; refine (CS.out).mono ?_; rintro e w9 ⟨rfl, hb⟩; obtain ⟨hc, hf, hz⟩ := bkeep hb w4.heap.size (by first | omega | (simp <;> omega)))
   refine bodyPost_ret (v := .agg #[.int .i64 ((numL (meanL (numsL l)))).t, .int .i64 ((numL (meanL (numsL l)))).n, .string ((numL (meanL (numsL l)))).s, .bool ((numL (meanL (numsL l)))).b, .int .i64 ((numL (meanL (numsL l)))).c]) ?_ rfl ⟨by rw [hVs.out], belq⟩
   simp [results, Tryz.results53, go_sem, *]
theorem r10fold_MEDIAN (l : List VL) (hl : ∀ v ∈ l, v.ok) (hlen : l.length ≤ 1073741824) (w : World) (A : Option Addr) (cap : Nat) (hR : RdB w w.heap.size A 5 (l.map VL.cs)) : Calls Tryz.prog 53 #[.string ⟨#[77, 69, 68, 73, 65, 78]⟩, .slice A l.length cap] w fun e w' => e = .returned (.agg #[.int .i64 ((faultR l (someR (numsL l) (medianL (numsL l))))).t, .int .i64 ((faultR l (someR (numsL l) (medianL (numsL l))))).n, .string ((faultR l (someR (numsL l) (medianL (numsL l))))).s, .bool ((faultR l (someR (numsL l) (medianL (numsL l))))).b, .int .i64 ((faultR l (someR (numsL l) (medianL (numsL l))))).c]) ∧ Below w.heap.size w w' := by
 obtain ⟨V, hV0⟩ : ∃ V, faultR l (someR (numsL l) (medianL (numsL l))) = V := ⟨_, rfl⟩
 rw [hV0]
 have hV := Lib.hid hV0
 have b0 : Below w.heap.size w (w.alloc (.cells #[.int .i64 0, .int .i64 0, .string ⟨#[]⟩, .bool false, .int .i64 0] 26)) := (Below.refl _ _).alloc (Nat.le_refl _) _
 have CF := Lib.hid (r10faulty l (by omega) (w.alloc (.cells #[.int .i64 0, .int .i64 0, .string ⟨#[]⟩, .bool false, .int .i64 0] 26)) A cap ((hR.below b0).mono b0.size))
 have hR' := Lib.hid hR
 have hl' := Lib.hid hl
 have hno := nums_ok hl
 have hnl := numsL_len l
 have hS : Hid (∀ x ∈ sortL (numsL l), -9223372036854775808 ≤ x ∧ x ≤ 9223372036854775807) := Lib.hid fun x hx => hno x (sortL_mem.1 hx)
 clear hV0 hR hl
 go_enter Tryz.func53, Tryz.ntmps53
 cases hfl : fltL l with
 |
  some f =>
  have hVe := Lib.hid (show V = f from by rw [← hV.out]; unfold faultR; rw [show l.find? (fun v => decide (v.t = 4)) = some f from hfl])
  rw [fltV_some hfl, hfl] at CF
  simp only [Option.isSome_some] at CF
  go_wp2_with (refine CF.out.mono ?_; rintro e w9 ⟨rfl, hb⟩; obtain ⟨hc, hf, hz⟩ := bkeep hb (w.heap.size + 1) (by first | omega | (simp <;> omega)); have hz9 : w.heap.size ≠ w9.heap.size := (by omega); have hz8 : w.heap.size < w9.heap.size := by omega)
  refine bodyPost_ret (v := .agg #[.int .i64 (f).t, .int .i64 (f).n, .string (f).s, .bool (f).b, .int .i64 (f).c]) ?_ rfl ⟨by rw [hVe.out], belq⟩
  simp [results, Tryz.results53, go_sem, *]
 |
  none =>
  have hVV3 := Lib.hid (show V = someR (numsL l) (medianL (numsL l)) from by rw [← hV.out]; unfold faultR; rw [show l.find? (fun v => decide (v.t = 4)) = none from hfl])
  rw [hfl] at CF
  simp only [Option.isSome_none] at CF
  clear hV hfl
  go_wp2_with fail
  refine CF.out.mono ?_
  clear CF
  rintro e w3 ⟨rfl, hb3⟩
  have h3 : Below (w.heap.size + 1) (w.alloc (.cells #[.int .i64 0, .int .i64 0, .string ⟨#[]⟩, .bool false, .int .i64 0] 26)) (w3.alloc (.cells #[.int .i64 (fltV l).t, .int .i64 (fltV l).n, .string (fltV l).s, .bool (fltV l).b, .int .i64 (fltV l).c] 26)) := (hb3.mono (by simp)).alloc (by have := hb3.size; simp at this; omega) _
  have g3 : Below w.heap.size w (w3.alloc (.cells #[.int .i64 (fltV l).t, .int .i64 (fltV l).n, .string (fltV l).s, .bool (fltV l).b, .int .i64 (fltV l).c] 26)) := b0.trans (h3.mono (by omega))
  have CN := Lib.hid (r10numbers l (by omega) (w3.alloc (.cells #[.int .i64 (fltV l).t, .int .i64 (fltV l).n, .string (fltV l).s, .bool (fltV l).b, .int .i64 (fltV l).c] 26)) A cap ((hR'.out.below g3).mono g3.size))
  have hz3 := hb3.size
  simp only [World.size_alloc] at hz3
  clear hb3
  go_wp2_with fail
  refine CN.out.mono ?_
  clear CN
  rintro e w4 ⟨⟨u4, rfl, hown4⟩, hb4⟩
  have h4 : Below (w.heap.size + 1) (w.alloc (.cells #[.int .i64 0, .int .i64 0, .string ⟨#[]⟩, .bool false, .int .i64 0] 26)) w4 := h3.trans (hb4.mono (by simp; omega))
  have hz4 := h4.size
  simp only [World.size_alloc] at hz4
  have g_w4 : Below w.heap.size w w4 := b0.trans (h4.mono (by omega))
  have l0 : w.heap.size < w4.heap.size := by omega
  obtain ⟨hr0, hr1, hr2, hr3, hr4, hs0, hs1, hs2, hs3, hs4⟩ := res5 h4
  clear h3 g3 hb4 h4 hz3
  by_cases h0 : numsL l = []
  ·have hVe := Lib.hid (show V = errL 6 from by rw [hVV3.out]; unfold someR; rw [if_pos h0])
   obtain ⟨A4, cap4, rfl, hrd4⟩ := own_rdi hown4
   have hz0 : (sortL (numsL l)).length = 0 := by rw [sortL_len, h0]; rfl
   rw [hz0]
   clear hrd4 hown4
   go_wp2_with (go_at_call 20; refine (rverrA 6 _).mono ?_; rintro e w9 ⟨rfl, hb⟩; obtain ⟨hc, hf, hz⟩ := bkeep hb w4.heap.size (by first | omega | (simp <;> omega)))
   refine bodyPost_ret (v := .agg #[.int .i64 4, .int .i64 0, .string ⟨#[]⟩, .bool false, .int .i64 (errC 6)]) ?_ rfl ⟨by rw [hVe.out]; rfl, belq⟩
   simp [results, Tryz.results53, go_sem, *]
  ·have hlp : 0 < (numsL l).length := List.length_pos_iff.2 h0
   have hsl : (sortL (numsL l)).length = (numsL l).length := sortL_len _
   have hs0 : sortL (numsL l) ≠ [] := fun e9 => by rw [e9] at hsl; simp at hsl; omega
   have hVs := Lib.hid (show V = numL ((medianL (numsL l))) from by rw [hVV3.out]; unfold someR; rw [if_neg h0])
   obtain ⟨gb, gcap, rfl, hgb, hgc, hcs⟩ := own_rdc hown4 hs0
   have hmem : ∀ i, i < (numsL l).length → -9223372036854775808 ≤ (sortL (numsL l)).getD i 0 ∧ (sortL (numsL l)).getD i 0 ≤ 9223372036854775807 := fun i hi => hno _ (sortL_getD_mem hi)
   rw [hsl] at hgc hcs ⊢
   obtain ⟨N, hN⟩ : ∃ N, (numsL l).length = N := ⟨_, rfl⟩
   rw [hN] at hgc hcs hmem hlp hnl ⊢
   have hll : ¬ ((N : Int) = 0) := by omega
   have hll2 : ((N : Int) == 0) = false := by simp; omega
   have hll3 : (N == 0) = false := by simp; omega
   have hNp : (0 : Int) < (N : Int) := by omega
   have hNb : N ≤ 1073741824 := by omega
   clear hown4 hsl
   by_cases hodd : N % 2 = 1
   ·obtain ⟨k, hk⟩ : ∃ k, N = 2 * k + 1 := ⟨N / 2, by omega⟩
    obtain ⟨y, hy⟩ : ∃ y, (sortL (numsL l)).getD k 0 = y := ⟨_, rfl⟩
    have hck := hcs k (by omega)
    have hyb := hmem k (by omega)
    rw [hy] at hck hyb
    have hVe := Lib.hid (show V = numL y from by rw [hVs.out]; show numL (medianL _) = _; unfold medianL; rw [hN, if_pos (by omega), show N / 2 = k by omega, hy])
    have CY := rvnumA y hyb
    clear hcs hmem hy
    have hq1 : (N : Int).tdiv 2 = (k : Int) := by rw [Int.tdiv_eq_ediv_of_nonneg (by omega)]; omega
    have hq2 : (N : Int) / 2 = (k : Int) := by omega
    have hr1 : (N : Int).tmod 2 = 1 := by rw [Int.tmod_eq_emod_of_nonneg (by omega)]; omega
    have hr2 : (N : Int) % 2 = 1 := by omega
    have hkl : (k : Int) < (N : Int) := by omega
    have hk0 : (0 : Int) ≤ (k : Int) := by omega
    clear hk
    go_wp2_with (go_at_call 99; refine (CY _).mono ?_; rintro e w9 ⟨rfl, hb⟩; obtain ⟨hc, hf, hz⟩ := bkeep hb w4.heap.size (by first | omega | (simp <;> omega)))
    refine bodyPost_ret (v := .agg #[.int .i64 ((numL y)).t, .int .i64 ((numL y)).n, .string ((numL y)).s, .bool ((numL y)).b, .int .i64 ((numL y)).c]) ?_ rfl ⟨by rw [hVe.out], belq⟩
    simp [results, Tryz.results53, go_sem, numL, *]
   ·obtain ⟨k, hk⟩ : ∃ k, N = 2 * (k + 1) := ⟨N / 2 - 1, by omega⟩
    have hq1 : (N : Int).tdiv 2 = (k : Int) + 1 := by rw [Int.tdiv_eq_ediv_of_nonneg (by omega)]; omega
    have hq2 : (N : Int) / 2 = (k : Int) + 1 := by omega
    have hr1 : (N : Int).tmod 2 = 0 := by rw [Int.tmod_eq_emod_of_nonneg (by omega)]; omega
    have hr2 : (N : Int) % 2 = 0 := by omega
    have hm0 := hmem k (by omega)
    have hm1 := hmem (k + 1) (by omega)
    have hck0 := hcs k (by omega)
    have hck1 := hcs (k + 1) (by omega)
    obtain ⟨y0, hy0⟩ : ∃ y, (sortL (numsL l)).getD k 0 = y := ⟨_, rfl⟩
    obtain ⟨y1, hy1⟩ : ∃ y, (sortL (numsL l)).getD (k + 1) 0 = y := ⟨_, rfl⟩
    rw [hy0] at hck0 hm0
    rw [hy1] at hck1 hm1
    have hVe := Lib.hid (show V = numL (meanL [y0, y1]) from by
     rw [hVs.out]; unfold medianL
     rw [hN, if_neg (by omega), show N / 2 - 1 = k by omega, show N / 2 = k + 1 by omega, hy0, hy1])
    clear hy0 hy1
    have CM : ∀ cap9 : Nat, Hid (Calls Tryz.prog 134 #[.slice (some ⟨gb, k, none⟩) 2 cap9] w4 fun e w' => e = .returned (.agg #[.int .i64 ((numL (meanL [y0, y1]))).t, .int .i64 ((numL (meanL [y0, y1]))).n, .string ((numL (meanL [y0, y1]))).s, .bool ((numL (meanL [y0, y1]))).b, .int .i64 ((numL (meanL [y0, y1]))).c]) ∧ Below w4.heap.size w4 w') := fun cap9 => Lib.hid (r10mean [y0, y1] (by intro x hx; simp at hx; rcases hx with rfl | rfl; exact hm0; exact hm1) (by simp) w4 (some ⟨gb, k, none⟩) cap9 (by
     intro i c hi
     refine ⟨gb, k, rfl, hgb, ?_⟩
     cases i with
     |
      zero => simp at hi; subst hi; intro j u hj; cases j with
      | zero => simp at hj; subst hj; simpa using hck0
      | succ j => simp at hj
     |
      succ i => cases i with
      |
       zero => simp at hi; subst hi; intro j u hj; cases j with
       | zero => simp at hj; subst hj; simpa using hck1
       | succ j => simp at hj
      | succ i => simp at hi) (by simp))
    have hkc : (k : Int) + 2 ≤ (gcap : Int) := by omega
    have hw1 : IntKind.i64.wrap ((k : Int) + 1 - 1) = (k : Int) := by rw [show (k : Int) + 1 - 1 = (k : Int) by omega]; exact IntWalk.i64_in _ (by omega)
    have hw2 : IntKind.i64.wrap ((k : Int) + 1 + 1) = (k : Int) + 2 := by rw [show (k : Int) + 1 + 1 = (k : Int) + 2 by omega]; exact IntWalk.i64_in _ (by omega)
    have hk0 : (0 : Int) ≤ (k : Int) := by omega
    clear hcs hm0 hm1 hck0 hck1 hk hmem
    go_wp2_with (refine (CM _).out.mono ?_; rintro e w9 ⟨rfl, hb⟩; obtain ⟨hc, hf, hz⟩ := bkeep hb w4.heap.size (by first | omega | (simp <;> omega)))
    refine bodyPost_ret (v := .agg #[.int .i64 ((numL (meanL [y0, y1]))).t, .int .i64 ((numL (meanL [y0, y1]))).n, .string ((numL (meanL [y0, y1]))).s, .bool ((numL (meanL [y0, y1]))).b, .int .i64 ((numL (meanL [y0, y1]))).c]) ?_ rfl ⟨by rw [hVe.out], belq⟩
    simp [results, Tryz.results53, go_sem, *]
end Go.Proofs.YtgmhifafbebjfaaGreatDoor
