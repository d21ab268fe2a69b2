/-
  The plain law of numbers' texts: what is printed is read again as that number. No program in sight.
-/
import Derived.Test.YtfbkoieodflcpaaDoorMg4
import Derived.Lib.ItoaMem
import Derived.Lib.TrimByte
import Derived.Lib.IndexLaws
import Derived.Lib.SlTrimSet
import Derived.Lib.ParseIntB
namespace Go.Proofs.YtfbkoieodflcpaaDoor
open Go

theorem dig_nat {d : Nat} (h : d < 10) : (UInt8.ofNat (48 + d)).toNat = 48 + d := by simp; omega
theorem dig_is {d : Nat} (h : d < 10) : isDig (UInt8.ofNat (48 + d)) = true := by
  unfold isDig; rw [dig_nat h]; simp; omega
theorem dec_val : ∀ (k n : Nat), n ≤ k → valL (Lib.decDigits n) = n ∧ (Lib.decDigits n).all isDig = true ∧ 0 < (Lib.decDigits n).length
  | 0, n, h => by
    obtain rfl : n = 0 := by omega
    rw [Lib.decDigits_one (by omega)]
    decide
  | k + 1, n, h => by
    by_cases h10 : n < 10
    · rw [Lib.decDigits_one h10]
      refine ⟨?_, ?_, by simp⟩
      · simp only [valL, List.foldl_cons, List.foldl_nil, valF, dig_nat h10]; omega
      · simp only [List.all_cons, List.all_nil, dig_is h10, Bool.and_self]
    · obtain ⟨h1, h2, h3⟩ := dec_val k (n / 10) (by omega)
      rw [decSnoc (by omega)]
      refine ⟨?_, ?_, by simp⟩
      · rw [val_snoc, h1, dig_nat (by omega)]; omega
      · rw [List.all_append, h2]; simp only [List.all_cons, List.all_nil, dig_is (show n % 10 < 10 by omega), Bool.and_self]
theorem dec_short : ∀ (k n : Nat), n < 10 ^ (k + 1) → (Lib.decDigits n).length ≤ k + 1
  | 0, n, h => by rw [Lib.decDigits_one (by omega)]; simp
  | k + 1, n, h => by
    by_cases h10 : n < 10
    · rw [Lib.decDigits_one h10]; simp
    · rw [decSnoc (by omega)]
      have : n / 10 < 10 ^ (k + 1) := by rw [Nat.pow_succ] at h; omega
      have := dec_short k (n / 10) this
      simp; omega
theorem dec_head : ∀ (k n : Nat), n ≤ k → 0 < n → ∃ b, (Lib.decDigits n).head? = some b ∧ b ≠ 48
  | 0, n, h, h0 => by omega
  | k + 1, n, h, h0 => by
    by_cases h10 : n < 10
    · rw [Lib.decDigits_one h10]
      refine ⟨_, rfl, fun e => ?_⟩
      have := congrArg UInt8.toNat e
      rw [dig_nat h10] at this
      have e2 : (48 : UInt8).toNat = 48 := rfl
      omega
    · obtain ⟨b, h1, h2⟩ := dec_head k (n / 10) (by omega) (by omega)
      rw [decSnoc (by omega)]
      refine ⟨b, ?_, h2⟩
      rw [List.head?_append, h1]; rfl
theorem tw_all (p : UInt8 → Bool) : ∀ l : List UInt8, ∀ b ∈ l.takeWhile p, p b = true
  | [], b, h => by simp at h
  | a :: l, b, h => by
    cases ha : p a
    · simp [ha] at h
    · simp [ha] at h
      rcases h with rfl | h
      · exact ha
      · exact tw_all p l b h
theorem trim_pad (l : List UInt8) : Lib.trimRightB l 48 ++ List.replicate (l.length - (Lib.trimRightB l 48).length) 48 = l := by
  unfold Lib.trimRightB
  have h1 := List.takeWhile_append_dropWhile (p := fun b => b == (48 : UInt8)) (l := l.reverse)
  have h2 : l.reverse.takeWhile (fun b => b == (48 : UInt8)) = List.replicate (l.reverse.takeWhile (fun b => b == (48 : UInt8))).length 48 := by
    rw [List.eq_replicate_iff]
    refine ⟨rfl, fun b hb => ?_⟩
    have := tw_all _ _ b hb
    simpa using this
  have h3 : l = (l.reverse.dropWhile (fun b => b == (48 : UInt8))).reverse ++ (l.reverse.takeWhile (fun b => b == (48 : UInt8))).reverse := by
    rw [← List.reverse_append, h1, List.reverse_reverse]
  have h4 : l.length - (l.reverse.dropWhile (fun b => b == (48 : UInt8))).reverse.length = (l.reverse.takeWhile (fun b => b == (48 : UInt8))).length := by
    have := congrArg List.length h3
    simp at this ⊢
    omega
  rw [h4]
  conv => rhs; rw [h3]
  congr 1
  conv => rhs; rw [h2]
  rw [List.reverse_replicate]
theorem four_all {r : Nat} (h : r < 10000) : (four r).all isDig = true := by
  simp only [four, List.all_cons, List.all_nil, dig_is (show r / 1000 < 10 by omega), dig_is (show r / 100 % 10 < 10 by omega), dig_is (show r / 10 % 10 < 10 by omega), dig_is (show r % 10 < 10 by omega), Bool.and_self]
theorem frac_pad (r : Nat) : frac r ++ List.replicate (4 - (frac r).length) 48 = four r := trim_pad (four r)
theorem four_val (D : List UInt8) {r : Nat} (h : r < 10000) : valL (D ++ four r) = valL D * 10000 + r := by
  have e : D ++ four r = (((D ++ [UInt8.ofNat (48 + r / 1000)]) ++ [UInt8.ofNat (48 + r / 100 % 10)]) ++ [UInt8.ofNat (48 + r / 10 % 10)]) ++ [UInt8.ofNat (48 + r % 10)] := by simp [four]
  rw [e, val_snoc, val_snoc, val_snoc, val_snoc, dig_nat (by omega), dig_nat (by omega), dig_nat (by omega), dig_nat (by omega)]
  omega
theorem frac_ok {r : Nat} (h : r < 10000) (h0 : 0 < r) : digOk (frac r) 4 = true := by
  have hp := frac_pad r
  have hl := frac_len r
  have ha := four_all h
  rw [← hp, List.all_append, Bool.and_eq_true] at ha
  simp only [digOk, Bool.and_eq_true, decide_eq_true_eq]
  refine ⟨⟨?_, hl⟩, ha.1⟩
  rcases Nat.eq_zero_or_pos (frac r).length with hz | hz
  · exfalso
    have he : frac r = [] := List.length_eq_zero_iff.1 hz
    have hv := four_val [] h
    rw [← hp, he] at hv
    have : valL ([] ++ ([] ++ List.replicate (4 - ([] : List UInt8).length) 48)) = 0 := by decide
    rw [this] at hv
    simp [valL] at hv
    omega
  · exact hz
theorem text_read (low : Bool) (N : Nat) (hN : N ≤ 9223372036854775807) (h0 : low = true → 0 < N) : numP (textOf low N) = some (if low then -(N : Int) else (N : Int)) := by
  obtain ⟨v1, v2, v3⟩ := dec_val (N / 10000) (N / 10000) (Nat.le_refl _)
  have hs := dec_short 14 (N / 10000) (by omega)
  obtain ⟨D, hD⟩ : ∃ D, Lib.decDigits (N / 10000) = D := ⟨_, rfl⟩
  have hw : wholeOk D = true := by
    rw [← hD]
    unfold wholeOk
    have : digOk (Lib.decDigits (N / 10000)) 15 = true := by
      simp only [digOk, v2, Bool.and_true, Bool.and_eq_true, decide_eq_true_eq]; omega
    rw [this]
    by_cases hz : N / 10000 = 0
    · rw [hz, Lib.decDigits_one (by omega)]; rfl
    · obtain ⟨b, e1, e2⟩ := dec_head _ (N / 10000) (Nat.le_refl _) (by omega)
      rw [e1]
      simp [e2]
  rw [hD] at v1 v2 v3 hs
  have hlow : lowOf (textOf low N) = low ∧ tailOf (textOf low N) = D ++ (if N % 10000 = 0 then [] else 46 :: frac (N % 10000)) := by
    cases low
    · obtain ⟨b, q, e⟩ : ∃ b q, D = b :: q := by cases D with | nil => simp at v3 | cons b q => exact ⟨b, q, rfl⟩
      have hb : b ≠ 45 := by
        rintro rfl
        rw [e] at v2
        simp [isDig] at v2
      have hl : lowOf (textOf false N) = false := by
        simp [lowOf, textOf, hD, e, hb]
      refine ⟨hl, ?_⟩
      unfold tailOf
      rw [hl]
      simp [textOf, hD]
    · have hl : lowOf (textOf true N) = true := by simp [lowOf, textOf]
      refine ⟨hl, ?_⟩
      unfold tailOf
      rw [hl]
      simp [textOf, hD]
  unfold numP
  rw [hlow.1, hlow.2]
  by_cases hr : N % 10000 = 0
  · rw [if_pos hr, List.append_nil]
    obtain ⟨t1, t2⟩ := all_take v2
    unfold bodyOf
    rw [t1, t2, hw]
    have hval : valL (D ++ ([] ++ List.replicate (4 - ([] : List UInt8).length) 48)) = N := by
      have := four_val D (r := 0) (by omega)
      have e : four 0 = [] ++ List.replicate (4 - ([] : List UInt8).length) 48 := by decide
      rw [e] at this
      rw [this, v1]; omega
    simp only [if_true, restOf]
    unfold numOf
    rw [hval, if_neg (by rintro ⟨h1, h2⟩; have := h0 h1; omega), if_pos hN]
  · rw [if_neg hr]
    obtain ⟨t1, t2⟩ := all_take_dot (r := frac (N % 10000)) (b := 46) v2 (by decide)
    unfold bodyOf
    rw [t1, t2, hw]
    have hk := frac_ok (r := N % 10000) (by omega) (by omega)
    have hval : valL (D ++ (frac (N % 10000) ++ List.replicate (4 - (frac (N % 10000)).length) 48)) = N := by
      rw [frac_pad, four_val D (by omega), v1]; omega
    simp only [if_true, restOf, hk, and_self]
    unfold numOf
    rw [hval, if_neg (by rintro ⟨h1, h2⟩; have := h0 h1; omega), if_pos hN]
theorem print_read {x : Int} (hx : -9223372036854775808 ≤ x ∧ x ≤ 9223372036854775807) (h : x ≠ -9223372036854775808) : numV (printL x) = x ∧ numOk (printL x) = true := by
  have : numP (printL x) = some x := by
    unfold printL
    rw [if_neg h, text_read _ _ (by omega) (by intro h1; have : x < 0 := by simpa using h1
                                               omega)]
    by_cases hs : x < 0
    · simp [hs]; omega
    · simp [hs]; omega
  unfold numV numOk
  rw [this]
  exact ⟨rfl, rfl⟩
end Go.Proofs.YtfbkoieodflcpaaDoor
