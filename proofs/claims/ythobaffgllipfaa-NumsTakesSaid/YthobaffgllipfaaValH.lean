/-
  Package value: which of two values stands ahead, as a plain law: either way round, the same ones, on from one to the next.
-/
import Derived.Test.YthobaffgllipfaaValE
import Derived.Lib.Bytealg
namespace Go.Proofs.Ythobaffgllipfaa
open Go

theorem cmpI_range (a b : Int) : -1 ≤ cmpI a b ∧ cmpI a b ≤ 1 := by
  unfold cmpI; repeat' split
  all_goals omega
theorem cmpI_neg (a b : Int) : cmpI b a = -cmpI a b := by
  unfold cmpI; repeat' split
  all_goals omega
theorem cmpI_zero (a b : Int) : cmpI a b = 0 ↔ a = b := by
  unfold cmpI; repeat' split
  all_goals omega
theorem cmpI_trans (a b c : Int) (h1 : cmpI a b ≤ 0) (h2 : cmpI b c ≤ 0) : cmpI a c ≤ 0 ∧ (cmpI a c < 0 ↔ cmpI a b < 0 ∨ cmpI b c < 0) := by
  unfold cmpI at *
  repeat' split at h1
  all_goals repeat' split at h2
  all_goals repeat' split
  all_goals omega
theorem cb_range : ∀ (a b : List UInt8), -1 ≤ Lib.compareBytes a b ∧ Lib.compareBytes a b ≤ 1
  | [], [] => by simp [Lib.compareBytes]
  | [], _ :: _ => by simp [Lib.compareBytes]
  | _ :: _, [] => by simp [Lib.compareBytes]
  | a :: xs, b :: ys => by
    unfold Lib.compareBytes
    have := cb_range xs ys
    repeat' split
    all_goals omega
theorem cb_neg : ∀ (a b : List UInt8), Lib.compareBytes b a = -Lib.compareBytes a b
  | [], [] => by simp [Lib.compareBytes]
  | [], _ :: _ => by simp [Lib.compareBytes]
  | _ :: _, [] => by simp [Lib.compareBytes]
  | a :: xs, b :: ys => by
    unfold Lib.compareBytes
    have := cb_neg xs ys
    repeat' split
    all_goals first | omega | (rename_i h1 h2; rw [UInt8.lt_iff_toNat_lt] at *; omega)
theorem cb_zero : ∀ (a b : List UInt8), Lib.compareBytes a b = 0 ↔ a = b
  | [], [] => by simp [Lib.compareBytes]
  | [], _ :: _ => by simp [Lib.compareBytes]
  | _ :: _, [] => by simp [Lib.compareBytes]
  | a :: xs, b :: ys => by
    unfold Lib.compareBytes
    have ih := cb_zero xs ys
    repeat' split
    · rename_i h; simp; rintro rfl; exact absurd h (UInt8.lt_irrefl _)
    · rename_i h; simp; rintro rfl; exact absurd h (UInt8.lt_irrefl _)
    · rename_i h1 h2
      have : a = b := by rw [UInt8.lt_iff_toNat_lt] at *; exact UInt8.toNat_inj.1 (by omega)
      simp [this, ih]
theorem cb_trans : ∀ (a b c : List UInt8), Lib.compareBytes a b ≤ 0 → Lib.compareBytes b c ≤ 0 → Lib.compareBytes a c ≤ 0 ∧ (Lib.compareBytes a c < 0 ↔ Lib.compareBytes a b < 0 ∨ Lib.compareBytes b c < 0)
  | [], [], [] => by simp [Lib.compareBytes]
  | [], [], _ :: _ => by simp [Lib.compareBytes]
  | [], _ :: _, [] => by simp [Lib.compareBytes]
  | _ :: _, [], _ => by simp [Lib.compareBytes]
  | _ :: _, _ :: _, [] => by simp [Lib.compareBytes]
  | [], _ :: _, _ :: _ => by simp [Lib.compareBytes]
  | a :: xs, b :: ys, c :: zs => by
    have ih := cb_trans xs ys zs
    unfold Lib.compareBytes
    simp only [UInt8.lt_iff_toNat_lt]
    intro h1 h2
    repeat' split at h1
    all_goals repeat' split at h2
    all_goals repeat' split
    all_goals first | omega | (exfalso; omega)
/-- which of two stands ahead, when neither is Blank nor a fault -/
def cmpT (t n : Int) (s : ByteArray) (b : Bool) (t' n' : Int) (s' : ByteArray) (b' : Bool) : Int :=
  if t ≠ t' then cmpI t t' else if t = 1 then cmpI n n' else if t = 2 then Lib.compareBytes s.data.toList s'.data.toList else b2i b - b2i b'
/-- Compare of any two values -/
def cmpV (t n : Int) (s : ByteArray) (b : Bool) (c : Int) (t' n' : Int) (s' : ByteArray) (b' : Bool) (c' : Int) : Int :=
  if vMay t n s b c = true ∧ vMay t' n' s' b' c' = true ∧ t ≠ 4 ∧ t' ≠ 4 then cmpT (if t = 0 then t' else t) n s b (if t' = 0 then t else t') n' s' b' else 0
theorem b2i_neg (b b' : Bool) : b2i b' - b2i b = -(b2i b - b2i b') := by omega
theorem b2i_sub_range (b b' : Bool) : -1 ≤ b2i b - b2i b' ∧ b2i b - b2i b' ≤ 1 := by cases b <;> cases b' <;> simp [b2i]
theorem b2i_zero (b b' : Bool) : b2i b - b2i b' = 0 ↔ b = b' := by cases b <;> cases b' <;> simp [b2i]
theorem cmpT_range (t n : Int) (s : ByteArray) (b : Bool) (t' n' : Int) (s' : ByteArray) (b' : Bool) : -1 ≤ cmpT t n s b t' n' s' b' ∧ cmpT t n s b t' n' s' b' ≤ 1 := by
  unfold cmpT
  repeat' split
  · exact cmpI_range _ _
  · exact cmpI_range _ _
  · exact cb_range _ _
  · exact b2i_sub_range _ _
theorem cmpT_neg (t n : Int) (s : ByteArray) (b : Bool) (t' n' : Int) (s' : ByteArray) (b' : Bool) : cmpT t' n' s' b' t n s b = -cmpT t n s b t' n' s' b' := by
  unfold cmpT
  by_cases h : t = t'
  · subst h
    simp only [ne_eq, not_true_eq_false, if_false]
    repeat' split
    · exact cmpI_neg _ _
    · exact cb_neg _ _
    · exact b2i_neg _ _
  · rw [if_pos h, if_pos (Ne.symm h)]
    exact cmpI_neg _ _
theorem cmpT_self (t n : Int) (s : ByteArray) (b : Bool) : cmpT t n s b t n s b = 0 := by
  unfold cmpT
  rw [if_neg (by simp)]
  repeat' split
  · exact (cmpI_zero _ _).2 rfl
  · exact (cb_zero _ _).2 rfl
  · omega
theorem cmpV_range (t n : Int) (s : ByteArray) (b : Bool) (c : Int) (t' n' : Int) (s' : ByteArray) (b' : Bool) (c' : Int) : -1 ≤ cmpV t n s b c t' n' s' b' c' ∧ cmpV t n s b c t' n' s' b' c' ≤ 1 := by
  unfold cmpV
  split
  · exact cmpT_range _ _ _ _ _ _ _ _
  · omega
theorem cmpV_neg (t n : Int) (s : ByteArray) (b : Bool) (c : Int) (t' n' : Int) (s' : ByteArray) (b' : Bool) (c' : Int) : cmpV t n s b c t' n' s' b' c' = -cmpV t' n' s' b' c' t n s b c := by
  unfold cmpV
  split
  · rename_i h
    rw [cmpT_neg, if_pos (show vMay t' n' s' b' c' = true ∧ vMay t n s b c = true ∧ t' ≠ 4 ∧ t ≠ 4 from ⟨h.2.1, h.1, h.2.2.2, h.2.2.1⟩)]
  · rename_i h
    rw [if_neg (fun h' => h ⟨h'.2.1, h'.1, h'.2.2.2, h'.2.2.1⟩)]
    rfl
theorem cmpV_self (t n : Int) (s : ByteArray) (b : Bool) (c : Int) : cmpV t n s b c t n s b c = 0 := by
  unfold cmpV
  split
  · exact cmpT_self _ _ _ _
  · rfl
/-- a value that has its place among all such -/
def rankV (t n : Int) (s : ByteArray) (b : Bool) (c : Int) : Bool := vMay t n s b c && !decide (t = 0) && !decide (t = 4)
theorem rankV_iff (t n : Int) (s : ByteArray) (b : Bool) (c : Int) : rankV t n s b c = true ↔ vMay t n s b c = true ∧ t ≠ 0 ∧ t ≠ 4 := by simp [rankV, and_assoc]
theorem cmpV_rank {t n : Int} {s : ByteArray} {b : Bool} {c t' n' : Int} {s' : ByteArray} {b' : Bool} {c' : Int} (h : rankV t n s b c = true) (h' : rankV t' n' s' b' c' = true) : cmpV t n s b c t' n' s' b' c' = cmpT t n s b t' n' s' b' := by
  rw [rankV_iff] at h h'
  unfold cmpV
  rw [if_pos ⟨h.1, h'.1, h.2.2, h'.2.2⟩, if_neg h.2.1, if_neg h'.2.1]
theorem bytes_data {s s' : ByteArray} (h : s.data.toList = s'.data.toList) : s = s' := ByteArray.ext (Array.ext' h)
theorem cmpV_same {t n : Int} {s : ByteArray} {b : Bool} {c t' n' : Int} {s' : ByteArray} {b' : Bool} {c' : Int} (h : rankV t n s b c = true) (h' : rankV t' n' s' b' c' = true) :
    decide (cmpV t n s b c t' n' s' b' c' = 0) = vEq t n s b c t' n' s' b' c' := by
  rw [cmpV_rank h h', Bool.eq_iff_iff, beq_val]
  rw [rankV_iff, vMay_iff] at h h'
  simp only [decide_eq_true_eq]
  constructor
  · intro e
    unfold cmpT at e
    by_cases ht : t = t'
    · subst ht
      rw [if_neg (by simp)] at e
      have : t = 1 ∨ t = 2 ∨ t = 3 := by omega
      rcases this with rfl | rfl | rfl
      · simp [cmpI_zero] at e; simp at h h'; refine ⟨rfl, e, ?_, ?_, ?_⟩ <;> simp_all
      · simp [cb_zero] at e; simp at h h'; refine ⟨rfl, ?_, bytes_data (by simpa using e), ?_, ?_⟩ <;> simp_all
      · simp [b2i_zero] at e; simp at h h'; refine ⟨rfl, ?_, ?_, e, ?_⟩ <;> simp_all
    · rw [if_pos ht, cmpI_zero] at e
      exact absurd e ht
  · rintro ⟨rfl, rfl, rfl, rfl, rfl⟩
    exact cmpT_self _ _ _ _
theorem cmpT_trans (t n : Int) (s : ByteArray) (b : Bool) (t' n' : Int) (s' : ByteArray) (b' : Bool) (u m : Int) (r : ByteArray) (d : Bool) (h1 : cmpT t n s b t' n' s' b' ≤ 0) (h2 : cmpT t' n' s' b' u m r d ≤ 0) :
    cmpT t n s b u m r d ≤ 0 ∧ (cmpT t n s b u m r d < 0 ↔ cmpT t n s b t' n' s' b' < 0 ∨ cmpT t' n' s' b' u m r d < 0) := by
  have hz1 : t ≠ t' → cmpI t t' ≠ 0 := fun e h => e ((cmpI_zero _ _).1 h)
  have hz2 : t' ≠ u → cmpI t' u ≠ 0 := fun e h => e ((cmpI_zero _ _).1 h)
  unfold cmpT at *
  by_cases e1 : t = t' <;> by_cases e2 : t' = u
  · subst e1; subst e2
    simp only [ne_eq, not_true_eq_false, if_false] at *
    by_cases k1 : t = 1
    · simp only [k1, if_true] at *; exact cmpI_trans _ _ _ h1 h2
    · by_cases k2 : t = 2
      · simp only [k2] at *; exact cb_trans _ _ _ h1 h2
      · simp only [k1, k2, if_false] at *; omega
  · subst e1
    have hz := hz2 e2
    clear hz1 hz2
    simp only [ne_eq, not_true_eq_false, if_false, e2, not_false_eq_true, if_true] at *
    exact ⟨h2, fun _ => Or.inr (by omega), fun _ => by omega⟩
  · subst e2
    have hz := hz1 e1
    clear hz1 hz2
    simp only [ne_eq, not_true_eq_false, if_false, e1, not_false_eq_true, if_true] at *
    exact ⟨h1, fun _ => Or.inl (by omega), fun _ => by omega⟩
  · have hz := hz1 e1
    clear hz1 hz2
    simp only [ne_eq, e1, e2, not_false_eq_true, if_true] at *
    have hh := cmpI_trans _ _ _ h1 h2
    by_cases e3 : t = u
    · subst e3
      exfalso
      have := cmpI_neg t t'
      omega
    · simp only [e3, not_false_eq_true, if_true]; exact hh
theorem cmpV_goes {t n : Int} {s : ByteArray} {b : Bool} {c t' n' : Int} {s' : ByteArray} {b' : Bool} {c' u m : Int} {r : ByteArray} {d : Bool} {k : Int} (h : rankV t n s b c = true) (h' : rankV t' n' s' b' c' = true) (h'' : rankV u m r d k = true)
    (h1 : cmpV t n s b c t' n' s' b' c' ≤ 0) (h2 : cmpV t' n' s' b' c' u m r d k ≤ 0) :
    cmpV t n s b c u m r d k ≤ 0 ∧ (cmpV t n s b c u m r d k < 0 ↔ cmpV t n s b c t' n' s' b' c' < 0 ∨ cmpV t' n' s' b' c' u m r d k < 0) := by
  rw [cmpV_rank h h'] at *
  rw [cmpV_rank h' h''] at *
  rw [cmpV_rank h h''] at *
  exact cmpT_trans _ _ _ _ _ _ _ _ _ _ _ _ h1 h2
end Go.Proofs.Ythobaffgllipfaa
