/-
  Plain laws: texts joined; one text put for another.
-/
import Derived.Lib.Repeat
import Derived.Lib.IndexMore
import Derived.WalkSpells
import Derived.WalkLawsBesides
import Derived.StillTactics
import Derived.Laws.Pointers
import Derived.Deep.RegionHeld3
import Derived.Deep.QuietTactic
import Derived.BigQuiet
import Derived.RowKit3
import Derived.Lib.Hide
import Derived.Lib.OthersKept
import Derived.OwnWalk
import Derived.Lib.IndexLaws
import Derived.Lib.ItoaMem
namespace Go.Proofs.YtaomlgpakbjegaaGreatDoor
open Go.RowKit

def joinL : List ByteArray → List UInt8
  | [] => []
  | s :: r => s.data.toList ++ joinL r
def joinS (l : List ByteArray) : ByteArray := ⟨(joinL l).toArray⟩
theorem joinS_size (l : List ByteArray) : (joinS l).size = (joinL l).length := by simp [joinS, ByteArray.size]
theorem joinL_append (l r : List ByteArray) : joinL (l ++ r) = joinL l ++ joinL r := by
  induction l with
  | nil => rfl
  | cons s l ih => simp [joinL, ih]
theorem joinL_take_le (l : List ByteArray) (k : Nat) : (joinL (l.take k)).length ≤ (joinL l).length := by
  have h : joinL l = joinL (l.take k) ++ joinL (l.drop k) := by rw [← joinL_append, List.take_append_drop]
  rw [h, List.length_append]
  omega
theorem joinS_three (a b c : ByteArray) : joinS [a, b, c] = a ++ b ++ c := by
  apply ByteArray.ext
  simp [joinS, joinL, ByteArray.data_append]
theorem joinS_rep (a : ByteArray) : joinS [a, a, a] = ⟨(Lib.repeatL a.data.toList 3).toArray⟩ := by
  simp [joinS, joinL, Lib.repeatL]
/-- a text with one text for another -/
def substL (t u : List UInt8) : Nat → List UInt8 → List UInt8
  | 0, s => s
  | k + 1, s => if (Lib.cut s t).2.2 = true then (Lib.cut s t).1 ++ u ++ substL t u k (Lib.cut s t).2.1 else (Lib.cut s t).1
def cntL (t : List UInt8) : Nat → List UInt8 → Nat
  | 0, _ => 0
  | k + 1, s => if (Lib.cut s t).2.2 = true then cntL t k (Lib.cut s t).2.1 + 1 else 0

/-- an index that is told is one of an instance -/
theorem index_occ : ∀ (s sub : List UInt8), 0 ≤ Lib.index s sub → ∃ i : Nat, Lib.index s sub = (i : Int) ∧ i ≤ s.length ∧ Lib.occAt s sub i = true ∧ ∀ j, j < i → Lib.occAt s sub j = false
  | [], sub, h => by
    unfold Lib.index at h ⊢
    cases sub with
    | nil => exact ⟨0, rfl, Nat.le_refl _, rfl, fun j hj => absurd hj (Nat.not_lt_zero _)⟩
    | cons a t => simp at h
  | b :: l, sub, h => by
    unfold Lib.index at h ⊢
    by_cases h0 : sub.isPrefixOf (b :: l) = true
    · rw [if_pos h0]
      exact ⟨0, rfl, Nat.zero_le _, h0, fun j hj => absurd hj (Nat.not_lt_zero _)⟩
    · rw [if_neg h0] at h ⊢
      have hx := Lib.index_ge l sub
      by_cases h1 : (Lib.index l sub == -1) = true
      · rw [if_pos h1] at h
        omega
      · rw [if_neg h1] at h ⊢
        have h2 : Lib.index l sub ≠ -1 := by simpa using h1
        obtain ⟨i, hi, hl, ho, hn⟩ := index_occ l sub (by omega)
        refine ⟨i + 1, by rw [hi]; rfl, by simp; omega, by simpa [Lib.occAt] using ho, fun j hj => ?_⟩
        cases j with
        | zero => exact Bool.not_eq_true _ ▸ h0
        | succ j => simpa [Lib.occAt] using hn j (by omega)
theorem index_not : ∀ (s sub : List UInt8), Lib.index s sub < 0 → ∀ j, j ≤ s.length → Lib.occAt s sub j = false
  | [], sub, h, j, hj => by
    obtain rfl : j = 0 := by simpa using hj
    cases sub with
    | nil => simp [Lib.index] at h
    | cons a t => rfl
  | b :: l, sub, h, j, hj => by
    unfold Lib.index at h
    by_cases h0 : sub.isPrefixOf (b :: l) = true
    · rw [if_pos h0] at h; omega
    · rw [if_neg h0] at h
      have hx := Lib.index_ge l sub
      have h2 : Lib.index l sub < 0 := by
        by_cases h1 : (Lib.index l sub == -1) = true
        · have : Lib.index l sub = -1 := by simpa using h1
          omega
        · rw [if_neg h1] at h; omega
      cases j with
      | zero => exact Bool.not_eq_true _ ▸ h0
      | succ j => simpa [Lib.occAt] using index_not l sub h2 j (by simpa using hj)
theorem cut_yes {s t : List UInt8} (h : (Lib.cut s t).2.2 = true) : s = (Lib.cut s t).1 ++ t ++ (Lib.cut s t).2.1 := by
  unfold Lib.cut at h ⊢
  by_cases h0 : 0 ≤ Lib.index s t
  · rw [if_pos h0]
    obtain ⟨i, hi, hl, ho, _⟩ := index_occ s t h0
    rw [hi]
    obtain ⟨r, hr⟩ := List.isPrefixOf_iff_prefix.1 ho
    simp only [Int.toNat_natCast]
    have h1 : s = s.take i ++ s.drop i := (List.take_append_drop i s).symm
    have h2 : s.drop (i + t.length) = r := by
      rw [← List.drop_drop, ← hr, List.drop_left]
    rw [h2, List.append_assoc, hr]
    exact h1
  · rw [if_neg h0] at h; simp at h
theorem cut_no {s t : List UInt8} (h : ¬ (Lib.cut s t).2.2 = true) : (Lib.cut s t).1 = s := by
  unfold Lib.cut at h ⊢
  by_cases h0 : 0 ≤ Lib.index s t
  · rw [if_pos h0] at h; simp at h
  · rw [if_neg h0]
theorem subst_same (t : List UInt8) : ∀ (k : Nat) (s : List UInt8), substL t t k s = s
  | 0, _ => rfl
  | k + 1, s => by
    unfold substL
    by_cases h : (Lib.cut s t).2.2 = true
    · rw [if_pos h, subst_same t k]
      exact (cut_yes h).symm
    · rw [if_neg h]; exact cut_no h
theorem subst_len (t u : List UInt8) : ∀ (k : Nat) (s : List UInt8), (substL t u k s).length + cntL t k s * t.length = s.length + cntL t k s * u.length
  | 0, s => by simp [substL, cntL]
  | k + 1, s => by
    unfold substL cntL
    by_cases h : (Lib.cut s t).2.2 = true
    · rw [if_pos h, if_pos h]
      have ih := subst_len t u k (Lib.cut s t).2.1
      have hl : s.length = (Lib.cut s t).1.length + t.length + (Lib.cut s t).2.1.length := by
        have := congrArg List.length (cut_yes h)
        simpa [Nat.add_assoc] using this
      simp only [List.length_append, Nat.succ_mul]
      omega
    · rw [if_neg h, if_neg h, cut_no h]; simp
theorem cnt_le (t : List UInt8) (k : Nat) (s : List UInt8) : cntL t k s * t.length ≤ s.length := by
  have := subst_len t [] k s
  simp at this
  omega
end Go.Proofs.YtaomlgpakbjegaaGreatDoor
