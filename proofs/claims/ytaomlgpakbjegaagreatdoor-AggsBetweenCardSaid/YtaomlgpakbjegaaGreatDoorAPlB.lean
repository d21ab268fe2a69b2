/-
  aggs: plain laws of the mean, the median, the least, the greatest of some numbers.
-/
import Derived.Test.YtaomlgpakbjegaaGreatDoorProg
import Derived.Test.YtaomlgpakbjegaaGreatDoorMg3
import Derived.Test.YtaomlgpakbjegaaGreatDoorRows
import Derived.Test.YtaomlgpakbjegaaGreatDoorBase
import Derived.Test.YtaomlgpakbjegaaGreatDoorRowB
import Derived.Test.YtaomlgpakbjegaaGreatDoorMg5
import Derived.Test.YtaomlgpakbjegaaGreatDoorValA
import Derived.Test.YtaomlgpakbjegaaGreatDoorValB
import Derived.Test.YtaomlgpakbjegaaGreatDoorValC
import Derived.Test.YtaomlgpakbjegaaGreatDoorAddrC
import Derived.Test.YtaomlgpakbjegaaGreatDoorMg10
import Derived.Test.YtaomlgpakbjegaaGreatDoorMapK
import Derived.Test.YtaomlgpakbjegaaGreatDoorShelf
import Derived.Test.YtaomlgpakbjegaaGreatDoorMg2
import Derived.Test.YtaomlgpakbjegaaGreatDoorMg12
import Derived.Test.YtaomlgpakbjegaaGreatDoorDPrint
import Derived.Test.YtaomlgpakbjegaaGreatDoorRPr
import Derived.Test.YtaomlgpakbjegaaGreatDoorKnuth
import Derived.Test.YtaomlgpakbjegaaGreatDoorDDiv
import Derived.Test.YtaomlgpakbjegaaGreatDoorDDig
import Derived.Test.YtaomlgpakbjegaaGreatDoorCutW
import Derived.Test.YtaomlgpakbjegaaGreatDoorDParse
import Derived.Test.YtaomlgpakbjegaaGreatDoorDecK
import Derived.Test.YtaomlgpakbjegaaGreatDoorDDivA
import Derived.Test.YtaomlgpakbjegaaGreatDoorValD
import Derived.Test.YtaomlgpakbjegaaGreatDoorMg23
import Derived.Test.YtaomlgpakbjegaaGreatDoorValL
import Derived.Test.YtaomlgpakbjegaaGreatDoorMg25
import Derived.Test.YtaomlgpakbjegaaGreatDoorAItm
import Derived.Test.YtaomlgpakbjegaaGreatDoorAAmo
import Derived.Test.YtaomlgpakbjegaaGreatDoorASum
import Derived.Test.YtaomlgpakbjegaaGreatDoorAFind
import Derived.Test.YtaomlgpakbjegaaGreatDoorACall
import Derived.Test.YtaomlgpakbjegaaGreatDoorACallB
import Derived.Test.YtaomlgpakbjegaaGreatDoorANum
import Derived.Test.YtaomlgpakbjegaaGreatDoorALar
import Derived.IntWalk
import Derived.Lib.Slices
import Derived.Shelf.SlGeneric
import Derived.Shelf.SortM.Plain
import Derived.Shelf.SortM.SortNone
import Derived.Ground.SlgmProg
import Derived.WalkKit
import Derived.ProofKit
import Derived.OpenShut
import Derived.Carry
import Derived.ChangeSame
import Derived.Lib.Hide
import Derived.Deep.Draws
import Derived.WalkSpells
import Derived.WalkLawsBesides
import Derived.StillTactics
import Derived.Laws.Pointers
import Derived.Deep.RegionHeld3
import Derived.Deep.QuietTactic
import Derived.BigQuiet
import Derived.RowKit3
import Derived.Lib.OthersKept
import Derived.OwnWalk
import Derived.Lib.IndexLaws
import Derived.Lib.ItoaMem
import Derived.Maps.OwnSet
import Derived.Maps.AppendAt
import Derived.Laws.EntriesVeiled
import Derived.Laws.BitsAllLaws
import Derived.Shelf.Strings.Builder1
import Derived.Shelf.Strings.Builder2
import Derived.Shelf.Strings.OnBuilder
import Derived.Shelf.Strings.Trim
import Derived.Shelf.Small.Utf8
import Derived.Shelf.Small.Bits
import Derived.Shelf.Small.Strs
import Derived.Shelf.Small.Wraps
import Derived.Shelf.Strings.BuilderF
import Derived.Shelf.Strings.BuilderK
import Derived.Shelf.Strconv.Itoa0
import Derived.Shelf.Strconv.Itoa1
import Derived.Shelf.LaysM
import Derived.Shelf.Strconv.Itoa2
import Derived.Ground.MpProg
import Derived.Shelf.Pu.ParseUintPublic10
import Derived.Shelf.Strings.Search1
import Derived.Shelf.Strings.Search2
import Derived.Shelf.Strings.Search3
import Derived.Shelf.Strings.Cut
import Derived.Shelf.Strings.Shaped
import Derived.Shelf.Strings.Prefix
import Derived.Shelf.Strings.Runes
import Derived.Shelf.Strings.AsciiSet
import Derived.Shelf.Bits.Mul64
import Derived.Shelf.Strings.Repeat
import Derived.Shelf.Unicode.DecodeSlow
import Derived.Lib.TrimByte
import Derived.Lib.Bytealg
import Derived.Lib.SlTrimSet
import Derived.Lib.ParseIntB
import Derived.Shelf.Strings.SlTrimAscii
import Derived.Lib.SmallJoins
import Derived.Deep.RegionWith
import Derived.Laws.Externs
import Derived.Sort.OwnSorted
import Derived.Sort.OwnSortedInts
namespace Go.Proofs.YtaomlgpakbjegaaGreatDoor

/-- the mean of some numbers, rounded: a half goes away from nought -/
def meanU (s n : Int) : Int := s / n + if n - s % n ≤ s % n then 1 else 0
def meanL (l : List Int) : Int := if l.sum < 0 then - meanU (-l.sum) l.length else meanU l.sum l.length
theorem meanU_le {s n b : Int} (hn : 0 < n) (h : s ≤ n * b) : meanU s n ≤ b := by
  have h1 := Int.mul_ediv_add_emod s n
  have h2 := Int.emod_nonneg s (Int.ne_of_gt hn)
  have h3 := Int.emod_lt_of_pos s hn
  unfold meanU
  generalize s / n = q at *
  generalize s % n = r at *
  split
  · have : n * q < n * b := by omega
    have := Int.lt_of_mul_lt_mul_left this (by omega)
    omega
  · have : n * q ≤ n * b := by omega
    have := Int.le_of_mul_le_mul_left this hn
    omega
theorem le_meanU {s n a : Int} (hn : 0 < n) (h : n * a ≤ s) : a ≤ meanU s n := by
  have h1 := Int.mul_ediv_add_emod s n
  have h3 := Int.emod_lt_of_pos s hn
  unfold meanU
  generalize s / n = q at *
  generalize s % n = r at *
  have : n * a < n * (q + 1) := by rw [Int.mul_add]; omega
  have := Int.lt_of_mul_lt_mul_left this (by omega)
  split <;> omega
theorem sum_le {l : List Int} {b : Int} (h : ∀ x ∈ l, x ≤ b) : l.sum ≤ (l.length : Int) * b := by
  induction l with
  | nil => simp
  | cons x l ih =>
    have := ih (fun y hy => h y (by simp [hy]))
    have := h x (by simp)
    simp only [List.sum_cons, List.length_cons]
    push_cast
    rw [Int.add_mul]; omega
theorem le_sum {l : List Int} {a : Int} (h : ∀ x ∈ l, a ≤ x) : (l.length : Int) * a ≤ l.sum := by
  induction l with
  | nil => simp
  | cons x l ih =>
    have := ih (fun y hy => h y (by simp [hy]))
    have := h x (by simp)
    simp only [List.sum_cons, List.length_cons]
    push_cast
    rw [Int.add_mul]; omega
theorem meanL_le {l : List Int} (h0 : l ≠ []) {b : Int} (h : ∀ x ∈ l, x ≤ b) : meanL l ≤ b := by
  have hn : 0 < (l.length : Int) := by have := List.length_pos_iff.2 h0; omega
  have hs := sum_le h
  unfold meanL
  split
  · have := le_meanU (s := -l.sum) (a := -b) hn (by rw [Int.mul_neg]; omega)
    omega
  · exact meanU_le hn hs
theorem le_meanL {l : List Int} (h0 : l ≠ []) {a : Int} (h : ∀ x ∈ l, a ≤ x) : a ≤ meanL l := by
  have hn : 0 < (l.length : Int) := by have := List.length_pos_iff.2 h0; omega
  have hs := le_sum h
  unfold meanL
  split
  · have := meanU_le (s := -l.sum) (b := -a) hn (by rw [Int.mul_neg]; omega)
    omega
  · exact le_meanU hn hs
/-- numbers in order -/
def sortL (l : List Int) : List Int := l.mergeSort fun x y => decide (x ≤ y)
theorem sortL_len (l : List Int) : (sortL l).length = l.length := List.length_mergeSort _
theorem sortL_mem {l : List Int} {x : Int} : x ∈ sortL l ↔ x ∈ l := (List.mergeSort_perm _ _).mem_iff
theorem sortL_sorted (l : List Int) : (sortL l).Pairwise (fun x y => x ≤ y) := by
  have := List.pairwise_mergeSort (le := fun x y : Int => decide (x ≤ y)) (fun a b c h1 h2 => by simp at *; omega) (fun a b => by simp; omega) l
  exact this.imp (fun h => by simpa using h)
theorem sortL_le {l : List Int} {i j : Nat} (hij : i ≤ j) (hj : j < (sortL l).length) : (sortL l)[i]'(by omega) ≤ (sortL l)[j] := by
  rcases Nat.lt_or_ge i j with h | h
  · exact List.pairwise_iff_getElem.1 (sortL_sorted l) i j (by omega) hj h
  · obtain rfl : i = j := by omega
    exact Int.le_refl _
def medianL (l : List Int) : Int :=
  if l.length % 2 = 1 then (sortL l).getD (l.length / 2) 0 else meanL [(sortL l).getD (l.length / 2 - 1) 0, (sortL l).getD (l.length / 2) 0]
theorem sortL_getD_mem {l : List Int} {i : Nat} (h : i < l.length) : (sortL l).getD i 0 ∈ l := by
  rw [List.getD_eq_getElem?_getD, List.getElem?_eq_getElem (by rw [sortL_len]; exact h)]
  exact sortL_mem.1 (List.getElem_mem _)
theorem medianL_le {l : List Int} (h0 : l ≠ []) {b : Int} (h : ∀ x ∈ l, x ≤ b) : medianL l ≤ b := by
  have hn : 0 < l.length := List.length_pos_iff.2 h0
  unfold medianL
  split
  · exact h _ (sortL_getD_mem (by omega))
  · refine meanL_le (by simp) (fun x hx => ?_)
    simp at hx
    rcases hx with rfl | rfl <;> exact h _ (sortL_getD_mem (by omega))
theorem le_medianL {l : List Int} (h0 : l ≠ []) {a : Int} (h : ∀ x ∈ l, a ≤ x) : a ≤ medianL l := by
  have hn : 0 < l.length := List.length_pos_iff.2 h0
  unfold medianL
  split
  · exact h _ (sortL_getD_mem (by omega))
  · refine le_meanL (by simp) (fun x hx => ?_)
    simp at hx
    rcases hx with rfl | rfl <;> exact h _ (sortL_getD_mem (by omega))
theorem sum_perm {l l' : List Int} (h : l.Perm l') : l.sum = l'.sum := by
  induction h with
  | nil => rfl
  | cons x _ ih => simp [ih]
  | swap x y l => simp only [List.sum_cons]; omega
  | trans _ _ h1 h2 => exact h1.trans h2
theorem sortL_perm {l l' : List Int} (h : l.Perm l') : sortL l = sortL l' :=
  List.Perm.eq_of_pairwise (fun _ _ _ _ h1 h2 => Int.le_antisymm h1 h2) (sortL_sorted l) (sortL_sorted l') (((List.mergeSort_perm l _).trans h).trans (List.mergeSort_perm l' _).symm)
theorem meanL_perm {l l' : List Int} (h : l.Perm l') : meanL l = meanL l' := by
  unfold meanL
  rw [sum_perm h, h.length_eq]
theorem medianL_perm {l l' : List Int} (h : l.Perm l') : medianL l = medianL l' := by
  unfold medianL
  rw [sortL_perm h, h.length_eq]
theorem foldl_min (l : List Int) : ∀ a, (l.foldl min a = a ∨ l.foldl min a ∈ l) ∧ l.foldl min a ≤ a ∧ ∀ x ∈ l, l.foldl min a ≤ x := by
  induction l with
  | nil => intro a; simp
  | cons y l ih =>
    intro a
    obtain ⟨h1, h2, h3⟩ := ih (min a y)
    simp only [List.foldl_cons]
    refine ⟨?_, by omega, ?_⟩
    · rcases h1 with h1 | h1
      · rw [h1]
        rcases Int.le_total a y with h | h
        · left; omega
        · right; rw [show min a y = y by omega]; simp
      · right; simp [h1]
    · intro x hx
      rcases List.mem_cons.1 hx with rfl | hx
      · omega
      · exact h3 x hx
theorem foldl_max (l : List Int) : ∀ a, (l.foldl max a = a ∨ l.foldl max a ∈ l) ∧ a ≤ l.foldl max a ∧ ∀ x ∈ l, x ≤ l.foldl max a := by
  induction l with
  | nil => intro a; simp
  | cons y l ih =>
    intro a
    obtain ⟨h1, h2, h3⟩ := ih (max a y)
    simp only [List.foldl_cons]
    refine ⟨?_, by omega, ?_⟩
    · rcases h1 with h1 | h1
      · rw [h1]
        rcases Int.le_total y a with h | h
        · left; omega
        · right; rw [show max a y = y by omega]; simp
      · right; simp [h1]
    · intro x hx
      rcases List.mem_cons.1 hx with rfl | hx
      · omega
      · exact h3 x hx
theorem minOf_is {l : List Int} (h : l ≠ []) : Lib.minOf l ∈ l ∧ ∀ x ∈ l, Lib.minOf l ≤ x := by
  cases l with
  | nil => exact absurd rfl h
  | cons y l =>
    obtain ⟨h1, h2, h3⟩ := foldl_min l (min y y)
    unfold Lib.minOf
    simp only [List.headD_cons, List.foldl_cons]
    have e : min y y = y := by omega
    rw [e] at h1 h2 h3 ⊢
    refine ⟨?_, ?_⟩
    · rcases h1 with h1 | h1
      · rw [h1]; simp
      · simp [h1]
    · intro x hx
      rcases List.mem_cons.1 hx with rfl | hx
      · exact h2
      · exact h3 x hx
theorem maxOf_is {l : List Int} (h : l ≠ []) : Lib.maxOf l ∈ l ∧ ∀ x ∈ l, x ≤ Lib.maxOf l := by
  cases l with
  | nil => exact absurd rfl h
  | cons y l =>
    obtain ⟨h1, h2, h3⟩ := foldl_max l (max y y)
    unfold Lib.maxOf
    simp only [List.headD_cons, List.foldl_cons]
    have e : max y y = y := by omega
    rw [e] at h1 h2 h3 ⊢
    refine ⟨?_, ?_⟩
    · rcases h1 with h1 | h1
      · rw [h1]; simp
      · simp [h1]
    · intro x hx
      rcases List.mem_cons.1 hx with rfl | hx
      · exact h2
      · exact h3 x hx
theorem minOf_perm {l l' : List Int} (h : l.Perm l') : Lib.minOf l = Lib.minOf l' := by
  by_cases h0 : l = []
  · subst h0; rw [List.nil_perm.1 h]
  · have h0' : l' ≠ [] := fun e => h0 (by subst e; exact List.perm_nil.1 h)
    obtain ⟨a1, a2⟩ := minOf_is h0
    obtain ⟨b1, b2⟩ := minOf_is h0'
    have := a2 _ (h.mem_iff.2 b1)
    have := b2 _ (h.mem_iff.1 a1)
    omega
theorem maxOf_perm {l l' : List Int} (h : l.Perm l') : Lib.maxOf l = Lib.maxOf l' := by
  by_cases h0 : l = []
  · subst h0; rw [List.nil_perm.1 h]
  · have h0' : l' ≠ [] := fun e => h0 (by subst e; exact List.perm_nil.1 h)
    obtain ⟨a1, a2⟩ := maxOf_is h0
    obtain ⟨b1, b2⟩ := maxOf_is h0'
    have := a2 _ (h.mem_iff.2 b1)
    have := b2 _ (h.mem_iff.1 a1)
    omega
/-- the first of numbers in order is the least, the last the greatest -/
theorem sortL_first {l : List Int} (h : l ≠ []) : (sortL l).getD 0 0 = Lib.minOf l := by
  have hn : 0 < l.length := List.length_pos_iff.2 h
  obtain ⟨a1, a2⟩ := minOf_is h
  have h1 := a2 _ (sortL_getD_mem (l := l) (i := 0) hn)
  obtain ⟨i, hi, e⟩ := List.mem_iff_getElem.1 (sortL_mem.2 a1)
  have h2 := sortL_le (l := l) (i := 0) (j := i) (Nat.zero_le _) hi
  rw [List.getD_eq_getElem?_getD, List.getElem?_eq_getElem (by rw [sortL_len]; exact hn)] at h1 ⊢
  simp only [Option.getD_some] at h1 ⊢
  omega
theorem sortL_last {l : List Int} (h : l ≠ []) : (sortL l).getD (l.length - 1) 0 = Lib.maxOf l := by
  have hn : 0 < l.length := List.length_pos_iff.2 h
  obtain ⟨a1, a2⟩ := maxOf_is h
  have h1 := a2 _ (sortL_getD_mem (l := l) (i := l.length - 1) (by omega))
  obtain ⟨i, hi, e⟩ := List.mem_iff_getElem.1 (sortL_mem.2 a1)
  have h2 := sortL_le (l := l) (i := i) (j := l.length - 1) (by rw [sortL_len] at hi; omega) (by rw [sortL_len]; omega)
  rw [List.getD_eq_getElem?_getD, List.getElem?_eq_getElem (by rw [sortL_len]; omega)] at h1 ⊢
  simp only [Option.getD_some] at h1 ⊢
  omega
/-- the k-th from behind, for each k: all of them, the other way round -/
theorem sortL_down (l : List Int) : ((List.range l.length).map fun k => (sortL l).getD (l.length - (k + 1)) 0) = (sortL l).reverse := by
  apply List.ext_getElem
  · simp [sortL_len]
  · intro i h1 h2
    simp only [List.length_map, List.length_range] at h1
    simp only [List.getElem_map, List.getElem_range, List.getElem_reverse]
    rw [List.getD_eq_getElem?_getD, List.getElem?_eq_getElem (by rw [sortL_len]; omega)]
    simp only [Option.getD_some]
    congr 1
    rw [sortL_len]; omega
end Go.Proofs.YtaomlgpakbjegaaGreatDoor
