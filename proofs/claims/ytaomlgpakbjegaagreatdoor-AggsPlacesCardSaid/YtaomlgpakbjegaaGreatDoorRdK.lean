/-
  Slices of things of several cells that came in: their lists.
-/
import Derived.Test.YtaomlgpakbjegaaGreatDoorRows
import Derived.Test.YtaomlgpakbjegaaGreatDoorBase
import Derived.Test.YtaomlgpakbjegaaGreatDoorRowB
import Derived.Deep.Slices
import Derived.ChangeSlices
import Derived.WalkSpells
import Derived.WalkLawsBesides
import Derived.StillTactics
import Derived.Laws.Pointers
import Derived.Deep.RegionHeld3
import Derived.Deep.QuietTactic
import Derived.BigQuiet
import Derived.RowKit3
import Derived.Lib.Hide
import Derived.Lib.OthersKept
import Derived.OwnWalk
import Derived.Lib.IndexLaws
import Derived.Lib.ItoaMem
import Derived.WalkKit
import Derived.ProofKit
import Derived.OpenShut
import Derived.Carry
import Derived.ChangeSame
import Derived.Deep.Draws
namespace Go.Proofs.YtaomlgpakbjegaaGreatDoor
open Go.RowKit Go.ChangeShapes Go.WideShapes Go.Deep

theorem cellLt {w : World} {b j : Nat} {v : Value} (h : w.cell? ⟨b, j, none⟩ = some v) : b < w.heap.size := by
  rcases Nat.lt_or_ge b w.heap.size with h1 | h1
  · exact h1
  · unfold World.cell? at h
    rw [Array.getElem?_eq_none h1] at h
    cases h
section
variable {H : Type} {enc : TypeId × Value → H} {P : Program} {w : World}
/-- a slice of things of k cells: its list, where it lies -/
theorem rd_sliceK {α : Type} (k : Nat) (hk : 0 < k) (cs : α → List Value) (p : α → Prop) (hcs : ∀ x, (cs x).length = k) {t e : TypeId} {v : Value} {fuel : Nat} {y : DataW H × List MemPlace} {sp : Nat → Bool} {held : Bool} (ht : P.underlying t = some (.slice e)) (hc : P.cellsOf e = k)
    (he : ∀ (n : Nat) (us : List Value) (z : DataW H × List MemPlace), DataW.trod enc P w 0 sp held n e us = some z → ∃ x : α, us = cs x ∧ p x)
    (h : DataW.trod enc P w 0 sp held fuel t [v] = some y) : ∃ (A : Option Addr) (l : List α) (cap : Nat), v = .slice A l.length cap ∧ l.length ≤ cap ∧ cap ≤ maxLen ∧ RdB w w.heap.size A k (l.map cs) ∧ (∀ x ∈ l, p x) ∧ (l = [] ∨ ∃ es sr, y.1 = .slice es sr ∧ es.length = l.length) ∧ (A = none → l.length = 0 ∧ cap = 0) := by
  rcases Go.Deep.open_slice ht h with ⟨h0, _⟩ | ⟨a, len, cap, m, n', D, Pl, h0, hb, hl, hm, hmm, hx, hi⟩
  · have h1 : v = .slice none 0 0 := by simpa using h0
    subst h1
    exact ⟨none, [], 0, rfl, Nat.le_refl _, Nat.zero_le _, fun i c hi => by simp at hi, fun x hx => by simp at hx, .inl rfl, fun _ => ⟨rfl, rfl⟩⟩
  · have h1 : v = .slice (some a) len cap := by simpa using h0
    subst h1
    rw [hc] at hi
    have hlm : len ≤ m := by rw [hmm]; split <;> omega
    have hch : ∀ i, i < len → ∃ x : α, p x ∧ ∀ j, j < k → w.cell? ((a.add (i * k)).add j) = (cs x)[j]? := fun i hlt => by
      obtain ⟨cs', hcells, htr⟩ := hi i (by omega)
      obtain ⟨x, rfl, hp⟩ := he _ _ _ htr
      obtain ⟨_, _, hat⟩ := World.cells?_some hcells
      exact ⟨x, hp, hat⟩
    obtain ⟨X, hX⟩ : ∃ X : (i : Nat) → i < len → α, ∀ i (h : i < len), p (X i h) ∧ ∀ j, j < k → w.cell? ((a.add (i * k)).add j) = (cs (X i h))[j]? := ⟨fun i h => (hch i h).choose, fun i h => (hch i h).choose_spec⟩
    have hlen : ((List.finRange len).map fun i => X i.1 i.2).length = len := by simp
    refine ⟨some a, (List.finRange len).map fun i => X i.1 i.2, cap, by rw [hlen], by rw [hlen]; exact hl, hm, ?_, ?_, .inr ?_, fun e => by cases e⟩
    · intro i c hic
      rw [List.getElem?_map] at hic
      have hlt : i < len := by
        rcases Nat.lt_or_ge i len with h | h
        · exact h
        · rw [List.getElem?_eq_none (by rw [hlen]; exact h)] at hic; cases hic
      rw [List.getElem?_eq_getElem (by rw [hlen]; exact hlt)] at hic
      simp at hic
      subst hic
      have h00 := (hX 0 (by omega)).2 0 hk
      rw [List.getElem?_eq_getElem (by rw [hcs]; exact hk)] at h00
      have hspot : a.spot = none := by simpa [Addr.add] using World.cell?_spot h00
      obtain ⟨b, o, sp'⟩ := a
      simp only at hspot
      subst hspot
      have hat : ∀ j, ((⟨b, o, none⟩ : Addr).add (i * k)).add j = ⟨b, o + i * k + j, none⟩ := fun j => by
        rw [Go.Deep.add_add]; unfold Addr.add
        split
        · rename_i h; simp only [Addr.mk.injEq, true_and, and_true]; omega
        · simp only [Addr.mk.injEq, true_and, and_true]; omega
      refine ⟨b, o, rfl, ?_, fun j u hj => ?_⟩
      · have h1 := (hX i hlt).2 0 hk
        rw [hat 0, List.getElem?_eq_getElem (by rw [hcs]; exact hk)] at h1
        exact cellLt h1
      · have hjk : j < k := by rw [← hcs (X i hlt)]; exact (List.getElem?_eq_some_iff.1 hj).1
        rw [← hat j, (hX i hlt).2 j hjk]; exact hj
    · intro x hx'
      obtain ⟨i, _, rfl⟩ := List.mem_map.1 hx'
      exact (hX i.1 i.2).1
    · exact ⟨(List.range len).map D, (List.range (m - len)).map fun j => D (len + j), by rw [hx], by simp⟩
end
end Go.Proofs.YtaomlgpakbjegaaGreatDoor
