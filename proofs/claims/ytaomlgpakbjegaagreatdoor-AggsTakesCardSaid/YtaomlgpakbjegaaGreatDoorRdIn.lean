/-
  Slices that came in: their lists.
-/
import Derived.Test.YtaomlgpakbjegaaGreatDoorRows
import Derived.Test.YtaomlgpakbjegaaGreatDoorBase
import Derived.Test.YtaomlgpakbjegaaGreatDoorMapK
import Derived.Test.YtaomlgpakbjegaaGreatDoorRowB
import Derived.Test.YtaomlgpakbjegaaGreatDoorDecA
import Derived.Test.YtaomlgpakbjegaaGreatDoorValA
import Derived.Test.YtaomlgpakbjegaaGreatDoorValB
import Derived.Test.YtaomlgpakbjegaaGreatDoorDecS
import Derived.Test.YtaomlgpakbjegaaGreatDoorValC
import Derived.Test.YtaomlgpakbjegaaGreatDoorAddrC
import Derived.Test.YtaomlgpakbjegaaGreatDoorAddrI
import Derived.Test.YtaomlgpakbjegaaGreatDoorArgK
import Derived.Test.YtaomlgpakbjegaaGreatDoorDMod
import Derived.Test.YtaomlgpakbjegaaGreatDoorDFlo
import Derived.Test.YtaomlgpakbjegaaGreatDoorProg
import Derived.Test.YtaomlgpakbjegaaGreatDoorShelf
import Derived.Test.YtaomlgpakbjegaaGreatDoorFmtU
import Derived.Test.YtaomlgpakbjegaaGreatDoorPrintL
import Derived.Test.YtaomlgpakbjegaaGreatDoorDPrint
import Derived.Test.YtaomlgpakbjegaaGreatDoorRPr
import Derived.Test.YtaomlgpakbjegaaGreatDoorNDoA
import Derived.Test.YtaomlgpakbjegaaGreatDoorValD
import Derived.Test.YtaomlgpakbjegaaGreatDoorValE
import Derived.Test.YtaomlgpakbjegaaGreatDoorValF
import Derived.Test.YtaomlgpakbjegaaGreatDoorValG
import Derived.Test.YtaomlgpakbjegaaGreatDoorValJ
import Derived.Test.YtaomlgpakbjegaaGreatDoorValL
import Derived.Test.YtaomlgpakbjegaaGreatDoorNCallK
import Derived.Deep.Slices
import Derived.ChangeSlices
import Derived.WalkSpells
import Derived.WalkLawsBesides
import Derived.StillTactics
import Derived.Laws.Pointers
import Derived.Deep.RegionHeld3
import Derived.Deep.QuietTactic
import Derived.BigQuiet
import Derived.RowKit3
import Derived.Lib.Hide
import Derived.Lib.OthersKept
import Derived.OwnWalk
import Derived.Lib.IndexLaws
import Derived.Lib.ItoaMem
import Derived.WalkKit
import Derived.ProofKit
import Derived.OpenShut
import Derived.Carry
import Derived.ChangeSame
import Derived.Deep.Draws
import Derived.Maps.OwnSet
import Derived.Maps.AppendAt
import Derived.Laws.EntriesVeiled
import Derived.Laws.BitsAllLaws
import Derived.Shelf.Strings.Builder1
import Derived.Shelf.Strings.Builder2
import Derived.Shelf.Strings.OnBuilder
import Derived.Shelf.Strings.Trim
import Derived.Shelf.Small.Bits
import Derived.Shelf.Small.Strs
import Derived.Shelf.Small.Wraps
import Derived.Shelf.Strings.BuilderF
import Derived.Shelf.Strings.BuilderK
import Derived.Shelf.Strconv.Itoa0
import Derived.Shelf.Strconv.Itoa1
import Derived.Shelf.LaysM
import Derived.Shelf.Strconv.Itoa2
import Derived.Ground.MpProg
import Derived.Shelf.Pu.ParseUintPublic10
import Derived.Shelf.Strings.Search1
import Derived.Shelf.Strings.Search2
import Derived.Shelf.Strings.Search3
import Derived.Shelf.Strings.Cut
import Derived.Shelf.Strings.Prefix
import Derived.Shelf.Strings.Runes
import Derived.Shelf.Strings.AsciiSet
import Derived.Shelf.Bits.Mul64
import Derived.Shelf.Strings.Repeat
import Derived.Lib.TrimByte
import Derived.Lib.Bytealg
import Derived.Lib.SlTrimSet
import Derived.Lib.ParseIntB
import Derived.Shelf.Strings.SlTrimAscii
import Derived.Lib.SmallJoins
import Derived.Deep.RegionWith
namespace Go.Proofs.YtaomlgpakbjegaaGreatDoor
open Go.RowKit Go.ChangeShapes Go.WideShapes Go.Deep

section
variable {H : Type} {enc : TypeId × Value → H} {P : Program} {w : World}
/-- a slice of one-cell things that came in: its list, where it lies -/
theorem rd_slice1 {α : Type} (ctor : α → Value) {r : Reach} {b0 : Nat} {t e : TypeId} {v : Value} {d : DataW H} {ps : List MemPlace} {sp : Nat → Bool} {held : Bool} (ht : P.underlying t = some (.slice e)) (hc : P.cellsOf e = 1)
    (he : ∀ (n : Nat) (u : Value) (y : DataW H × List MemPlace), DataW.trod enc P w 0 sp held n e [u] = some y → ∃ x : α, u = ctor x)
    (hval : Value.okWide P w r b0 t v) (h : DataW.Trod enc P w 0 sp held t v d ps) : ∃ (A : Option Addr) (l : List α) (cap : Nat), v = .slice A l.length cap ∧ l.length ≤ cap ∧ cap ≤ maxLen ∧ RdB w w.heap.size A 1 (l.map fun x => [ctor x]) := by
  obtain ⟨fuel, hf⟩ := h
  obtain ⟨A, n, c, rfl⟩ := okWide_slice ht hval
  rcases Go.Deep.open_slice1 ht hc hf with ⟨h0, _⟩ | ⟨a, len, cap, m, n', V, D, Pl, h0, hb, hl, hm, hmm, hx, hi⟩
  · have h1 : Value.slice A n c = .slice none 0 0 := by simpa [Value.cells] using h0
    injection h1 with h2 h3 h4
    subst h2; subst h3; subst h4
    exact ⟨none, [], 0, rfl, Nat.le_refl _, Nat.zero_le _, fun i c hi => by simp at hi⟩
  · have h1 : Value.slice A n c = .slice (some a) len cap := by simpa [Value.cells] using h0
    injection h1 with h2 h3 h4
    subst h2; subst h3; subst h4
    have hlm : n ≤ m := by rw [hmm]; split <;> omega
    have hch : ∀ i, i < n → ∃ x : α, V i = ctor x := fun i hlt => he _ _ _ (hi i (by omega)).2
    obtain ⟨X, hX⟩ : ∃ X : (i : Nat) → i < n → α, ∀ i (h : i < n), V i = ctor (X i h) := ⟨fun i h => (hch i h).choose, fun i h => (hch i h).choose_spec⟩
    have hlen : ((List.finRange n).map fun i => X i.1 i.2).length = n := by simp
    refine ⟨some a, (List.finRange n).map fun i => X i.1 i.2, c, by rw [hlen], by rw [hlen]; exact hl, hm, ?_⟩
    intro i c hic
    rw [List.getElem?_map] at hic
    have hlt : i < n := by
      rcases Nat.lt_or_ge i n with h | h
      · exact h
      · rw [List.getElem?_eq_none (by rw [hlen]; exact h)] at hic; cases hic
    have hcell := (hi i (by omega)).1
    have h0' := (hi 0 (by omega)).1
    have hspot : a.spot = none := by simpa [Addr.add] using World.cell?_spot h0'
    obtain ⟨b, o, sp'⟩ := a
    simp only at hspot
    subst hspot
    have hcell2 : w.cell? ⟨b, o + i, none⟩ = some (V i) := by
      rw [← hcell]; unfold Addr.add
      by_cases hi0 : i = 0
      · subst hi0; simp
      · rw [if_neg hi0]
    refine ⟨b, o, rfl, cell_lt hcell2, fun j u hj => ?_⟩
    rw [List.getElem?_eq_getElem (by rw [hlen]; exact hlt)] at hic
    simp at hic
    subst hic
    rcases j with _ | j
    · simp at hj; subst hj
      rw [Nat.mul_one, Nat.add_zero, hcell2, hX i hlt]
    · simp at hj
theorem rd_bools {r : Reach} {b0 : Nat} {t e : TypeId} {v : Value} {d : DataW H} {ps : List MemPlace} {sp : Nat → Bool} {held : Bool} (ht : P.underlying t = some (.slice e)) (hu : P.underlying e = some .bool) (hc : P.cellsOf e = 1)
    (hval : Value.okWide P w r b0 t v) (h : DataW.Trod enc P w 0 sp held t v d ps) : ∃ (A : Option Addr) (l : List Bool) (cap : Nat), v = .slice A l.length cap ∧ l.length ≤ cap ∧ cap ≤ maxLen ∧ RdB w w.heap.size A 1 (l.map fun (x : Bool) => [Value.bool x]) :=
  rd_slice1 Value.bool ht hc (fun n u y hy => by
    obtain ⟨b, hb, _⟩ := DataW.trod_bool hu hy
    exact ⟨b, by simpa using hb⟩) hval h
end
end Go.Proofs.YtaomlgpakbjegaaGreatDoor
