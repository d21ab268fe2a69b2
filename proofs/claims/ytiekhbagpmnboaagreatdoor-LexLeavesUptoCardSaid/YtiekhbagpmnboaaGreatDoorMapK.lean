/-
  A map by texts that a literal makes, in the call's own memory: filled, looked into.
-/
import Derived.Test.YtiekhbagpmnboaaGreatDoorRows
import Derived.Test.YtiekhbagpmnboaaGreatDoorBase
import Derived.Maps.OwnSet
import Derived.Maps.AppendAt
import Derived.WalkSpells
import Derived.WalkLawsBesides
import Derived.StillTactics
import Derived.Laws.Pointers
import Derived.Deep.RegionHeld3
import Derived.Deep.QuietTactic
import Derived.BigQuiet
import Derived.RowKit3
import Derived.Lib.Hide
import Derived.Lib.OthersKept
import Derived.OwnWalk
import Derived.Lib.IndexLaws
import Derived.Lib.ItoaMem
import Derived.WalkKit
import Derived.ProofKit
import Derived.OpenShut
import Derived.Carry
import Derived.ChangeSame
import Derived.Deep.Draws
namespace Go.Proofs.YtiekhbagpmnboaaGreatDoor
open Go.RowKit

open Go.Maps (Keyed)

/-- block R is a row of k cells that may be written -/
def ResAt (w : World) (R k : Nat) : Prop := ∃ cs t, w.heap[R]? = some (.cells cs t (0, 0)) ∧ cs.size = k
theorem ResAt.new (w : World) (cs : Array Value) (t : TypeId) : ResAt (w.alloc (.cells cs t)) w.heap.size cs.size := ⟨cs, t, heap_alloc_new w _, rfl⟩
theorem ResAt.lt {w : World} {R k : Nat} (h : ResAt w R k) : R < w.heap.size := by
  obtain ⟨cs, t, h, _⟩ := h
  exact (Array.getElem?_eq_some_iff.1 h).1
theorem ResAt.alloc {w : World} {R k : Nat} (h : ResAt w R k) (o : Obj) : ResAt (w.alloc o) R k := by
  obtain ⟨cs, t, h, hs⟩ := h
  exact ⟨cs, t, (Below.heap_alloc w o R (Array.getElem?_eq_some_iff.1 h).1).trans h, hs⟩
theorem ResAt.drew {w : World} {R k : Nat} (h : ResAt w R k) : ResAt w.drew R k := h
theorem ResAt.below {w w' : World} {B R k : Nat} (h : ResAt w R k) (hb : Below B w w') (hR : R < B) : ResAt w' R k := by
  obtain ⟨cs, t, h, hs⟩ := h
  exact ⟨cs, t, (hb.block R hR).trans h, hs⟩
theorem ResAt.grown {w w' : World} {r : Option Nat} {R k : Nat} (h : ResAt w R k) (hg : w.grownBy w' r) (hr : some R ≠ r) : ResAt w' R k := by
  obtain ⟨cs, t, h, hs⟩ := h
  exact ⟨cs, t, (hg.block R (Array.getElem?_eq_some_iff.1 h).1 hr).trans h, hs⟩
theorem ResAt.setCell {w : World} {R k : Nat} (h : ResAt w R k) (p : Addr) (v : Value) : ResAt (w.setCell p v) R k := by
  obtain ⟨cs, t, h, hs⟩ := h
  by_cases e : R = p.block
  · subst e
    by_cases hp : p.spot.isSome = true
    · exact ⟨cs, t, by simp [World.setCell, Array.getElem?_modify, h, hp], hs⟩
    · exact ⟨cs.setIfInBounds p.off v, t, by simp [World.setCell, Array.getElem?_modify, h, hp], by simpa using hs⟩
  · exact ⟨cs, t, (Below.heap_setCell w p v R e).trans h, hs⟩
theorem ResAt.of_setCell {w : World} {R k : Nat} {p : Addr} {v : Value} (h : ResAt (w.setCell p v) R k) : ResAt w R k := by
  obtain ⟨cs, t, h, hs⟩ := h
  by_cases e : R = p.block
  · subst e
    simp only [World.setCell, Array.getElem?_modify, if_true] at h
    cases hw : w.heap[p.block]? with
    | none => rw [hw] at h; simp at h
    | some o =>
      rw [hw] at h
      cases o with
      | cells c e f =>
        simp at h
        obtain ⟨rfl, rfl, rfl⟩ := h
        exact ⟨c, e, by rw [hw], by split at hs <;> simpa using hs⟩
      | _ => simp at h
  · exact ⟨cs, t, (Below.heap_setCell w p v R e).symm.trans h, hs⟩
@[go_sem] theorem resAt_setCell {w : World} {R k : Nat} (p : Addr) (v : Value) : ResAt (w.setCell p v) R k = ResAt w R k := propext ⟨ResAt.of_setCell, fun h => h.setCell p v⟩
@[go_sem high] theorem cell_res {w : World} {R j : Nat} {v : Value} (h : ResAt w R 5) (hj : j < 5) : (w.setCell ⟨R, j, none⟩ v).cell? ⟨R, j, none⟩ = some v := by
  obtain ⟨cs, t, hh, hs⟩ := h
  exact World.cell?_setCell_same' _ _ _ (by rw [cell_of_row w R j cs t (0, 0) hh, Array.getElem?_eq_getElem (by omega)]; rfl)
/-- what a cell holds, whatever it is -/
def cellOr (w : World) (p : Addr) : Value := (w.cell? p).getD undef
theorem cellOr_is {w : World} {p : Addr} (h : (w.cell? p).isSome = true) : w.cell? p = some (cellOr w p) := by
  unfold cellOr
  cases hc : w.cell? p
  · rw [hc] at h; cases h
  · rfl
@[go_sem low] theorem cell_or {w : World} {R j : Nat} (h : ResAt w R 5) (hj : j < 5) : w.cell? ⟨R, j, none⟩ = some (cellOr w ⟨R, j, none⟩) := by
  obtain ⟨cs, t, hh, hs⟩ := h
  exact cellOr_is (by rw [cell_of_row w R j cs t (0, 0) hh, Array.getElem?_eq_getElem (by omega)]; rfl)
@[go_sem low] theorem frozen_or {w : World} {R j : Nat} (h : ResAt w R 5) : w.frozen? ⟨R, j, none⟩ = false := by
  obtain ⟨cs, t, hh, hs⟩ := h
  simp [World.frozen?, hh]
end Go.Proofs.YtiekhbagpmnboaaGreatDoor
