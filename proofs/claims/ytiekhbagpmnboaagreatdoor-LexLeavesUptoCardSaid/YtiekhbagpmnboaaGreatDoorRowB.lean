/-
  Rows of cells in memory.
-/
import Derived.Test.YtiekhbagpmnboaaGreatDoorRows
import Derived.Test.YtiekhbagpmnboaaGreatDoorBase
import Derived.WalkSpells
import Derived.WalkLawsBesides
import Derived.StillTactics
import Derived.Laws.Pointers
import Derived.Deep.RegionHeld3
import Derived.Deep.QuietTactic
import Derived.BigQuiet
import Derived.RowKit3
import Derived.Lib.Hide
import Derived.Lib.OthersKept
import Derived.OwnWalk
import Derived.Lib.IndexLaws
import Derived.Lib.ItoaMem
import Derived.WalkKit
import Derived.ProofKit
import Derived.OpenShut
import Derived.Carry
import Derived.ChangeSame
import Derived.Deep.Draws
namespace Go.Proofs.YtiekhbagpmnboaaGreatDoor
open Go.RowKit

/-- rows of cells, k a row -/
def RdS (w : World) (A : Option Addr) (k : Nat) (l : List (List Value)) : Prop :=
  ∀ i c, l[i]? = some c → ∃ b o, A = some ⟨b, o, none⟩ ∧ b < w.heap.size ∧ ∀ j u, c[j]? = some u → w.cell? ⟨b, o + i * k + j, none⟩ = some u
theorem RdS.below {w w' : World} {A : Option Addr} {k : Nat} {l : List (List Value)} (h : RdS w A k l) {B : Nat} (hb : Below B w w') (hB : w.heap.size ≤ B) : RdS w' A k l := fun i c hi => by
  obtain ⟨b, o, e, hlt, hc⟩ := h i c hi
  exact ⟨b, o, e, Nat.lt_of_lt_of_le hlt hb.size, fun j u hu => (hb.cell (p := ⟨b, _, none⟩) (Nat.lt_of_lt_of_le hlt hB)).trans (hc j u hu)⟩
/-- rows below a block number: kept while nothing below it is turned -/
def RdB (w : World) (B : Nat) (A : Option Addr) (k : Nat) (l : List (List Value)) : Prop :=
  ∀ i c, l[i]? = some c → ∃ b o, A = some ⟨b, o, none⟩ ∧ b < B ∧ ∀ j u, c[j]? = some u → w.cell? ⟨b, o + i * k + j, none⟩ = some u
theorem RdB.below {w w' : World} {B : Nat} {A : Option Addr} {k : Nat} {l : List (List Value)} (h : RdB w B A k l) (hb : Below B w w') : RdB w' B A k l := fun i c hi => by
  obtain ⟨b, o, e, hlt, hc⟩ := h i c hi
  exact ⟨b, o, e, hlt, fun j u hu => (hb.cell (p := ⟨b, _, none⟩) hlt).trans (hc j u hu)⟩
theorem RdB.mono {w : World} {B B' : Nat} {A : Option Addr} {k : Nat} {l : List (List Value)} (h : RdB w B A k l) (hB : B ≤ B') : RdB w B' A k l := fun i c hi => by
  obtain ⟨b, o, e, hlt, hc⟩ := h i c hi
  exact ⟨b, o, e, by omega, hc⟩
theorem ownsRow_below {w w' : World} {B size n : Nat} {e : TypeId} {v : Value} {xs : List Value} (h : w.ownsRow B e size v n xs) (hb : Below w.heap.size w w') : w'.ownsRow B e size v n xs := by
  obtain ⟨h1, h2⟩ := h
  rcases h2 with ⟨h2, h3⟩ | ⟨g, cap, cur, hv, hB, hh, hr⟩
  · exact ⟨h1, .inl ⟨h2, h3⟩⟩
  · exact ⟨h1, .inr ⟨g, cap, cur, hv, hB, by rw [hb.block g (by exact (Array.getElem?_eq_some_iff.1 hh).1)]; exact hh, hr⟩⟩
theorem ownsRow_base {w : World} {base base' size n : Nat} {e : TypeId} {v : Value} {xs : List Value} (h : w.ownsRow base e size v n xs) (hb : base' ≤ base) : w.ownsRow base' e size v n xs := by
  obtain ⟨h1, h2⟩ := h
  rcases h2 with h2 | ⟨g, cap, cur, hv, hB, hr⟩
  · exact ⟨h1, .inl h2⟩
  · exact ⟨h1, .inr ⟨g, cap, cur, hv, Nat.le_trans hb hB, hr⟩⟩
theorem flat_at {k : Nat} : ∀ (l : List (List Value)), (∀ c ∈ l, c.length = k) → ∀ (i : Nat) (c : List Value), l[i]? = some c → ∀ (j : Nat) (u : Value), c[j]? = some u → l.flatten[i * k + j]? = some u
  | [], _, i, c, h, _, _, _ => by simp at h
  | d :: l, hl, i, c, h, j, u, hu => by
    have hd := hl d (by simp)
    rw [List.flatten_cons]
    cases i with
    | zero =>
      simp at h; subst h
      have : j < d.length := (List.getElem?_eq_some_iff.1 hu).1
      rw [Nat.zero_mul, Nat.zero_add, List.getElem?_append_left this]; exact hu
    | succ i =>
      have h2 : l[i]? = some c := by simpa using h
      have := flat_at l (fun c hc => hl c (by simp [hc])) i c h2 j u hu
      rw [List.getElem?_append_right (by rw [hd, Nat.succ_mul]; omega), hd]
      rw [show (i + 1) * k + j - k = i * k + j by rw [Nat.succ_mul]; omega]
      exact this
theorem ownsRow_rdk {w : World} {B k : Nat} {e : TypeId} {v : Value} {n : Nat} {l : List (List Value)} (_hk : 0 < k) (hl : ∀ c ∈ l, c.length = k) (hn : l.length = n) (h : w.ownsRow B e k v n l.flatten) : ∃ A cap, v = .slice A n cap ∧ RdB w w.heap.size A k l := by
  obtain ⟨h1, h2⟩ := h
  rcases h2 with ⟨rfl, rfl⟩ | ⟨g, cap, cur, rfl, hB, hh, hnc, hm, hs, ht⟩
  · exact ⟨none, 0, rfl, fun i c hi => by
      have : i < l.length := (List.getElem?_eq_some_iff.1 hi).1
      omega⟩
  · refine ⟨_, cap, rfl, fun i c hi => ⟨g, 0, rfl, (Array.getElem?_eq_some_iff.1 hh).1, fun j u hu => ?_⟩⟩
    have hf := flat_at l hl i c hi j u hu
    have hlt : i * k + j < l.flatten.length := (List.getElem?_eq_some_iff.1 hf).1
    rw [cell_of_row w g _ cur _ (0, 0) hh, ← Array.getElem?_toList, Nat.zero_add]
    rw [← ht, List.getElem?_take] at hf
    rw [h1] at hlt
    rw [if_pos hlt] at hf
    exact hf
end Go.Proofs.YtiekhbagpmnboaaGreatDoor
