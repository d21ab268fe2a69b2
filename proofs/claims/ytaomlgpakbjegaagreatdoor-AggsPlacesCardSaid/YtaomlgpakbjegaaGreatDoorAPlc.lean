/-
  aggs: plain laws of the places of a rectangle.
-/
import Derived.Test.YtaomlgpakbjegaaGreatDoorRows
import Derived.Test.YtaomlgpakbjegaaGreatDoorBase
import Derived.Test.YtaomlgpakbjegaaGreatDoorRowB
import Derived.Test.YtaomlgpakbjegaaGreatDoorMg4
import Derived.Test.YtaomlgpakbjegaaGreatDoorValA
import Derived.Test.YtaomlgpakbjegaaGreatDoorValB
import Derived.Test.YtaomlgpakbjegaaGreatDoorValC
import Derived.Test.YtaomlgpakbjegaaGreatDoorAddrC
import Derived.Test.YtaomlgpakbjegaaGreatDoorAddrI
import Derived.Test.YtaomlgpakbjegaaGreatDoorMapK
import Derived.Test.YtaomlgpakbjegaaGreatDoorArgK
import Derived.Test.YtaomlgpakbjegaaGreatDoorAArg
import Derived.Test.YtaomlgpakbjegaaGreatDoorProg
import Derived.Test.YtaomlgpakbjegaaGreatDoorShelfB
import Derived.Test.YtaomlgpakbjegaaGreatDoorDFlo
import Derived.Test.YtaomlgpakbjegaaGreatDoorMg1
import Derived.Test.YtaomlgpakbjegaaGreatDoorMg15
import Derived.Test.YtaomlgpakbjegaaGreatDoorValL
import Derived.Test.YtaomlgpakbjegaaGreatDoorNCallK
import Derived.Test.YtaomlgpakbjegaaGreatDoorAItm
import Derived.Test.YtaomlgpakbjegaaGreatDoorAAmo
import Derived.Test.YtaomlgpakbjegaaGreatDoorASum
import Derived.Test.YtaomlgpakbjegaaGreatDoorAFind
import Derived.Test.YtaomlgpakbjegaaGreatDoorACall
import Derived.Test.YtaomlgpakbjegaaGreatDoorACallB
import Derived.Test.YtaomlgpakbjegaaGreatDoorANum
import Derived.Test.YtaomlgpakbjegaaGreatDoorAInt
import Derived.Test.YtaomlgpakbjegaaGreatDoorALar
import Derived.Test.YtaomlgpakbjegaaGreatDoorACol
import Derived.Test.YtaomlgpakbjegaaGreatDoorAAt
import Derived.Test.YtaomlgpakbjegaaGreatDoorACnt
import Derived.Test.YtaomlgpakbjegaaGreatDoorACif
import Derived.Test.YtaomlgpakbjegaaGreatDoorMg31
import Derived.Test.YtaomlgpakbjegaaGreatDoorAKn
import Derived.WalkKit
import Derived.ProofKit
import Derived.OpenShut
import Derived.Carry
import Derived.ChangeSame
import Derived.Lib.Hide
import Derived.Deep.Draws
import Derived.WalkSpells
import Derived.WalkLawsBesides
import Derived.StillTactics
import Derived.Laws.Pointers
import Derived.Deep.RegionHeld3
import Derived.Deep.QuietTactic
import Derived.BigQuiet
import Derived.RowKit3
import Derived.Lib.OthersKept
import Derived.OwnWalk
import Derived.Lib.IndexLaws
import Derived.Lib.ItoaMem
import Derived.Maps.OwnSet
import Derived.Maps.AppendAt
import Derived.Shelf.SlGeneric
import Derived.Shelf.SortM.Plain
import Derived.Shelf.SortM.SortNone
import Derived.Ground.SlgmProg
import Derived.Laws.EntriesVeiled
import Derived.Laws.BitsAllLaws
import Derived.Shelf.Strings.Builder1
import Derived.Shelf.Strings.Builder2
import Derived.Shelf.Strings.OnBuilder
import Derived.Shelf.Strings.Trim
import Derived.Shelf.Small.Utf8
import Derived.Shelf.Small.Bits
import Derived.Shelf.Small.Strs
import Derived.Shelf.Small.Wraps
import Derived.Shelf.Strings.BuilderF
import Derived.Shelf.Strings.BuilderK
import Derived.Shelf.Strconv.Itoa0
import Derived.Shelf.Strconv.Itoa1
import Derived.Shelf.LaysM
import Derived.Shelf.Strconv.Itoa2
import Derived.Ground.MpProg
import Derived.Shelf.Pu.ParseUintPublic10
import Derived.Shelf.Strings.Search1
import Derived.Shelf.Strings.Search2
import Derived.Shelf.Strings.Search3
import Derived.Shelf.Strings.Cut
import Derived.Shelf.Strings.Shaped
import Derived.Shelf.Strings.Prefix
import Derived.Shelf.Strings.Runes
import Derived.Shelf.Strings.AsciiSet
import Derived.Shelf.Bits.Mul64
import Derived.Shelf.Strings.Repeat
import Derived.Shelf.Unicode.DecodeSlow
import Derived.Lib.TrimByte
import Derived.Lib.Bytealg
import Derived.Lib.SlTrimSet
import Derived.Lib.ParseIntB
import Derived.Shelf.Strings.SlTrimAscii
import Derived.Lib.SmallJoins
import Derived.Deep.RegionWith
import Derived.Laws.Externs
import Derived.IntWalk
import Derived.Sort.OwnSorted
import Derived.Sort.OwnSortedInts
import Derived.Deep.AppendLies
import Derived.Deep.RegionLaw
namespace Go.Proofs.YtaomlgpakbjegaaGreatDoor
open Go.RowKit

/-- where an entry stands in its rectangle -/
def placeL (x : AL) (e : EL) : Int × Int := (e.r - x.t, e.c - x.l)
/-- what 'held' keeps, the last one first -/
def heldL (x : AL) : List ((Int × Int) × VL) := (x.es.map fun e => (placeL x e, e.v)).reverse
def lookP : List ((Int × Int) × VL) → Int × Int → VL
  | [], _ => v0
  | (k, y) :: l, p => if p = k then y else lookP l p
theorem lookP_mem (l : List ((Int × Int) × VL)) (p : Int × Int) : lookP l p = v0 ∨ (p, lookP l p) ∈ l := by
  induction l with
  | nil => left; rfl
  | cons a l ih =>
    obtain ⟨k, y⟩ := a
    unfold lookP
    by_cases h : p = k
    · rw [if_pos h]; right; simp [h]
    · rw [if_neg h]
      rcases ih with ih | ih
      · left; exact ih
      · right; simp [ih]
theorem lookP_one {l : List ((Int × Int) × VL)} {p : Int × Int} {y : VL} (hm : (p, y) ∈ l) (hu : ∀ z, (p, z) ∈ l → z = y) : lookP l p = y := by
  induction l with
  | nil => cases hm
  | cons a l ih =>
    obtain ⟨k, u⟩ := a
    unfold lookP
    by_cases h : p = k
    · rw [if_pos h]; exact hu u (by simp [h])
    · rw [if_neg h]
      refine ih ?_ (fun z hz => hu z (by simp [hz]))
      rcases List.mem_cons.1 hm with e | e
      · injection e with e1 e2; exact absurd e1 h
      · exact e
theorem ent_bef {x : AL} (h : entsOk x = true) (i : Nat) (e : EL) (he : x.es[i]? = some e) : ∀ (j : Nat) (d : EL), i < j → x.es[j]? = some d → befB e.r e.c d.r d.c = true := by
  intro j
  induction j with
  | zero => intro d hij; omega
  | succ j ih =>
    intro d hij hd
    obtain ⟨-, -, h3⟩ := ent_parts h (j + 1) d hd
    obtain ⟨m, hm⟩ : ∃ m, x.es[j]? = some m := ⟨_, List.getElem?_eq_getElem (by have := (List.getElem?_eq_some_iff.1 hd).1; omega)⟩
    have b := h3 j m rfl hm
    rcases Nat.lt_or_ge i j with hl | hl
    · have a := ih m hl hm
      unfold befB at *
      simp only [Bool.or_eq_true, Bool.and_eq_true, decide_eq_true_eq] at *
      omega
    · obtain rfl : i = j := by omega
      rw [he] at hm; cases hm; exact b
theorem heldL_mem {x : AL} {p : Int × Int} {y : VL} (h : (p, y) ∈ heldL x) : ∃ (k : Nat) (e : EL), x.es[k]? = some e ∧ placeL x e = p ∧ e.v = y := by
  unfold heldL at h
  rw [List.mem_reverse] at h
  obtain ⟨e, he, h2⟩ := List.mem_map.1 h
  obtain ⟨k, hk⟩ := List.getElem?_of_mem he
  injection h2 with h3 h4
  exact ⟨k, e, hk, h3, h4⟩
theorem place_inj {x : AL} (h : entsOk x = true) {i j : Nat} {e d : EL} (he : x.es[i]? = some e) (hd : x.es[j]? = some d) (hp : placeL x e = placeL x d) : i = j := by
  unfold placeL at hp
  injection hp with h1 h2
  rcases Nat.lt_trichotomy i j with hl | hl | hl
  · have a := ent_bef h i e he j d hl hd
    unfold befB at a
    simp only [Bool.or_eq_true, Bool.and_eq_true, decide_eq_true_eq] at a
    omega
  · exact hl
  · have a := ent_bef h j d hd i e hl he
    unfold befB at a
    simp only [Bool.or_eq_true, Bool.and_eq_true, decide_eq_true_eq] at a
    omega
/-- at an entry's place stands its value -/
theorem look_at {x : AL} (h : entsOk x = true) {k : Nat} {e : EL} (he : x.es[k]? = some e) : lookP (heldL x) (placeL x e) = e.v := by
  refine lookP_one ?_ ?_
  · unfold heldL
    rw [List.mem_reverse]
    exact List.mem_map.2 ⟨e, List.mem_of_getElem? he, rfl⟩
  · intro z hz
    obtain ⟨j, d, hd, hp, rfl⟩ := heldL_mem hz
    obtain rfl := place_inj h he hd hp.symm
    rw [he] at hd; cases hd; rfl
/-- what stands at a place that is not Blank is an entry's -/
theorem look_inv {x : AL} {p : Int × Int} (h : lookP (heldL x) p ≠ v0) : ∃ (k : Nat) (e : EL), x.es[k]? = some e ∧ placeL x e = p ∧ e.v = lookP (heldL x) p := by
  rcases lookP_mem (heldL x) p with h1 | h1
  · exact absurd h1 h
  · exact heldL_mem h1
/-- the i-th place of a line -/
def nthL (x : AL) (i : Int) : Int × Int := (i / colsL x, i % colsL x)
def idxL (x : AL) (e : EL) : Int := (e.r - x.t) + (e.c - x.l)
theorem idx_in {x : AL} (hl : rowsL x = 1 ∨ colsL x = 1) {e : EL} (h : inB x.t x.l x.b x.r e.r e.c = true) : 0 ≤ idxL x e ∧ idxL x e < rowsL x * colsL x ∧ nthL x (idxL x e) = placeL x e := by
  unfold inB at h
  simp only [Bool.and_eq_true, decide_eq_true_eq] at h
  have hR : 1 ≤ rowsL x := by unfold rowsL; omega
  have hC : 1 ≤ colsL x := by unfold colsL; omega
  unfold idxL nthL placeL
  rcases hl with h1 | h1
  · rw [h1, Int.one_mul]
    have h2 : e.r - x.t = 0 := by unfold rowsL at h1; omega
    have h3 : e.c - x.l < colsL x := by unfold colsL; omega
    rw [h2, Int.zero_add]
    refine ⟨by omega, h3, ?_⟩
    rw [Int.ediv_eq_zero_of_lt (by omega) h3, Int.emod_eq_of_lt (by omega) h3]
  · rw [h1, Int.mul_one, Int.ediv_one, Int.emod_one]
    have h2 : e.c - x.l = 0 := by unfold colsL at h1; omega
    have h3 : e.r - x.t < rowsL x := by unfold rowsL; omega
    rw [h2, Int.add_zero]
    exact ⟨by omega, h3, rfl⟩
theorem idx_lt {x : AL} (hl : rowsL x = 1 ∨ colsL x = 1) {e d : EL} (he : inB x.t x.l x.b x.r e.r e.c = true) (hd : inB x.t x.l x.b x.r d.r d.c = true) (hb : befB e.r e.c d.r d.c = true) : idxL x e < idxL x d := by
  unfold inB at he hd
  unfold befB at hb
  simp only [Bool.or_eq_true, Bool.and_eq_true, decide_eq_true_eq] at he hd hb
  unfold idxL
  unfold rowsL colsL at hl
  omega
/-- v stands at the i-th place of a line, and at none ahead of it -/
structure FirstL (x : AL) (v : VL) (i : Nat) : Prop where
  lt : (i : Int) < rowsL x * colsL x
  at_ : lookP (heldL x) (nthL x i) = v
  no : ∀ j : Nat, j < i → lookP (heldL x) (nthL x j) ≠ v
theorem FirstL.exists {x : AL} {v : VL} (i : Nat) (hlt : (i : Int) < rowsL x * colsL x) (h : lookP (heldL x) (nthL x i) = v) : ∃ j, j ≤ i ∧ FirstL x v j := by
  induction i using Nat.strongRecOn with
  | _ i ih =>
    by_cases hn : ∃ j : Nat, j < i ∧ lookP (heldL x) (nthL x j) = v
    · obtain ⟨j, hj, hv⟩ := hn
      obtain ⟨m, hm, hF⟩ := ih j hj (by omega) hv
      exact ⟨m, by omega, hF⟩
    · exact ⟨i, Nat.le_refl _, hlt, h, fun j hj e => hn ⟨j, hj, e⟩⟩
theorem nth_inj {x : AL} {i j : Int} (h : nthL x i = nthL x j) : i = j := by
  unfold nthL at h
  injection h with h1 h2
  have a := Int.mul_ediv_add_emod i (colsL x)
  have b := Int.mul_ediv_add_emod j (colsL x)
  rw [← a, ← b, h1, h2]
/-- MATCH in a line -/
theorem first_of {x : AL} (h : entsOk x = true) (hl : rowsL x = 1 ∨ colsL x = 1) {k : Nat} {e : EL} (he : x.es[k]? = some e) :
    ∃ i : Nat, FirstL x e.v i ∧ (i : Int) ≤ idxL x e ∧ (∀ (f : Nat) (d : EL), f < k → x.es[f]? = some d → d.v = e.v → (i : Int) < idxL x e) ∧ ((∀ (f : Nat) (d : EL), f < k → x.es[f]? = some d → d.v ≠ e.v) → e.v.t ≠ 0 → (i : Int) = idxL x e) := by
  obtain ⟨hin, hmy, -⟩ := ent_parts h k e he
  obtain ⟨q1, q2, q3⟩ := idx_in hl hin
  obtain ⟨n, hn⟩ : ∃ n : Nat, (n : Int) = idxL x e := ⟨(idxL x e).toNat, by omega⟩
  obtain ⟨i, hi, hF⟩ := FirstL.exists (x := x) (v := e.v) n (by omega) (by rw [hn, q3]; exact look_at h he)
  refine ⟨i, hF, by omega, ?_, ?_⟩
  · intro f d hf hd hv
    obtain ⟨din, -, -⟩ := ent_parts h f d hd
    obtain ⟨p1, p2, p3⟩ := idx_in hl din
    have hlt := idx_lt hl din hin (ent_bef h f d hd k e hf he)
    obtain ⟨m, hm⟩ : ∃ m : Nat, (m : Int) = idxL x d := ⟨(idxL x d).toNat, by omega⟩
    rcases Nat.lt_or_ge m i with hc | hc
    · exact absurd (by rw [hm, p3, look_at h hd, hv]) (hF.no m hc)
    · omega
  · intro hno ht
    have hz : lookP (heldL x) (nthL x i) ≠ v0 := by
      rw [hF.at_]
      intro e0; rw [e0] at ht; exact ht rfl
    obtain ⟨f, d, hd, hp, hv⟩ := look_inv hz
    rw [hF.at_] at hv
    obtain ⟨din, -, -⟩ := ent_parts h f d hd
    obtain ⟨p1, p2, p3⟩ := idx_in hl din
    have hii : (i : Int) = idxL x d := nth_inj (by rw [p3, hp])
    rcases Nat.lt_trichotomy f k with hl2 | hl2 | hl2
    · exact absurd hv (hno f d hl2 hd)
    · subst hl2; rw [he] at hd; cases hd; exact hii
    · have := idx_lt hl hin din (ent_bef h k e he f d hl2 hd)
      omega
end Go.Proofs.YtaomlgpakbjegaaGreatDoor
