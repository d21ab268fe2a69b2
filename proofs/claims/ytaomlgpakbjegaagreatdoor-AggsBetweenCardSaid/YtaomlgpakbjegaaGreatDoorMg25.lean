/-
  nums: Call, what its parts answer; Slices that came in: their lists; a slice of numbers that came in.
-/
import Derived.Test.YtaomlgpakbjegaaGreatDoorRows
import Derived.Test.YtaomlgpakbjegaaGreatDoorBase
import Derived.Test.YtaomlgpakbjegaaGreatDoorMapK
import Derived.Test.YtaomlgpakbjegaaGreatDoorRowB
import Derived.Test.YtaomlgpakbjegaaGreatDoorMg5
import Derived.Test.YtaomlgpakbjegaaGreatDoorValA
import Derived.Test.YtaomlgpakbjegaaGreatDoorValB
import Derived.Test.YtaomlgpakbjegaaGreatDoorValC
import Derived.Test.YtaomlgpakbjegaaGreatDoorAddrC
import Derived.Test.YtaomlgpakbjegaaGreatDoorMg10
import Derived.Test.YtaomlgpakbjegaaGreatDoorProg
import Derived.Test.YtaomlgpakbjegaaGreatDoorShelf
import Derived.Test.YtaomlgpakbjegaaGreatDoorMg2
import Derived.Test.YtaomlgpakbjegaaGreatDoorMg12
import Derived.Test.YtaomlgpakbjegaaGreatDoorDPrint
import Derived.Test.YtaomlgpakbjegaaGreatDoorRPr
import Derived.Test.YtaomlgpakbjegaaGreatDoorKnuth
import Derived.Test.YtaomlgpakbjegaaGreatDoorDDiv
import Derived.Test.YtaomlgpakbjegaaGreatDoorDDig
import Derived.Test.YtaomlgpakbjegaaGreatDoorCutW
import Derived.Test.YtaomlgpakbjegaaGreatDoorDParse
import Derived.Test.YtaomlgpakbjegaaGreatDoorDecK
import Derived.Test.YtaomlgpakbjegaaGreatDoorDDivA
import Derived.Test.YtaomlgpakbjegaaGreatDoorValD
import Derived.Test.YtaomlgpakbjegaaGreatDoorMg23
import Derived.Test.YtaomlgpakbjegaaGreatDoorValL
import Derived.Maps.AppendAt
import Derived.WalkSpells
import Derived.WalkLawsBesides
import Derived.StillTactics
import Derived.Laws.Pointers
import Derived.Deep.RegionHeld3
import Derived.Deep.QuietTactic
import Derived.BigQuiet
import Derived.RowKit3
import Derived.Lib.Hide
import Derived.Lib.OthersKept
import Derived.OwnWalk
import Derived.Lib.IndexLaws
import Derived.Lib.ItoaMem
import Derived.WalkKit
import Derived.ProofKit
import Derived.OpenShut
import Derived.Carry
import Derived.ChangeSame
import Derived.Deep.Draws
import Derived.Maps.OwnSet
import Derived.Laws.EntriesVeiled
import Derived.Laws.BitsAllLaws
import Derived.Shelf.Strings.Builder1
import Derived.Shelf.Strings.Builder2
import Derived.Shelf.Strings.OnBuilder
import Derived.Shelf.Strings.Trim
import Derived.Shelf.Small.Utf8
import Derived.Shelf.Small.Bits
import Derived.Shelf.Small.Strs
import Derived.Shelf.Small.Wraps
import Derived.Shelf.Strings.BuilderF
import Derived.Shelf.Strings.BuilderK
import Derived.Shelf.Strconv.Itoa0
import Derived.Shelf.Strconv.Itoa1
import Derived.Shelf.LaysM
import Derived.Shelf.Strconv.Itoa2
import Derived.Ground.MpProg
import Derived.Shelf.Pu.ParseUintPublic10
import Derived.Shelf.Strings.Search1
import Derived.Shelf.Strings.Search2
import Derived.Shelf.Strings.Search3
import Derived.Shelf.Strings.Cut
import Derived.Shelf.Strings.Shaped
import Derived.Shelf.Strings.Prefix
import Derived.Shelf.Strings.Runes
import Derived.Shelf.Strings.AsciiSet
import Derived.Shelf.Bits.Mul64
import Derived.Shelf.Strings.Repeat
import Derived.Shelf.Unicode.DecodeSlow
import Derived.Ground.SlgmProg
import Derived.Shelf.SortM.Plain
import Derived.Shelf.SortM.SortNone
import Derived.Lib.TrimByte
import Derived.Lib.Bytealg
import Derived.Lib.SlTrimSet
import Derived.Lib.ParseIntB
import Derived.Shelf.Strings.SlTrimAscii
import Derived.Lib.SmallJoins
import Derived.Deep.RegionWith
import Derived.Deep.Slices
import Derived.ChangeSlices
namespace Go.Proofs.YtaomlgpakbjegaaGreatDoor
open Go.RowKit

def VL.asN (v : VL) : Int := if v.may = true then (if v.t = 1 then v.n else if v.t = 3 then (if v.b = true then 10000 else 0) else 0) else 0
def VL.asC (v : VL) : Int := if v.may = true then (if v.t = 4 then v.c else if v.t = 2 then 4 else 0) else 8
theorem asnum_any (v : VL) (hv : v.ok) (w : World) : Calls Tryz.prog 44 #[.agg #[.int .i64 v.t, .int .i64 v.n, .string v.s, .bool v.b, .int .i64 v.c]] w fun e w' => e = .returned (.tuple #[.int .i64 v.asN, .int .i64 v.asC]) ∧ Below w.heap.size w w' := by
  obtain ⟨t, n, s, b, c⟩ := v
  have hn : -9223372036854775808 ≤ n ∧ n ≤ 9223372036854775807 := hv
  unfold VL.asN VL.asC VL.may
  cases m : vMay t n s b c
  · exact asnum_N t n s b c hn m w
  · obtain ⟨h1, h2, h3, h4, h5, h6, h7, h8⟩ := (vMay_iff t n s b c).1 m
    have ht : t = 0 ∨ t = 1 ∨ t = 2 ∨ t = 3 ∨ t = 4 := by omega
    rcases ht with rfl | rfl | rfl | rfl | rfl
    · obtain rfl : n = 0 := by omega
      obtain rfl : s = ⟨#[]⟩ := by rcases h4 with h | h; omega; exact h
      obtain rfl : b = false := by rcases h5 with h | h; omega; exact h
      obtain rfl : c = 0 := by omega
      exact asnum_0 w
    · obtain rfl : s = ⟨#[]⟩ := by rcases h4 with h | h; omega; exact h
      obtain rfl : b = false := by rcases h5 with h | h; omega; exact h
      obtain rfl : c = 0 := by omega
      exact asnum_1 n hn (h7 rfl) w
    · obtain rfl : n = 0 := by omega
      obtain rfl : b = false := by rcases h5 with h | h; omega; exact h
      obtain rfl : c = 0 := by omega
      exact asnum_2 s w
    · obtain rfl : n = 0 := by omega
      obtain rfl : s = ⟨#[]⟩ := by rcases h4 with h | h; omega; exact h
      obtain rfl : c = 0 := by omega
      cases b
      · exact asnum_f w
      · exact asnum_t w
    · obtain rfl : n = 0 := by omega
      obtain rfl : s = ⟨#[]⟩ := by rcases h4 with h | h; omega; exact h
      obtain rfl : b = false := by rcases h5 with h | h; omega; exact h
      exact asnum_4 c (h8 rfl) w
theorem asN_in (v : VL) (hv : v.ok) : -9223372036854775807 ≤ v.asN ∧ v.asN ≤ 9223372036854775807 := by
  have hn : -9223372036854775808 ≤ v.n ∧ v.n ≤ 9223372036854775807 := hv
  unfold VL.asN
  split
  · rename_i h
    obtain ⟨h1, h2, h3, h4, h5, h6, h7, h8⟩ := (vMay_iff v.t v.n v.s v.b v.c).1 h
    split
    · rename_i ht; have := h7 ht; omega
    · split
      · split <;> omega
      · omega
  · omega
theorem bool_info : (Tryz.prog.info? 4).map (fun i => (i.zero, i.size, i.bytes)) = some (some (.bool false), 1, 1) := by kernel_rfl
theorem i64_info : (Tryz.prog.info? 2).map (fun i => (i.zero, i.size, i.bytes)) = some (some (.int .i64 0), 1, 8) := by kernel_rfl
theorem ownsRow_i64 {w : World} {B : Nat} {v : Value} {l : List Int} {n : Nat} (h : w.ownsRow B 2 1 v n (l.map fun n => Value.int .i64 n)) (hn : 0 < n) : ∃ g cap, v = .slice (some ⟨g, 0, none⟩) n cap ∧ B ≤ g ∧ n ≤ cap ∧ ∀ (j : Nat) (x : Int), l[j]? = some x → w.cell? ⟨g, j, none⟩ = some (.int .i64 x) := by
  obtain ⟨h1, h2⟩ := h
  rcases h2 with ⟨_, rfl⟩ | ⟨g, cap, cur, rfl, hB, hh, hnc, hm, hs, ht⟩
  · omega
  · refine ⟨g, cap, rfl, hB, hnc, fun j x hx => ?_⟩
    have hj : j < l.length := (List.getElem?_eq_some_iff.1 hx).1
    have hlen : l.length = n := by simpa using h1
    rw [cell_of_row w g j cur _ (0, 0) hh, ← Array.getElem?_toList]
    have : (cur.toList.take (n * 1))[j]? = some (.int .i64 x) := by rw [ht, List.getElem?_map, hx]; rfl
    rw [List.getElem?_take] at this
    rw [if_pos (by omega)] at this
    exact this
theorem cell_lt {w : World} {b j : Nat} {v : Value} (h : w.cell? ⟨b, j, none⟩ = some v) : b < w.heap.size := by
  rcases Nat.lt_or_ge b w.heap.size with h1 | h1
  · exact h1
  · unfold World.cell? at h
    rw [Array.getElem?_eq_none h1] at h
    cases h
def callS2 (l : List AL) (r : VL) : VL :=
  match l.find? (fun x => decide (x.v.asC ≠ 0)) with
    | some x => errL x.v.asC
    | none => r
/-- the first Fault; else the first that is no number; else r -/
def callS (l : List AL) (r : VL) : VL :=
  match l.find? (fun x => decide (x.v.t = 4)) with
    | some x => x.v
    | none => callS2 l r
theorem ownsRow_rd {w : World} {B : Nat} {e : TypeId} {v : Value} {n : Nat} {xs : List Value} (h : w.ownsRow B e 1 v n xs) : ∃ A cap, v = .slice A n cap ∧ RdB w w.heap.size A 1 (xs.map fun x => [x]) := by
  obtain ⟨h1, h2⟩ := h
  rcases h2 with ⟨rfl, rfl⟩ | ⟨g, cap, cur, rfl, hB, hh, hnc, hm, hs, ht⟩
  · obtain rfl : xs = [] := List.eq_nil_of_length_eq_zero (by simpa using h1)
    exact ⟨none, 0, rfl, fun i c hi => by simp at hi⟩
  · refine ⟨_, cap, rfl, fun i c hi => ?_⟩
    rw [List.getElem?_map] at hi
    cases hx : xs[i]? with
    | none => rw [hx] at hi; cases hi
    | some x =>
      rw [hx] at hi; simp at hi; subst hi
      refine ⟨g, 0, rfl, (Array.getElem?_eq_some_iff.1 hh).1, fun j u hj => ?_⟩
      rcases j with _ | j
      · simp at hj; subst hj
        have hi2 : i < xs.length := (List.getElem?_eq_some_iff.1 hx).1
        rw [cell_of_row w g _ cur _ (0, 0) hh, ← Array.getElem?_toList]
        have : (cur.toList.take (n * 1))[i]? = some x := by rw [ht, hx]
        rw [List.getElem?_take, if_pos (by omega)] at this
        simpa using this
      · simp at hj
end Go.Proofs.YtaomlgpakbjegaaGreatDoor
namespace Go.Proofs.YtaomlgpakbjegaaGreatDoor
open Go.RowKit Go.ChangeShapes Go.WideShapes Go.Deep

section
variable {H : Type} {enc : TypeId × Value → H} {P : Program} {w : World}
/-- a slice of one-cell things that came in: its list, where it lies -/
theorem rd_slice1 {α : Type} (ctor : α → Value) {r : Reach} {b0 : Nat} {t e : TypeId} {v : Value} {d : DataW H} {ps : List MemPlace} {sp : Nat → Bool} {held : Bool} (ht : P.underlying t = some (.slice e)) (hc : P.cellsOf e = 1)
    (he : ∀ (n : Nat) (u : Value) (y : DataW H × List MemPlace), DataW.trod enc P w 0 sp held n e [u] = some y → ∃ x : α, u = ctor x)
    (hval : Value.okWide P w r b0 t v) (h : DataW.Trod enc P w 0 sp held t v d ps) : ∃ (A : Option Addr) (l : List α) (cap : Nat), v = .slice A l.length cap ∧ l.length ≤ cap ∧ cap ≤ maxLen ∧ RdB w w.heap.size A 1 (l.map fun x => [ctor x]) := by
  obtain ⟨fuel, hf⟩ := h
  obtain ⟨A, n, c, rfl⟩ := okWide_slice ht hval
  rcases Go.Deep.open_slice1 ht hc hf with ⟨h0, _⟩ | ⟨a, len, cap, m, n', V, D, Pl, h0, hb, hl, hm, hmm, hx, hi⟩
  · have h1 : Value.slice A n c = .slice none 0 0 := by simpa [Value.cells] using h0
    injection h1 with h2 h3 h4
    subst h2; subst h3; subst h4
    exact ⟨none, [], 0, rfl, Nat.le_refl _, Nat.zero_le _, fun i c hi => by simp at hi⟩
  · have h1 : Value.slice A n c = .slice (some a) len cap := by simpa [Value.cells] using h0
    injection h1 with h2 h3 h4
    subst h2; subst h3; subst h4
    have hlm : n ≤ m := by rw [hmm]; split <;> omega
    have hch : ∀ i, i < n → ∃ x : α, V i = ctor x := fun i hlt => he _ _ _ (hi i (by omega)).2
    obtain ⟨X, hX⟩ : ∃ X : (i : Nat) → i < n → α, ∀ i (h : i < n), V i = ctor (X i h) := ⟨fun i h => (hch i h).choose, fun i h => (hch i h).choose_spec⟩
    have hlen : ((List.finRange n).map fun i => X i.1 i.2).length = n := by simp
    refine ⟨some a, (List.finRange n).map fun i => X i.1 i.2, c, by rw [hlen], by rw [hlen]; exact hl, hm, ?_⟩
    intro i c hic
    rw [List.getElem?_map] at hic
    have hlt : i < n := by
      rcases Nat.lt_or_ge i n with h | h
      · exact h
      · rw [List.getElem?_eq_none (by rw [hlen]; exact h)] at hic; cases hic
    have hcell := (hi i (by omega)).1
    have h0' := (hi 0 (by omega)).1
    have hspot : a.spot = none := by simpa [Addr.add] using World.cell?_spot h0'
    obtain ⟨b, o, sp'⟩ := a
    simp only at hspot
    subst hspot
    have hcell2 : w.cell? ⟨b, o + i, none⟩ = some (V i) := by
      rw [← hcell]; unfold Addr.add
      by_cases hi0 : i = 0
      · subst hi0; simp
      · rw [if_neg hi0]
    refine ⟨b, o, rfl, cell_lt hcell2, fun j u hj => ?_⟩
    rw [List.getElem?_eq_getElem (by rw [hlen]; exact hlt)] at hic
    simp at hic
    subst hic
    rcases j with _ | j
    · simp at hj; subst hj
      rw [Nat.mul_one, Nat.add_zero, hcell2, hX i hlt]
    · simp at hj
theorem rd_bools {r : Reach} {b0 : Nat} {t e : TypeId} {v : Value} {d : DataW H} {ps : List MemPlace} {sp : Nat → Bool} {held : Bool} (ht : P.underlying t = some (.slice e)) (hu : P.underlying e = some .bool) (hc : P.cellsOf e = 1)
    (hval : Value.okWide P w r b0 t v) (h : DataW.Trod enc P w 0 sp held t v d ps) : ∃ (A : Option Addr) (l : List Bool) (cap : Nat), v = .slice A l.length cap ∧ l.length ≤ cap ∧ cap ≤ maxLen ∧ RdB w w.heap.size A 1 (l.map fun (x : Bool) => [Value.bool x]) :=
  rd_slice1 Value.bool ht hc (fun n u y hy => by
    obtain ⟨b, hb, _⟩ := DataW.trod_bool hu hy
    exact ⟨b, by simpa using hb⟩) hval h
end
end Go.Proofs.YtaomlgpakbjegaaGreatDoor
namespace Go.Proofs.YtaomlgpakbjegaaGreatDoor
open Go.RowKit Go.ChangeShapes Go.WideShapes Go.Deep

section
variable {H : Type} {enc : TypeId × Value → H} {P : Program} {w : World}
theorem rd_ints {r : Reach} {b0 : Nat} {t e : TypeId} {v : Value} {d : DataW H} {ps : List MemPlace} {sp : Nat → Bool} {held : Bool} (ht : P.underlying t = some (.slice e)) (hu : P.underlying e = some (.int .i64)) (hc : P.cellsOf e = 1)
    (hval : Value.okWide P w r b0 t v) (h : DataW.Trod enc P w 0 sp held t v d ps) : ∃ (A : Option Addr) (l : List Int) (cap : Nat), v = .slice A l.length cap ∧ l.length ≤ cap ∧ cap ≤ maxLen ∧ RdB w w.heap.size A 1 (l.map fun x => [Value.int .i64 x]) ∧ ∀ x ∈ l, -9223372036854775808 ≤ x ∧ x ≤ 9223372036854775807 := by
  obtain ⟨A, l, cap, h1, h2, h3, h4⟩ := rd_slice1 (fun x : {x : Int // -9223372036854775808 ≤ x ∧ x ≤ 9223372036854775807} => Value.int .i64 x.1) ht hc (fun n u y hy => by
    obtain ⟨b, hb, _, hw⟩ := DataW.trod_int hu hy
    exact ⟨⟨b, bounds_i64 hw⟩, by simpa using hb⟩) hval h
  refine ⟨A, l.map (·.1), cap, by rw [List.length_map]; exact h1, by rw [List.length_map]; exact h2, h3, ?_, ?_⟩
  · rw [List.map_map]; exact h4
  · intro x hx
    obtain ⟨y, _, rfl⟩ := List.mem_map.1 hx
    exact y.2
end
end Go.Proofs.YtaomlgpakbjegaaGreatDoor
