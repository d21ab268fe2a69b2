/-
  aggs: lookup, two arguments (MATCH).
-/
import Derived.Test.YtaomlgpakbjegaaGreatDoorRows
import Derived.Test.YtaomlgpakbjegaaGreatDoorBase
import Derived.Test.YtaomlgpakbjegaaGreatDoorRowB
import Derived.Test.YtaomlgpakbjegaaGreatDoorMg4
import Derived.Test.YtaomlgpakbjegaaGreatDoorValA
import Derived.Test.YtaomlgpakbjegaaGreatDoorValB
import Derived.Test.YtaomlgpakbjegaaGreatDoorValC
import Derived.Test.YtaomlgpakbjegaaGreatDoorAddrC
import Derived.Test.YtaomlgpakbjegaaGreatDoorAddrI
import Derived.Test.YtaomlgpakbjegaaGreatDoorMapK
import Derived.Test.YtaomlgpakbjegaaGreatDoorArgK
import Derived.Test.YtaomlgpakbjegaaGreatDoorAArg
import Derived.Test.YtaomlgpakbjegaaGreatDoorProg
import Derived.Test.YtaomlgpakbjegaaGreatDoorShelfB
import Derived.Test.YtaomlgpakbjegaaGreatDoorDFlo
import Derived.Test.YtaomlgpakbjegaaGreatDoorMg1
import Derived.Test.YtaomlgpakbjegaaGreatDoorMg15
import Derived.Test.YtaomlgpakbjegaaGreatDoorValL
import Derived.Test.YtaomlgpakbjegaaGreatDoorNCallK
import Derived.Test.YtaomlgpakbjegaaGreatDoorAItm
import Derived.Test.YtaomlgpakbjegaaGreatDoorAAmo
import Derived.Test.YtaomlgpakbjegaaGreatDoorASum
import Derived.Test.YtaomlgpakbjegaaGreatDoorAFind
import Derived.Test.YtaomlgpakbjegaaGreatDoorACall
import Derived.Test.YtaomlgpakbjegaaGreatDoorACallB
import Derived.Test.YtaomlgpakbjegaaGreatDoorANum
import Derived.Test.YtaomlgpakbjegaaGreatDoorAInt
import Derived.Test.YtaomlgpakbjegaaGreatDoorALar
import Derived.Test.YtaomlgpakbjegaaGreatDoorACol
import Derived.Test.YtaomlgpakbjegaaGreatDoorAAt
import Derived.Test.YtaomlgpakbjegaaGreatDoorACnt
import Derived.Test.YtaomlgpakbjegaaGreatDoorACif
import Derived.Test.YtaomlgpakbjegaaGreatDoorMg31
import Derived.Test.YtaomlgpakbjegaaGreatDoorAKn
import Derived.Test.YtaomlgpakbjegaaGreatDoorAPlc
import Derived.Test.YtaomlgpakbjegaaGreatDoorAHld
import Derived.Test.YtaomlgpakbjegaaGreatDoorAAlk
import Derived.Outline
import Derived.Deep.CutRange
import Derived.Deep.CutBlock
import Derived.Maps.AppendAt
import Derived.WalkSpells
import Derived.WalkLawsBesides
import Derived.StillTactics
import Derived.Laws.Pointers
import Derived.Deep.RegionHeld3
import Derived.Deep.QuietTactic
import Derived.BigQuiet
import Derived.RowKit3
import Derived.Lib.Hide
import Derived.Lib.OthersKept
import Derived.OwnWalk
import Derived.Lib.IndexLaws
import Derived.Lib.ItoaMem
import Derived.WalkKit
import Derived.ProofKit
import Derived.OpenShut
import Derived.Carry
import Derived.ChangeSame
import Derived.Deep.Draws
import Derived.Maps.OwnSet
import Derived.Shelf.SlGeneric
import Derived.Shelf.SortM.Plain
import Derived.Shelf.SortM.SortNone
import Derived.Ground.SlgmProg
import Derived.Laws.EntriesVeiled
import Derived.Laws.BitsAllLaws
import Derived.Shelf.Strings.Builder1
import Derived.Shelf.Strings.Builder2
import Derived.Shelf.Strings.OnBuilder
import Derived.Shelf.Strings.Trim
import Derived.Shelf.Small.Utf8
import Derived.Shelf.Small.Bits
import Derived.Shelf.Small.Strs
import Derived.Shelf.Small.Wraps
import Derived.Shelf.Strings.BuilderF
import Derived.Shelf.Strings.BuilderK
import Derived.Shelf.Strconv.Itoa0
import Derived.Shelf.Strconv.Itoa1
import Derived.Shelf.LaysM
import Derived.Shelf.Strconv.Itoa2
import Derived.Ground.MpProg
import Derived.Shelf.Pu.ParseUintPublic10
import Derived.Shelf.Strings.Search1
import Derived.Shelf.Strings.Search2
import Derived.Shelf.Strings.Search3
import Derived.Shelf.Strings.Cut
import Derived.Shelf.Strings.Shaped
import Derived.Shelf.Strings.Prefix
import Derived.Shelf.Strings.Runes
import Derived.Shelf.Strings.AsciiSet
import Derived.Shelf.Bits.Mul64
import Derived.Shelf.Strings.Repeat
import Derived.Shelf.Unicode.DecodeSlow
import Derived.Lib.TrimByte
import Derived.Lib.Bytealg
import Derived.Lib.SlTrimSet
import Derived.Lib.ParseIntB
import Derived.Shelf.Strings.SlTrimAscii
import Derived.Lib.SmallJoins
import Derived.Deep.RegionWith
import Derived.Laws.Externs
import Derived.IntWalk
import Derived.Sort.OwnSorted
import Derived.Sort.OwnSortedInts
import Derived.Deep.AppendLies
import Derived.Deep.RegionLaw
namespace Go.Proofs.YtaomlgpakbjegaaGreatDoor
open Go.RowKit

theorem cell_sc5 {w : World} {P b j : Nat} {a0 a1 a2 a3 a4 v : Value} (h : P ≠ b) (hc : w.cell? ⟨b, j, none⟩ = some v) : (((((w.setCell ⟨P, 0, none⟩ a0).setCell ⟨P, 1, none⟩ a1).setCell ⟨P, 2, none⟩ a2).setCell ⟨P, 3, none⟩ a3).setCell ⟨P, 4, none⟩ a4).cell? ⟨b, j, none⟩ = some v := by
  rw [World.cell?_setCell_far _ _ _ _ (by simpa using h), World.cell?_setCell_far _ _ _ _ (by simpa using h), World.cell?_setCell_far _ _ _ _ (by simpa using h), World.cell?_setCell_far _ _ _ _ (by simpa using h), World.cell?_setCell_far _ _ _ _ (by simpa using h)]
  exact hc
theorem size_sc5 {w : World} {n P : Nat} {a0 a1 a2 a3 a4 : Value} (h : n ≤ w.heap.size) : n ≤ (((((w.setCell ⟨P, 0, none⟩ a0).setCell ⟨P, 1, none⟩ a1).setCell ⟨P, 2, none⟩ a2).setCell ⟨P, 3, none⟩ a3).setCell ⟨P, 4, none⟩ a4).heap.size := by simpa using h
theorem size_sc11 {w : World} {n P : Nat} {a0 a1 a2 a3 a4 a5 a6 a7 a8 a9 a10 : Value} (h : n ≤ w.heap.size) : n ≤ (((((((((((w.setCell ⟨P, 0, none⟩ a0).setCell ⟨P, 1, none⟩ a1).setCell ⟨P, 2, none⟩ a2).setCell ⟨P, 3, none⟩ a3).setCell ⟨P, 4, none⟩ a4).setCell ⟨P, 5, none⟩ a5).setCell ⟨P, 6, none⟩ a6).setCell ⟨P, 7, none⟩ a7).setCell ⟨P, 8, none⟩ a8).setCell ⟨P, 9, none⟩ a9).setCell ⟨P, 10, none⟩ a10).heap.size := by simpa using h
theorem cell_sc11 {w : World} {P b j : Nat} {a0 a1 a2 a3 a4 a5 a6 a7 a8 a9 a10 v : Value} (h : P ≠ b) (hc : w.cell? ⟨b, j, none⟩ = some v) : (((((((((((w.setCell ⟨P, 0, none⟩ a0).setCell ⟨P, 1, none⟩ a1).setCell ⟨P, 2, none⟩ a2).setCell ⟨P, 3, none⟩ a3).setCell ⟨P, 4, none⟩ a4).setCell ⟨P, 5, none⟩ a5).setCell ⟨P, 6, none⟩ a6).setCell ⟨P, 7, none⟩ a7).setCell ⟨P, 8, none⟩ a8).setCell ⟨P, 9, none⟩ a9).setCell ⟨P, 10, none⟩ a10).cell? ⟨b, j, none⟩ = some v := by
  rw [World.cell?_setCell_far _ _ _ _ (by simpa using h), World.cell?_setCell_far _ _ _ _ (by simpa using h), World.cell?_setCell_far _ _ _ _ (by simpa using h), World.cell?_setCell_far _ _ _ _ (by simpa using h), World.cell?_setCell_far _ _ _ _ (by simpa using h), World.cell?_setCell_far _ _ _ _ (by simpa using h), World.cell?_setCell_far _ _ _ _ (by simpa using h), World.cell?_setCell_far _ _ _ _ (by simpa using h), World.cell?_setCell_far _ _ _ _ (by simpa using h), World.cell?_setCell_far _ _ _ _ (by simpa using h), World.cell?_setCell_far _ _ _ _ (by simpa using h)]
  exact hc
theorem kfar11 {w : World} {P b : Nat} {a0 a1 a2 a3 a4 a5 a6 a7 a8 a9 a10 : Value} {o : Obj} (h : b ≠ P) (hc : w.heap[b]? = some o) : (((((((((((w.setCell ⟨P, 0, none⟩ a0).setCell ⟨P, 1, none⟩ a1).setCell ⟨P, 2, none⟩ a2).setCell ⟨P, 3, none⟩ a3).setCell ⟨P, 4, none⟩ a4).setCell ⟨P, 5, none⟩ a5).setCell ⟨P, 6, none⟩ a6).setCell ⟨P, 7, none⟩ a7).setCell ⟨P, 8, none⟩ a8).setCell ⟨P, 9, none⟩ a9).setCell ⟨P, 10, none⟩ a10).heap[b]? = some o := by
  rw [Below.heap_setCell _ _ _ _ (by simpa using h), Below.heap_setCell _ _ _ _ (by simpa using h), Below.heap_setCell _ _ _ _ (by simpa using h), Below.heap_setCell _ _ _ _ (by simpa using h), Below.heap_setCell _ _ _ _ (by simpa using h), Below.heap_setCell _ _ _ _ (by simpa using h), Below.heap_setCell _ _ _ _ (by simpa using h), Below.heap_setCell _ _ _ _ (by simpa using h), Below.heap_setCell _ _ _ _ (by simpa using h), Below.heap_setCell _ _ _ _ (by simpa using h), Below.heap_setCell _ _ _ _ (by simpa using h)]
  exact hc
theorem kfar5 {w : World} {P b : Nat} {a0 a1 a2 a3 a4 : Value} {o : Obj} (h : b ≠ P) (hc : w.heap[b]? = some o) : (((((w.setCell ⟨P, 0, none⟩ a0).setCell ⟨P, 1, none⟩ a1).setCell ⟨P, 2, none⟩ a2).setCell ⟨P, 3, none⟩ a3).setCell ⟨P, 4, none⟩ a4).heap[b]? = some o := by
  rw [Below.heap_setCell _ _ _ _ (by simpa using h), Below.heap_setCell _ _ _ _ (by simpa using h), Below.heap_setCell _ _ _ _ (by simpa using h), Below.heap_setCell _ _ _ _ (by simpa using h), Below.heap_setCell _ _ _ _ (by simpa using h)]
  exact hc
theorem row11 {w : World} {P : Nat} {a0 z0 a1 z1 a2 z2 a3 z3 a4 z4 a5 z5 a6 z6 a7 z7 a8 z8 a9 z9 a10 z10 : Value} {t : TypeId} (h : w.heap[P]? = some (.cells #[z0, z1, z2, z3, z4, z5, z6, z7, z8, z9, z10] t (0, 0))) : (((((((((((w.setCell ⟨P, 0, none⟩ a0).setCell ⟨P, 1, none⟩ a1).setCell ⟨P, 2, none⟩ a2).setCell ⟨P, 3, none⟩ a3).setCell ⟨P, 4, none⟩ a4).setCell ⟨P, 5, none⟩ a5).setCell ⟨P, 6, none⟩ a6).setCell ⟨P, 7, none⟩ a7).setCell ⟨P, 8, none⟩ a8).setCell ⟨P, 9, none⟩ a9).setCell ⟨P, 10, none⟩ a10).heap[P]? = some (.cells #[a0, a1, a2, a3, a4, a5, a6, a7, a8, a9, a10] t (0, 0)) := by
  have h9 := (row_set (j := 10) (v := a10) (row_set (j := 9) (v := a9) (row_set (j := 8) (v := a8) (row_set (j := 7) (v := a7) (row_set (j := 6) (v := a6) (row_set (j := 5) (v := a5) (row_set (j := 4) (v := a4) (row_set (j := 3) (v := a3) (row_set (j := 2) (v := a2) (row_set (j := 1) (v := a1) (row_set (j := 0) (v := a0) h)))))))))))
  simp only [List.setIfInBounds_toArray, List.set_cons_zero, List.set_cons_succ] at h9
  exact h9
theorem row5 {w : World} {P : Nat} {a0 z0 a1 z1 a2 z2 a3 z3 a4 z4 : Value} {t : TypeId} (h : w.heap[P]? = some (.cells #[z0, z1, z2, z3, z4] t (0, 0))) : (((((w.setCell ⟨P, 0, none⟩ a0).setCell ⟨P, 1, none⟩ a1).setCell ⟨P, 2, none⟩ a2).setCell ⟨P, 3, none⟩ a3).setCell ⟨P, 4, none⟩ a4).heap[P]? = some (.cells #[a0, a1, a2, a3, a4] t (0, 0)) := by
  have h9 := (row_set (j := 4) (v := a4) (row_set (j := 3) (v := a3) (row_set (j := 2) (v := a2) (row_set (j := 1) (v := a1) (row_set (j := 0) (v := a0) h)))))
  simp only [List.setIfInBounds_toArray, List.set_cons_zero, List.set_cons_succ] at h9
  exact h9
theorem below11 {w0 w : World} {B P : Nat} {a0 a1 a2 a3 a4 a5 a6 a7 a8 a9 a10 : Value} (h : Below B w0 w) (hP : B ≤ P) : Below B w0 (((((((((((w.setCell ⟨P, 0, none⟩ a0).setCell ⟨P, 1, none⟩ a1).setCell ⟨P, 2, none⟩ a2).setCell ⟨P, 3, none⟩ a3).setCell ⟨P, 4, none⟩ a4).setCell ⟨P, 5, none⟩ a5).setCell ⟨P, 6, none⟩ a6).setCell ⟨P, 7, none⟩ a7).setCell ⟨P, 8, none⟩ a8).setCell ⟨P, 9, none⟩ a9).setCell ⟨P, 10, none⟩ a10) := (((((((((((h.setCell (p := ⟨P, 0, none⟩) hP _).setCell (p := ⟨P, 1, none⟩) hP _).setCell (p := ⟨P, 2, none⟩) hP _).setCell (p := ⟨P, 3, none⟩) hP _).setCell (p := ⟨P, 4, none⟩) hP _).setCell (p := ⟨P, 5, none⟩) hP _).setCell (p := ⟨P, 6, none⟩) hP _).setCell (p := ⟨P, 7, none⟩) hP _).setCell (p := ⟨P, 8, none⟩) hP _).setCell (p := ⟨P, 9, none⟩) hP _).setCell (p := ⟨P, 10, none⟩) hP _)
theorem below5 {w0 w : World} {B P : Nat} {a0 a1 a2 a3 a4 : Value} (h : Below B w0 w) (hP : B ≤ P) : Below B w0 (((((w.setCell ⟨P, 0, none⟩ a0).setCell ⟨P, 1, none⟩ a1).setCell ⟨P, 2, none⟩ a2).setCell ⟨P, 3, none⟩ a3).setCell ⟨P, 4, none⟩ a4) := (((((h.setCell (p := ⟨P, 0, none⟩) hP _).setCell (p := ⟨P, 1, none⟩) hP _).setCell (p := ⟨P, 2, none⟩) hP _).setCell (p := ⟨P, 3, none⟩) hP _).setCell (p := ⟨P, 4, none⟩) hP _)
theorem cell_sc2 {w : World} {P b j : Nat} {a0 a1 v : Value} (h : P ≠ b) (hc : w.cell? ⟨b, j, none⟩ = some v) : ((w.setCell ⟨P, 0, none⟩ a0).setCell ⟨P, 1, none⟩ a1).cell? ⟨b, j, none⟩ = some v := by
  rw [World.cell?_setCell_far _ _ _ _ (by simpa using h), World.cell?_setCell_far _ _ _ _ (by simpa using h)]
  exact hc
theorem size_sc2 {w : World} {n P : Nat} {a0 a1 : Value} (h : n ≤ w.heap.size) : n ≤ ((w.setCell ⟨P, 0, none⟩ a0).setCell ⟨P, 1, none⟩ a1).heap.size := by simpa using h
theorem row2 {w : World} {P : Nat} {a0 z0 a1 z1 : Value} {t : TypeId} (h : w.heap[P]? = some (.cells #[z0, z1] t (0, 0))) : ((w.setCell ⟨P, 0, none⟩ a0).setCell ⟨P, 1, none⟩ a1).heap[P]? = some (.cells #[a0, a1] t (0, 0)) := by
  have h9 := (row_set (j := 1) (v := a1) (row_set (j := 0) (v := a0) h))
  simp only [List.setIfInBounds_toArray, List.set_cons_zero, List.set_cons_succ] at h9
  exact h9
theorem below2 {w0 w : World} {B P : Nat} {a0 a1 : Value} (h : Below B w0 w) (hP : B ≤ P) : Below B w0 ((w.setCell ⟨P, 0, none⟩ a0).setCell ⟨P, 1, none⟩ a1) := ((h.setCell (p := ⟨P, 0, none⟩) hP _).setCell (p := ⟨P, 1, none⟩) hP _)
/-- the result's box, of any value -/
def ResRow (w : World) (p : Nat) : Prop := ∃ c0 c1 c2 c3 c4, w.heap[p]? = some (.cells #[c0, c1, c2, c3, c4] 26 (0, 0))
theorem ResRow.below {w w1 : World} {p : Nat} (h : ResRow w p) (hb : Below w.heap.size w w1) (hp : p < w.heap.size) : ResRow w1 p := by
  obtain ⟨c0, c1, c2, c3, c4, h⟩ := h
  exact ⟨c0, c1, c2, c3, c4, (hb.block p hp).trans h⟩
theorem ResRow.of5 {w0 w : World} {a0 a1 a2 a3 a4 : Value} (h : w.heap[w0.heap.size]? = (w0.alloc (.cells #[a0, a1, a2, a3, a4] 26)).heap[w0.heap.size]?) : ResRow w.drew w0.heap.size := ⟨a0, a1, a2, a3, a4, h.trans (blk_new w0 #[a0, a1, a2, a3, a4] 26)⟩
/-- the first place of a line that has v -/
def Ffirst (v : VL) (x : AL) (n : Nat) : Option Nat := (List.range n).find? fun i => (lookP (heldL x) (nthL x i)).eqv v
def firstF (v : VL) (x : AL) : Option Nat := Ffirst v x (rowsL x * colsL x).toNat
theorem Ffirst_some {v : VL} {x : AL} {n i : Nat} (hi : i < n) (h : (lookP (heldL x) (nthL x i)).eqv v = true) (hn : ∀ j : Nat, j < i → (lookP (heldL x) (nthL x j)).eqv v = false) : Ffirst v x n = some i := by
  unfold Ffirst
  rw [List.find?_range_eq_some]
  exact ⟨h, List.mem_range.2 hi, fun j hj => by simp [hn j hj]⟩
theorem Ffirst_none {v : VL} {x : AL} {n : Nat} (hn : ∀ j : Nat, j < n → (lookP (heldL x) (nthL x j)).eqv v = false) : Ffirst v x n = none := by
  unfold Ffirst
  rw [List.find?_eq_none]
  intro j hj
  simp [hn j (List.mem_range.1 hj)]
def lookR2 (v : VL) (x : AL) : VL := match firstF v x with | some i => numL (((i : Int) + 1) * 10000) | none => errL 6
def lookR3 (v : VL) (x y : AL) : VL := match firstF v x with | some i => lookP (heldL y) (nthL x i) | none => errL 6
set_option maxRecDepth 100000 in
set_option maxHeartbeats 8000000 in
theorem alook2 (x0 x1 : AL) (hm1 : mayRectB x1.t x1.l x1.b x1.r = true) (he1 : entsOk x1 = true) (text : Int) (w : World) (A : Option Addr) (cap : Nat) (hR : RdB w w.heap.size A 11 ([x0, x1].map AL.cs)) (hin : ∀ x ∈ [x0, x1], x.In w w.heap.size) : Calls Tryz.prog 137 #[.slice A 2 cap, .int .i64 text] w fun e w' => e = .returned (.agg #[.int .i64 ((if (decide (1 < rowsL x1) && decide (1 < colsL x1)) = true then errL 8 else lookR2 x0.v x1)).t, .int .i64 ((if (decide (1 < rowsL x1) && decide (1 < colsL x1)) = true then errL 8 else lookR2 x0.v x1)).n, .string ((if (decide (1 < rowsL x1) && decide (1 < colsL x1)) = true then errL 8 else lookR2 x0.v x1)).s, .bool ((if (decide (1 < rowsL x1) && decide (1 < colsL x1)) = true then errL 8 else lookR2 x0.v x1)).b, .int .i64 ((if (decide (1 < rowsL x1) && decide (1 < colsL x1)) = true then errL 8 else lookR2 x0.v x1)).c]) ∧ Below w.heap.size w w' := by
  have b0 : Below w.heap.size w (w.alloc (.cells #[.int .i64 0, .int .i64 0, .string ⟨#[]⟩, .bool false, .int .i64 0] 26)) := (Below.refl _ _).alloc (Nat.le_refl _) _
  obtain ⟨ab, ao, hA2, hab, hcell⟩ := hR 0 x0.cs rfl
  obtain rfl : A = some ⟨ab, ao, none⟩ := hA2
  have hx0_1 : w.cell? ⟨ab, ao + 1, none⟩ = some (.int .i64 x0.v.t) := by have h9 := hcell 1 _ rfl; simpa using h9
  have hx0_2 : w.cell? ⟨ab, ao + 2, none⟩ = some (.int .i64 x0.v.n) := by have h9 := hcell 2 _ rfl; simpa using h9
  have hx0_3 : w.cell? ⟨ab, ao + 3, none⟩ = some (.string x0.v.s) := by have h9 := hcell 3 _ rfl; simpa using h9
  have hx0_4 : w.cell? ⟨ab, ao + 4, none⟩ = some (.bool x0.v.b) := by have h9 := hcell 4 _ rfl; simpa using h9
  have hx0_5 : w.cell? ⟨ab, ao + 5, none⟩ = some (.int .i64 x0.v.c) := by have h9 := hcell 5 _ rfl; simpa using h9
  have hcell1 : ∀ (j : Nat) (u : Value), x1.cs[j]? = some u → w.cell? ⟨ab, ao + 1 * 11 + j, none⟩ = some u := by
    obtain ⟨ab2, ao2, hA3, _, hcell1⟩ := hR 1 x1.cs rfl
    cases hA3
    exact hcell1
  have hx1_0 : w.cell? ⟨ab, ao + 11, none⟩ = some (.bool x1.many) := by have h9 := hcell1 0 _ rfl; simpa using h9
  have hx1_1 : w.cell? ⟨ab, ao + 11 + 1, none⟩ = some (.int .i64 x1.v.t) := by have h9 := hcell1 1 _ rfl; simpa using h9
  have hx1_2 : w.cell? ⟨ab, ao + 11 + 2, none⟩ = some (.int .i64 x1.v.n) := by have h9 := hcell1 2 _ rfl; simpa using h9
  have hx1_3 : w.cell? ⟨ab, ao + 11 + 3, none⟩ = some (.string x1.v.s) := by have h9 := hcell1 3 _ rfl; simpa using h9
  have hx1_4 : w.cell? ⟨ab, ao + 11 + 4, none⟩ = some (.bool x1.v.b) := by have h9 := hcell1 4 _ rfl; simpa using h9
  have hx1_5 : w.cell? ⟨ab, ao + 11 + 5, none⟩ = some (.int .i64 x1.v.c) := by have h9 := hcell1 5 _ rfl; simpa using h9
  have hx1_6 : w.cell? ⟨ab, ao + 11 + 6, none⟩ = some (.int .i64 x1.t) := by have h9 := hcell1 6 _ rfl; simpa using h9
  have hx1_7 : w.cell? ⟨ab, ao + 11 + 7, none⟩ = some (.int .i64 x1.l) := by have h9 := hcell1 7 _ rfl; simpa using h9
  have hx1_8 : w.cell? ⟨ab, ao + 11 + 8, none⟩ = some (.int .i64 x1.b) := by have h9 := hcell1 8 _ rfl; simpa using h9
  have hx1_9 : w.cell? ⟨ab, ao + 11 + 9, none⟩ = some (.int .i64 x1.r) := by have h9 := hcell1 9 _ rfl; simpa using h9
  have hx1_10 : w.cell? ⟨ab, ao + 11 + 10, none⟩ = some (.slice x1.A x1.es.length x1.cap) := by have h9 := hcell1 10 _ rfl; simpa using h9
  clear hcell1
  have hne : ab ≠ w.heap.size := by omega
  obtain ⟨q1, q2, q3, q4, q5, q6⟩ := rect_in hm1
  obtain ⟨R, hRr⟩ : ∃ R, rowsL x1 = R := ⟨_, rfl⟩
  obtain ⟨C, hCc⟩ : ∃ C, colsL x1 = C := ⟨_, rfl⟩
  have hRb : 1 ≤ R ∧ R ≤ 1048576 := by unfold rowsL at hRr; omega
  have hCb : 1 ≤ C ∧ C ≤ 16384 := by unfold colsL at hCc; omega
  have CR : ∀ w, Hid (Calls Tryz.prog 143 #[.agg #[.bool x1.many, .int .i64 x1.v.t, .int .i64 x1.v.n, .string x1.v.s, .bool x1.v.b, .int .i64 x1.v.c, .int .i64 x1.t, .int .i64 x1.l, .int .i64 x1.b, .int .i64 x1.r, .slice x1.A x1.es.length x1.cap]] w fun e w' => e = .returned (.int .i64 R) ∧ Below w.heap.size w w') := fun w => Lib.hid (by rw [← hRr]; exact arows_any x1 hm1 w)
  have CC : ∀ w, Hid (Calls Tryz.prog 145 #[.agg #[.bool x1.many, .int .i64 x1.v.t, .int .i64 x1.v.n, .string x1.v.s, .bool x1.v.b, .int .i64 x1.v.c, .int .i64 x1.t, .int .i64 x1.l, .int .i64 x1.b, .int .i64 x1.r, .slice x1.A x1.es.length x1.cap]] w fun e w' => e = .returned (.int .i64 C) ∧ Below w.heap.size w w') := fun w => Lib.hid (by rw [← hCc]; exact acols_any x1 hm1 w)
  have hin1 := Lib.hid (hin x1 (by simp))
  have CH : ∀ w1, Below w.heap.size w w1 → Hid (Calls Tryz.prog 197 #[.agg #[.bool x1.many, .int .i64 x1.v.t, .int .i64 x1.v.n, .string x1.v.s, .bool x1.v.b, .int .i64 x1.v.c, .int .i64 x1.t, .int .i64 x1.l, .int .i64 x1.b, .int .i64 x1.r, .slice x1.A x1.es.length x1.cap]] w1 fun e w' => (∃ b, e = .returned (.map (some b)) ∧ w1.heap.size ≤ b ∧ OwnP w' b (heldL x1)) ∧ Below w1.heap.size w1 w') := fun w1 h1 => Lib.hid (aheld_any x1 hm1 he1 w1 ((hin1.out.below h1).mono h1.size))
  obtain ⟨rs, hres⟩ : ∃ r, (if (decide (1 < rowsL x1) && decide (1 < colsL x1)) = true then errL 8 else lookR2 x0.v x1) = r := ⟨_, rfl⟩
  rw [hres]
  obtain ⟨bad, hbad0⟩ : ∃ bad, (decide (1 < rowsL x1) && decide (1 < colsL x1)) = bad := ⟨_, rfl⟩
  rw [hbad0] at hres
  have hres' := Lib.hid hres
  clear hres
  rw [hRr, hCc] at hbad0
  have hbad := Lib.hid hbad0
  have hP1 : 1 ≤ R * C ∧ R * C ≤ 17179869184 := ⟨by have := Int.mul_le_mul hRb.1 hCb.1 (by omega) (by omega); simpa using this, by have := Int.mul_le_mul hRb.2 hCb.2 (by omega) (by omega); simpa using this⟩
  obtain ⟨N, hN⟩ : ∃ N : Nat, R * C = (N : Int) := ⟨(R * C).toNat, by omega⟩
  have hwN : IntKind.i64.wrap (R * C) = (N : Int) := by rw [hN]; exact IntWalk.i64_in _ (by omega)
  have hNb : N ≤ 17179869184 := by omega
  have hfr : Hid (Ffirst x0.v x1 N = firstF x0.v x1) := Lib.hid (by unfold firstF; rw [hRr, hCc, hN, Int.toNat_natCast])
  have hRr' := Lib.hid hRr
  have hCc' := Lib.hid hCc
  clear hcell hR hin hbad0 hRr hCc hm1 he1 q1 q2 q3 q4 q5 q6 hN hP1
  go_enter Tryz.func137, Tryz.ntmps137
  go_upto_region 1 with (fail)
  go_cut [5, 6] from 10 to 16 (fun a b wc => ∃ P Q, a = .pointer (some ⟨P, 0, none⟩) ∧ b = .pointer (some ⟨Q, 0, none⟩) ∧ w.heap.size + 1 ≤ P ∧ w.heap.size + 1 ≤ Q ∧ wc.heap[P]? = some (.cells #[.int .i64 x0.v.t, .int .i64 x0.v.n, .string x0.v.s, .bool x0.v.b, .int .i64 x0.v.c] 26 (0, 0)) ∧ wc.heap[Q]? = some (.cells #[.bool x1.many, .int .i64 x1.v.t, .int .i64 x1.v.n, .string x1.v.s, .bool x1.v.b, .int .i64 x1.v.c, .int .i64 x1.t, .int .i64 x1.l, .int .i64 x1.b, .int .i64 x1.r, .slice x1.A x1.es.length x1.cap] 38 (0, 0)) ∧ Below (w.heap.size + 1) (w.alloc (.cells #[.int .i64 0, .int .i64 0, .string ⟨#[]⟩, .bool false, .int .i64 0] 26)) wc)
  case first =>
    refine wp_region_noPanic ?_
    refine wp_region_held_drew (S := fun w' => w'.cell? ⟨ab, ao + 1, none⟩ = some (.int .i64 x0.v.t) ∧ w'.cell? ⟨ab, ao + 2, none⟩ = some (.int .i64 x0.v.n) ∧ w'.cell? ⟨ab, ao + 3, none⟩ = some (.string x0.v.s) ∧ w'.cell? ⟨ab, ao + 4, none⟩ = some (.bool x0.v.b) ∧ w'.cell? ⟨ab, ao + 5, none⟩ = some (.int .i64 x0.v.c) ∧ w'.cell? ⟨ab, ao + 11, none⟩ = some (.bool x1.many) ∧ w'.cell? ⟨ab, ao + 11 + 1, none⟩ = some (.int .i64 x1.v.t) ∧ w'.cell? ⟨ab, ao + 11 + 2, none⟩ = some (.int .i64 x1.v.n) ∧ w'.cell? ⟨ab, ao + 11 + 3, none⟩ = some (.string x1.v.s) ∧ w'.cell? ⟨ab, ao + 11 + 4, none⟩ = some (.bool x1.v.b) ∧ w'.cell? ⟨ab, ao + 11 + 5, none⟩ = some (.int .i64 x1.v.c) ∧ w'.cell? ⟨ab, ao + 11 + 6, none⟩ = some (.int .i64 x1.t) ∧ w'.cell? ⟨ab, ao + 11 + 7, none⟩ = some (.int .i64 x1.l) ∧ w'.cell? ⟨ab, ao + 11 + 8, none⟩ = some (.int .i64 x1.b) ∧ w'.cell? ⟨ab, ao + 11 + 9, none⟩ = some (.int .i64 x1.r) ∧ w'.cell? ⟨ab, ao + 11 + 10, none⟩ = some (.slice x1.A x1.es.length x1.cap) ∧ Below (w.heap.size + 1) (w.alloc (.cells #[.int .i64 0, .int .i64 0, .string ⟨#[]⟩, .bool false, .int .i64 0] 26)) w' ∧ w.heap.size + 1 ≤ w'.heap.size) (by kernel_rfl) (by (try dsimp only); refine ⟨?_, ?_, ?_, ?_, ?_, ?_, ?_, ?_, ?_, ?_, ?_, ?_, ?_, ?_, ?_, ?_, ?_, ?_⟩ <;> first | exact dr_cell hab (by assumption) | exact Below.drew (Below.refl _ _) | (simp; done)) (fun hHeld => ?_)
    generalize (w.alloc (.cells #[.int .i64 0, .int .i64 0, .string ⟨#[]⟩, .bool false, .int .i64 0] 26)).drew = wz at *
    refine wpAnyH_take (i := 0) (oi := ⟨_, _, _, _, _, _⟩) (v := ?v1) rfl (by kernel_rfl) (by kernel_rfl) (by kernel_rfl) (fun _ _ _ h => h) (Or.inl ⟨by rfl, ?hy1⟩) hHeld ?rest1
    case hy1 => (intro w2 hSw; (try dsimp only at hSw); go_split_ands; go_simp; first | done | with_reducible rfl)
    try simp only [Act.put, List.setIfInBounds_toArray, List.set_cons_zero, List.set_cons_succ]
    refine wpAnyH_take (i := 1) (oi := ⟨_, _, _, _, _, _⟩) (v := ?v2) rfl (by kernel_rfl) (by kernel_rfl) (by kernel_rfl) (fun _ _ _ h => h) (Or.inl ⟨by rfl, ?hy2⟩) hHeld ?rest2
    case hy2 => (intro w2 hSw; (try dsimp only at hSw); go_split_ands; go_simp; first | done | with_reducible rfl)
    try simp only [Act.put, List.setIfInBounds_toArray, List.set_cons_zero, List.set_cons_succ]
    refine wpAnyH_take (i := 2) (oi := ⟨_, _, _, _, _, _⟩) (v := ?v3) rfl (by kernel_rfl) (by kernel_rfl) (by kernel_rfl) (fun _ _ _ h => h) (Or.inl ⟨by rfl, ?hy3⟩) hHeld ?rest3
    case hy3 => (intro w2 hSw; (try dsimp only at hSw); go_split_ands; go_simp; first | done | with_reducible rfl)
    try simp only [Act.put, List.setIfInBounds_toArray, List.set_cons_zero, List.set_cons_succ]
    refine wpAnyH_take (i := 3) (oi := ⟨_, _, _, _, _, _⟩) (v := ?v4) rfl (by kernel_rfl) (by kernel_rfl) (by kernel_rfl) (fun _ _ _ h => h) (Or.inl ⟨by rfl, ?hy4⟩) hHeld ?rest4
    case hy4 => (intro w2 hSw; (try dsimp only at hSw); go_split_ands; go_simp; first | done | with_reducible rfl)
    try simp only [Act.put, List.setIfInBounds_toArray, List.set_cons_zero, List.set_cons_succ]
    refine wpAnyH_take (i := 4) (oi := ⟨_, _, _, _, _, _⟩) (v := ?v5) rfl (by kernel_rfl) (by kernel_rfl) (by kernel_rfl) (fun _ _ _ h => h) (Or.inl ⟨by rfl, ?hy5⟩) hHeld ?rest5
    case hy5 => (intro w2 hSw; (try dsimp only at hSw); go_split_ands; go_simp; first | done | with_reducible rfl)
    try simp only [Act.put, List.setIfInBounds_toArray, List.set_cons_zero, List.set_cons_succ]
    refine wpAnyH_take (i := 5) (oi := ⟨_, _, _, _, _, _⟩) (v := ?v6) rfl (by kernel_rfl) (by kernel_rfl) (by kernel_rfl) (fun _ _ _ h => h) (Or.inl ⟨by rfl, ?hy6⟩) hHeld ?rest6
    case hy6 => (intro w2 hSw; (try dsimp only at hSw); go_split_ands; go_simp; first | done | with_reducible rfl)
    try simp only [Act.put, List.setIfInBounds_toArray, List.set_cons_zero, List.set_cons_succ]
    refine wpAnyH_take (i := 6) (oi := ⟨_, _, _, _, _, _⟩) (v := ?v7) rfl (by kernel_rfl) (by kernel_rfl) (by kernel_rfl) (fun _ _ _ h => h) (Or.inl ⟨by rfl, ?hy7⟩) hHeld ?rest7
    case hy7 => (intro w2 hSw; (try dsimp only at hSw); go_split_ands; go_simp; first | done | with_reducible rfl)
    try simp only [Act.put, List.setIfInBounds_toArray, List.set_cons_zero, List.set_cons_succ]
    refine wpAnyH_ready (rs := [7, 8]) (by kernel_rfl) (by simp) ?_
    refine AllReadyH.cons (o := ⟨_, _, _, _, _, _⟩) rfl (fun K hK => ?_) (AllReadyH.cons (o := ⟨_, _, _, _, _, _⟩) rfl (fun K hK => ?_) AllReadyH.nil)
    · go_split_ands
      go_simp
      have hBq : Below (w.heap.size + 1) (w.alloc (.cells #[.int .i64 0, .int .i64 0, .string ⟨#[]⟩, .bool false, .int .i64 0] 26)) wz := by assumption
      have hZq : w.heap.size + 1 ≤ wz.heap.size := by assumption
      have hpP := blk_new wz #[.int .i64 0, .int .i64 0, .string ⟨#[]⟩, .bool false, .int .i64 0] 26
      have hzP : wz.heap.size < (wz.alloc (.cells #[.int .i64 0, .int .i64 0, .string ⟨#[]⟩, .bool false, .int .i64 0] 26)).heap.size := by simp
      refine hK.out _ _ ?_ (fun hHeld => ?_)
      · ((try dsimp only); refine ⟨?_, ?_, ?_, ?_, ?_, ?_, ?_, ?_, ?_, ?_, ?_, ?_, ?_, ?_, ?_, ?_, ?_, ?_⟩ <;> first | exact bx_cellp (by dsimp only; omega) (by assumption) | exact Below.alloc (by assumption) (by omega) _ | (simp; omega))
      clear hK K hBq
      try simp only [Act.put, List.setIfInBounds_toArray, List.set_cons_zero, List.set_cons_succ]
      generalize (wz.alloc (.cells #[.int .i64 0, .int .i64 0, .string ⟨#[]⟩, .bool false, .int .i64 0] 26)) = wn8 at *
      obtain ⟨P, hPe⟩ : ∃ b, wz.heap.size = b := ⟨_, rfl⟩
      rw [hPe] at hpP hzP ⊢
      have hlP : w.heap.size + 1 ≤ P := by omega
      clear hZq hPe
      refine wpAnyH_ready (rs := [8]) (by kernel_rfl) (by simp) ?_
      refine AllReadyH.cons (o := ⟨_, _, _, _, _, _⟩) rfl (fun K hK => ?_) AllReadyH.nil
      go_split_ands
      go_simp
      have hBq : Below (w.heap.size + 1) (w.alloc (.cells #[.int .i64 0, .int .i64 0, .string ⟨#[]⟩, .bool false, .int .i64 0] 26)) wn8 := by assumption
      have hZq : w.heap.size + 1 ≤ wn8.heap.size := by assumption
      have hpQ := blk_new wn8 #[.bool false, .int .i64 0, .int .i64 0, .string ⟨#[]⟩, .bool false, .int .i64 0, .int .i64 0, .int .i64 0, .int .i64 0, .int .i64 0, .slice none 0 0] 38
      have hzQ : wn8.heap.size < (wn8.alloc (.cells #[.bool false, .int .i64 0, .int .i64 0, .string ⟨#[]⟩, .bool false, .int .i64 0, .int .i64 0, .int .i64 0, .int .i64 0, .int .i64 0, .slice none 0 0] 38)).heap.size := by simp
      have hpP := blk_alloc hpP (.cells #[.bool false, .int .i64 0, .int .i64 0, .string ⟨#[]⟩, .bool false, .int .i64 0, .int .i64 0, .int .i64 0, .int .i64 0, .int .i64 0, .slice none 0 0] 38)
      refine hK.out _ _ ?_ (fun hHeld => ?_)
      · ((try dsimp only); refine ⟨?_, ?_, ?_, ?_, ?_, ?_, ?_, ?_, ?_, ?_, ?_, ?_, ?_, ?_, ?_, ?_, ?_, ?_⟩ <;> first | exact bx_cellp (by dsimp only; omega) (by assumption) | exact Below.alloc (by assumption) (by omega) _ | (simp; omega))
      clear hK K hBq
      try simp only [Act.put, List.setIfInBounds_toArray, List.set_cons_zero, List.set_cons_succ]
      generalize (wn8.alloc (.cells #[.bool false, .int .i64 0, .int .i64 0, .string ⟨#[]⟩, .bool false, .int .i64 0, .int .i64 0, .int .i64 0, .int .i64 0, .int .i64 0, .slice none 0 0] 38)) = wn9 at *
      obtain ⟨Q, hQe⟩ : ∃ b, wn8.heap.size = b := ⟨_, rfl⟩
      rw [hQe] at hpQ hzQ ⊢
      have hlQ : w.heap.size + 1 ≤ Q := by omega
      have hne : P ≠ Q := by omega
      clear hZq hQe
      refine wpAnyH_ready (rs := [9]) (by kernel_rfl) (by simp) ?_
      refine AllReadyH.cons (o := ⟨_, _, _, _, _, _⟩) rfl (fun K hK => ?_) AllReadyH.nil
      go_split_ands
      have hcl0 : wn9.cell? ⟨P, 0, none⟩ = some (.int .i64 0) := blk_cell hpP 0
      have hcl1 : wn9.cell? ⟨P, 1, none⟩ = some (.int .i64 0) := blk_cell hpP 1
      have hcl2 : wn9.cell? ⟨P, 2, none⟩ = some (.string ⟨#[]⟩) := blk_cell hpP 2
      have hcl3 : wn9.cell? ⟨P, 3, none⟩ = some (.bool false) := blk_cell hpP 3
      have hcl4 : wn9.cell? ⟨P, 4, none⟩ = some (.int .i64 0) := blk_cell hpP 4
      have hfz0 : wn9.frozen? ⟨P, 0, none⟩ = false := blk_frozen hpP 0
      have hfz1 : wn9.frozen? ⟨P, 1, none⟩ = false := blk_frozen hpP 1
      have hfz2 : wn9.frozen? ⟨P, 2, none⟩ = false := blk_frozen hpP 2
      have hfz3 : wn9.frozen? ⟨P, 3, none⟩ = false := blk_frozen hpP 3
      have hfz4 : wn9.frozen? ⟨P, 4, none⟩ = false := blk_frozen hpP 4
      go_simp
      have hBq : Below (w.heap.size + 1) (w.alloc (.cells #[.int .i64 0, .int .i64 0, .string ⟨#[]⟩, .bool false, .int .i64 0] 26)) wn9 := by assumption
      have hZq : w.heap.size + 1 ≤ wn9.heap.size := by assumption
      have hPab : P ≠ ab := by omega
      clear hcl0 hfz0 hcl1 hfz1 hcl2 hfz2 hcl3 hfz3 hcl4 hfz4
      refine hK.out _ _ ?_ (fun hHeld => ?_)
      · (refine ⟨?_, ?_, ?_, ?_, ?_, ?_, ?_, ?_, ?_, ?_, ?_, ?_, ?_, ?_, ?_, ?_, ?_, ?_⟩ <;> first | exact cell_sc5 hPab (by assumption) | exact below5 hBq hlP | exact size_sc5 hZq)
      clear hK K
      try simp only [Act.put, List.setIfInBounds_toArray, List.set_cons_zero, List.set_cons_succ]
      have hpQ2 : (((((wn9.setCell ⟨P, 0, none⟩ (.int .i64 x0.v.t)).setCell ⟨P, 1, none⟩ (.int .i64 x0.v.n)).setCell ⟨P, 2, none⟩ (.string x0.v.s)).setCell ⟨P, 3, none⟩ (.bool x0.v.b)).setCell ⟨P, 4, none⟩ (.int .i64 x0.v.c)).heap[Q]? = some (.cells #[.bool false, .int .i64 0, .int .i64 0, .string ⟨#[]⟩, .bool false, .int .i64 0, .int .i64 0, .int .i64 0, .int .i64 0, .int .i64 0, .slice none 0 0] 38 (0, 0)) := kfar5 (Ne.symm hne) hpQ
      have hpP2 : (((((wn9.setCell ⟨P, 0, none⟩ (.int .i64 x0.v.t)).setCell ⟨P, 1, none⟩ (.int .i64 x0.v.n)).setCell ⟨P, 2, none⟩ (.string x0.v.s)).setCell ⟨P, 3, none⟩ (.bool x0.v.b)).setCell ⟨P, 4, none⟩ (.int .i64 x0.v.c)).heap[P]? = some (.cells #[.int .i64 x0.v.t, .int .i64 x0.v.n, .string x0.v.s, .bool x0.v.b, .int .i64 x0.v.c] 26 (0, 0)) := row5 hpP
      clear hpP hpQ hBq hZq
      generalize (((((wn9.setCell ⟨P, 0, none⟩ (.int .i64 x0.v.t)).setCell ⟨P, 1, none⟩ (.int .i64 x0.v.n)).setCell ⟨P, 2, none⟩ (.string x0.v.s)).setCell ⟨P, 3, none⟩ (.bool x0.v.b)).setCell ⟨P, 4, none⟩ (.int .i64 x0.v.c)) = wn10 at *
      refine wpAnyH_ready (rs := [10]) (by kernel_rfl) (by simp) ?_
      refine AllReadyH.cons (o := ⟨_, _, _, _, _, _⟩) rfl (fun K hK => ?_) AllReadyH.nil
      go_split_ands
      have hcl0 : wn10.cell? ⟨Q, 0, none⟩ = some (.bool false) := blk_cell hpQ2 0
      have hcl1 : wn10.cell? ⟨Q, 1, none⟩ = some (.int .i64 0) := blk_cell hpQ2 1
      have hcl2 : wn10.cell? ⟨Q, 2, none⟩ = some (.int .i64 0) := blk_cell hpQ2 2
      have hcl3 : wn10.cell? ⟨Q, 3, none⟩ = some (.string ⟨#[]⟩) := blk_cell hpQ2 3
      have hcl4 : wn10.cell? ⟨Q, 4, none⟩ = some (.bool false) := blk_cell hpQ2 4
      have hcl5 : wn10.cell? ⟨Q, 5, none⟩ = some (.int .i64 0) := blk_cell hpQ2 5
      have hcl6 : wn10.cell? ⟨Q, 6, none⟩ = some (.int .i64 0) := blk_cell hpQ2 6
      have hcl7 : wn10.cell? ⟨Q, 7, none⟩ = some (.int .i64 0) := blk_cell hpQ2 7
      have hcl8 : wn10.cell? ⟨Q, 8, none⟩ = some (.int .i64 0) := blk_cell hpQ2 8
      have hcl9 : wn10.cell? ⟨Q, 9, none⟩ = some (.int .i64 0) := blk_cell hpQ2 9
      have hcl10 : wn10.cell? ⟨Q, 10, none⟩ = some (.slice none 0 0) := blk_cell hpQ2 10
      have hfz0 : wn10.frozen? ⟨Q, 0, none⟩ = false := blk_frozen hpQ2 0
      have hfz1 : wn10.frozen? ⟨Q, 1, none⟩ = false := blk_frozen hpQ2 1
      have hfz2 : wn10.frozen? ⟨Q, 2, none⟩ = false := blk_frozen hpQ2 2
      have hfz3 : wn10.frozen? ⟨Q, 3, none⟩ = false := blk_frozen hpQ2 3
      have hfz4 : wn10.frozen? ⟨Q, 4, none⟩ = false := blk_frozen hpQ2 4
      have hfz5 : wn10.frozen? ⟨Q, 5, none⟩ = false := blk_frozen hpQ2 5
      have hfz6 : wn10.frozen? ⟨Q, 6, none⟩ = false := blk_frozen hpQ2 6
      have hfz7 : wn10.frozen? ⟨Q, 7, none⟩ = false := blk_frozen hpQ2 7
      have hfz8 : wn10.frozen? ⟨Q, 8, none⟩ = false := blk_frozen hpQ2 8
      have hfz9 : wn10.frozen? ⟨Q, 9, none⟩ = false := blk_frozen hpQ2 9
      have hfz10 : wn10.frozen? ⟨Q, 10, none⟩ = false := blk_frozen hpQ2 10
      go_simp
      have hBq : Below (w.heap.size + 1) (w.alloc (.cells #[.int .i64 0, .int .i64 0, .string ⟨#[]⟩, .bool false, .int .i64 0] 26)) wn10 := by assumption
      have hZq : w.heap.size + 1 ≤ wn10.heap.size := by assumption
      have hQab : Q ≠ ab := by omega
      clear hcl0 hfz0 hcl1 hfz1 hcl2 hfz2 hcl3 hfz3 hcl4 hfz4 hcl5 hfz5 hcl6 hfz6 hcl7 hfz7 hcl8 hfz8 hcl9 hfz9 hcl10 hfz10
      have hBf : Below (w.heap.size + 1) (w.alloc (.cells #[.int .i64 0, .int .i64 0, .string ⟨#[]⟩, .bool false, .int .i64 0] 26)) (((((((((((wn10.setCell ⟨Q, 0, none⟩ (.bool x1.many)).setCell ⟨Q, 1, none⟩ (.int .i64 x1.v.t)).setCell ⟨Q, 2, none⟩ (.int .i64 x1.v.n)).setCell ⟨Q, 3, none⟩ (.string x1.v.s)).setCell ⟨Q, 4, none⟩ (.bool x1.v.b)).setCell ⟨Q, 5, none⟩ (.int .i64 x1.v.c)).setCell ⟨Q, 6, none⟩ (.int .i64 x1.t)).setCell ⟨Q, 7, none⟩ (.int .i64 x1.l)).setCell ⟨Q, 8, none⟩ (.int .i64 x1.b)).setCell ⟨Q, 9, none⟩ (.int .i64 x1.r)).setCell ⟨Q, 10, none⟩ (.slice x1.A x1.es.length x1.cap)) := below11 hBq hlQ
      have hpQ3 : (((((((((((wn10.setCell ⟨Q, 0, none⟩ (.bool x1.many)).setCell ⟨Q, 1, none⟩ (.int .i64 x1.v.t)).setCell ⟨Q, 2, none⟩ (.int .i64 x1.v.n)).setCell ⟨Q, 3, none⟩ (.string x1.v.s)).setCell ⟨Q, 4, none⟩ (.bool x1.v.b)).setCell ⟨Q, 5, none⟩ (.int .i64 x1.v.c)).setCell ⟨Q, 6, none⟩ (.int .i64 x1.t)).setCell ⟨Q, 7, none⟩ (.int .i64 x1.l)).setCell ⟨Q, 8, none⟩ (.int .i64 x1.b)).setCell ⟨Q, 9, none⟩ (.int .i64 x1.r)).setCell ⟨Q, 10, none⟩ (.slice x1.A x1.es.length x1.cap)).heap[Q]? = some (.cells #[.bool x1.many, .int .i64 x1.v.t, .int .i64 x1.v.n, .string x1.v.s, .bool x1.v.b, .int .i64 x1.v.c, .int .i64 x1.t, .int .i64 x1.l, .int .i64 x1.b, .int .i64 x1.r, .slice x1.A x1.es.length x1.cap] 38 (0, 0)) := row11 hpQ2
      have hpP3 : (((((((((((wn10.setCell ⟨Q, 0, none⟩ (.bool x1.many)).setCell ⟨Q, 1, none⟩ (.int .i64 x1.v.t)).setCell ⟨Q, 2, none⟩ (.int .i64 x1.v.n)).setCell ⟨Q, 3, none⟩ (.string x1.v.s)).setCell ⟨Q, 4, none⟩ (.bool x1.v.b)).setCell ⟨Q, 5, none⟩ (.int .i64 x1.v.c)).setCell ⟨Q, 6, none⟩ (.int .i64 x1.t)).setCell ⟨Q, 7, none⟩ (.int .i64 x1.l)).setCell ⟨Q, 8, none⟩ (.int .i64 x1.b)).setCell ⟨Q, 9, none⟩ (.int .i64 x1.r)).setCell ⟨Q, 10, none⟩ (.slice x1.A x1.es.length x1.cap)).heap[P]? = some (.cells #[.int .i64 x0.v.t, .int .i64 x0.v.n, .string x0.v.s, .bool x0.v.b, .int .i64 x0.v.c] 26 (0, 0)) := kfar11 hne hpP2
      have hk0 : (((((((((((wn10.setCell ⟨Q, 0, none⟩ (.bool x1.many)).setCell ⟨Q, 1, none⟩ (.int .i64 x1.v.t)).setCell ⟨Q, 2, none⟩ (.int .i64 x1.v.n)).setCell ⟨Q, 3, none⟩ (.string x1.v.s)).setCell ⟨Q, 4, none⟩ (.bool x1.v.b)).setCell ⟨Q, 5, none⟩ (.int .i64 x1.v.c)).setCell ⟨Q, 6, none⟩ (.int .i64 x1.t)).setCell ⟨Q, 7, none⟩ (.int .i64 x1.l)).setCell ⟨Q, 8, none⟩ (.int .i64 x1.b)).setCell ⟨Q, 9, none⟩ (.int .i64 x1.r)).setCell ⟨Q, 10, none⟩ (.slice x1.A x1.es.length x1.cap)).cell? ⟨ab, ao + 1, none⟩ = some (.int .i64 x0.v.t) := cell_sc11 hQab (by with_reducible assumption)
      have hk1 : (((((((((((wn10.setCell ⟨Q, 0, none⟩ (.bool x1.many)).setCell ⟨Q, 1, none⟩ (.int .i64 x1.v.t)).setCell ⟨Q, 2, none⟩ (.int .i64 x1.v.n)).setCell ⟨Q, 3, none⟩ (.string x1.v.s)).setCell ⟨Q, 4, none⟩ (.bool x1.v.b)).setCell ⟨Q, 5, none⟩ (.int .i64 x1.v.c)).setCell ⟨Q, 6, none⟩ (.int .i64 x1.t)).setCell ⟨Q, 7, none⟩ (.int .i64 x1.l)).setCell ⟨Q, 8, none⟩ (.int .i64 x1.b)).setCell ⟨Q, 9, none⟩ (.int .i64 x1.r)).setCell ⟨Q, 10, none⟩ (.slice x1.A x1.es.length x1.cap)).cell? ⟨ab, ao + 2, none⟩ = some (.int .i64 x0.v.n) := cell_sc11 hQab (by with_reducible assumption)
      have hk2 : (((((((((((wn10.setCell ⟨Q, 0, none⟩ (.bool x1.many)).setCell ⟨Q, 1, none⟩ (.int .i64 x1.v.t)).setCell ⟨Q, 2, none⟩ (.int .i64 x1.v.n)).setCell ⟨Q, 3, none⟩ (.string x1.v.s)).setCell ⟨Q, 4, none⟩ (.bool x1.v.b)).setCell ⟨Q, 5, none⟩ (.int .i64 x1.v.c)).setCell ⟨Q, 6, none⟩ (.int .i64 x1.t)).setCell ⟨Q, 7, none⟩ (.int .i64 x1.l)).setCell ⟨Q, 8, none⟩ (.int .i64 x1.b)).setCell ⟨Q, 9, none⟩ (.int .i64 x1.r)).setCell ⟨Q, 10, none⟩ (.slice x1.A x1.es.length x1.cap)).cell? ⟨ab, ao + 3, none⟩ = some (.string x0.v.s) := cell_sc11 hQab (by with_reducible assumption)
      have hk3 : (((((((((((wn10.setCell ⟨Q, 0, none⟩ (.bool x1.many)).setCell ⟨Q, 1, none⟩ (.int .i64 x1.v.t)).setCell ⟨Q, 2, none⟩ (.int .i64 x1.v.n)).setCell ⟨Q, 3, none⟩ (.string x1.v.s)).setCell ⟨Q, 4, none⟩ (.bool x1.v.b)).setCell ⟨Q, 5, none⟩ (.int .i64 x1.v.c)).setCell ⟨Q, 6, none⟩ (.int .i64 x1.t)).setCell ⟨Q, 7, none⟩ (.int .i64 x1.l)).setCell ⟨Q, 8, none⟩ (.int .i64 x1.b)).setCell ⟨Q, 9, none⟩ (.int .i64 x1.r)).setCell ⟨Q, 10, none⟩ (.slice x1.A x1.es.length x1.cap)).cell? ⟨ab, ao + 4, none⟩ = some (.bool x0.v.b) := cell_sc11 hQab (by with_reducible assumption)
      have hk4 : (((((((((((wn10.setCell ⟨Q, 0, none⟩ (.bool x1.many)).setCell ⟨Q, 1, none⟩ (.int .i64 x1.v.t)).setCell ⟨Q, 2, none⟩ (.int .i64 x1.v.n)).setCell ⟨Q, 3, none⟩ (.string x1.v.s)).setCell ⟨Q, 4, none⟩ (.bool x1.v.b)).setCell ⟨Q, 5, none⟩ (.int .i64 x1.v.c)).setCell ⟨Q, 6, none⟩ (.int .i64 x1.t)).setCell ⟨Q, 7, none⟩ (.int .i64 x1.l)).setCell ⟨Q, 8, none⟩ (.int .i64 x1.b)).setCell ⟨Q, 9, none⟩ (.int .i64 x1.r)).setCell ⟨Q, 10, none⟩ (.slice x1.A x1.es.length x1.cap)).cell? ⟨ab, ao + 5, none⟩ = some (.int .i64 x0.v.c) := cell_sc11 hQab (by with_reducible assumption)
      have hk5 : (((((((((((wn10.setCell ⟨Q, 0, none⟩ (.bool x1.many)).setCell ⟨Q, 1, none⟩ (.int .i64 x1.v.t)).setCell ⟨Q, 2, none⟩ (.int .i64 x1.v.n)).setCell ⟨Q, 3, none⟩ (.string x1.v.s)).setCell ⟨Q, 4, none⟩ (.bool x1.v.b)).setCell ⟨Q, 5, none⟩ (.int .i64 x1.v.c)).setCell ⟨Q, 6, none⟩ (.int .i64 x1.t)).setCell ⟨Q, 7, none⟩ (.int .i64 x1.l)).setCell ⟨Q, 8, none⟩ (.int .i64 x1.b)).setCell ⟨Q, 9, none⟩ (.int .i64 x1.r)).setCell ⟨Q, 10, none⟩ (.slice x1.A x1.es.length x1.cap)).cell? ⟨ab, ao + 11, none⟩ = some (.bool x1.many) := cell_sc11 hQab (by with_reducible assumption)
      have hk6 : (((((((((((wn10.setCell ⟨Q, 0, none⟩ (.bool x1.many)).setCell ⟨Q, 1, none⟩ (.int .i64 x1.v.t)).setCell ⟨Q, 2, none⟩ (.int .i64 x1.v.n)).setCell ⟨Q, 3, none⟩ (.string x1.v.s)).setCell ⟨Q, 4, none⟩ (.bool x1.v.b)).setCell ⟨Q, 5, none⟩ (.int .i64 x1.v.c)).setCell ⟨Q, 6, none⟩ (.int .i64 x1.t)).setCell ⟨Q, 7, none⟩ (.int .i64 x1.l)).setCell ⟨Q, 8, none⟩ (.int .i64 x1.b)).setCell ⟨Q, 9, none⟩ (.int .i64 x1.r)).setCell ⟨Q, 10, none⟩ (.slice x1.A x1.es.length x1.cap)).cell? ⟨ab, ao + 11 + 1, none⟩ = some (.int .i64 x1.v.t) := cell_sc11 hQab (by with_reducible assumption)
      have hk7 : (((((((((((wn10.setCell ⟨Q, 0, none⟩ (.bool x1.many)).setCell ⟨Q, 1, none⟩ (.int .i64 x1.v.t)).setCell ⟨Q, 2, none⟩ (.int .i64 x1.v.n)).setCell ⟨Q, 3, none⟩ (.string x1.v.s)).setCell ⟨Q, 4, none⟩ (.bool x1.v.b)).setCell ⟨Q, 5, none⟩ (.int .i64 x1.v.c)).setCell ⟨Q, 6, none⟩ (.int .i64 x1.t)).setCell ⟨Q, 7, none⟩ (.int .i64 x1.l)).setCell ⟨Q, 8, none⟩ (.int .i64 x1.b)).setCell ⟨Q, 9, none⟩ (.int .i64 x1.r)).setCell ⟨Q, 10, none⟩ (.slice x1.A x1.es.length x1.cap)).cell? ⟨ab, ao + 11 + 2, none⟩ = some (.int .i64 x1.v.n) := cell_sc11 hQab (by with_reducible assumption)
      have hk8 : (((((((((((wn10.setCell ⟨Q, 0, none⟩ (.bool x1.many)).setCell ⟨Q, 1, none⟩ (.int .i64 x1.v.t)).setCell ⟨Q, 2, none⟩ (.int .i64 x1.v.n)).setCell ⟨Q, 3, none⟩ (.string x1.v.s)).setCell ⟨Q, 4, none⟩ (.bool x1.v.b)).setCell ⟨Q, 5, none⟩ (.int .i64 x1.v.c)).setCell ⟨Q, 6, none⟩ (.int .i64 x1.t)).setCell ⟨Q, 7, none⟩ (.int .i64 x1.l)).setCell ⟨Q, 8, none⟩ (.int .i64 x1.b)).setCell ⟨Q, 9, none⟩ (.int .i64 x1.r)).setCell ⟨Q, 10, none⟩ (.slice x1.A x1.es.length x1.cap)).cell? ⟨ab, ao + 11 + 3, none⟩ = some (.string x1.v.s) := cell_sc11 hQab (by with_reducible assumption)
      have hk9 : (((((((((((wn10.setCell ⟨Q, 0, none⟩ (.bool x1.many)).setCell ⟨Q, 1, none⟩ (.int .i64 x1.v.t)).setCell ⟨Q, 2, none⟩ (.int .i64 x1.v.n)).setCell ⟨Q, 3, none⟩ (.string x1.v.s)).setCell ⟨Q, 4, none⟩ (.bool x1.v.b)).setCell ⟨Q, 5, none⟩ (.int .i64 x1.v.c)).setCell ⟨Q, 6, none⟩ (.int .i64 x1.t)).setCell ⟨Q, 7, none⟩ (.int .i64 x1.l)).setCell ⟨Q, 8, none⟩ (.int .i64 x1.b)).setCell ⟨Q, 9, none⟩ (.int .i64 x1.r)).setCell ⟨Q, 10, none⟩ (.slice x1.A x1.es.length x1.cap)).cell? ⟨ab, ao + 11 + 4, none⟩ = some (.bool x1.v.b) := cell_sc11 hQab (by with_reducible assumption)
      have hk10 : (((((((((((wn10.setCell ⟨Q, 0, none⟩ (.bool x1.many)).setCell ⟨Q, 1, none⟩ (.int .i64 x1.v.t)).setCell ⟨Q, 2, none⟩ (.int .i64 x1.v.n)).setCell ⟨Q, 3, none⟩ (.string x1.v.s)).setCell ⟨Q, 4, none⟩ (.bool x1.v.b)).setCell ⟨Q, 5, none⟩ (.int .i64 x1.v.c)).setCell ⟨Q, 6, none⟩ (.int .i64 x1.t)).setCell ⟨Q, 7, none⟩ (.int .i64 x1.l)).setCell ⟨Q, 8, none⟩ (.int .i64 x1.b)).setCell ⟨Q, 9, none⟩ (.int .i64 x1.r)).setCell ⟨Q, 10, none⟩ (.slice x1.A x1.es.length x1.cap)).cell? ⟨ab, ao + 11 + 5, none⟩ = some (.int .i64 x1.v.c) := cell_sc11 hQab (by with_reducible assumption)
      have hk11 : (((((((((((wn10.setCell ⟨Q, 0, none⟩ (.bool x1.many)).setCell ⟨Q, 1, none⟩ (.int .i64 x1.v.t)).setCell ⟨Q, 2, none⟩ (.int .i64 x1.v.n)).setCell ⟨Q, 3, none⟩ (.string x1.v.s)).setCell ⟨Q, 4, none⟩ (.bool x1.v.b)).setCell ⟨Q, 5, none⟩ (.int .i64 x1.v.c)).setCell ⟨Q, 6, none⟩ (.int .i64 x1.t)).setCell ⟨Q, 7, none⟩ (.int .i64 x1.l)).setCell ⟨Q, 8, none⟩ (.int .i64 x1.b)).setCell ⟨Q, 9, none⟩ (.int .i64 x1.r)).setCell ⟨Q, 10, none⟩ (.slice x1.A x1.es.length x1.cap)).cell? ⟨ab, ao + 11 + 6, none⟩ = some (.int .i64 x1.t) := cell_sc11 hQab (by with_reducible assumption)
      have hk12 : (((((((((((wn10.setCell ⟨Q, 0, none⟩ (.bool x1.many)).setCell ⟨Q, 1, none⟩ (.int .i64 x1.v.t)).setCell ⟨Q, 2, none⟩ (.int .i64 x1.v.n)).setCell ⟨Q, 3, none⟩ (.string x1.v.s)).setCell ⟨Q, 4, none⟩ (.bool x1.v.b)).setCell ⟨Q, 5, none⟩ (.int .i64 x1.v.c)).setCell ⟨Q, 6, none⟩ (.int .i64 x1.t)).setCell ⟨Q, 7, none⟩ (.int .i64 x1.l)).setCell ⟨Q, 8, none⟩ (.int .i64 x1.b)).setCell ⟨Q, 9, none⟩ (.int .i64 x1.r)).setCell ⟨Q, 10, none⟩ (.slice x1.A x1.es.length x1.cap)).cell? ⟨ab, ao + 11 + 7, none⟩ = some (.int .i64 x1.l) := cell_sc11 hQab (by with_reducible assumption)
      have hk13 : (((((((((((wn10.setCell ⟨Q, 0, none⟩ (.bool x1.many)).setCell ⟨Q, 1, none⟩ (.int .i64 x1.v.t)).setCell ⟨Q, 2, none⟩ (.int .i64 x1.v.n)).setCell ⟨Q, 3, none⟩ (.string x1.v.s)).setCell ⟨Q, 4, none⟩ (.bool x1.v.b)).setCell ⟨Q, 5, none⟩ (.int .i64 x1.v.c)).setCell ⟨Q, 6, none⟩ (.int .i64 x1.t)).setCell ⟨Q, 7, none⟩ (.int .i64 x1.l)).setCell ⟨Q, 8, none⟩ (.int .i64 x1.b)).setCell ⟨Q, 9, none⟩ (.int .i64 x1.r)).setCell ⟨Q, 10, none⟩ (.slice x1.A x1.es.length x1.cap)).cell? ⟨ab, ao + 11 + 8, none⟩ = some (.int .i64 x1.b) := cell_sc11 hQab (by with_reducible assumption)
      have hk14 : (((((((((((wn10.setCell ⟨Q, 0, none⟩ (.bool x1.many)).setCell ⟨Q, 1, none⟩ (.int .i64 x1.v.t)).setCell ⟨Q, 2, none⟩ (.int .i64 x1.v.n)).setCell ⟨Q, 3, none⟩ (.string x1.v.s)).setCell ⟨Q, 4, none⟩ (.bool x1.v.b)).setCell ⟨Q, 5, none⟩ (.int .i64 x1.v.c)).setCell ⟨Q, 6, none⟩ (.int .i64 x1.t)).setCell ⟨Q, 7, none⟩ (.int .i64 x1.l)).setCell ⟨Q, 8, none⟩ (.int .i64 x1.b)).setCell ⟨Q, 9, none⟩ (.int .i64 x1.r)).setCell ⟨Q, 10, none⟩ (.slice x1.A x1.es.length x1.cap)).cell? ⟨ab, ao + 11 + 9, none⟩ = some (.int .i64 x1.r) := cell_sc11 hQab (by with_reducible assumption)
      have hk15 : (((((((((((wn10.setCell ⟨Q, 0, none⟩ (.bool x1.many)).setCell ⟨Q, 1, none⟩ (.int .i64 x1.v.t)).setCell ⟨Q, 2, none⟩ (.int .i64 x1.v.n)).setCell ⟨Q, 3, none⟩ (.string x1.v.s)).setCell ⟨Q, 4, none⟩ (.bool x1.v.b)).setCell ⟨Q, 5, none⟩ (.int .i64 x1.v.c)).setCell ⟨Q, 6, none⟩ (.int .i64 x1.t)).setCell ⟨Q, 7, none⟩ (.int .i64 x1.l)).setCell ⟨Q, 8, none⟩ (.int .i64 x1.b)).setCell ⟨Q, 9, none⟩ (.int .i64 x1.r)).setCell ⟨Q, 10, none⟩ (.slice x1.A x1.es.length x1.cap)).cell? ⟨ab, ao + 11 + 10, none⟩ = some (.slice x1.A x1.es.length x1.cap) := cell_sc11 hQab (by with_reducible assumption)
      have hZz : w.heap.size + 1 ≤ (((((((((((wn10.setCell ⟨Q, 0, none⟩ (.bool x1.many)).setCell ⟨Q, 1, none⟩ (.int .i64 x1.v.t)).setCell ⟨Q, 2, none⟩ (.int .i64 x1.v.n)).setCell ⟨Q, 3, none⟩ (.string x1.v.s)).setCell ⟨Q, 4, none⟩ (.bool x1.v.b)).setCell ⟨Q, 5, none⟩ (.int .i64 x1.v.c)).setCell ⟨Q, 6, none⟩ (.int .i64 x1.t)).setCell ⟨Q, 7, none⟩ (.int .i64 x1.l)).setCell ⟨Q, 8, none⟩ (.int .i64 x1.b)).setCell ⟨Q, 9, none⟩ (.int .i64 x1.r)).setCell ⟨Q, 10, none⟩ (.slice x1.A x1.es.length x1.cap)).heap.size := size_sc11 hZq
      clear hBq hZq hpQ2 hpP2
      generalize (((((((((((wn10.setCell ⟨Q, 0, none⟩ (.bool x1.many)).setCell ⟨Q, 1, none⟩ (.int .i64 x1.v.t)).setCell ⟨Q, 2, none⟩ (.int .i64 x1.v.n)).setCell ⟨Q, 3, none⟩ (.string x1.v.s)).setCell ⟨Q, 4, none⟩ (.bool x1.v.b)).setCell ⟨Q, 5, none⟩ (.int .i64 x1.v.c)).setCell ⟨Q, 6, none⟩ (.int .i64 x1.t)).setCell ⟨Q, 7, none⟩ (.int .i64 x1.l)).setCell ⟨Q, 8, none⟩ (.int .i64 x1.b)).setCell ⟨Q, 9, none⟩ (.int .i64 x1.r)).setCell ⟨Q, 10, none⟩ (.slice x1.A x1.es.length x1.cap)) = wq at *
      refine hK.out _ _ ?_ (fun hHeld => ?_)
      · ((try dsimp only); refine ⟨?_, ?_, ?_, ?_, ?_, ?_, ?_, ?_, ?_, ?_, ?_, ?_, ?_, ?_, ?_, ?_, ?_, ?_⟩ <;> with_reducible assumption)
      clear hK K
      refine wpAnyH_done (by kernel_rfl) ?_ _
      refine NoPanic.normal ?_
      go_wp2
      go_meet
      case rel => exact ⟨P, Q, rfl, rfl, hlP, hlQ, hpP3, hpQ3, hBf⟩
    · go_split_ands
      go_simp
      have hBq : Below (w.heap.size + 1) (w.alloc (.cells #[.int .i64 0, .int .i64 0, .string ⟨#[]⟩, .bool false, .int .i64 0] 26)) wz := by assumption
      have hZq : w.heap.size + 1 ≤ wz.heap.size := by assumption
      have hpQ := blk_new wz #[.bool false, .int .i64 0, .int .i64 0, .string ⟨#[]⟩, .bool false, .int .i64 0, .int .i64 0, .int .i64 0, .int .i64 0, .int .i64 0, .slice none 0 0] 38
      have hzQ : wz.heap.size < (wz.alloc (.cells #[.bool false, .int .i64 0, .int .i64 0, .string ⟨#[]⟩, .bool false, .int .i64 0, .int .i64 0, .int .i64 0, .int .i64 0, .int .i64 0, .slice none 0 0] 38)).heap.size := by simp
      refine hK.out _ _ ?_ (fun hHeld => ?_)
      · ((try dsimp only); refine ⟨?_, ?_, ?_, ?_, ?_, ?_, ?_, ?_, ?_, ?_, ?_, ?_, ?_, ?_, ?_, ?_, ?_, ?_⟩ <;> first | exact bx_cellp (by dsimp only; omega) (by assumption) | exact Below.alloc (by assumption) (by omega) _ | (simp; omega))
      clear hK K hBq
      try simp only [Act.put, List.setIfInBounds_toArray, List.set_cons_zero, List.set_cons_succ]
      generalize (wz.alloc (.cells #[.bool false, .int .i64 0, .int .i64 0, .string ⟨#[]⟩, .bool false, .int .i64 0, .int .i64 0, .int .i64 0, .int .i64 0, .int .i64 0, .slice none 0 0] 38)) = wn11 at *
      obtain ⟨Q, hQe⟩ : ∃ b, wz.heap.size = b := ⟨_, rfl⟩
      rw [hQe] at hpQ hzQ ⊢
      have hlQ : w.heap.size + 1 ≤ Q := by omega
      clear hZq hQe
      refine wpAnyH_ready (rs := [7]) (by kernel_rfl) (by simp) ?_
      refine AllReadyH.cons (o := ⟨_, _, _, _, _, _⟩) rfl (fun K hK => ?_) AllReadyH.nil
      go_split_ands
      go_simp
      have hBq : Below (w.heap.size + 1) (w.alloc (.cells #[.int .i64 0, .int .i64 0, .string ⟨#[]⟩, .bool false, .int .i64 0] 26)) wn11 := by assumption
      have hZq : w.heap.size + 1 ≤ wn11.heap.size := by assumption
      have hpP := blk_new wn11 #[.int .i64 0, .int .i64 0, .string ⟨#[]⟩, .bool false, .int .i64 0] 26
      have hzP : wn11.heap.size < (wn11.alloc (.cells #[.int .i64 0, .int .i64 0, .string ⟨#[]⟩, .bool false, .int .i64 0] 26)).heap.size := by simp
      have hpQ := blk_alloc hpQ (.cells #[.int .i64 0, .int .i64 0, .string ⟨#[]⟩, .bool false, .int .i64 0] 26)
      refine hK.out _ _ ?_ (fun hHeld => ?_)
      · ((try dsimp only); refine ⟨?_, ?_, ?_, ?_, ?_, ?_, ?_, ?_, ?_, ?_, ?_, ?_, ?_, ?_, ?_, ?_, ?_, ?_⟩ <;> first | exact bx_cellp (by dsimp only; omega) (by assumption) | exact Below.alloc (by assumption) (by omega) _ | (simp; omega))
      clear hK K hBq
      try simp only [Act.put, List.setIfInBounds_toArray, List.set_cons_zero, List.set_cons_succ]
      generalize (wn11.alloc (.cells #[.int .i64 0, .int .i64 0, .string ⟨#[]⟩, .bool false, .int .i64 0] 26)) = wn12 at *
      obtain ⟨P, hPe⟩ : ∃ b, wn11.heap.size = b := ⟨_, rfl⟩
      rw [hPe] at hpP hzP ⊢
      have hlP : w.heap.size + 1 ≤ P := by omega
      have hne : P ≠ Q := by omega
      clear hZq hPe
      refine wpAnyH_ready (rs := [9]) (by kernel_rfl) (by simp) ?_
      refine AllReadyH.cons (o := ⟨_, _, _, _, _, _⟩) rfl (fun K hK => ?_) AllReadyH.nil
      go_split_ands
      have hcl0 : wn12.cell? ⟨P, 0, none⟩ = some (.int .i64 0) := blk_cell hpP 0
      have hcl1 : wn12.cell? ⟨P, 1, none⟩ = some (.int .i64 0) := blk_cell hpP 1
      have hcl2 : wn12.cell? ⟨P, 2, none⟩ = some (.string ⟨#[]⟩) := blk_cell hpP 2
      have hcl3 : wn12.cell? ⟨P, 3, none⟩ = some (.bool false) := blk_cell hpP 3
      have hcl4 : wn12.cell? ⟨P, 4, none⟩ = some (.int .i64 0) := blk_cell hpP 4
      have hfz0 : wn12.frozen? ⟨P, 0, none⟩ = false := blk_frozen hpP 0
      have hfz1 : wn12.frozen? ⟨P, 1, none⟩ = false := blk_frozen hpP 1
      have hfz2 : wn12.frozen? ⟨P, 2, none⟩ = false := blk_frozen hpP 2
      have hfz3 : wn12.frozen? ⟨P, 3, none⟩ = false := blk_frozen hpP 3
      have hfz4 : wn12.frozen? ⟨P, 4, none⟩ = false := blk_frozen hpP 4
      go_simp
      have hBq : Below (w.heap.size + 1) (w.alloc (.cells #[.int .i64 0, .int .i64 0, .string ⟨#[]⟩, .bool false, .int .i64 0] 26)) wn12 := by assumption
      have hZq : w.heap.size + 1 ≤ wn12.heap.size := by assumption
      have hPab : P ≠ ab := by omega
      clear hcl0 hfz0 hcl1 hfz1 hcl2 hfz2 hcl3 hfz3 hcl4 hfz4
      refine hK.out _ _ ?_ (fun hHeld => ?_)
      · (refine ⟨?_, ?_, ?_, ?_, ?_, ?_, ?_, ?_, ?_, ?_, ?_, ?_, ?_, ?_, ?_, ?_, ?_, ?_⟩ <;> first | exact cell_sc5 hPab (by assumption) | exact below5 hBq hlP | exact size_sc5 hZq)
      clear hK K
      try simp only [Act.put, List.setIfInBounds_toArray, List.set_cons_zero, List.set_cons_succ]
      have hpQ2 : (((((wn12.setCell ⟨P, 0, none⟩ (.int .i64 x0.v.t)).setCell ⟨P, 1, none⟩ (.int .i64 x0.v.n)).setCell ⟨P, 2, none⟩ (.string x0.v.s)).setCell ⟨P, 3, none⟩ (.bool x0.v.b)).setCell ⟨P, 4, none⟩ (.int .i64 x0.v.c)).heap[Q]? = some (.cells #[.bool false, .int .i64 0, .int .i64 0, .string ⟨#[]⟩, .bool false, .int .i64 0, .int .i64 0, .int .i64 0, .int .i64 0, .int .i64 0, .slice none 0 0] 38 (0, 0)) := kfar5 (Ne.symm hne) hpQ
      have hpP2 : (((((wn12.setCell ⟨P, 0, none⟩ (.int .i64 x0.v.t)).setCell ⟨P, 1, none⟩ (.int .i64 x0.v.n)).setCell ⟨P, 2, none⟩ (.string x0.v.s)).setCell ⟨P, 3, none⟩ (.bool x0.v.b)).setCell ⟨P, 4, none⟩ (.int .i64 x0.v.c)).heap[P]? = some (.cells #[.int .i64 x0.v.t, .int .i64 x0.v.n, .string x0.v.s, .bool x0.v.b, .int .i64 x0.v.c] 26 (0, 0)) := row5 hpP
      clear hpP hpQ hBq hZq
      generalize (((((wn12.setCell ⟨P, 0, none⟩ (.int .i64 x0.v.t)).setCell ⟨P, 1, none⟩ (.int .i64 x0.v.n)).setCell ⟨P, 2, none⟩ (.string x0.v.s)).setCell ⟨P, 3, none⟩ (.bool x0.v.b)).setCell ⟨P, 4, none⟩ (.int .i64 x0.v.c)) = wn13 at *
      refine wpAnyH_ready (rs := [10]) (by kernel_rfl) (by simp) ?_
      refine AllReadyH.cons (o := ⟨_, _, _, _, _, _⟩) rfl (fun K hK => ?_) AllReadyH.nil
      go_split_ands
      have hcl0 : wn13.cell? ⟨Q, 0, none⟩ = some (.bool false) := blk_cell hpQ2 0
      have hcl1 : wn13.cell? ⟨Q, 1, none⟩ = some (.int .i64 0) := blk_cell hpQ2 1
      have hcl2 : wn13.cell? ⟨Q, 2, none⟩ = some (.int .i64 0) := blk_cell hpQ2 2
      have hcl3 : wn13.cell? ⟨Q, 3, none⟩ = some (.string ⟨#[]⟩) := blk_cell hpQ2 3
      have hcl4 : wn13.cell? ⟨Q, 4, none⟩ = some (.bool false) := blk_cell hpQ2 4
      have hcl5 : wn13.cell? ⟨Q, 5, none⟩ = some (.int .i64 0) := blk_cell hpQ2 5
      have hcl6 : wn13.cell? ⟨Q, 6, none⟩ = some (.int .i64 0) := blk_cell hpQ2 6
      have hcl7 : wn13.cell? ⟨Q, 7, none⟩ = some (.int .i64 0) := blk_cell hpQ2 7
      have hcl8 : wn13.cell? ⟨Q, 8, none⟩ = some (.int .i64 0) := blk_cell hpQ2 8
      have hcl9 : wn13.cell? ⟨Q, 9, none⟩ = some (.int .i64 0) := blk_cell hpQ2 9
      have hcl10 : wn13.cell? ⟨Q, 10, none⟩ = some (.slice none 0 0) := blk_cell hpQ2 10
      have hfz0 : wn13.frozen? ⟨Q, 0, none⟩ = false := blk_frozen hpQ2 0
      have hfz1 : wn13.frozen? ⟨Q, 1, none⟩ = false := blk_frozen hpQ2 1
      have hfz2 : wn13.frozen? ⟨Q, 2, none⟩ = false := blk_frozen hpQ2 2
      have hfz3 : wn13.frozen? ⟨Q, 3, none⟩ = false := blk_frozen hpQ2 3
      have hfz4 : wn13.frozen? ⟨Q, 4, none⟩ = false := blk_frozen hpQ2 4
      have hfz5 : wn13.frozen? ⟨Q, 5, none⟩ = false := blk_frozen hpQ2 5
      have hfz6 : wn13.frozen? ⟨Q, 6, none⟩ = false := blk_frozen hpQ2 6
      have hfz7 : wn13.frozen? ⟨Q, 7, none⟩ = false := blk_frozen hpQ2 7
      have hfz8 : wn13.frozen? ⟨Q, 8, none⟩ = false := blk_frozen hpQ2 8
      have hfz9 : wn13.frozen? ⟨Q, 9, none⟩ = false := blk_frozen hpQ2 9
      have hfz10 : wn13.frozen? ⟨Q, 10, none⟩ = false := blk_frozen hpQ2 10
      go_simp
      have hBq : Below (w.heap.size + 1) (w.alloc (.cells #[.int .i64 0, .int .i64 0, .string ⟨#[]⟩, .bool false, .int .i64 0] 26)) wn13 := by assumption
      have hZq : w.heap.size + 1 ≤ wn13.heap.size := by assumption
      have hQab : Q ≠ ab := by omega
      clear hcl0 hfz0 hcl1 hfz1 hcl2 hfz2 hcl3 hfz3 hcl4 hfz4 hcl5 hfz5 hcl6 hfz6 hcl7 hfz7 hcl8 hfz8 hcl9 hfz9 hcl10 hfz10
      have hBf : Below (w.heap.size + 1) (w.alloc (.cells #[.int .i64 0, .int .i64 0, .string ⟨#[]⟩, .bool false, .int .i64 0] 26)) (((((((((((wn13.setCell ⟨Q, 0, none⟩ (.bool x1.many)).setCell ⟨Q, 1, none⟩ (.int .i64 x1.v.t)).setCell ⟨Q, 2, none⟩ (.int .i64 x1.v.n)).setCell ⟨Q, 3, none⟩ (.string x1.v.s)).setCell ⟨Q, 4, none⟩ (.bool x1.v.b)).setCell ⟨Q, 5, none⟩ (.int .i64 x1.v.c)).setCell ⟨Q, 6, none⟩ (.int .i64 x1.t)).setCell ⟨Q, 7, none⟩ (.int .i64 x1.l)).setCell ⟨Q, 8, none⟩ (.int .i64 x1.b)).setCell ⟨Q, 9, none⟩ (.int .i64 x1.r)).setCell ⟨Q, 10, none⟩ (.slice x1.A x1.es.length x1.cap)) := below11 hBq hlQ
      have hpQ3 : (((((((((((wn13.setCell ⟨Q, 0, none⟩ (.bool x1.many)).setCell ⟨Q, 1, none⟩ (.int .i64 x1.v.t)).setCell ⟨Q, 2, none⟩ (.int .i64 x1.v.n)).setCell ⟨Q, 3, none⟩ (.string x1.v.s)).setCell ⟨Q, 4, none⟩ (.bool x1.v.b)).setCell ⟨Q, 5, none⟩ (.int .i64 x1.v.c)).setCell ⟨Q, 6, none⟩ (.int .i64 x1.t)).setCell ⟨Q, 7, none⟩ (.int .i64 x1.l)).setCell ⟨Q, 8, none⟩ (.int .i64 x1.b)).setCell ⟨Q, 9, none⟩ (.int .i64 x1.r)).setCell ⟨Q, 10, none⟩ (.slice x1.A x1.es.length x1.cap)).heap[Q]? = some (.cells #[.bool x1.many, .int .i64 x1.v.t, .int .i64 x1.v.n, .string x1.v.s, .bool x1.v.b, .int .i64 x1.v.c, .int .i64 x1.t, .int .i64 x1.l, .int .i64 x1.b, .int .i64 x1.r, .slice x1.A x1.es.length x1.cap] 38 (0, 0)) := row11 hpQ2
      have hpP3 : (((((((((((wn13.setCell ⟨Q, 0, none⟩ (.bool x1.many)).setCell ⟨Q, 1, none⟩ (.int .i64 x1.v.t)).setCell ⟨Q, 2, none⟩ (.int .i64 x1.v.n)).setCell ⟨Q, 3, none⟩ (.string x1.v.s)).setCell ⟨Q, 4, none⟩ (.bool x1.v.b)).setCell ⟨Q, 5, none⟩ (.int .i64 x1.v.c)).setCell ⟨Q, 6, none⟩ (.int .i64 x1.t)).setCell ⟨Q, 7, none⟩ (.int .i64 x1.l)).setCell ⟨Q, 8, none⟩ (.int .i64 x1.b)).setCell ⟨Q, 9, none⟩ (.int .i64 x1.r)).setCell ⟨Q, 10, none⟩ (.slice x1.A x1.es.length x1.cap)).heap[P]? = some (.cells #[.int .i64 x0.v.t, .int .i64 x0.v.n, .string x0.v.s, .bool x0.v.b, .int .i64 x0.v.c] 26 (0, 0)) := kfar11 hne hpP2
      have hk0 : (((((((((((wn13.setCell ⟨Q, 0, none⟩ (.bool x1.many)).setCell ⟨Q, 1, none⟩ (.int .i64 x1.v.t)).setCell ⟨Q, 2, none⟩ (.int .i64 x1.v.n)).setCell ⟨Q, 3, none⟩ (.string x1.v.s)).setCell ⟨Q, 4, none⟩ (.bool x1.v.b)).setCell ⟨Q, 5, none⟩ (.int .i64 x1.v.c)).setCell ⟨Q, 6, none⟩ (.int .i64 x1.t)).setCell ⟨Q, 7, none⟩ (.int .i64 x1.l)).setCell ⟨Q, 8, none⟩ (.int .i64 x1.b)).setCell ⟨Q, 9, none⟩ (.int .i64 x1.r)).setCell ⟨Q, 10, none⟩ (.slice x1.A x1.es.length x1.cap)).cell? ⟨ab, ao + 1, none⟩ = some (.int .i64 x0.v.t) := cell_sc11 hQab (by with_reducible assumption)
      have hk1 : (((((((((((wn13.setCell ⟨Q, 0, none⟩ (.bool x1.many)).setCell ⟨Q, 1, none⟩ (.int .i64 x1.v.t)).setCell ⟨Q, 2, none⟩ (.int .i64 x1.v.n)).setCell ⟨Q, 3, none⟩ (.string x1.v.s)).setCell ⟨Q, 4, none⟩ (.bool x1.v.b)).setCell ⟨Q, 5, none⟩ (.int .i64 x1.v.c)).setCell ⟨Q, 6, none⟩ (.int .i64 x1.t)).setCell ⟨Q, 7, none⟩ (.int .i64 x1.l)).setCell ⟨Q, 8, none⟩ (.int .i64 x1.b)).setCell ⟨Q, 9, none⟩ (.int .i64 x1.r)).setCell ⟨Q, 10, none⟩ (.slice x1.A x1.es.length x1.cap)).cell? ⟨ab, ao + 2, none⟩ = some (.int .i64 x0.v.n) := cell_sc11 hQab (by with_reducible assumption)
      have hk2 : (((((((((((wn13.setCell ⟨Q, 0, none⟩ (.bool x1.many)).setCell ⟨Q, 1, none⟩ (.int .i64 x1.v.t)).setCell ⟨Q, 2, none⟩ (.int .i64 x1.v.n)).setCell ⟨Q, 3, none⟩ (.string x1.v.s)).setCell ⟨Q, 4, none⟩ (.bool x1.v.b)).setCell ⟨Q, 5, none⟩ (.int .i64 x1.v.c)).setCell ⟨Q, 6, none⟩ (.int .i64 x1.t)).setCell ⟨Q, 7, none⟩ (.int .i64 x1.l)).setCell ⟨Q, 8, none⟩ (.int .i64 x1.b)).setCell ⟨Q, 9, none⟩ (.int .i64 x1.r)).setCell ⟨Q, 10, none⟩ (.slice x1.A x1.es.length x1.cap)).cell? ⟨ab, ao + 3, none⟩ = some (.string x0.v.s) := cell_sc11 hQab (by with_reducible assumption)
      have hk3 : (((((((((((wn13.setCell ⟨Q, 0, none⟩ (.bool x1.many)).setCell ⟨Q, 1, none⟩ (.int .i64 x1.v.t)).setCell ⟨Q, 2, none⟩ (.int .i64 x1.v.n)).setCell ⟨Q, 3, none⟩ (.string x1.v.s)).setCell ⟨Q, 4, none⟩ (.bool x1.v.b)).setCell ⟨Q, 5, none⟩ (.int .i64 x1.v.c)).setCell ⟨Q, 6, none⟩ (.int .i64 x1.t)).setCell ⟨Q, 7, none⟩ (.int .i64 x1.l)).setCell ⟨Q, 8, none⟩ (.int .i64 x1.b)).setCell ⟨Q, 9, none⟩ (.int .i64 x1.r)).setCell ⟨Q, 10, none⟩ (.slice x1.A x1.es.length x1.cap)).cell? ⟨ab, ao + 4, none⟩ = some (.bool x0.v.b) := cell_sc11 hQab (by with_reducible assumption)
      have hk4 : (((((((((((wn13.setCell ⟨Q, 0, none⟩ (.bool x1.many)).setCell ⟨Q, 1, none⟩ (.int .i64 x1.v.t)).setCell ⟨Q, 2, none⟩ (.int .i64 x1.v.n)).setCell ⟨Q, 3, none⟩ (.string x1.v.s)).setCell ⟨Q, 4, none⟩ (.bool x1.v.b)).setCell ⟨Q, 5, none⟩ (.int .i64 x1.v.c)).setCell ⟨Q, 6, none⟩ (.int .i64 x1.t)).setCell ⟨Q, 7, none⟩ (.int .i64 x1.l)).setCell ⟨Q, 8, none⟩ (.int .i64 x1.b)).setCell ⟨Q, 9, none⟩ (.int .i64 x1.r)).setCell ⟨Q, 10, none⟩ (.slice x1.A x1.es.length x1.cap)).cell? ⟨ab, ao + 5, none⟩ = some (.int .i64 x0.v.c) := cell_sc11 hQab (by with_reducible assumption)
      have hk5 : (((((((((((wn13.setCell ⟨Q, 0, none⟩ (.bool x1.many)).setCell ⟨Q, 1, none⟩ (.int .i64 x1.v.t)).setCell ⟨Q, 2, none⟩ (.int .i64 x1.v.n)).setCell ⟨Q, 3, none⟩ (.string x1.v.s)).setCell ⟨Q, 4, none⟩ (.bool x1.v.b)).setCell ⟨Q, 5, none⟩ (.int .i64 x1.v.c)).setCell ⟨Q, 6, none⟩ (.int .i64 x1.t)).setCell ⟨Q, 7, none⟩ (.int .i64 x1.l)).setCell ⟨Q, 8, none⟩ (.int .i64 x1.b)).setCell ⟨Q, 9, none⟩ (.int .i64 x1.r)).setCell ⟨Q, 10, none⟩ (.slice x1.A x1.es.length x1.cap)).cell? ⟨ab, ao + 11, none⟩ = some (.bool x1.many) := cell_sc11 hQab (by with_reducible assumption)
      have hk6 : (((((((((((wn13.setCell ⟨Q, 0, none⟩ (.bool x1.many)).setCell ⟨Q, 1, none⟩ (.int .i64 x1.v.t)).setCell ⟨Q, 2, none⟩ (.int .i64 x1.v.n)).setCell ⟨Q, 3, none⟩ (.string x1.v.s)).setCell ⟨Q, 4, none⟩ (.bool x1.v.b)).setCell ⟨Q, 5, none⟩ (.int .i64 x1.v.c)).setCell ⟨Q, 6, none⟩ (.int .i64 x1.t)).setCell ⟨Q, 7, none⟩ (.int .i64 x1.l)).setCell ⟨Q, 8, none⟩ (.int .i64 x1.b)).setCell ⟨Q, 9, none⟩ (.int .i64 x1.r)).setCell ⟨Q, 10, none⟩ (.slice x1.A x1.es.length x1.cap)).cell? ⟨ab, ao + 11 + 1, none⟩ = some (.int .i64 x1.v.t) := cell_sc11 hQab (by with_reducible assumption)
      have hk7 : (((((((((((wn13.setCell ⟨Q, 0, none⟩ (.bool x1.many)).setCell ⟨Q, 1, none⟩ (.int .i64 x1.v.t)).setCell ⟨Q, 2, none⟩ (.int .i64 x1.v.n)).setCell ⟨Q, 3, none⟩ (.string x1.v.s)).setCell ⟨Q, 4, none⟩ (.bool x1.v.b)).setCell ⟨Q, 5, none⟩ (.int .i64 x1.v.c)).setCell ⟨Q, 6, none⟩ (.int .i64 x1.t)).setCell ⟨Q, 7, none⟩ (.int .i64 x1.l)).setCell ⟨Q, 8, none⟩ (.int .i64 x1.b)).setCell ⟨Q, 9, none⟩ (.int .i64 x1.r)).setCell ⟨Q, 10, none⟩ (.slice x1.A x1.es.length x1.cap)).cell? ⟨ab, ao + 11 + 2, none⟩ = some (.int .i64 x1.v.n) := cell_sc11 hQab (by with_reducible assumption)
      have hk8 : (((((((((((wn13.setCell ⟨Q, 0, none⟩ (.bool x1.many)).setCell ⟨Q, 1, none⟩ (.int .i64 x1.v.t)).setCell ⟨Q, 2, none⟩ (.int .i64 x1.v.n)).setCell ⟨Q, 3, none⟩ (.string x1.v.s)).setCell ⟨Q, 4, none⟩ (.bool x1.v.b)).setCell ⟨Q, 5, none⟩ (.int .i64 x1.v.c)).setCell ⟨Q, 6, none⟩ (.int .i64 x1.t)).setCell ⟨Q, 7, none⟩ (.int .i64 x1.l)).setCell ⟨Q, 8, none⟩ (.int .i64 x1.b)).setCell ⟨Q, 9, none⟩ (.int .i64 x1.r)).setCell ⟨Q, 10, none⟩ (.slice x1.A x1.es.length x1.cap)).cell? ⟨ab, ao + 11 + 3, none⟩ = some (.string x1.v.s) := cell_sc11 hQab (by with_reducible assumption)
      have hk9 : (((((((((((wn13.setCell ⟨Q, 0, none⟩ (.bool x1.many)).setCell ⟨Q, 1, none⟩ (.int .i64 x1.v.t)).setCell ⟨Q, 2, none⟩ (.int .i64 x1.v.n)).setCell ⟨Q, 3, none⟩ (.string x1.v.s)).setCell ⟨Q, 4, none⟩ (.bool x1.v.b)).setCell ⟨Q, 5, none⟩ (.int .i64 x1.v.c)).setCell ⟨Q, 6, none⟩ (.int .i64 x1.t)).setCell ⟨Q, 7, none⟩ (.int .i64 x1.l)).setCell ⟨Q, 8, none⟩ (.int .i64 x1.b)).setCell ⟨Q, 9, none⟩ (.int .i64 x1.r)).setCell ⟨Q, 10, none⟩ (.slice x1.A x1.es.length x1.cap)).cell? ⟨ab, ao + 11 + 4, none⟩ = some (.bool x1.v.b) := cell_sc11 hQab (by with_reducible assumption)
      have hk10 : (((((((((((wn13.setCell ⟨Q, 0, none⟩ (.bool x1.many)).setCell ⟨Q, 1, none⟩ (.int .i64 x1.v.t)).setCell ⟨Q, 2, none⟩ (.int .i64 x1.v.n)).setCell ⟨Q, 3, none⟩ (.string x1.v.s)).setCell ⟨Q, 4, none⟩ (.bool x1.v.b)).setCell ⟨Q, 5, none⟩ (.int .i64 x1.v.c)).setCell ⟨Q, 6, none⟩ (.int .i64 x1.t)).setCell ⟨Q, 7, none⟩ (.int .i64 x1.l)).setCell ⟨Q, 8, none⟩ (.int .i64 x1.b)).setCell ⟨Q, 9, none⟩ (.int .i64 x1.r)).setCell ⟨Q, 10, none⟩ (.slice x1.A x1.es.length x1.cap)).cell? ⟨ab, ao + 11 + 5, none⟩ = some (.int .i64 x1.v.c) := cell_sc11 hQab (by with_reducible assumption)
      have hk11 : (((((((((((wn13.setCell ⟨Q, 0, none⟩ (.bool x1.many)).setCell ⟨Q, 1, none⟩ (.int .i64 x1.v.t)).setCell ⟨Q, 2, none⟩ (.int .i64 x1.v.n)).setCell ⟨Q, 3, none⟩ (.string x1.v.s)).setCell ⟨Q, 4, none⟩ (.bool x1.v.b)).setCell ⟨Q, 5, none⟩ (.int .i64 x1.v.c)).setCell ⟨Q, 6, none⟩ (.int .i64 x1.t)).setCell ⟨Q, 7, none⟩ (.int .i64 x1.l)).setCell ⟨Q, 8, none⟩ (.int .i64 x1.b)).setCell ⟨Q, 9, none⟩ (.int .i64 x1.r)).setCell ⟨Q, 10, none⟩ (.slice x1.A x1.es.length x1.cap)).cell? ⟨ab, ao + 11 + 6, none⟩ = some (.int .i64 x1.t) := cell_sc11 hQab (by with_reducible assumption)
      have hk12 : (((((((((((wn13.setCell ⟨Q, 0, none⟩ (.bool x1.many)).setCell ⟨Q, 1, none⟩ (.int .i64 x1.v.t)).setCell ⟨Q, 2, none⟩ (.int .i64 x1.v.n)).setCell ⟨Q, 3, none⟩ (.string x1.v.s)).setCell ⟨Q, 4, none⟩ (.bool x1.v.b)).setCell ⟨Q, 5, none⟩ (.int .i64 x1.v.c)).setCell ⟨Q, 6, none⟩ (.int .i64 x1.t)).setCell ⟨Q, 7, none⟩ (.int .i64 x1.l)).setCell ⟨Q, 8, none⟩ (.int .i64 x1.b)).setCell ⟨Q, 9, none⟩ (.int .i64 x1.r)).setCell ⟨Q, 10, none⟩ (.slice x1.A x1.es.length x1.cap)).cell? ⟨ab, ao + 11 + 7, none⟩ = some (.int .i64 x1.l) := cell_sc11 hQab (by with_reducible assumption)
      have hk13 : (((((((((((wn13.setCell ⟨Q, 0, none⟩ (.bool x1.many)).setCell ⟨Q, 1, none⟩ (.int .i64 x1.v.t)).setCell ⟨Q, 2, none⟩ (.int .i64 x1.v.n)).setCell ⟨Q, 3, none⟩ (.string x1.v.s)).setCell ⟨Q, 4, none⟩ (.bool x1.v.b)).setCell ⟨Q, 5, none⟩ (.int .i64 x1.v.c)).setCell ⟨Q, 6, none⟩ (.int .i64 x1.t)).setCell ⟨Q, 7, none⟩ (.int .i64 x1.l)).setCell ⟨Q, 8, none⟩ (.int .i64 x1.b)).setCell ⟨Q, 9, none⟩ (.int .i64 x1.r)).setCell ⟨Q, 10, none⟩ (.slice x1.A x1.es.length x1.cap)).cell? ⟨ab, ao + 11 + 8, none⟩ = some (.int .i64 x1.b) := cell_sc11 hQab (by with_reducible assumption)
      have hk14 : (((((((((((wn13.setCell ⟨Q, 0, none⟩ (.bool x1.many)).setCell ⟨Q, 1, none⟩ (.int .i64 x1.v.t)).setCell ⟨Q, 2, none⟩ (.int .i64 x1.v.n)).setCell ⟨Q, 3, none⟩ (.string x1.v.s)).setCell ⟨Q, 4, none⟩ (.bool x1.v.b)).setCell ⟨Q, 5, none⟩ (.int .i64 x1.v.c)).setCell ⟨Q, 6, none⟩ (.int .i64 x1.t)).setCell ⟨Q, 7, none⟩ (.int .i64 x1.l)).setCell ⟨Q, 8, none⟩ (.int .i64 x1.b)).setCell ⟨Q, 9, none⟩ (.int .i64 x1.r)).setCell ⟨Q, 10, none⟩ (.slice x1.A x1.es.length x1.cap)).cell? ⟨ab, ao + 11 + 9, none⟩ = some (.int .i64 x1.r) := cell_sc11 hQab (by with_reducible assumption)
      have hk15 : (((((((((((wn13.setCell ⟨Q, 0, none⟩ (.bool x1.many)).setCell ⟨Q, 1, none⟩ (.int .i64 x1.v.t)).setCell ⟨Q, 2, none⟩ (.int .i64 x1.v.n)).setCell ⟨Q, 3, none⟩ (.string x1.v.s)).setCell ⟨Q, 4, none⟩ (.bool x1.v.b)).setCell ⟨Q, 5, none⟩ (.int .i64 x1.v.c)).setCell ⟨Q, 6, none⟩ (.int .i64 x1.t)).setCell ⟨Q, 7, none⟩ (.int .i64 x1.l)).setCell ⟨Q, 8, none⟩ (.int .i64 x1.b)).setCell ⟨Q, 9, none⟩ (.int .i64 x1.r)).setCell ⟨Q, 10, none⟩ (.slice x1.A x1.es.length x1.cap)).cell? ⟨ab, ao + 11 + 10, none⟩ = some (.slice x1.A x1.es.length x1.cap) := cell_sc11 hQab (by with_reducible assumption)
      have hZz : w.heap.size + 1 ≤ (((((((((((wn13.setCell ⟨Q, 0, none⟩ (.bool x1.many)).setCell ⟨Q, 1, none⟩ (.int .i64 x1.v.t)).setCell ⟨Q, 2, none⟩ (.int .i64 x1.v.n)).setCell ⟨Q, 3, none⟩ (.string x1.v.s)).setCell ⟨Q, 4, none⟩ (.bool x1.v.b)).setCell ⟨Q, 5, none⟩ (.int .i64 x1.v.c)).setCell ⟨Q, 6, none⟩ (.int .i64 x1.t)).setCell ⟨Q, 7, none⟩ (.int .i64 x1.l)).setCell ⟨Q, 8, none⟩ (.int .i64 x1.b)).setCell ⟨Q, 9, none⟩ (.int .i64 x1.r)).setCell ⟨Q, 10, none⟩ (.slice x1.A x1.es.length x1.cap)).heap.size := size_sc11 hZq
      clear hBq hZq hpQ2 hpP2
      generalize (((((((((((wn13.setCell ⟨Q, 0, none⟩ (.bool x1.many)).setCell ⟨Q, 1, none⟩ (.int .i64 x1.v.t)).setCell ⟨Q, 2, none⟩ (.int .i64 x1.v.n)).setCell ⟨Q, 3, none⟩ (.string x1.v.s)).setCell ⟨Q, 4, none⟩ (.bool x1.v.b)).setCell ⟨Q, 5, none⟩ (.int .i64 x1.v.c)).setCell ⟨Q, 6, none⟩ (.int .i64 x1.t)).setCell ⟨Q, 7, none⟩ (.int .i64 x1.l)).setCell ⟨Q, 8, none⟩ (.int .i64 x1.b)).setCell ⟨Q, 9, none⟩ (.int .i64 x1.r)).setCell ⟨Q, 10, none⟩ (.slice x1.A x1.es.length x1.cap)) = wq at *
      refine hK.out _ _ ?_ (fun hHeld => ?_)
      · ((try dsimp only); refine ⟨?_, ?_, ?_, ?_, ?_, ?_, ?_, ?_, ?_, ?_, ?_, ?_, ?_, ?_, ?_, ?_, ?_, ?_⟩ <;> with_reducible assumption)
      clear hK K
      refine wpAnyH_done (by kernel_rfl) ?_ _
      refine NoPanic.normal ?_
      go_wp2
      go_meet
      case rel => exact ⟨P, Q, rfl, rfl, hlP, hlQ, hpP3, hpQ3, hBf⟩
  case rest =>
    obtain ⟨P, Q, rfl, rfl, hlP, hlQ, hpP, hpQ, hbc⟩ := hcut
    obtain ⟨wa, rfl⟩ : ∃ wa, wa = wc := ⟨_, rfl⟩
    have hPl := (Array.getElem?_eq_some_iff.1 hpP).1
    have hQl := (Array.getElem?_eq_some_iff.1 hpQ).1
    have hq0 : Below w.heap.size w wa := b0.trans (hbc.mono (by omega))
    have habc : ab < wa.heap.size := by omega
    have cq0 : wa.cell? ⟨Q, 0, none⟩ = some (.bool x1.many) := blk_cell hpQ 0
    have cq1 : wa.cell? ⟨Q, 1, none⟩ = some (.int .i64 x1.v.t) := blk_cell hpQ 1
    have cq2 : wa.cell? ⟨Q, 2, none⟩ = some (.int .i64 x1.v.n) := blk_cell hpQ 2
    have cq3 : wa.cell? ⟨Q, 3, none⟩ = some (.string x1.v.s) := blk_cell hpQ 3
    have cq4 : wa.cell? ⟨Q, 4, none⟩ = some (.bool x1.v.b) := blk_cell hpQ 4
    have cq5 : wa.cell? ⟨Q, 5, none⟩ = some (.int .i64 x1.v.c) := blk_cell hpQ 5
    have cq6 : wa.cell? ⟨Q, 6, none⟩ = some (.int .i64 x1.t) := blk_cell hpQ 6
    have cq7 : wa.cell? ⟨Q, 7, none⟩ = some (.int .i64 x1.l) := blk_cell hpQ 7
    have cq8 : wa.cell? ⟨Q, 8, none⟩ = some (.int .i64 x1.b) := blk_cell hpQ 8
    have cq9 : wa.cell? ⟨Q, 9, none⟩ = some (.int .i64 x1.r) := blk_cell hpQ 9
    have cq10 : wa.cell? ⟨Q, 10, none⟩ = some (.slice x1.A x1.es.length x1.cap) := blk_cell hpQ 10
    clear hx0_1 hx0_2 hx0_3 hx0_4 hx0_5 hx1_0 hx1_1 hx1_2 hx1_3 hx1_4 hx1_5 hx1_6 hx1_7 hx1_8 hx1_9 hx1_10
    go_upto_region 2 with (fail)
    go_cut [37] from 17 to 37 (fun c wd => c = .bool bad ∧ Below wa.heap.size wa wd)
    case first =>
      by_cases h1 : 1 < R
      · by_cases h2 : 1 < C
        · have hb1 : decide ((1 : Int) < R) = true := by simp; omega
          have hb2 : decide ((1 : Int) < C) = true := by simp; omega
          refine wp_region_noPanic ?_
          refine wp_region_held_drew (S := fun w' => w'.cell? ⟨Q, 0, none⟩ = some (.bool x1.many) ∧ w'.cell? ⟨Q, 1, none⟩ = some (.int .i64 x1.v.t) ∧ w'.cell? ⟨Q, 2, none⟩ = some (.int .i64 x1.v.n) ∧ w'.cell? ⟨Q, 3, none⟩ = some (.string x1.v.s) ∧ w'.cell? ⟨Q, 4, none⟩ = some (.bool x1.v.b) ∧ w'.cell? ⟨Q, 5, none⟩ = some (.int .i64 x1.v.c) ∧ w'.cell? ⟨Q, 6, none⟩ = some (.int .i64 x1.t) ∧ w'.cell? ⟨Q, 7, none⟩ = some (.int .i64 x1.l) ∧ w'.cell? ⟨Q, 8, none⟩ = some (.int .i64 x1.b) ∧ w'.cell? ⟨Q, 9, none⟩ = some (.int .i64 x1.r) ∧ w'.cell? ⟨Q, 10, none⟩ = some (.slice x1.A x1.es.length x1.cap) ∧ Below wa.heap.size wa w' ∧ wa.heap.size ≤ w'.heap.size) (by kernel_rfl) (by (try dsimp only); refine ⟨?_, ?_, ?_, ?_, ?_, ?_, ?_, ?_, ?_, ?_, ?_, ?_, ?_⟩ <;> first | assumption | exact Below.drew (Below.refl _ _) | exact Nat.le_refl _) (fun hHeld => ?_)
          generalize wa.drew = wz at *
          refine wpAnyH_take (i := 0) (oi := ⟨_, _, _, _, _, _⟩) (v := ?v14) rfl (by kernel_rfl) (by kernel_rfl) (by kernel_rfl) (fun _ _ _ h => h) (Or.inl ⟨by rfl, ?hy14⟩) hHeld ?rest14
          case hy14 => (intro w2 hSw; (try dsimp only at hSw); go_split_ands; go_simp; first | done | with_reducible rfl)
          try simp only [Act.put, List.setIfInBounds_toArray, List.set_cons_zero, List.set_cons_succ]
          refine wpAnyH_ready (rs := [1]) (by kernel_rfl) (by simp) ?_
          refine AllReadyH.cons (o := ⟨_, _, _, _, _, _⟩) rfl (fun K hK => ?_) AllReadyH.nil
          go_split_ands
          go_simp
          refine ((CR _).out).mono ?_
          rintro e w1 ⟨rfl, hb⟩
          refine hK.out _ _ ?_ (fun hHeld => ?_)
          · ((try dsimp only); refine ⟨?_, ?_, ?_, ?_, ?_, ?_, ?_, ?_, ?_, ?_, ?_, ?_, ?_⟩ <;> first | (rw [hb.cell (by dsimp only; omega)]; assumption) | exact Below.trans (by assumption) (hb.mono (by omega)) | (have := hb.size; omega))
          clear hK K hb
          try simp only [Act.put, List.setIfInBounds_toArray, List.set_cons_zero, List.set_cons_succ]
          refine wpAnyH_take (i := 2) (oi := ⟨_, _, _, _, _, _⟩) (v := ?v15) rfl (by kernel_rfl) (by kernel_rfl) (by kernel_rfl) (fun _ _ _ h => h) (Or.inl ⟨by rfl, ?hy15⟩) hHeld ?rest15
          case hy15 => (intro w2 hSw; (try dsimp only at hSw); go_split_ands; go_simp; first | done | with_reducible rfl)
          try simp only [Act.put, List.setIfInBounds_toArray, List.set_cons_zero, List.set_cons_succ]
          refine wpAnyH_take (i := 3) (oi := ⟨_, _, _, _, _, _⟩) (v := ?v16) rfl (by kernel_rfl) (by kernel_rfl) (by kernel_rfl) (fun _ _ _ h => h) (Or.inl ⟨by rfl, ?hy16⟩) hHeld ?rest16
          case hy16 => (intro w2 hSw; (try dsimp only at hSw); go_split_ands; go_simp; first | done | with_reducible rfl)
          try simp only [Act.put, List.setIfInBounds_toArray, List.set_cons_zero, List.set_cons_succ]
          refine wpAnyH_take (i := 4) (oi := ⟨_, _, _, _, _, _⟩) (v := ?v17) rfl (by kernel_rfl) (by kernel_rfl) (by kernel_rfl) (fun _ _ _ h => h) (Or.inl ⟨by rfl, ?hy17⟩) hHeld ?rest17
          case hy17 => (intro w2 hSw; (try dsimp only at hSw); go_split_ands; go_simp; first | done | with_reducible rfl)
          try simp only [Act.put, List.setIfInBounds_toArray, List.set_cons_zero, List.set_cons_succ]
          refine wpAnyH_ready (rs := [5]) (by kernel_rfl) (by simp) ?_
          refine AllReadyH.cons (o := ⟨_, _, _, _, _, _⟩) rfl (fun K hK => ?_) AllReadyH.nil
          go_split_ands
          go_simp
          refine ((CC _).out).mono ?_
          rintro e w1 ⟨rfl, hb⟩
          refine hK.out _ _ ?_ (fun hHeld => ?_)
          · ((try dsimp only); refine ⟨?_, ?_, ?_, ?_, ?_, ?_, ?_, ?_, ?_, ?_, ?_, ?_, ?_⟩ <;> first | (rw [hb.cell (by dsimp only; omega)]; assumption) | exact Below.trans (by assumption) (hb.mono (by omega)) | (have := hb.size; omega))
          clear hK K hb
          try simp only [Act.put, List.setIfInBounds_toArray, List.set_cons_zero, List.set_cons_succ]
          refine wpAnyH_take (i := 6) (oi := ⟨_, _, _, _, _, _⟩) (v := ?v18) rfl (by kernel_rfl) (by kernel_rfl) (by kernel_rfl) (fun _ _ _ h => h) (Or.inl ⟨by rfl, ?hy18⟩) hHeld ?rest18
          case hy18 => (intro w2 hSw; (try dsimp only at hSw); go_split_ands; go_simp; first | done | with_reducible rfl)
          try simp only [Act.put, List.setIfInBounds_toArray, List.set_cons_zero, List.set_cons_succ]
          refine wpAnyH_take (i := 7) (oi := ⟨_, _, _, _, _, _⟩) (v := ?v19) rfl (by kernel_rfl) (by kernel_rfl) (by kernel_rfl) (fun _ _ _ h => h) (Or.inl ⟨by rfl, ?hy19⟩) hHeld ?rest19
          case hy19 => (intro w2 hSw; (try dsimp only at hSw); go_split_ands; go_simp; first | done | with_reducible rfl)
          try simp only [Act.put, List.setIfInBounds_toArray, List.set_cons_zero, List.set_cons_succ]
          refine wpAnyH_take (i := 8) (oi := ⟨_, _, _, _, _, _⟩) (v := ?v20) rfl (by kernel_rfl) (by kernel_rfl) (by kernel_rfl) (fun _ _ _ h => h) (Or.inl ⟨by rfl, ?hy20⟩) hHeld ?rest20
          case hy20 => (intro w2 hSw; (try dsimp only at hSw); go_split_ands; go_simp; first | done | with_reducible rfl)
          try simp only [Act.put, List.setIfInBounds_toArray, List.set_cons_zero, List.set_cons_succ]
          refine wpAnyH_take (i := 9) (oi := ⟨_, _, _, _, _, _⟩) (v := undef) rfl (by kernel_rfl) (by kernel_rfl) (by kernel_rfl) (fun _ _ _ h => h) (Or.inr ⟨by rfl, rfl⟩) hHeld ?_
          try simp only [Act.put, List.setIfInBounds_toArray, List.set_cons_zero, List.set_cons_succ]
          refine wpAnyH_take (i := 10) (oi := ⟨_, _, _, _, _, _⟩) (v := undef) rfl (by kernel_rfl) (by kernel_rfl) (by kernel_rfl) (fun _ _ _ h => h) (Or.inr ⟨by rfl, rfl⟩) hHeld ?_
          try simp only [Act.put, List.setIfInBounds_toArray, List.set_cons_zero, List.set_cons_succ]
          refine wpAnyH_take (i := 11) (oi := ⟨_, _, _, _, _, _⟩) (v := undef) rfl (by kernel_rfl) (by kernel_rfl) (by kernel_rfl) (fun _ _ _ h => h) (Or.inr ⟨by rfl, rfl⟩) hHeld ?_
          try simp only [Act.put, List.setIfInBounds_toArray, List.set_cons_zero, List.set_cons_succ]
          refine wpAnyH_take (i := 12) (oi := ⟨_, _, _, _, _, _⟩) (v := undef) rfl (by kernel_rfl) (by kernel_rfl) (by kernel_rfl) (fun _ _ _ h => h) (Or.inr ⟨by rfl, rfl⟩) hHeld ?_
          try simp only [Act.put, List.setIfInBounds_toArray, List.set_cons_zero, List.set_cons_succ]
          refine wpAnyH_take (i := 13) (oi := ⟨_, _, _, _, _, _⟩) (v := undef) rfl (by kernel_rfl) (by kernel_rfl) (by kernel_rfl) (fun _ _ _ h => h) (Or.inr ⟨by rfl, rfl⟩) hHeld ?_
          try simp only [Act.put, List.setIfInBounds_toArray, List.set_cons_zero, List.set_cons_succ]
          refine wpAnyH_take (i := 14) (oi := ⟨_, _, _, _, _, _⟩) (v := undef) rfl (by kernel_rfl) (by kernel_rfl) (by kernel_rfl) (fun _ _ _ h => h) (Or.inr ⟨by rfl, rfl⟩) hHeld ?_
          try simp only [Act.put, List.setIfInBounds_toArray, List.set_cons_zero, List.set_cons_succ]
          refine wpAnyH_take (i := 15) (oi := ⟨_, _, _, _, _, _⟩) (v := undef) rfl (by kernel_rfl) (by kernel_rfl) (by kernel_rfl) (fun _ _ _ h => h) (Or.inr ⟨by rfl, rfl⟩) hHeld ?_
          try simp only [Act.put, List.setIfInBounds_toArray, List.set_cons_zero, List.set_cons_succ]
          refine wpAnyH_take (i := 16) (oi := ⟨_, _, _, _, _, _⟩) (v := undef) rfl (by kernel_rfl) (by kernel_rfl) (by kernel_rfl) (fun _ _ _ h => h) (Or.inr ⟨by rfl, rfl⟩) hHeld ?_
          try simp only [Act.put, List.setIfInBounds_toArray, List.set_cons_zero, List.set_cons_succ]
          refine wpAnyH_take (i := 17) (oi := ⟨_, _, _, _, _, _⟩) (v := undef) rfl (by kernel_rfl) (by kernel_rfl) (by kernel_rfl) (fun _ _ _ h => h) (Or.inr ⟨by rfl, rfl⟩) hHeld ?_
          try simp only [Act.put, List.setIfInBounds_toArray, List.set_cons_zero, List.set_cons_succ]
          refine wpAnyH_take (i := 18) (oi := ⟨_, _, _, _, _, _⟩) (v := undef) rfl (by kernel_rfl) (by kernel_rfl) (by kernel_rfl) (fun _ _ _ h => h) (Or.inr ⟨by rfl, rfl⟩) hHeld ?_
          try simp only [Act.put, List.setIfInBounds_toArray, List.set_cons_zero, List.set_cons_succ]
          refine wpAnyH_take (i := 19) (oi := ⟨_, _, _, _, _, _⟩) (v := undef) rfl (by kernel_rfl) (by kernel_rfl) (by kernel_rfl) (fun _ _ _ h => h) (Or.inr ⟨by rfl, rfl⟩) hHeld ?_
          try simp only [Act.put, List.setIfInBounds_toArray, List.set_cons_zero, List.set_cons_succ]
          refine wpAnyH_take (i := 20) (oi := ⟨_, _, _, _, _, _⟩) (v := ?v21) rfl (by kernel_rfl) (by kernel_rfl) (by kernel_rfl) (fun _ _ _ h => h) (Or.inl ⟨by rfl, ?hy21⟩) hHeld ?rest21
          case hy21 => (intro w2 hSw; (try dsimp only at hSw); go_split_ands; go_simp; first | done | with_reducible rfl)
          try simp only [Act.put, List.setIfInBounds_toArray, List.set_cons_zero, List.set_cons_succ]
          refine wpAnyH_done (by kernel_rfl) ?_ _
          refine NoPanic.normal ?_
          go_split_ands
          go_wp2
          go_meet
          case rel => exact ⟨by rw [← hbad.out]; simp [*], by assumption⟩
        · have hb1 : decide ((1 : Int) < R) = true := by simp; omega
          have hb2 : decide ((1 : Int) < C) = false := by simp; omega
          refine wp_region_noPanic ?_
          refine wp_region_held_drew (S := fun w' => w'.cell? ⟨Q, 0, none⟩ = some (.bool x1.many) ∧ w'.cell? ⟨Q, 1, none⟩ = some (.int .i64 x1.v.t) ∧ w'.cell? ⟨Q, 2, none⟩ = some (.int .i64 x1.v.n) ∧ w'.cell? ⟨Q, 3, none⟩ = some (.string x1.v.s) ∧ w'.cell? ⟨Q, 4, none⟩ = some (.bool x1.v.b) ∧ w'.cell? ⟨Q, 5, none⟩ = some (.int .i64 x1.v.c) ∧ w'.cell? ⟨Q, 6, none⟩ = some (.int .i64 x1.t) ∧ w'.cell? ⟨Q, 7, none⟩ = some (.int .i64 x1.l) ∧ w'.cell? ⟨Q, 8, none⟩ = some (.int .i64 x1.b) ∧ w'.cell? ⟨Q, 9, none⟩ = some (.int .i64 x1.r) ∧ w'.cell? ⟨Q, 10, none⟩ = some (.slice x1.A x1.es.length x1.cap) ∧ Below wa.heap.size wa w' ∧ wa.heap.size ≤ w'.heap.size) (by kernel_rfl) (by (try dsimp only); refine ⟨?_, ?_, ?_, ?_, ?_, ?_, ?_, ?_, ?_, ?_, ?_, ?_, ?_⟩ <;> first | assumption | exact Below.drew (Below.refl _ _) | exact Nat.le_refl _) (fun hHeld => ?_)
          generalize wa.drew = wz at *
          refine wpAnyH_take (i := 0) (oi := ⟨_, _, _, _, _, _⟩) (v := ?v22) rfl (by kernel_rfl) (by kernel_rfl) (by kernel_rfl) (fun _ _ _ h => h) (Or.inl ⟨by rfl, ?hy22⟩) hHeld ?rest22
          case hy22 => (intro w2 hSw; (try dsimp only at hSw); go_split_ands; go_simp; first | done | with_reducible rfl)
          try simp only [Act.put, List.setIfInBounds_toArray, List.set_cons_zero, List.set_cons_succ]
          refine wpAnyH_ready (rs := [1]) (by kernel_rfl) (by simp) ?_
          refine AllReadyH.cons (o := ⟨_, _, _, _, _, _⟩) rfl (fun K hK => ?_) AllReadyH.nil
          go_split_ands
          go_simp
          refine ((CR _).out).mono ?_
          rintro e w1 ⟨rfl, hb⟩
          refine hK.out _ _ ?_ (fun hHeld => ?_)
          · ((try dsimp only); refine ⟨?_, ?_, ?_, ?_, ?_, ?_, ?_, ?_, ?_, ?_, ?_, ?_, ?_⟩ <;> first | (rw [hb.cell (by dsimp only; omega)]; assumption) | exact Below.trans (by assumption) (hb.mono (by omega)) | (have := hb.size; omega))
          clear hK K hb
          try simp only [Act.put, List.setIfInBounds_toArray, List.set_cons_zero, List.set_cons_succ]
          refine wpAnyH_take (i := 2) (oi := ⟨_, _, _, _, _, _⟩) (v := ?v23) rfl (by kernel_rfl) (by kernel_rfl) (by kernel_rfl) (fun _ _ _ h => h) (Or.inl ⟨by rfl, ?hy23⟩) hHeld ?rest23
          case hy23 => (intro w2 hSw; (try dsimp only at hSw); go_split_ands; go_simp; first | done | with_reducible rfl)
          try simp only [Act.put, List.setIfInBounds_toArray, List.set_cons_zero, List.set_cons_succ]
          refine wpAnyH_take (i := 3) (oi := ⟨_, _, _, _, _, _⟩) (v := ?v24) rfl (by kernel_rfl) (by kernel_rfl) (by kernel_rfl) (fun _ _ _ h => h) (Or.inl ⟨by rfl, ?hy24⟩) hHeld ?rest24
          case hy24 => (intro w2 hSw; (try dsimp only at hSw); go_split_ands; go_simp; first | done | with_reducible rfl)
          try simp only [Act.put, List.setIfInBounds_toArray, List.set_cons_zero, List.set_cons_succ]
          refine wpAnyH_take (i := 4) (oi := ⟨_, _, _, _, _, _⟩) (v := ?v25) rfl (by kernel_rfl) (by kernel_rfl) (by kernel_rfl) (fun _ _ _ h => h) (Or.inl ⟨by rfl, ?hy25⟩) hHeld ?rest25
          case hy25 => (intro w2 hSw; (try dsimp only at hSw); go_split_ands; go_simp; first | done | with_reducible rfl)
          try simp only [Act.put, List.setIfInBounds_toArray, List.set_cons_zero, List.set_cons_succ]
          refine wpAnyH_ready (rs := [5]) (by kernel_rfl) (by simp) ?_
          refine AllReadyH.cons (o := ⟨_, _, _, _, _, _⟩) rfl (fun K hK => ?_) AllReadyH.nil
          go_split_ands
          go_simp
          refine ((CC _).out).mono ?_
          rintro e w1 ⟨rfl, hb⟩
          refine hK.out _ _ ?_ (fun hHeld => ?_)
          · ((try dsimp only); refine ⟨?_, ?_, ?_, ?_, ?_, ?_, ?_, ?_, ?_, ?_, ?_, ?_, ?_⟩ <;> first | (rw [hb.cell (by dsimp only; omega)]; assumption) | exact Below.trans (by assumption) (hb.mono (by omega)) | (have := hb.size; omega))
          clear hK K hb
          try simp only [Act.put, List.setIfInBounds_toArray, List.set_cons_zero, List.set_cons_succ]
          refine wpAnyH_take (i := 6) (oi := ⟨_, _, _, _, _, _⟩) (v := ?v26) rfl (by kernel_rfl) (by kernel_rfl) (by kernel_rfl) (fun _ _ _ h => h) (Or.inl ⟨by rfl, ?hy26⟩) hHeld ?rest26
          case hy26 => (intro w2 hSw; (try dsimp only at hSw); go_split_ands; go_simp; first | done | with_reducible rfl)
          try simp only [Act.put, List.setIfInBounds_toArray, List.set_cons_zero, List.set_cons_succ]
          refine wpAnyH_take (i := 7) (oi := ⟨_, _, _, _, _, _⟩) (v := ?v27) rfl (by kernel_rfl) (by kernel_rfl) (by kernel_rfl) (fun _ _ _ h => h) (Or.inl ⟨by rfl, ?hy27⟩) hHeld ?rest27
          case hy27 => (intro w2 hSw; (try dsimp only at hSw); go_split_ands; go_simp; first | done | with_reducible rfl)
          try simp only [Act.put, List.setIfInBounds_toArray, List.set_cons_zero, List.set_cons_succ]
          refine wpAnyH_take (i := 8) (oi := ⟨_, _, _, _, _, _⟩) (v := ?v28) rfl (by kernel_rfl) (by kernel_rfl) (by kernel_rfl) (fun _ _ _ h => h) (Or.inl ⟨by rfl, ?hy28⟩) hHeld ?rest28
          case hy28 => (intro w2 hSw; (try dsimp only at hSw); go_split_ands; go_simp; first | done | with_reducible rfl)
          try simp only [Act.put, List.setIfInBounds_toArray, List.set_cons_zero, List.set_cons_succ]
          refine wpAnyH_take (i := 9) (oi := ⟨_, _, _, _, _, _⟩) (v := ?v29) rfl (by kernel_rfl) (by kernel_rfl) (by kernel_rfl) (fun _ _ _ h => h) (Or.inl ⟨by rfl, ?hy29⟩) hHeld ?rest29
          case hy29 => (intro w2 hSw; (try dsimp only at hSw); go_split_ands; go_simp; first | done | with_reducible rfl)
          try simp only [Act.put, List.setIfInBounds_toArray, List.set_cons_zero, List.set_cons_succ]
          refine wpAnyH_take (i := 10) (oi := ⟨_, _, _, _, _, _⟩) (v := ?v30) rfl (by kernel_rfl) (by kernel_rfl) (by kernel_rfl) (fun _ _ _ h => h) (Or.inl ⟨by rfl, ?hy30⟩) hHeld ?rest30
          case hy30 => (intro w2 hSw; (try dsimp only at hSw); go_split_ands; go_simp; first | done | with_reducible rfl)
          try simp only [Act.put, List.setIfInBounds_toArray, List.set_cons_zero, List.set_cons_succ]
          refine wpAnyH_take (i := 11) (oi := ⟨_, _, _, _, _, _⟩) (v := ?v31) rfl (by kernel_rfl) (by kernel_rfl) (by kernel_rfl) (fun _ _ _ h => h) (Or.inl ⟨by rfl, ?hy31⟩) hHeld ?rest31
          case hy31 => (intro w2 hSw; (try dsimp only at hSw); go_split_ands; go_simp; first | done | with_reducible rfl)
          try simp only [Act.put, List.setIfInBounds_toArray, List.set_cons_zero, List.set_cons_succ]
          refine wpAnyH_take (i := 12) (oi := ⟨_, _, _, _, _, _⟩) (v := ?v32) rfl (by kernel_rfl) (by kernel_rfl) (by kernel_rfl) (fun _ _ _ h => h) (Or.inl ⟨by rfl, ?hy32⟩) hHeld ?rest32
          case hy32 => (intro w2 hSw; (try dsimp only at hSw); go_split_ands; go_simp; first | done | with_reducible rfl)
          try simp only [Act.put, List.setIfInBounds_toArray, List.set_cons_zero, List.set_cons_succ]
          refine wpAnyH_take (i := 13) (oi := ⟨_, _, _, _, _, _⟩) (v := undef) rfl (by kernel_rfl) (by kernel_rfl) (by kernel_rfl) (fun _ _ _ h => h) (Or.inr ⟨by rfl, rfl⟩) hHeld ?_
          try simp only [Act.put, List.setIfInBounds_toArray, List.set_cons_zero, List.set_cons_succ]
          refine wpAnyH_take (i := 14) (oi := ⟨_, _, _, _, _, _⟩) (v := undef) rfl (by kernel_rfl) (by kernel_rfl) (by kernel_rfl) (fun _ _ _ h => h) (Or.inr ⟨by rfl, rfl⟩) hHeld ?_
          try simp only [Act.put, List.setIfInBounds_toArray, List.set_cons_zero, List.set_cons_succ]
          refine wpAnyH_take (i := 15) (oi := ⟨_, _, _, _, _, _⟩) (v := undef) rfl (by kernel_rfl) (by kernel_rfl) (by kernel_rfl) (fun _ _ _ h => h) (Or.inr ⟨by rfl, rfl⟩) hHeld ?_
          try simp only [Act.put, List.setIfInBounds_toArray, List.set_cons_zero, List.set_cons_succ]
          refine wpAnyH_take (i := 16) (oi := ⟨_, _, _, _, _, _⟩) (v := undef) rfl (by kernel_rfl) (by kernel_rfl) (by kernel_rfl) (fun _ _ _ h => h) (Or.inr ⟨by rfl, rfl⟩) hHeld ?_
          try simp only [Act.put, List.setIfInBounds_toArray, List.set_cons_zero, List.set_cons_succ]
          refine wpAnyH_take (i := 17) (oi := ⟨_, _, _, _, _, _⟩) (v := undef) rfl (by kernel_rfl) (by kernel_rfl) (by kernel_rfl) (fun _ _ _ h => h) (Or.inr ⟨by rfl, rfl⟩) hHeld ?_
          try simp only [Act.put, List.setIfInBounds_toArray, List.set_cons_zero, List.set_cons_succ]
          refine wpAnyH_take (i := 18) (oi := ⟨_, _, _, _, _, _⟩) (v := undef) rfl (by kernel_rfl) (by kernel_rfl) (by kernel_rfl) (fun _ _ _ h => h) (Or.inr ⟨by rfl, rfl⟩) hHeld ?_
          try simp only [Act.put, List.setIfInBounds_toArray, List.set_cons_zero, List.set_cons_succ]
          refine wpAnyH_take (i := 19) (oi := ⟨_, _, _, _, _, _⟩) (v := ?v33) rfl (by kernel_rfl) (by kernel_rfl) (by kernel_rfl) (fun _ _ _ h => h) (Or.inl ⟨by rfl, ?hy33⟩) hHeld ?rest33
          case hy33 => (intro w2 hSw; (try dsimp only at hSw); go_split_ands; go_simp; first | done | with_reducible rfl)
          try simp only [Act.put, List.setIfInBounds_toArray, List.set_cons_zero, List.set_cons_succ]
          refine wpAnyH_take (i := 20) (oi := ⟨_, _, _, _, _, _⟩) (v := ?v34) rfl (by kernel_rfl) (by kernel_rfl) (by kernel_rfl) (fun _ _ _ h => h) (Or.inl ⟨by rfl, ?hy34⟩) hHeld ?rest34
          case hy34 => (intro w2 hSw; (try dsimp only at hSw); go_split_ands; go_simp; first | done | with_reducible rfl)
          try simp only [Act.put, List.setIfInBounds_toArray, List.set_cons_zero, List.set_cons_succ]
          refine wpAnyH_done (by kernel_rfl) ?_ _
          refine NoPanic.normal ?_
          go_split_ands
          go_wp2
          go_meet
          case rel => exact ⟨by rw [← hbad.out]; simp [*], by assumption⟩
      · have hb1 : decide ((1 : Int) < R) = false := by simp; omega
        refine wp_region_noPanic ?_
        refine wp_region_held_drew (S := fun w' => w'.cell? ⟨Q, 0, none⟩ = some (.bool x1.many) ∧ w'.cell? ⟨Q, 1, none⟩ = some (.int .i64 x1.v.t) ∧ w'.cell? ⟨Q, 2, none⟩ = some (.int .i64 x1.v.n) ∧ w'.cell? ⟨Q, 3, none⟩ = some (.string x1.v.s) ∧ w'.cell? ⟨Q, 4, none⟩ = some (.bool x1.v.b) ∧ w'.cell? ⟨Q, 5, none⟩ = some (.int .i64 x1.v.c) ∧ w'.cell? ⟨Q, 6, none⟩ = some (.int .i64 x1.t) ∧ w'.cell? ⟨Q, 7, none⟩ = some (.int .i64 x1.l) ∧ w'.cell? ⟨Q, 8, none⟩ = some (.int .i64 x1.b) ∧ w'.cell? ⟨Q, 9, none⟩ = some (.int .i64 x1.r) ∧ w'.cell? ⟨Q, 10, none⟩ = some (.slice x1.A x1.es.length x1.cap) ∧ Below wa.heap.size wa w' ∧ wa.heap.size ≤ w'.heap.size) (by kernel_rfl) (by (try dsimp only); refine ⟨?_, ?_, ?_, ?_, ?_, ?_, ?_, ?_, ?_, ?_, ?_, ?_, ?_⟩ <;> first | assumption | exact Below.drew (Below.refl _ _) | exact Nat.le_refl _) (fun hHeld => ?_)
        generalize wa.drew = wz at *
        refine wpAnyH_take (i := 0) (oi := ⟨_, _, _, _, _, _⟩) (v := ?v35) rfl (by kernel_rfl) (by kernel_rfl) (by kernel_rfl) (fun _ _ _ h => h) (Or.inl ⟨by rfl, ?hy35⟩) hHeld ?rest35
        case hy35 => (intro w2 hSw; (try dsimp only at hSw); go_split_ands; go_simp; first | done | with_reducible rfl)
        try simp only [Act.put, List.setIfInBounds_toArray, List.set_cons_zero, List.set_cons_succ]
        refine wpAnyH_ready (rs := [1]) (by kernel_rfl) (by simp) ?_
        refine AllReadyH.cons (o := ⟨_, _, _, _, _, _⟩) rfl (fun K hK => ?_) AllReadyH.nil
        go_split_ands
        go_simp
        refine ((CR _).out).mono ?_
        rintro e w1 ⟨rfl, hb⟩
        refine hK.out _ _ ?_ (fun hHeld => ?_)
        · ((try dsimp only); refine ⟨?_, ?_, ?_, ?_, ?_, ?_, ?_, ?_, ?_, ?_, ?_, ?_, ?_⟩ <;> first | (rw [hb.cell (by dsimp only; omega)]; assumption) | exact Below.trans (by assumption) (hb.mono (by omega)) | (have := hb.size; omega))
        clear hK K hb
        try simp only [Act.put, List.setIfInBounds_toArray, List.set_cons_zero, List.set_cons_succ]
        refine wpAnyH_take (i := 2) (oi := ⟨_, _, _, _, _, _⟩) (v := ?v36) rfl (by kernel_rfl) (by kernel_rfl) (by kernel_rfl) (fun _ _ _ h => h) (Or.inl ⟨by rfl, ?hy36⟩) hHeld ?rest36
        case hy36 => (intro w2 hSw; (try dsimp only at hSw); go_split_ands; go_simp; first | done | with_reducible rfl)
        try simp only [Act.put, List.setIfInBounds_toArray, List.set_cons_zero, List.set_cons_succ]
        refine wpAnyH_take (i := 3) (oi := ⟨_, _, _, _, _, _⟩) (v := ?v37) rfl (by kernel_rfl) (by kernel_rfl) (by kernel_rfl) (fun _ _ _ h => h) (Or.inl ⟨by rfl, ?hy37⟩) hHeld ?rest37
        case hy37 => (intro w2 hSw; (try dsimp only at hSw); go_split_ands; go_simp; first | done | with_reducible rfl)
        try simp only [Act.put, List.setIfInBounds_toArray, List.set_cons_zero, List.set_cons_succ]
        refine wpAnyH_take (i := 4) (oi := ⟨_, _, _, _, _, _⟩) (v := undef) rfl (by kernel_rfl) (by kernel_rfl) (by kernel_rfl) (fun _ _ _ h => h) (Or.inr ⟨by rfl, rfl⟩) hHeld ?_
        try simp only [Act.put, List.setIfInBounds_toArray, List.set_cons_zero, List.set_cons_succ]
        refine wpAnyH_take (i := 5) (oi := ⟨_, _, _, _, _, _⟩) (v := undef) rfl (by kernel_rfl) (by kernel_rfl) (by kernel_rfl) (fun _ _ _ h => h) (Or.inr ⟨by rfl, rfl⟩) hHeld ?_
        try simp only [Act.put, List.setIfInBounds_toArray, List.set_cons_zero, List.set_cons_succ]
        refine wpAnyH_take (i := 6) (oi := ⟨_, _, _, _, _, _⟩) (v := undef) rfl (by kernel_rfl) (by kernel_rfl) (by kernel_rfl) (fun _ _ _ h => h) (Or.inr ⟨by rfl, rfl⟩) hHeld ?_
        try simp only [Act.put, List.setIfInBounds_toArray, List.set_cons_zero, List.set_cons_succ]
        refine wpAnyH_take (i := 7) (oi := ⟨_, _, _, _, _, _⟩) (v := ?v38) rfl (by kernel_rfl) (by kernel_rfl) (by kernel_rfl) (fun _ _ _ h => h) (Or.inl ⟨by rfl, ?hy38⟩) hHeld ?rest38
        case hy38 => (intro w2 hSw; (try dsimp only at hSw); go_split_ands; go_simp; first | done | with_reducible rfl)
        try simp only [Act.put, List.setIfInBounds_toArray, List.set_cons_zero, List.set_cons_succ]
        refine wpAnyH_take (i := 8) (oi := ⟨_, _, _, _, _, _⟩) (v := ?v39) rfl (by kernel_rfl) (by kernel_rfl) (by kernel_rfl) (fun _ _ _ h => h) (Or.inl ⟨by rfl, ?hy39⟩) hHeld ?rest39
        case hy39 => (intro w2 hSw; (try dsimp only at hSw); go_split_ands; go_simp; first | done | with_reducible rfl)
        try simp only [Act.put, List.setIfInBounds_toArray, List.set_cons_zero, List.set_cons_succ]
        refine wpAnyH_take (i := 9) (oi := ⟨_, _, _, _, _, _⟩) (v := ?v40) rfl (by kernel_rfl) (by kernel_rfl) (by kernel_rfl) (fun _ _ _ h => h) (Or.inl ⟨by rfl, ?hy40⟩) hHeld ?rest40
        case hy40 => (intro w2 hSw; (try dsimp only at hSw); go_split_ands; go_simp; first | done | with_reducible rfl)
        try simp only [Act.put, List.setIfInBounds_toArray, List.set_cons_zero, List.set_cons_succ]
        refine wpAnyH_take (i := 10) (oi := ⟨_, _, _, _, _, _⟩) (v := ?v41) rfl (by kernel_rfl) (by kernel_rfl) (by kernel_rfl) (fun _ _ _ h => h) (Or.inl ⟨by rfl, ?hy41⟩) hHeld ?rest41
        case hy41 => (intro w2 hSw; (try dsimp only at hSw); go_split_ands; go_simp; first | done | with_reducible rfl)
        try simp only [Act.put, List.setIfInBounds_toArray, List.set_cons_zero, List.set_cons_succ]
        refine wpAnyH_take (i := 11) (oi := ⟨_, _, _, _, _, _⟩) (v := ?v42) rfl (by kernel_rfl) (by kernel_rfl) (by kernel_rfl) (fun _ _ _ h => h) (Or.inl ⟨by rfl, ?hy42⟩) hHeld ?rest42
        case hy42 => (intro w2 hSw; (try dsimp only at hSw); go_split_ands; go_simp; first | done | with_reducible rfl)
        try simp only [Act.put, List.setIfInBounds_toArray, List.set_cons_zero, List.set_cons_succ]
        refine wpAnyH_take (i := 12) (oi := ⟨_, _, _, _, _, _⟩) (v := ?v43) rfl (by kernel_rfl) (by kernel_rfl) (by kernel_rfl) (fun _ _ _ h => h) (Or.inl ⟨by rfl, ?hy43⟩) hHeld ?rest43
        case hy43 => (intro w2 hSw; (try dsimp only at hSw); go_split_ands; go_simp; first | done | with_reducible rfl)
        try simp only [Act.put, List.setIfInBounds_toArray, List.set_cons_zero, List.set_cons_succ]
        refine wpAnyH_take (i := 13) (oi := ⟨_, _, _, _, _, _⟩) (v := undef) rfl (by kernel_rfl) (by kernel_rfl) (by kernel_rfl) (fun _ _ _ h => h) (Or.inr ⟨by rfl, rfl⟩) hHeld ?_
        try simp only [Act.put, List.setIfInBounds_toArray, List.set_cons_zero, List.set_cons_succ]
        refine wpAnyH_take (i := 14) (oi := ⟨_, _, _, _, _, _⟩) (v := undef) rfl (by kernel_rfl) (by kernel_rfl) (by kernel_rfl) (fun _ _ _ h => h) (Or.inr ⟨by rfl, rfl⟩) hHeld ?_
        try simp only [Act.put, List.setIfInBounds_toArray, List.set_cons_zero, List.set_cons_succ]
        refine wpAnyH_take (i := 15) (oi := ⟨_, _, _, _, _, _⟩) (v := undef) rfl (by kernel_rfl) (by kernel_rfl) (by kernel_rfl) (fun _ _ _ h => h) (Or.inr ⟨by rfl, rfl⟩) hHeld ?_
        try simp only [Act.put, List.setIfInBounds_toArray, List.set_cons_zero, List.set_cons_succ]
        refine wpAnyH_take (i := 16) (oi := ⟨_, _, _, _, _, _⟩) (v := undef) rfl (by kernel_rfl) (by kernel_rfl) (by kernel_rfl) (fun _ _ _ h => h) (Or.inr ⟨by rfl, rfl⟩) hHeld ?_
        try simp only [Act.put, List.setIfInBounds_toArray, List.set_cons_zero, List.set_cons_succ]
        refine wpAnyH_take (i := 17) (oi := ⟨_, _, _, _, _, _⟩) (v := undef) rfl (by kernel_rfl) (by kernel_rfl) (by kernel_rfl) (fun _ _ _ h => h) (Or.inr ⟨by rfl, rfl⟩) hHeld ?_
        try simp only [Act.put, List.setIfInBounds_toArray, List.set_cons_zero, List.set_cons_succ]
        refine wpAnyH_take (i := 18) (oi := ⟨_, _, _, _, _, _⟩) (v := undef) rfl (by kernel_rfl) (by kernel_rfl) (by kernel_rfl) (fun _ _ _ h => h) (Or.inr ⟨by rfl, rfl⟩) hHeld ?_
        try simp only [Act.put, List.setIfInBounds_toArray, List.set_cons_zero, List.set_cons_succ]
        refine wpAnyH_take (i := 19) (oi := ⟨_, _, _, _, _, _⟩) (v := ?v44) rfl (by kernel_rfl) (by kernel_rfl) (by kernel_rfl) (fun _ _ _ h => h) (Or.inl ⟨by rfl, ?hy44⟩) hHeld ?rest44
        case hy44 => (intro w2 hSw; (try dsimp only at hSw); go_split_ands; go_simp; first | done | with_reducible rfl)
        try simp only [Act.put, List.setIfInBounds_toArray, List.set_cons_zero, List.set_cons_succ]
        refine wpAnyH_take (i := 20) (oi := ⟨_, _, _, _, _, _⟩) (v := ?v45) rfl (by kernel_rfl) (by kernel_rfl) (by kernel_rfl) (fun _ _ _ h => h) (Or.inl ⟨by rfl, ?hy45⟩) hHeld ?rest45
        case hy45 => (intro w2 hSw; (try dsimp only at hSw); go_split_ands; go_simp; first | done | with_reducible rfl)
        try simp only [Act.put, List.setIfInBounds_toArray, List.set_cons_zero, List.set_cons_succ]
        refine wpAnyH_done (by kernel_rfl) ?_ _
        refine NoPanic.normal ?_
        go_split_ands
        go_wp2
        go_meet
        case rel => exact ⟨by rw [← hbad.out]; simp [*], by assumption⟩
    case rest =>
      obtain ⟨wd, rfl⟩ : ∃ wd, wd = wc := ⟨_, rfl⟩
      obtain ⟨rfl, hbd⟩ := hcut
      have hq1 : Below w.heap.size w wd := hq0.trans (hbd.mono hq0.size)
      have hbw : Below (w.heap.size + 1) (w.alloc (.cells #[.int .i64 0, .int .i64 0, .string ⟨#[]⟩, .bool false, .int .i64 0] 26)) wd := hbc.trans (hbd.mono (by omega))
      have dq0 : wd.cell? ⟨Q, 0, none⟩ = some (.bool x1.many) := (hbd.cell (p := ⟨Q, 0, none⟩) hQl).trans cq0
      have dq1 : wd.cell? ⟨Q, 1, none⟩ = some (.int .i64 x1.v.t) := (hbd.cell (p := ⟨Q, 1, none⟩) hQl).trans cq1
      have dq2 : wd.cell? ⟨Q, 2, none⟩ = some (.int .i64 x1.v.n) := (hbd.cell (p := ⟨Q, 2, none⟩) hQl).trans cq2
      have dq3 : wd.cell? ⟨Q, 3, none⟩ = some (.string x1.v.s) := (hbd.cell (p := ⟨Q, 3, none⟩) hQl).trans cq3
      have dq4 : wd.cell? ⟨Q, 4, none⟩ = some (.bool x1.v.b) := (hbd.cell (p := ⟨Q, 4, none⟩) hQl).trans cq4
      have dq5 : wd.cell? ⟨Q, 5, none⟩ = some (.int .i64 x1.v.c) := (hbd.cell (p := ⟨Q, 5, none⟩) hQl).trans cq5
      have dq6 : wd.cell? ⟨Q, 6, none⟩ = some (.int .i64 x1.t) := (hbd.cell (p := ⟨Q, 6, none⟩) hQl).trans cq6
      have dq7 : wd.cell? ⟨Q, 7, none⟩ = some (.int .i64 x1.l) := (hbd.cell (p := ⟨Q, 7, none⟩) hQl).trans cq7
      have dq8 : wd.cell? ⟨Q, 8, none⟩ = some (.int .i64 x1.b) := (hbd.cell (p := ⟨Q, 8, none⟩) hQl).trans cq8
      have dq9 : wd.cell? ⟨Q, 9, none⟩ = some (.int .i64 x1.r) := (hbd.cell (p := ⟨Q, 9, none⟩) hQl).trans cq9
      have dq10 : wd.cell? ⟨Q, 10, none⟩ = some (.slice x1.A x1.es.length x1.cap) := (hbd.cell (p := ⟨Q, 10, none⟩) hQl).trans cq10
      have dv0 : wd.cell? ⟨P, 0, none⟩ = some (.int .i64 x0.v.t) := (hbd.cell (p := ⟨P, 0, none⟩) hPl).trans (blk_cell hpP 0)
      have dv1 : wd.cell? ⟨P, 1, none⟩ = some (.int .i64 x0.v.n) := (hbd.cell (p := ⟨P, 1, none⟩) hPl).trans (blk_cell hpP 1)
      have dv2 : wd.cell? ⟨P, 2, none⟩ = some (.string x0.v.s) := (hbd.cell (p := ⟨P, 2, none⟩) hPl).trans (blk_cell hpP 2)
      have dv3 : wd.cell? ⟨P, 3, none⟩ = some (.bool x0.v.b) := (hbd.cell (p := ⟨P, 3, none⟩) hPl).trans (blk_cell hpP 3)
      have dv4 : wd.cell? ⟨P, 4, none⟩ = some (.int .i64 x0.v.c) := (hbd.cell (p := ⟨P, 4, none⟩) hPl).trans (blk_cell hpP 4)
      have hQd : Q < wd.heap.size := Nat.lt_of_lt_of_le hQl hbd.size
      have hPd : P < wd.heap.size := Nat.lt_of_lt_of_le hPl hbd.size
      have habd : ab < wd.heap.size := Nat.lt_of_lt_of_le habc hbd.size
      have hwd : w.heap.size < wd.heap.size := by omega
      clear hbd hpP hpQ cq0 cq1 cq2 cq3 cq4 cq5 cq6 cq7 cq8 cq9 cq10 hbc hq0
      cases bad
      · have hre : Hid (lookR2 x0.v x1 = rs) := hres'
        go_wp2_with fail
        refine (CH _ hq1).out.mono ?_
        clear CH
        rintro e we ⟨⟨b, rfl, hbl, hown⟩, hbe⟩
        have eq0 : we.cell? ⟨Q, 0, none⟩ = some (.bool x1.many) := (hbe.cell (p := ⟨Q, 0, none⟩) hQd).trans dq0
        have eq1 : we.cell? ⟨Q, 1, none⟩ = some (.int .i64 x1.v.t) := (hbe.cell (p := ⟨Q, 1, none⟩) hQd).trans dq1
        have eq2 : we.cell? ⟨Q, 2, none⟩ = some (.int .i64 x1.v.n) := (hbe.cell (p := ⟨Q, 2, none⟩) hQd).trans dq2
        have eq3 : we.cell? ⟨Q, 3, none⟩ = some (.string x1.v.s) := (hbe.cell (p := ⟨Q, 3, none⟩) hQd).trans dq3
        have eq4 : we.cell? ⟨Q, 4, none⟩ = some (.bool x1.v.b) := (hbe.cell (p := ⟨Q, 4, none⟩) hQd).trans dq4
        have eq5 : we.cell? ⟨Q, 5, none⟩ = some (.int .i64 x1.v.c) := (hbe.cell (p := ⟨Q, 5, none⟩) hQd).trans dq5
        have eq6 : we.cell? ⟨Q, 6, none⟩ = some (.int .i64 x1.t) := (hbe.cell (p := ⟨Q, 6, none⟩) hQd).trans dq6
        have eq7 : we.cell? ⟨Q, 7, none⟩ = some (.int .i64 x1.l) := (hbe.cell (p := ⟨Q, 7, none⟩) hQd).trans dq7
        have eq8 : we.cell? ⟨Q, 8, none⟩ = some (.int .i64 x1.b) := (hbe.cell (p := ⟨Q, 8, none⟩) hQd).trans dq8
        have eq9 : we.cell? ⟨Q, 9, none⟩ = some (.int .i64 x1.r) := (hbe.cell (p := ⟨Q, 9, none⟩) hQd).trans dq9
        have eq10 : we.cell? ⟨Q, 10, none⟩ = some (.slice x1.A x1.es.length x1.cap) := (hbe.cell (p := ⟨Q, 10, none⟩) hQd).trans dq10
        have ev0 : we.cell? ⟨P, 0, none⟩ = some (.int .i64 x0.v.t) := (hbe.cell (p := ⟨P, 0, none⟩) hPd).trans dv0
        have ev1 : we.cell? ⟨P, 1, none⟩ = some (.int .i64 x0.v.n) := (hbe.cell (p := ⟨P, 1, none⟩) hPd).trans dv1
        have ev2 : we.cell? ⟨P, 2, none⟩ = some (.string x0.v.s) := (hbe.cell (p := ⟨P, 2, none⟩) hPd).trans dv2
        have ev3 : we.cell? ⟨P, 3, none⟩ = some (.bool x0.v.b) := (hbe.cell (p := ⟨P, 3, none⟩) hPd).trans dv3
        have ev4 : we.cell? ⟨P, 4, none⟩ = some (.int .i64 x0.v.c) := (hbe.cell (p := ⟨P, 4, none⟩) hPd).trans dv4
        have hQe : Q < we.heap.size := Nat.lt_of_lt_of_le hQd hbe.size
        have hPe : P < we.heap.size := Nat.lt_of_lt_of_le hPd hbe.size
        have habe : ab < we.heap.size := Nat.lt_of_lt_of_le habd hbe.size
        have hwe : w.heap.size < we.heap.size := Nat.lt_of_lt_of_le hwd hbe.size
        have hbx : Below (w.heap.size + 1) (w.alloc (.cells #[.int .i64 0, .int .i64 0, .string ⟨#[]⟩, .bool false, .int .i64 0] 26)) we := hbw.trans (hbe.mono (by omega))
        have hq2 : Below w.heap.size w we := hq1.trans (hbe.mono hq1.size)
        have hown' := Lib.hid hown
        have hbe' := Lib.hid hbe
        clear hbe hown hbw hq1 hbl dq0 dq1 dq2 dq3 dq4 dq5 dq6 dq7 dq8 dq9 dq10 dv0 dv1 dv2 dv3 dv4
        go_upto_region 5 with (fail)
        refine wp_region_noPanic ?_
        refine wp_region_held_drew (S := fun w' => w'.cell? ⟨Q, 0, none⟩ = some (.bool x1.many) ∧ w'.cell? ⟨Q, 1, none⟩ = some (.int .i64 x1.v.t) ∧ w'.cell? ⟨Q, 2, none⟩ = some (.int .i64 x1.v.n) ∧ w'.cell? ⟨Q, 3, none⟩ = some (.string x1.v.s) ∧ w'.cell? ⟨Q, 4, none⟩ = some (.bool x1.v.b) ∧ w'.cell? ⟨Q, 5, none⟩ = some (.int .i64 x1.v.c) ∧ w'.cell? ⟨Q, 6, none⟩ = some (.int .i64 x1.t) ∧ w'.cell? ⟨Q, 7, none⟩ = some (.int .i64 x1.l) ∧ w'.cell? ⟨Q, 8, none⟩ = some (.int .i64 x1.b) ∧ w'.cell? ⟨Q, 9, none⟩ = some (.int .i64 x1.r) ∧ w'.cell? ⟨Q, 10, none⟩ = some (.slice x1.A x1.es.length x1.cap) ∧ Below we.heap.size we w' ∧ we.heap.size ≤ w'.heap.size) (by kernel_rfl) (by (try dsimp only); refine ⟨?_, ?_, ?_, ?_, ?_, ?_, ?_, ?_, ?_, ?_, ?_, ?_, ?_⟩ <;> first | assumption | exact Below.drew (Below.refl _ _) | exact Nat.le_refl _) (fun hHeld => ?_)
        generalize we.drew = wz at *
        refine wpAnyH_take (i := 0) (oi := ⟨_, _, _, _, _, _⟩) (v := ?v46) rfl (by kernel_rfl) (by kernel_rfl) (by kernel_rfl) (fun _ _ _ h => h) (Or.inl ⟨by rfl, ?hy46⟩) hHeld ?rest46
        case hy46 => (intro w2 hSw; (try dsimp only at hSw); go_split_ands; go_simp; first | done | with_reducible rfl)
        try simp only [Act.put, List.setIfInBounds_toArray, List.set_cons_zero, List.set_cons_succ]
        refine wpAnyH_take (i := 2) (oi := ⟨_, _, _, _, _, _⟩) (v := ?v47) rfl (by kernel_rfl) (by kernel_rfl) (by kernel_rfl) (fun _ _ _ h => h) (Or.inl ⟨by rfl, ?hy47⟩) hHeld ?rest47
        case hy47 => (intro w2 hSw; (try dsimp only at hSw); go_split_ands; go_simp; first | done | with_reducible rfl)
        try simp only [Act.put, List.setIfInBounds_toArray, List.set_cons_zero, List.set_cons_succ]
        refine wpAnyH_take (i := 5) (oi := ⟨_, _, _, _, _, _⟩) (v := ?v48) rfl (by kernel_rfl) (by kernel_rfl) (by kernel_rfl) (fun _ _ _ h => h) (Or.inl ⟨by rfl, ?hy48⟩) hHeld ?rest48
        case hy48 => (intro w2 hSw; (try dsimp only at hSw); go_split_ands; go_simp; first | done | with_reducible rfl)
        try simp only [Act.put, List.setIfInBounds_toArray, List.set_cons_zero, List.set_cons_succ]
        refine wpAnyH_ready (rs := [1]) (by kernel_rfl) (by simp) ?_
        refine AllReadyH.cons (o := ⟨_, _, _, _, _, _⟩) rfl (fun K hK => ?_) AllReadyH.nil
        go_split_ands
        go_simp
        refine ((CR _).out).mono ?_
        rintro e w1 ⟨rfl, hb⟩
        refine hK.out _ _ ?_ (fun hHeld => ?_)
        · ((try dsimp only); refine ⟨?_, ?_, ?_, ?_, ?_, ?_, ?_, ?_, ?_, ?_, ?_, ?_, ?_⟩ <;> first | (rw [hb.cell (by dsimp only; omega)]; assumption) | exact Below.trans (by assumption) (hb.mono (by omega)) | (have := hb.size; omega))
        clear hK K hb
        try simp only [Act.put, List.setIfInBounds_toArray, List.set_cons_zero, List.set_cons_succ]
        refine wpAnyH_ready (rs := [3]) (by kernel_rfl) (by simp) ?_
        refine AllReadyH.cons (o := ⟨_, _, _, _, _, _⟩) rfl (fun K hK => ?_) AllReadyH.nil
        go_split_ands
        go_simp
        refine ((CC _).out).mono ?_
        rintro e w1 ⟨rfl, hb⟩
        refine hK.out _ _ ?_ (fun hHeld => ?_)
        · ((try dsimp only); refine ⟨?_, ?_, ?_, ?_, ?_, ?_, ?_, ?_, ?_, ?_, ?_, ?_, ?_⟩ <;> first | (rw [hb.cell (by dsimp only; omega)]; assumption) | exact Below.trans (by assumption) (hb.mono (by omega)) | (have := hb.size; omega))
        clear hK K hb
        try simp only [Act.put, List.setIfInBounds_toArray, List.set_cons_zero, List.set_cons_succ]
        refine wpAnyH_take (i := 4) (oi := ⟨_, _, _, _, _, _⟩) (v := ?v49) rfl (by kernel_rfl) (by kernel_rfl) (by kernel_rfl) (fun _ _ _ h => h) (Or.inl ⟨by rfl, ?hy49⟩) hHeld ?rest49
        case hy49 => (intro w2 hSw; (try dsimp only at hSw); go_split_ands; go_simp; first | done | with_reducible rfl)
        try simp only [Act.put, List.setIfInBounds_toArray, List.set_cons_zero, List.set_cons_succ]
        refine wpAnyH_done (by kernel_rfl) ?_ _
        refine NoPanic.normal ?_
        go_split_ands
        have hbf : Below we.heap.size we w1 := by assumption
        obtain ⟨wf, rfl⟩ : ∃ wf, wf = w1 := ⟨_, rfl⟩
        have fq0 : wf.cell? ⟨Q, 0, none⟩ = some (.bool x1.many) := (hbf.cell (p := ⟨Q, 0, none⟩) hQe).trans eq0
        have fq1 : wf.cell? ⟨Q, 1, none⟩ = some (.int .i64 x1.v.t) := (hbf.cell (p := ⟨Q, 1, none⟩) hQe).trans eq1
        have fq2 : wf.cell? ⟨Q, 2, none⟩ = some (.int .i64 x1.v.n) := (hbf.cell (p := ⟨Q, 2, none⟩) hQe).trans eq2
        have fq3 : wf.cell? ⟨Q, 3, none⟩ = some (.string x1.v.s) := (hbf.cell (p := ⟨Q, 3, none⟩) hQe).trans eq3
        have fq4 : wf.cell? ⟨Q, 4, none⟩ = some (.bool x1.v.b) := (hbf.cell (p := ⟨Q, 4, none⟩) hQe).trans eq4
        have fq5 : wf.cell? ⟨Q, 5, none⟩ = some (.int .i64 x1.v.c) := (hbf.cell (p := ⟨Q, 5, none⟩) hQe).trans eq5
        have fq6 : wf.cell? ⟨Q, 6, none⟩ = some (.int .i64 x1.t) := (hbf.cell (p := ⟨Q, 6, none⟩) hQe).trans eq6
        have fq7 : wf.cell? ⟨Q, 7, none⟩ = some (.int .i64 x1.l) := (hbf.cell (p := ⟨Q, 7, none⟩) hQe).trans eq7
        have fq8 : wf.cell? ⟨Q, 8, none⟩ = some (.int .i64 x1.b) := (hbf.cell (p := ⟨Q, 8, none⟩) hQe).trans eq8
        have fq9 : wf.cell? ⟨Q, 9, none⟩ = some (.int .i64 x1.r) := (hbf.cell (p := ⟨Q, 9, none⟩) hQe).trans eq9
        have fq10 : wf.cell? ⟨Q, 10, none⟩ = some (.slice x1.A x1.es.length x1.cap) := (hbf.cell (p := ⟨Q, 10, none⟩) hQe).trans eq10
        have fv0 : wf.cell? ⟨P, 0, none⟩ = some (.int .i64 x0.v.t) := (hbf.cell (p := ⟨P, 0, none⟩) hPe).trans ev0
        have fv1 : wf.cell? ⟨P, 1, none⟩ = some (.int .i64 x0.v.n) := (hbf.cell (p := ⟨P, 1, none⟩) hPe).trans ev1
        have fv2 : wf.cell? ⟨P, 2, none⟩ = some (.string x0.v.s) := (hbf.cell (p := ⟨P, 2, none⟩) hPe).trans ev2
        have fv3 : wf.cell? ⟨P, 3, none⟩ = some (.bool x0.v.b) := (hbf.cell (p := ⟨P, 3, none⟩) hPe).trans ev3
        have fv4 : wf.cell? ⟨P, 4, none⟩ = some (.int .i64 x0.v.c) := (hbf.cell (p := ⟨P, 4, none⟩) hPe).trans ev4
        have hzf : we.heap.size ≤ wf.heap.size := hbf.size
        have hbL : b < we.heap.size := hown'.out.lt
        have hownf := Lib.hid (hown'.out.below hbf)
        have hbg : Below (w.heap.size + 1) (w.alloc (.cells #[.int .i64 0, .int .i64 0, .string ⟨#[]⟩, .bool false, .int .i64 0] 26)) wf := hbx.trans (hbf.mono (by omega))
        have hq3 : Below w.heap.size w wf := hq2.trans (hbf.mono (by omega))
        have hQf : Q < wf.heap.size := by omega
        have hPf : P < wf.heap.size := by omega
        have hbf2 : b < wf.heap.size := by omega
        have hwf : w.heap.size < wf.heap.size := by omega
        have habf : ab < wf.heap.size := by omega
        have hC0 : ¬ C = 0 := by omega
        clear hbf hown' hbe' hbx hq2 eq0 eq1 eq2 eq3 eq4 eq5 eq6 eq7 eq8 eq9 eq10 ev0 ev1 ev2 ev3 ev4
        go_wp2
        go_loopw [46] (fun i wr => ∃ k : Nat, k ≤ N ∧ i = .int .i64 (k : Int) ∧ Hid (∀ j : Nat, j < k → (lookP (heldL x1) (nthL x1 j)).eqv x0.v = false) ∧ Below wf.heap.size wf wr) (fun i _ => N - (intOf i).toNat)
        case atStart => exact ⟨0, Nat.zero_le _, rfl, Lib.hid (fun j hj => absurd hj (Nat.not_lt_zero _)), Below.refl _ _⟩
        case round =>
          obtain ⟨k, hk, rfl, hno, hbr⟩ := hrel
          have gq0 : wr.cell? ⟨Q, 0, none⟩ = some (.bool x1.many) := (hbr.cell (p := ⟨Q, 0, none⟩) hQf).trans fq0
          have gq1 : wr.cell? ⟨Q, 1, none⟩ = some (.int .i64 x1.v.t) := (hbr.cell (p := ⟨Q, 1, none⟩) hQf).trans fq1
          have gq2 : wr.cell? ⟨Q, 2, none⟩ = some (.int .i64 x1.v.n) := (hbr.cell (p := ⟨Q, 2, none⟩) hQf).trans fq2
          have gq3 : wr.cell? ⟨Q, 3, none⟩ = some (.string x1.v.s) := (hbr.cell (p := ⟨Q, 3, none⟩) hQf).trans fq3
          have gq4 : wr.cell? ⟨Q, 4, none⟩ = some (.bool x1.v.b) := (hbr.cell (p := ⟨Q, 4, none⟩) hQf).trans fq4
          have gq5 : wr.cell? ⟨Q, 5, none⟩ = some (.int .i64 x1.v.c) := (hbr.cell (p := ⟨Q, 5, none⟩) hQf).trans fq5
          have gq6 : wr.cell? ⟨Q, 6, none⟩ = some (.int .i64 x1.t) := (hbr.cell (p := ⟨Q, 6, none⟩) hQf).trans fq6
          have gq7 : wr.cell? ⟨Q, 7, none⟩ = some (.int .i64 x1.l) := (hbr.cell (p := ⟨Q, 7, none⟩) hQf).trans fq7
          have gq8 : wr.cell? ⟨Q, 8, none⟩ = some (.int .i64 x1.b) := (hbr.cell (p := ⟨Q, 8, none⟩) hQf).trans fq8
          have gq9 : wr.cell? ⟨Q, 9, none⟩ = some (.int .i64 x1.r) := (hbr.cell (p := ⟨Q, 9, none⟩) hQf).trans fq9
          have gq10 : wr.cell? ⟨Q, 10, none⟩ = some (.slice x1.A x1.es.length x1.cap) := (hbr.cell (p := ⟨Q, 10, none⟩) hQf).trans fq10
          have gv0 : wr.cell? ⟨P, 0, none⟩ = some (.int .i64 x0.v.t) := (hbr.cell (p := ⟨P, 0, none⟩) hPf).trans fv0
          have gv1 : wr.cell? ⟨P, 1, none⟩ = some (.int .i64 x0.v.n) := (hbr.cell (p := ⟨P, 1, none⟩) hPf).trans fv1
          have gv2 : wr.cell? ⟨P, 2, none⟩ = some (.string x0.v.s) := (hbr.cell (p := ⟨P, 2, none⟩) hPf).trans fv2
          have gv3 : wr.cell? ⟨P, 3, none⟩ = some (.bool x0.v.b) := (hbr.cell (p := ⟨P, 3, none⟩) hPf).trans fv3
          have gv4 : wr.cell? ⟨P, 4, none⟩ = some (.int .i64 x0.v.c) := (hbr.cell (p := ⟨P, 4, none⟩) hPf).trans fv4
          have hzr : wf.heap.size ≤ wr.heap.size := hbr.size
          have hownr := Lib.hid (hownf.out.below hbr)
          have hbh : Below (w.heap.size + 1) (w.alloc (.cells #[.int .i64 0, .int .i64 0, .string ⟨#[]⟩, .bool false, .int .i64 0] 26)) wr := hbg.trans (hbr.mono (by omega))
          have hq4 : Below w.heap.size w wr := hq3.trans (hbr.mono (by omega))
          have hQr : Q < wr.heap.size := by omega
          have hPr : P < wr.heap.size := by omega
          have hbr2 : b < wr.heap.size := by omega
          have hwr : w.heap.size < wr.heap.size := by omega
          have habr : ab < wr.heap.size := by omega
          clear hownf hbg hq3 fq0 fq1 fq2 fq3 fq4 fq5 fq6 fq7 fq8 fq9 fq10 fv0 fv1 fv2 fv3 fv4
          have hbr' := Lib.hid hbr
          clear hbr
          by_cases hlt : k < N
          · have hkl : (k : Int) < (N : Int) := by omega
            obtain ⟨u, hu⟩ : ∃ u, (k : Int) / C = u := ⟨_, rfl⟩
            obtain ⟨v, hv⟩ : ∃ v, (k : Int) % C = v := ⟨_, rfl⟩
            have hub : 0 ≤ u ∧ u ≤ 17179869184 := by have h1 : 0 ≤ (k : Int) / C := Int.ediv_nonneg (by omega) (by omega); have h2 : (k : Int) / C ≤ k := Int.ediv_le_self _ (by omega); omega
            have hvb : 0 ≤ v ∧ v < C := by have h1 := Int.emod_nonneg (k : Int) (b := C) (by omega); have h2 := Int.emod_lt_of_pos (k : Int) (b := C) (by omega); omega
            have hqu : (k : Int).tdiv C = u := by rw [Int.tdiv_eq_ediv_of_nonneg (by omega)]; exact hu
            have hre_ : (k : Int).tmod C = v := by rw [Int.tmod_eq_emod_of_nonneg (by omega)]; exact hv
            have hwu : IntKind.i64.wrap u = u := IntWalk.i64_in _ (by omega)
            have hwv : IntKind.i64.wrap v = v := IntWalk.i64_in _ (by omega)
            have hnth : Hid (nthL x1 k = (u, v)) := Lib.hid (by unfold nthL; rw [hCc'.out, hu, hv])
            clear hu hv
            go_upto_region 8 with (fail)
            go_cut [9, 46] from 46 to 75 (fun a i wc => ∃ T, a = .pointer (some ⟨T, 0, none⟩) ∧ i = .int .i64 (k : Int) ∧ wr.heap.size ≤ T ∧ wc.heap[T]? = some (.cells #[.int .i64 u, .int .i64 v] 196 (0, 0)) ∧ Below wr.heap.size wr wc)
            case first =>
              refine wp_region_noPanic ?_
              refine wp_region_held_drew (S := fun w' => w'.cell? ⟨Q, 0, none⟩ = some (.bool x1.many) ∧ w'.cell? ⟨Q, 1, none⟩ = some (.int .i64 x1.v.t) ∧ w'.cell? ⟨Q, 2, none⟩ = some (.int .i64 x1.v.n) ∧ w'.cell? ⟨Q, 3, none⟩ = some (.string x1.v.s) ∧ w'.cell? ⟨Q, 4, none⟩ = some (.bool x1.v.b) ∧ w'.cell? ⟨Q, 5, none⟩ = some (.int .i64 x1.v.c) ∧ w'.cell? ⟨Q, 6, none⟩ = some (.int .i64 x1.t) ∧ w'.cell? ⟨Q, 7, none⟩ = some (.int .i64 x1.l) ∧ w'.cell? ⟨Q, 8, none⟩ = some (.int .i64 x1.b) ∧ w'.cell? ⟨Q, 9, none⟩ = some (.int .i64 x1.r) ∧ w'.cell? ⟨Q, 10, none⟩ = some (.slice x1.A x1.es.length x1.cap) ∧ Below wr.heap.size wr w' ∧ wr.heap.size ≤ w'.heap.size) (by kernel_rfl) (by (try dsimp only); refine ⟨?_, ?_, ?_, ?_, ?_, ?_, ?_, ?_, ?_, ?_, ?_, ?_, ?_⟩ <;> first | assumption | exact Below.drew (Below.refl _ _) | exact Nat.le_refl _) (fun hHeld => ?_)
              generalize wr.drew = wz at *
              refine wpAnyH_take (i := 0) (oi := ⟨_, _, _, _, _, _⟩) (v := ?v50) rfl (by kernel_rfl) (by kernel_rfl) (by kernel_rfl) (fun _ _ _ h => h) (Or.inl ⟨by rfl, ?hy50⟩) hHeld ?rest50
              case hy50 => (intro w2 hSw; (try dsimp only at hSw); go_split_ands; go_simp; first | done | with_reducible rfl)
              try simp only [Act.put, List.setIfInBounds_toArray, List.set_cons_zero, List.set_cons_succ]
              refine wpAnyH_take (i := 1) (oi := ⟨_, _, _, _, _, _⟩) (v := ?v51) rfl (by kernel_rfl) (by kernel_rfl) (by kernel_rfl) (fun _ _ _ h => h) (Or.inl ⟨by rfl, ?hy51⟩) hHeld ?rest51
              case hy51 => (intro w2 hSw; (try dsimp only at hSw); go_split_ands; go_simp; first | done | with_reducible rfl)
              try simp only [Act.put, List.setIfInBounds_toArray, List.set_cons_zero, List.set_cons_succ]
              refine wpAnyH_take (i := 4) (oi := ⟨_, _, _, _, _, _⟩) (v := ?v52) rfl (by kernel_rfl) (by kernel_rfl) (by kernel_rfl) (fun _ _ _ h => h) (Or.inl ⟨by rfl, ?hy52⟩) hHeld ?rest52
              case hy52 => (intro w2 hSw; (try dsimp only at hSw); go_split_ands; go_simp; first | done | with_reducible rfl)
              try simp only [Act.put, List.setIfInBounds_toArray, List.set_cons_zero, List.set_cons_succ]
              refine wpAnyH_take (i := 5) (oi := ⟨_, _, _, _, _, _⟩) (v := ?v53) rfl (by kernel_rfl) (by kernel_rfl) (by kernel_rfl) (fun _ _ _ h => h) (Or.inl ⟨by rfl, ?hy53⟩) hHeld ?rest53
              case hy53 => (intro w2 hSw; (try dsimp only at hSw); go_split_ands; go_simp; first | done | with_reducible rfl)
              try simp only [Act.put, List.setIfInBounds_toArray, List.set_cons_zero, List.set_cons_succ]
              refine wpAnyH_ready (rs := [2, 9]) (by kernel_rfl) (by simp) ?_
              refine AllReadyH.cons (o := ⟨_, _, _, _, _, _⟩) rfl (fun K hK => ?_) (AllReadyH.cons (o := ⟨_, _, _, _, _, _⟩) rfl (fun K hK => ?_) AllReadyH.nil)
              · go_split_ands
                go_simp
                refine ((CC _).out).mono ?_
                rintro e w1 ⟨rfl, hb⟩
                refine hK.out _ _ ?_ (fun hHeld => ?_)
                · ((try dsimp only); refine ⟨?_, ?_, ?_, ?_, ?_, ?_, ?_, ?_, ?_, ?_, ?_, ?_, ?_⟩ <;> first | (rw [hb.cell (by dsimp only; omega)]; assumption) | exact Below.trans (by assumption) (hb.mono (by omega)) | (have := hb.size; omega))
                clear hK K hb
                try simp only [Act.put, List.setIfInBounds_toArray, List.set_cons_zero, List.set_cons_succ]
                refine wpAnyH_take (i := 3) (oi := ⟨_, _, _, _, _, _⟩) (v := ?v64) rfl (by kernel_rfl) (by kernel_rfl) (by kernel_rfl) (fun _ _ _ h => h) (Or.inl ⟨by rfl, ?hy64⟩) hHeld ?rest64
                case hy64 => (intro w2 hSw; (try dsimp only at hSw); go_split_ands; go_simp; first | done | with_reducible rfl)
                try simp only [Act.put, List.setIfInBounds_toArray, List.set_cons_zero, List.set_cons_succ]
                refine wpAnyH_ready (rs := [6, 9]) (by kernel_rfl) (by simp) ?_
                refine AllReadyH.cons (o := ⟨_, _, _, _, _, _⟩) rfl (fun K hK => ?_) (AllReadyH.cons (o := ⟨_, _, _, _, _, _⟩) rfl (fun K hK => ?_) AllReadyH.nil)
                · go_split_ands
                  go_simp
                  refine ((CC _).out).mono ?_
                  rintro e w1 ⟨rfl, hb⟩
                  refine hK.out _ _ ?_ (fun hHeld => ?_)
                  · ((try dsimp only); refine ⟨?_, ?_, ?_, ?_, ?_, ?_, ?_, ?_, ?_, ?_, ?_, ?_, ?_⟩ <;> first | (rw [hb.cell (by dsimp only; omega)]; assumption) | exact Below.trans (by assumption) (hb.mono (by omega)) | (have := hb.size; omega))
                  clear hK K hb
                  try simp only [Act.put, List.setIfInBounds_toArray, List.set_cons_zero, List.set_cons_succ]
                  refine wpAnyH_take (i := 7) (oi := ⟨_, _, _, _, _, _⟩) (v := ?v62) rfl (by kernel_rfl) (by kernel_rfl) (by kernel_rfl) (fun _ _ _ h => h) (Or.inl ⟨by rfl, ?hy62⟩) hHeld ?rest62
                  case hy62 => (intro w2 hSw; (try dsimp only at hSw); go_split_ands; go_simp; first | done | with_reducible rfl)
                  try simp only [Act.put, List.setIfInBounds_toArray, List.set_cons_zero, List.set_cons_succ]
                  refine wpAnyH_take (i := 8) (oi := ⟨_, _, _, _, _, _⟩) (v := ?v63) rfl (by kernel_rfl) (by kernel_rfl) (by kernel_rfl) (fun _ _ _ h => h) (Or.inl ⟨by rfl, ?hy63⟩) hHeld ?rest63
                  case hy63 => (intro w2 hSw; (try dsimp only at hSw); go_split_ands; go_simp; first | done | with_reducible rfl)
                  try simp only [Act.put, List.setIfInBounds_toArray, List.set_cons_zero, List.set_cons_succ]
                  refine wpAnyH_ready (rs := [9]) (by kernel_rfl) (by simp) ?_
                  refine AllReadyH.cons (o := ⟨_, _, _, _, _, _⟩) rfl (fun K hK => ?_) AllReadyH.nil
                  go_split_ands
                  go_simp
                  have hZq : wr.heap.size ≤ w1.heap.size := by with_reducible assumption
                  have hpT := blk_new w1 #[.int .i64 0, .int .i64 0] 196
                  refine hK.out _ _ ?_ (fun hHeld => ?_)
                  · ((try dsimp only); refine ⟨?_, ?_, ?_, ?_, ?_, ?_, ?_, ?_, ?_, ?_, ?_, ?_, ?_⟩ <;> first | exact bx_cellp (by dsimp only; omega) (by assumption) | exact Below.alloc (by assumption) (by omega) _ | (simp; omega))
                  clear hK K
                  try simp only [Act.put, List.setIfInBounds_toArray, List.set_cons_zero, List.set_cons_succ]
                  generalize (w1.alloc (.cells #[.int .i64 0, .int .i64 0] 196)) = wn61 at *
                  obtain ⟨T, hTe⟩ : ∃ b, w1.heap.size = b := ⟨_, rfl⟩
                  rw [hTe] at hpT hZq ⊢
                  have hlT := hZq
                  clear hZq hTe
                  refine wpAnyH_ready (rs := [10]) (by kernel_rfl) (by simp) ?_
                  refine AllReadyH.cons (o := ⟨_, _, _, _, _, _⟩) rfl (fun K hK => ?_) AllReadyH.nil
                  go_split_ands
                  have hcl0 : wn61.cell? ⟨T, 0, none⟩ = some (.int .i64 0) := blk_cell hpT 0
                  have hcl1 : wn61.cell? ⟨T, 1, none⟩ = some (.int .i64 0) := blk_cell hpT 1
                  have hfz0 : wn61.frozen? ⟨T, 0, none⟩ = false := blk_frozen hpT 0
                  have hfz1 : wn61.frozen? ⟨T, 1, none⟩ = false := blk_frozen hpT 1
                  go_simp
                  have hBq : Below wr.heap.size wr wn61 := by with_reducible assumption
                  have hZq : wr.heap.size ≤ wn61.heap.size := by with_reducible assumption
                  have hQT : T ≠ Q := by omega
                  clear hcl0 hcl1 hfz0 hfz1
                  have hBf : Below wr.heap.size wr ((wn61.setCell ⟨T, 0, none⟩ (.int .i64 u)).setCell ⟨T, 1, none⟩ (.int .i64 v)) := below2 hBq hlT
                  have hpF : ((wn61.setCell ⟨T, 0, none⟩ (.int .i64 u)).setCell ⟨T, 1, none⟩ (.int .i64 v)).heap[T]? = some (.cells #[.int .i64 u, .int .i64 v] 196 (0, 0)) := row2 hpT
                  have hZf : wr.heap.size ≤ ((wn61.setCell ⟨T, 0, none⟩ (.int .i64 u)).setCell ⟨T, 1, none⟩ (.int .i64 v)).heap.size := size_sc2 hZq
                  have hk0 : ((wn61.setCell ⟨T, 0, none⟩ (.int .i64 u)).setCell ⟨T, 1, none⟩ (.int .i64 v)).cell? ⟨Q, 0, none⟩ = some (.bool x1.many) := cell_sc2 hQT (by with_reducible assumption)
                  have hk1 : ((wn61.setCell ⟨T, 0, none⟩ (.int .i64 u)).setCell ⟨T, 1, none⟩ (.int .i64 v)).cell? ⟨Q, 1, none⟩ = some (.int .i64 x1.v.t) := cell_sc2 hQT (by with_reducible assumption)
                  have hk2 : ((wn61.setCell ⟨T, 0, none⟩ (.int .i64 u)).setCell ⟨T, 1, none⟩ (.int .i64 v)).cell? ⟨Q, 2, none⟩ = some (.int .i64 x1.v.n) := cell_sc2 hQT (by with_reducible assumption)
                  have hk3 : ((wn61.setCell ⟨T, 0, none⟩ (.int .i64 u)).setCell ⟨T, 1, none⟩ (.int .i64 v)).cell? ⟨Q, 3, none⟩ = some (.string x1.v.s) := cell_sc2 hQT (by with_reducible assumption)
                  have hk4 : ((wn61.setCell ⟨T, 0, none⟩ (.int .i64 u)).setCell ⟨T, 1, none⟩ (.int .i64 v)).cell? ⟨Q, 4, none⟩ = some (.bool x1.v.b) := cell_sc2 hQT (by with_reducible assumption)
                  have hk5 : ((wn61.setCell ⟨T, 0, none⟩ (.int .i64 u)).setCell ⟨T, 1, none⟩ (.int .i64 v)).cell? ⟨Q, 5, none⟩ = some (.int .i64 x1.v.c) := cell_sc2 hQT (by with_reducible assumption)
                  have hk6 : ((wn61.setCell ⟨T, 0, none⟩ (.int .i64 u)).setCell ⟨T, 1, none⟩ (.int .i64 v)).cell? ⟨Q, 6, none⟩ = some (.int .i64 x1.t) := cell_sc2 hQT (by with_reducible assumption)
                  have hk7 : ((wn61.setCell ⟨T, 0, none⟩ (.int .i64 u)).setCell ⟨T, 1, none⟩ (.int .i64 v)).cell? ⟨Q, 7, none⟩ = some (.int .i64 x1.l) := cell_sc2 hQT (by with_reducible assumption)
                  have hk8 : ((wn61.setCell ⟨T, 0, none⟩ (.int .i64 u)).setCell ⟨T, 1, none⟩ (.int .i64 v)).cell? ⟨Q, 8, none⟩ = some (.int .i64 x1.b) := cell_sc2 hQT (by with_reducible assumption)
                  have hk9 : ((wn61.setCell ⟨T, 0, none⟩ (.int .i64 u)).setCell ⟨T, 1, none⟩ (.int .i64 v)).cell? ⟨Q, 9, none⟩ = some (.int .i64 x1.r) := cell_sc2 hQT (by with_reducible assumption)
                  have hk10 : ((wn61.setCell ⟨T, 0, none⟩ (.int .i64 u)).setCell ⟨T, 1, none⟩ (.int .i64 v)).cell? ⟨Q, 10, none⟩ = some (.slice x1.A x1.es.length x1.cap) := cell_sc2 hQT (by with_reducible assumption)
                  clear hBq hZq hpT
                  generalize ((wn61.setCell ⟨T, 0, none⟩ (.int .i64 u)).setCell ⟨T, 1, none⟩ (.int .i64 v)) = wq at *
                  refine hK.out _ _ ?_ (fun hHeld => ?_)
                  · ((try dsimp only); refine ⟨?_, ?_, ?_, ?_, ?_, ?_, ?_, ?_, ?_, ?_, ?_, ?_, ?_⟩ <;> with_reducible assumption)
                  clear hK K
                  refine wpAnyH_done (by kernel_rfl) ?_ _
                  refine NoPanic.normal ?_
                  go_wp2
                  go_meet
                  case rel => exact ⟨T, rfl, rfl, hlT, hpF, hBf⟩
                · go_split_ands
                  go_simp
                  have hZq : wr.heap.size ≤ w1.heap.size := by with_reducible assumption
                  have hpT := blk_new w1 #[.int .i64 0, .int .i64 0] 196
                  refine hK.out _ _ ?_ (fun hHeld => ?_)
                  · ((try dsimp only); refine ⟨?_, ?_, ?_, ?_, ?_, ?_, ?_, ?_, ?_, ?_, ?_, ?_, ?_⟩ <;> first | exact bx_cellp (by dsimp only; omega) (by assumption) | exact Below.alloc (by assumption) (by omega) _ | (simp; omega))
                  clear hK K
                  try simp only [Act.put, List.setIfInBounds_toArray, List.set_cons_zero, List.set_cons_succ]
                  generalize (w1.alloc (.cells #[.int .i64 0, .int .i64 0] 196)) = wn58 at *
                  obtain ⟨T, hTe⟩ : ∃ b, w1.heap.size = b := ⟨_, rfl⟩
                  rw [hTe] at hpT hZq ⊢
                  have hlT := hZq
                  clear hZq hTe
                  refine wpAnyH_ready (rs := [6]) (by kernel_rfl) (by simp) ?_
                  refine AllReadyH.cons (o := ⟨_, _, _, _, _, _⟩) rfl (fun K hK => ?_) AllReadyH.nil
                  go_split_ands
                  go_simp
                  refine ((CC _).out).mono ?_
                  rintro e w1 ⟨rfl, hb⟩
                  have hpT := (hb.block T (Array.getElem?_eq_some_iff.1 hpT).1).trans hpT
                  refine hK.out _ _ ?_ (fun hHeld => ?_)
                  · ((try dsimp only); refine ⟨?_, ?_, ?_, ?_, ?_, ?_, ?_, ?_, ?_, ?_, ?_, ?_, ?_⟩ <;> first | (rw [hb.cell (by dsimp only; omega)]; assumption) | exact Below.trans (by assumption) (hb.mono (by omega)) | (have := hb.size; omega))
                  clear hK K hb
                  try simp only [Act.put, List.setIfInBounds_toArray, List.set_cons_zero, List.set_cons_succ]
                  refine wpAnyH_take (i := 7) (oi := ⟨_, _, _, _, _, _⟩) (v := ?v59) rfl (by kernel_rfl) (by kernel_rfl) (by kernel_rfl) (fun _ _ _ h => h) (Or.inl ⟨by rfl, ?hy59⟩) hHeld ?rest59
                  case hy59 => (intro w2 hSw; (try dsimp only at hSw); go_split_ands; go_simp; first | done | with_reducible rfl)
                  try simp only [Act.put, List.setIfInBounds_toArray, List.set_cons_zero, List.set_cons_succ]
                  refine wpAnyH_take (i := 8) (oi := ⟨_, _, _, _, _, _⟩) (v := ?v60) rfl (by kernel_rfl) (by kernel_rfl) (by kernel_rfl) (fun _ _ _ h => h) (Or.inl ⟨by rfl, ?hy60⟩) hHeld ?rest60
                  case hy60 => (intro w2 hSw; (try dsimp only at hSw); go_split_ands; go_simp; first | done | with_reducible rfl)
                  try simp only [Act.put, List.setIfInBounds_toArray, List.set_cons_zero, List.set_cons_succ]
                  refine wpAnyH_ready (rs := [10]) (by kernel_rfl) (by simp) ?_
                  refine AllReadyH.cons (o := ⟨_, _, _, _, _, _⟩) rfl (fun K hK => ?_) AllReadyH.nil
                  go_split_ands
                  have hcl0 : w1.cell? ⟨T, 0, none⟩ = some (.int .i64 0) := blk_cell hpT 0
                  have hcl1 : w1.cell? ⟨T, 1, none⟩ = some (.int .i64 0) := blk_cell hpT 1
                  have hfz0 : w1.frozen? ⟨T, 0, none⟩ = false := blk_frozen hpT 0
                  have hfz1 : w1.frozen? ⟨T, 1, none⟩ = false := blk_frozen hpT 1
                  go_simp
                  have hBq : Below wr.heap.size wr w1 := by with_reducible assumption
                  have hZq : wr.heap.size ≤ w1.heap.size := by with_reducible assumption
                  have hQT : T ≠ Q := by omega
                  clear hcl0 hcl1 hfz0 hfz1
                  have hBf : Below wr.heap.size wr ((w1.setCell ⟨T, 0, none⟩ (.int .i64 u)).setCell ⟨T, 1, none⟩ (.int .i64 v)) := below2 hBq hlT
                  have hpF : ((w1.setCell ⟨T, 0, none⟩ (.int .i64 u)).setCell ⟨T, 1, none⟩ (.int .i64 v)).heap[T]? = some (.cells #[.int .i64 u, .int .i64 v] 196 (0, 0)) := row2 hpT
                  have hZf : wr.heap.size ≤ ((w1.setCell ⟨T, 0, none⟩ (.int .i64 u)).setCell ⟨T, 1, none⟩ (.int .i64 v)).heap.size := size_sc2 hZq
                  have hk0 : ((w1.setCell ⟨T, 0, none⟩ (.int .i64 u)).setCell ⟨T, 1, none⟩ (.int .i64 v)).cell? ⟨Q, 0, none⟩ = some (.bool x1.many) := cell_sc2 hQT (by with_reducible assumption)
                  have hk1 : ((w1.setCell ⟨T, 0, none⟩ (.int .i64 u)).setCell ⟨T, 1, none⟩ (.int .i64 v)).cell? ⟨Q, 1, none⟩ = some (.int .i64 x1.v.t) := cell_sc2 hQT (by with_reducible assumption)
                  have hk2 : ((w1.setCell ⟨T, 0, none⟩ (.int .i64 u)).setCell ⟨T, 1, none⟩ (.int .i64 v)).cell? ⟨Q, 2, none⟩ = some (.int .i64 x1.v.n) := cell_sc2 hQT (by with_reducible assumption)
                  have hk3 : ((w1.setCell ⟨T, 0, none⟩ (.int .i64 u)).setCell ⟨T, 1, none⟩ (.int .i64 v)).cell? ⟨Q, 3, none⟩ = some (.string x1.v.s) := cell_sc2 hQT (by with_reducible assumption)
                  have hk4 : ((w1.setCell ⟨T, 0, none⟩ (.int .i64 u)).setCell ⟨T, 1, none⟩ (.int .i64 v)).cell? ⟨Q, 4, none⟩ = some (.bool x1.v.b) := cell_sc2 hQT (by with_reducible assumption)
                  have hk5 : ((w1.setCell ⟨T, 0, none⟩ (.int .i64 u)).setCell ⟨T, 1, none⟩ (.int .i64 v)).cell? ⟨Q, 5, none⟩ = some (.int .i64 x1.v.c) := cell_sc2 hQT (by with_reducible assumption)
                  have hk6 : ((w1.setCell ⟨T, 0, none⟩ (.int .i64 u)).setCell ⟨T, 1, none⟩ (.int .i64 v)).cell? ⟨Q, 6, none⟩ = some (.int .i64 x1.t) := cell_sc2 hQT (by with_reducible assumption)
                  have hk7 : ((w1.setCell ⟨T, 0, none⟩ (.int .i64 u)).setCell ⟨T, 1, none⟩ (.int .i64 v)).cell? ⟨Q, 7, none⟩ = some (.int .i64 x1.l) := cell_sc2 hQT (by with_reducible assumption)
                  have hk8 : ((w1.setCell ⟨T, 0, none⟩ (.int .i64 u)).setCell ⟨T, 1, none⟩ (.int .i64 v)).cell? ⟨Q, 8, none⟩ = some (.int .i64 x1.b) := cell_sc2 hQT (by with_reducible assumption)
                  have hk9 : ((w1.setCell ⟨T, 0, none⟩ (.int .i64 u)).setCell ⟨T, 1, none⟩ (.int .i64 v)).cell? ⟨Q, 9, none⟩ = some (.int .i64 x1.r) := cell_sc2 hQT (by with_reducible assumption)
                  have hk10 : ((w1.setCell ⟨T, 0, none⟩ (.int .i64 u)).setCell ⟨T, 1, none⟩ (.int .i64 v)).cell? ⟨Q, 10, none⟩ = some (.slice x1.A x1.es.length x1.cap) := cell_sc2 hQT (by with_reducible assumption)
                  clear hBq hZq hpT
                  generalize ((w1.setCell ⟨T, 0, none⟩ (.int .i64 u)).setCell ⟨T, 1, none⟩ (.int .i64 v)) = wq at *
                  refine hK.out _ _ ?_ (fun hHeld => ?_)
                  · ((try dsimp only); refine ⟨?_, ?_, ?_, ?_, ?_, ?_, ?_, ?_, ?_, ?_, ?_, ?_, ?_⟩ <;> with_reducible assumption)
                  clear hK K
                  refine wpAnyH_done (by kernel_rfl) ?_ _
                  refine NoPanic.normal ?_
                  go_wp2
                  go_meet
                  case rel => exact ⟨T, rfl, rfl, hlT, hpF, hBf⟩
              · go_split_ands
                go_simp
                have hZq : wr.heap.size ≤ wz.heap.size := by with_reducible assumption
                have hpT := blk_new wz #[.int .i64 0, .int .i64 0] 196
                refine hK.out _ _ ?_ (fun hHeld => ?_)
                · ((try dsimp only); refine ⟨?_, ?_, ?_, ?_, ?_, ?_, ?_, ?_, ?_, ?_, ?_, ?_, ?_⟩ <;> first | exact bx_cellp (by dsimp only; omega) (by assumption) | exact Below.alloc (by assumption) (by omega) _ | (simp; omega))
                clear hK K
                try simp only [Act.put, List.setIfInBounds_toArray, List.set_cons_zero, List.set_cons_succ]
                generalize (wz.alloc (.cells #[.int .i64 0, .int .i64 0] 196)) = wn54 at *
                obtain ⟨T, hTe⟩ : ∃ b, wz.heap.size = b := ⟨_, rfl⟩
                rw [hTe] at hpT hZq ⊢
                have hlT := hZq
                clear hZq hTe
                refine wpAnyH_ready (rs := [2]) (by kernel_rfl) (by simp) ?_
                refine AllReadyH.cons (o := ⟨_, _, _, _, _, _⟩) rfl (fun K hK => ?_) AllReadyH.nil
                go_split_ands
                go_simp
                refine ((CC _).out).mono ?_
                rintro e w1 ⟨rfl, hb⟩
                have hpT := (hb.block T (Array.getElem?_eq_some_iff.1 hpT).1).trans hpT
                refine hK.out _ _ ?_ (fun hHeld => ?_)
                · ((try dsimp only); refine ⟨?_, ?_, ?_, ?_, ?_, ?_, ?_, ?_, ?_, ?_, ?_, ?_, ?_⟩ <;> first | (rw [hb.cell (by dsimp only; omega)]; assumption) | exact Below.trans (by assumption) (hb.mono (by omega)) | (have := hb.size; omega))
                clear hK K hb
                try simp only [Act.put, List.setIfInBounds_toArray, List.set_cons_zero, List.set_cons_succ]
                refine wpAnyH_take (i := 3) (oi := ⟨_, _, _, _, _, _⟩) (v := ?v55) rfl (by kernel_rfl) (by kernel_rfl) (by kernel_rfl) (fun _ _ _ h => h) (Or.inl ⟨by rfl, ?hy55⟩) hHeld ?rest55
                case hy55 => (intro w2 hSw; (try dsimp only at hSw); go_split_ands; go_simp; first | done | with_reducible rfl)
                try simp only [Act.put, List.setIfInBounds_toArray, List.set_cons_zero, List.set_cons_succ]
                refine wpAnyH_ready (rs := [6]) (by kernel_rfl) (by simp) ?_
                refine AllReadyH.cons (o := ⟨_, _, _, _, _, _⟩) rfl (fun K hK => ?_) AllReadyH.nil
                go_split_ands
                go_simp
                refine ((CC _).out).mono ?_
                rintro e w1 ⟨rfl, hb⟩
                have hpT := (hb.block T (Array.getElem?_eq_some_iff.1 hpT).1).trans hpT
                refine hK.out _ _ ?_ (fun hHeld => ?_)
                · ((try dsimp only); refine ⟨?_, ?_, ?_, ?_, ?_, ?_, ?_, ?_, ?_, ?_, ?_, ?_, ?_⟩ <;> first | (rw [hb.cell (by dsimp only; omega)]; assumption) | exact Below.trans (by assumption) (hb.mono (by omega)) | (have := hb.size; omega))
                clear hK K hb
                try simp only [Act.put, List.setIfInBounds_toArray, List.set_cons_zero, List.set_cons_succ]
                refine wpAnyH_take (i := 7) (oi := ⟨_, _, _, _, _, _⟩) (v := ?v56) rfl (by kernel_rfl) (by kernel_rfl) (by kernel_rfl) (fun _ _ _ h => h) (Or.inl ⟨by rfl, ?hy56⟩) hHeld ?rest56
                case hy56 => (intro w2 hSw; (try dsimp only at hSw); go_split_ands; go_simp; first | done | with_reducible rfl)
                try simp only [Act.put, List.setIfInBounds_toArray, List.set_cons_zero, List.set_cons_succ]
                refine wpAnyH_take (i := 8) (oi := ⟨_, _, _, _, _, _⟩) (v := ?v57) rfl (by kernel_rfl) (by kernel_rfl) (by kernel_rfl) (fun _ _ _ h => h) (Or.inl ⟨by rfl, ?hy57⟩) hHeld ?rest57
                case hy57 => (intro w2 hSw; (try dsimp only at hSw); go_split_ands; go_simp; first | done | with_reducible rfl)
                try simp only [Act.put, List.setIfInBounds_toArray, List.set_cons_zero, List.set_cons_succ]
                refine wpAnyH_ready (rs := [10]) (by kernel_rfl) (by simp) ?_
                refine AllReadyH.cons (o := ⟨_, _, _, _, _, _⟩) rfl (fun K hK => ?_) AllReadyH.nil
                go_split_ands
                have hcl0 : w1.cell? ⟨T, 0, none⟩ = some (.int .i64 0) := blk_cell hpT 0
                have hcl1 : w1.cell? ⟨T, 1, none⟩ = some (.int .i64 0) := blk_cell hpT 1
                have hfz0 : w1.frozen? ⟨T, 0, none⟩ = false := blk_frozen hpT 0
                have hfz1 : w1.frozen? ⟨T, 1, none⟩ = false := blk_frozen hpT 1
                go_simp
                have hBq : Below wr.heap.size wr w1 := by with_reducible assumption
                have hZq : wr.heap.size ≤ w1.heap.size := by with_reducible assumption
                have hQT : T ≠ Q := by omega
                clear hcl0 hcl1 hfz0 hfz1
                have hBf : Below wr.heap.size wr ((w1.setCell ⟨T, 0, none⟩ (.int .i64 u)).setCell ⟨T, 1, none⟩ (.int .i64 v)) := below2 hBq hlT
                have hpF : ((w1.setCell ⟨T, 0, none⟩ (.int .i64 u)).setCell ⟨T, 1, none⟩ (.int .i64 v)).heap[T]? = some (.cells #[.int .i64 u, .int .i64 v] 196 (0, 0)) := row2 hpT
                have hZf : wr.heap.size ≤ ((w1.setCell ⟨T, 0, none⟩ (.int .i64 u)).setCell ⟨T, 1, none⟩ (.int .i64 v)).heap.size := size_sc2 hZq
                have hk0 : ((w1.setCell ⟨T, 0, none⟩ (.int .i64 u)).setCell ⟨T, 1, none⟩ (.int .i64 v)).cell? ⟨Q, 0, none⟩ = some (.bool x1.many) := cell_sc2 hQT (by with_reducible assumption)
                have hk1 : ((w1.setCell ⟨T, 0, none⟩ (.int .i64 u)).setCell ⟨T, 1, none⟩ (.int .i64 v)).cell? ⟨Q, 1, none⟩ = some (.int .i64 x1.v.t) := cell_sc2 hQT (by with_reducible assumption)
                have hk2 : ((w1.setCell ⟨T, 0, none⟩ (.int .i64 u)).setCell ⟨T, 1, none⟩ (.int .i64 v)).cell? ⟨Q, 2, none⟩ = some (.int .i64 x1.v.n) := cell_sc2 hQT (by with_reducible assumption)
                have hk3 : ((w1.setCell ⟨T, 0, none⟩ (.int .i64 u)).setCell ⟨T, 1, none⟩ (.int .i64 v)).cell? ⟨Q, 3, none⟩ = some (.string x1.v.s) := cell_sc2 hQT (by with_reducible assumption)
                have hk4 : ((w1.setCell ⟨T, 0, none⟩ (.int .i64 u)).setCell ⟨T, 1, none⟩ (.int .i64 v)).cell? ⟨Q, 4, none⟩ = some (.bool x1.v.b) := cell_sc2 hQT (by with_reducible assumption)
                have hk5 : ((w1.setCell ⟨T, 0, none⟩ (.int .i64 u)).setCell ⟨T, 1, none⟩ (.int .i64 v)).cell? ⟨Q, 5, none⟩ = some (.int .i64 x1.v.c) := cell_sc2 hQT (by with_reducible assumption)
                have hk6 : ((w1.setCell ⟨T, 0, none⟩ (.int .i64 u)).setCell ⟨T, 1, none⟩ (.int .i64 v)).cell? ⟨Q, 6, none⟩ = some (.int .i64 x1.t) := cell_sc2 hQT (by with_reducible assumption)
                have hk7 : ((w1.setCell ⟨T, 0, none⟩ (.int .i64 u)).setCell ⟨T, 1, none⟩ (.int .i64 v)).cell? ⟨Q, 7, none⟩ = some (.int .i64 x1.l) := cell_sc2 hQT (by with_reducible assumption)
                have hk8 : ((w1.setCell ⟨T, 0, none⟩ (.int .i64 u)).setCell ⟨T, 1, none⟩ (.int .i64 v)).cell? ⟨Q, 8, none⟩ = some (.int .i64 x1.b) := cell_sc2 hQT (by with_reducible assumption)
                have hk9 : ((w1.setCell ⟨T, 0, none⟩ (.int .i64 u)).setCell ⟨T, 1, none⟩ (.int .i64 v)).cell? ⟨Q, 9, none⟩ = some (.int .i64 x1.r) := cell_sc2 hQT (by with_reducible assumption)
                have hk10 : ((w1.setCell ⟨T, 0, none⟩ (.int .i64 u)).setCell ⟨T, 1, none⟩ (.int .i64 v)).cell? ⟨Q, 10, none⟩ = some (.slice x1.A x1.es.length x1.cap) := cell_sc2 hQT (by with_reducible assumption)
                clear hBq hZq hpT
                generalize ((w1.setCell ⟨T, 0, none⟩ (.int .i64 u)).setCell ⟨T, 1, none⟩ (.int .i64 v)) = wq at *
                refine hK.out _ _ ?_ (fun hHeld => ?_)
                · ((try dsimp only); refine ⟨?_, ?_, ?_, ?_, ?_, ?_, ?_, ?_, ?_, ?_, ?_, ?_, ?_⟩ <;> with_reducible assumption)
                clear hK K
                refine wpAnyH_done (by kernel_rfl) ?_ _
                refine NoPanic.normal ?_
                go_wp2
                go_meet
                case rel => exact ⟨T, rfl, rfl, hlT, hpF, hBf⟩
            case rest =>
              obtain ⟨T, rfl, rfl, hlT, hpT, hbc⟩ := hcut
              have iv0 : wc.cell? ⟨P, 0, none⟩ = some (.int .i64 x0.v.t) := (hbc.cell (p := ⟨P, 0, none⟩) hPr).trans gv0
              have iv1 : wc.cell? ⟨P, 1, none⟩ = some (.int .i64 x0.v.n) := (hbc.cell (p := ⟨P, 1, none⟩) hPr).trans gv1
              have iv2 : wc.cell? ⟨P, 2, none⟩ = some (.string x0.v.s) := (hbc.cell (p := ⟨P, 2, none⟩) hPr).trans gv2
              have iv3 : wc.cell? ⟨P, 3, none⟩ = some (.bool x0.v.b) := (hbc.cell (p := ⟨P, 3, none⟩) hPr).trans gv3
              have iv4 : wc.cell? ⟨P, 4, none⟩ = some (.int .i64 x0.v.c) := (hbc.cell (p := ⟨P, 4, none⟩) hPr).trans gv4
              have it0 : wc.cell? ⟨T, 0, none⟩ = some (.int .i64 u) := blk_cell hpT 0
              have it1 : wc.cell? ⟨T, 1, none⟩ = some (.int .i64 v) := blk_cell hpT 1
              have hzc : wr.heap.size ≤ wc.heap.size := hbc.size
              have hTc : T < wc.heap.size := (Array.getElem?_eq_some_iff.1 hpT).1
              have hownc := hownr.out.below hbc
              have hbi : Below (w.heap.size + 1) (w.alloc (.cells #[.int .i64 0, .int .i64 0, .string ⟨#[]⟩, .bool false, .int .i64 0] 26)) wc := hbh.trans (hbc.mono (by omega))
              have hq5 : Below w.heap.size w wc := hq4.trans (hbc.mono (by omega))
              have hbm : Below wf.heap.size wf wc := hbr'.out.trans (hbc.mono (by omega))
              have hwc : w.heap.size < wc.heap.size := by omega
              have hpb : plB (u, v) := by unfold plB; dsimp only; omega
              obtain ⟨y, hy⟩ : ∃ y, lookP (heldL x1) (u, v) = y := ⟨_, rfl⟩
              have hrunA := fun w2 (h : Below wc.heap.size wc w2) => run_lookP (hownc.below h) hpb
              rw [hy] at hrunA
              unfold vlV at hrunA
              dsimp only at hrunA
              obtain ⟨z, hz⟩ : ∃ z, y.eqv x0.v = z := ⟨_, rfl⟩
              have hyz : Hid ((lookP (heldL x1) (nthL x1 k)).eqv x0.v = z) := Lib.hid (by rw [hnth.out, hy]; exact hz)
              unfold VL.eqv at hz
              have hpb' := Lib.hid hpb
              have hownc' := Lib.hid hownc
              have hbm' := Lib.hid hbm
              have hbc' := Lib.hid hbc
              clear hy hownc hpb hbm hbc hownr hbh hq4 hbr' gq0 gq1 gq2 gq3 gq4 gq5 gq6 gq7 gq8 gq9 gq10 gv0 gv1 gv2 gv3 gv4
              go_upto_region 9 with (fail)
              refine wp_region_noPanic ?_
              refine wp_region_held_drew (S := fun w' => w'.cell? ⟨P, 0, none⟩ = some (.int .i64 x0.v.t) ∧ w'.cell? ⟨P, 1, none⟩ = some (.int .i64 x0.v.n) ∧ w'.cell? ⟨P, 2, none⟩ = some (.string x0.v.s) ∧ w'.cell? ⟨P, 3, none⟩ = some (.bool x0.v.b) ∧ w'.cell? ⟨P, 4, none⟩ = some (.int .i64 x0.v.c) ∧ w'.cell? ⟨T, 0, none⟩ = some (.int .i64 u) ∧ w'.cell? ⟨T, 1, none⟩ = some (.int .i64 v) ∧ Below wc.heap.size wc w') (by kernel_rfl) (by (try dsimp only); refine ⟨?_, ?_, ?_, ?_, ?_, ?_, ?_, ?_⟩ <;> first | assumption | exact Below.drew (Below.refl _ _)) (fun hHeld => ?_)
              generalize wc.drew = wz at *
              refine wpAnyH_take (i := 0) (oi := ⟨_, _, _, _, _, _⟩) (v := ?v65) rfl (by kernel_rfl) (by kernel_rfl) (by kernel_rfl) (fun _ _ _ h => h) (Or.inl ⟨by rfl, ?hy65⟩) hHeld ?rest65
              case hy65 => (intro w2 hSw; (try dsimp only at hSw); go_split_ands; go_simp; first | done | with_reducible rfl)
              try simp only [Act.put, List.setIfInBounds_toArray, List.set_cons_zero, List.set_cons_succ]
              refine wpAnyH_take (i := 1) (oi := ⟨_, _, _, _, _, _⟩) (v := ?v66) rfl (by kernel_rfl) (by kernel_rfl) (by kernel_rfl) (fun _ _ _ h => h) (Or.inl ⟨by rfl, ?hy66⟩) hHeld ?rest66
              case hy66 => (intro w2 hSw; (try dsimp only at hSw); go_split_ands; go_simp; first | done | with_reducible rfl)
              try simp only [Act.put, List.setIfInBounds_toArray, List.set_cons_zero, List.set_cons_succ]
              refine wpAnyH_take (i := 2) (oi := ⟨_, _, _, _, _, _⟩) (v := .agg #[.int .i64 y.t, .int .i64 y.n, .string y.s, .bool y.b, .int .i64 y.c]) rfl (by kernel_rfl) (by kernel_rfl) (by kernel_rfl) (fun _ _ _ h => h) (Or.inl ⟨by rfl, ?hyL⟩) hHeld ?restL
              case hyL => (intro w2 hSw; (try dsimp only at hSw); go_split_ands; have hrun := hrunA w2 (by with_reducible assumption); go_simp; first | done | exact hrun)
              try simp only [Act.put, List.setIfInBounds_toArray, List.set_cons_zero, List.set_cons_succ]
              refine wpAnyH_take (i := 3) (oi := ⟨_, _, _, _, _, _⟩) (v := ?v67) rfl (by kernel_rfl) (by kernel_rfl) (by kernel_rfl) (fun _ _ _ h => h) (Or.inl ⟨by rfl, ?hy67⟩) hHeld ?rest67
              case hy67 => (intro w2 hSw; (try dsimp only at hSw); go_split_ands; go_simp; first | done | with_reducible rfl)
              try simp only [Act.put, List.setIfInBounds_toArray, List.set_cons_zero, List.set_cons_succ]
              refine wpAnyH_take (i := 4) (oi := ⟨_, _, _, _, _, _⟩) (v := ?v68) rfl (by kernel_rfl) (by kernel_rfl) (by kernel_rfl) (fun _ _ _ h => h) (Or.inl ⟨by rfl, ?hy68⟩) hHeld ?rest68
              case hy68 => (intro w2 hSw; (try dsimp only at hSw); go_split_ands; go_simp; first | done | with_reducible rfl)
              try simp only [Act.put, List.setIfInBounds_toArray, List.set_cons_zero, List.set_cons_succ]
              refine wpAnyH_done (by kernel_rfl) ?_ _
              refine NoPanic.normal ?_
              go_split_ands
              have hbz : Below wc.heap.size wc wz := by with_reducible assumption
              clear hrunA
              have hwz : w.heap.size < wz.heap.size := Nat.lt_of_lt_of_le hwc hbz.size
              have hq6 : Below w.heap.size w wz := hq5.trans (hbz.mono (by omega))
              cases z
              · go_wp2
                exact ⟨⟨k + 1, by omega, by go_num, Lib.hid (fun j hj => by rcases Nat.lt_succ_iff_lt_or_eq.1 hj with h | rfl; exact hno.out j h; exact hyz.out), hbm'.out.trans (hbz.mono (by omega))⟩, by simp [intOf]; omega⟩
              · have hbj := hbi.trans (hbz.mono (by omega))
                have hFs := Ffirst_some (v := x0.v) (x := x1) hlt hyz.out hno.out
                rw [hfr.out] at hFs
                have hFs' := Lib.hid hFs
                clear hFs
                have hre2 : Hid (numL (((k : Int) + 1) * 10000) = rs) := Lib.hid (by rw [← hre.out]; unfold lookR2; rw [hFs'.out])
                clear hre hFs'
                have hwk : IntKind.i64.wrap ((k : Int) + 1) = (k : Int) + 1 := IntWalk.i64_in _ (by omega)
                go_wp2_with fail
                refine (awhole_any ((k : Int) + 1) (by omega) _).mono ?_
                rintro e w8 ⟨rfl, hb8⟩
                obtain ⟨gc8, gf8, gz8⟩ := bkeep hb8 (w.heap.size + 1) (by first | omega | (simp <;> omega))
                obtain ⟨yy, hyy⟩ : ∃ yy, numL (((k : Int) + 1) * 10000) = yy := ⟨_, rfl⟩
                rw [hyy] at hre2 ⊢
                have hr0 : wz.cell? ⟨w.heap.size, 0, none⟩ = some (.int .i64 0) := (hbj.cell (p := ⟨w.heap.size, 0, none⟩) (by dsimp only; omega)).trans (c_at rfl rfl)
                have hr1 : wz.cell? ⟨w.heap.size, 1, none⟩ = some (.int .i64 0) := (hbj.cell (p := ⟨w.heap.size, 1, none⟩) (by dsimp only; omega)).trans (c_at rfl rfl)
                have hr2 : wz.cell? ⟨w.heap.size, 2, none⟩ = some (.string ⟨#[]⟩) := (hbj.cell (p := ⟨w.heap.size, 2, none⟩) (by dsimp only; omega)).trans (c_at rfl rfl)
                have hr3 : wz.cell? ⟨w.heap.size, 3, none⟩ = some (.bool false) := (hbj.cell (p := ⟨w.heap.size, 3, none⟩) (by dsimp only; omega)).trans (c_at rfl rfl)
                have hr4 : wz.cell? ⟨w.heap.size, 4, none⟩ = some (.int .i64 0) := (hbj.cell (p := ⟨w.heap.size, 4, none⟩) (by dsimp only; omega)).trans (c_at rfl rfl)
                have hs0 : wz.frozen? ⟨w.heap.size, 0, none⟩ = false := (hbj.frozen (p := ⟨w.heap.size, 0, none⟩) (by dsimp only; omega)).trans (f_at rfl)
                have hs1 : wz.frozen? ⟨w.heap.size, 1, none⟩ = false := (hbj.frozen (p := ⟨w.heap.size, 1, none⟩) (by dsimp only; omega)).trans (f_at rfl)
                have hs2 : wz.frozen? ⟨w.heap.size, 2, none⟩ = false := (hbj.frozen (p := ⟨w.heap.size, 2, none⟩) (by dsimp only; omega)).trans (f_at rfl)
                have hs3 : wz.frozen? ⟨w.heap.size, 3, none⟩ = false := (hbj.frozen (p := ⟨w.heap.size, 3, none⟩) (by dsimp only; omega)).trans (f_at rfl)
                have hs4 : wz.frozen? ⟨w.heap.size, 4, none⟩ = false := (hbj.frozen (p := ⟨w.heap.size, 4, none⟩) (by dsimp only; omega)).trans (f_at rfl)
                go_wp2
                refine bodyPost_ret (v := .agg #[.int .i64 (yy).t, .int .i64 (yy).n, .string (yy).s, .bool (yy).b, .int .i64 (yy).c]) ?_ rfl ⟨by rw [hre2.out], by (repeat (first | (with_reducible exact Below.refl _ _) | (with_reducible refine Below.alloc ?_ (by first | omega | (dsimp only; omega) | (simp <;> omega)) _) | (with_reducible refine Below.setCell ?_ (by first | omega | (dsimp only; omega) | (simp <;> omega)) _) | (with_reducible refine Below.drew ?_) | (with_reducible refine below_drewN ?_ _) | (with_reducible refine Below.trans ?_ (Below.mono (by assumption) (by first | omega | (dsimp only; omega) | (simp <;> omega))))))⟩
                simp [results, Tryz.results137, go_sem, *]
          · obtain rfl : k = N := by omega
            have hkl : ¬ (k : Int) < (k : Int) := by omega
            have hr0 : wr.cell? ⟨w.heap.size, 0, none⟩ = some (.int .i64 0) := (hbh.cell (p := ⟨w.heap.size, 0, none⟩) (by dsimp only; omega)).trans (c_at rfl rfl)
            have hr1 : wr.cell? ⟨w.heap.size, 1, none⟩ = some (.int .i64 0) := (hbh.cell (p := ⟨w.heap.size, 1, none⟩) (by dsimp only; omega)).trans (c_at rfl rfl)
            have hr2 : wr.cell? ⟨w.heap.size, 2, none⟩ = some (.string ⟨#[]⟩) := (hbh.cell (p := ⟨w.heap.size, 2, none⟩) (by dsimp only; omega)).trans (c_at rfl rfl)
            have hr3 : wr.cell? ⟨w.heap.size, 3, none⟩ = some (.bool false) := (hbh.cell (p := ⟨w.heap.size, 3, none⟩) (by dsimp only; omega)).trans (c_at rfl rfl)
            have hr4 : wr.cell? ⟨w.heap.size, 4, none⟩ = some (.int .i64 0) := (hbh.cell (p := ⟨w.heap.size, 4, none⟩) (by dsimp only; omega)).trans (c_at rfl rfl)
            have hs0 : wr.frozen? ⟨w.heap.size, 0, none⟩ = false := (hbh.frozen (p := ⟨w.heap.size, 0, none⟩) (by dsimp only; omega)).trans (f_at rfl)
            have hs1 : wr.frozen? ⟨w.heap.size, 1, none⟩ = false := (hbh.frozen (p := ⟨w.heap.size, 1, none⟩) (by dsimp only; omega)).trans (f_at rfl)
            have hs2 : wr.frozen? ⟨w.heap.size, 2, none⟩ = false := (hbh.frozen (p := ⟨w.heap.size, 2, none⟩) (by dsimp only; omega)).trans (f_at rfl)
            have hs3 : wr.frozen? ⟨w.heap.size, 3, none⟩ = false := (hbh.frozen (p := ⟨w.heap.size, 3, none⟩) (by dsimp only; omega)).trans (f_at rfl)
            have hs4 : wr.frozen? ⟨w.heap.size, 4, none⟩ = false := (hbh.frozen (p := ⟨w.heap.size, 4, none⟩) (by dsimp only; omega)).trans (f_at rfl)
            have hFn := Ffirst_none (v := x0.v) (x := x1) hno.out
            rw [hfr.out] at hFn
            have hFn' := Lib.hid hFn
            have hre2 : Hid (errL 6 = rs) := Lib.hid (by rw [← hre.out]; unfold lookR2; rw [hFn])
            clear hFn hre
            go_wp2_with (go_at_call 40; refine (verr_any 6 _).mono ?_; rintro e w9 ⟨rfl, hb9⟩; obtain ⟨gc9, gf9, gz9⟩ := bkeep hb9 (w.heap.size + 1) (by first | omega | (simp <;> omega)))
            refine bodyPost_ret (v := .agg #[.int .i64 ((errL 6)).t, .int .i64 ((errL 6)).n, .string ((errL 6)).s, .bool ((errL 6)).b, .int .i64 ((errL 6)).c]) ?_ rfl ⟨by rw [hre2.out], by (repeat (first | (with_reducible exact Below.refl _ _) | (with_reducible refine Below.alloc ?_ (by first | omega | (dsimp only; omega) | (simp <;> omega)) _) | (with_reducible refine Below.setCell ?_ (by first | omega | (dsimp only; omega) | (simp <;> omega)) _) | (with_reducible refine Below.drew ?_) | (with_reducible refine below_drewN ?_ _) | (with_reducible refine Below.trans ?_ (Below.mono (by assumption) (by first | omega | (dsimp only; omega) | (simp <;> omega))))))⟩
            simp [results, Tryz.results137, go_sem, errL, *]
      · have hr0 : wd.cell? ⟨w.heap.size, 0, none⟩ = some (.int .i64 0) := (hbw.cell (p := ⟨w.heap.size, 0, none⟩) (by dsimp only; omega)).trans (c_at rfl rfl)
        have hr1 : wd.cell? ⟨w.heap.size, 1, none⟩ = some (.int .i64 0) := (hbw.cell (p := ⟨w.heap.size, 1, none⟩) (by dsimp only; omega)).trans (c_at rfl rfl)
        have hr2 : wd.cell? ⟨w.heap.size, 2, none⟩ = some (.string ⟨#[]⟩) := (hbw.cell (p := ⟨w.heap.size, 2, none⟩) (by dsimp only; omega)).trans (c_at rfl rfl)
        have hr3 : wd.cell? ⟨w.heap.size, 3, none⟩ = some (.bool false) := (hbw.cell (p := ⟨w.heap.size, 3, none⟩) (by dsimp only; omega)).trans (c_at rfl rfl)
        have hr4 : wd.cell? ⟨w.heap.size, 4, none⟩ = some (.int .i64 0) := (hbw.cell (p := ⟨w.heap.size, 4, none⟩) (by dsimp only; omega)).trans (c_at rfl rfl)
        have hs0 : wd.frozen? ⟨w.heap.size, 0, none⟩ = false := (hbw.frozen (p := ⟨w.heap.size, 0, none⟩) (by dsimp only; omega)).trans (f_at rfl)
        have hs1 : wd.frozen? ⟨w.heap.size, 1, none⟩ = false := (hbw.frozen (p := ⟨w.heap.size, 1, none⟩) (by dsimp only; omega)).trans (f_at rfl)
        have hs2 : wd.frozen? ⟨w.heap.size, 2, none⟩ = false := (hbw.frozen (p := ⟨w.heap.size, 2, none⟩) (by dsimp only; omega)).trans (f_at rfl)
        have hs3 : wd.frozen? ⟨w.heap.size, 3, none⟩ = false := (hbw.frozen (p := ⟨w.heap.size, 3, none⟩) (by dsimp only; omega)).trans (f_at rfl)
        have hs4 : wd.frozen? ⟨w.heap.size, 4, none⟩ = false := (hbw.frozen (p := ⟨w.heap.size, 4, none⟩) (by dsimp only; omega)).trans (f_at rfl)
        go_wp2_with (go_at_call 40; refine (verr_any 8 _).mono ?_; rintro e w9 ⟨rfl, hb9⟩; obtain ⟨gc9, gf9, gz9⟩ := bkeep hb9 (w.heap.size + 1) (by first | omega | (simp <;> omega)))
        have hre : errL 8 = rs := hres'.out
        refine bodyPost_ret (v := .agg #[.int .i64 ((errL 8)).t, .int .i64 ((errL 8)).n, .string ((errL 8)).s, .bool ((errL 8)).b, .int .i64 ((errL 8)).c]) ?_ rfl ⟨by rw [← hre], by (repeat (first | (with_reducible exact Below.refl _ _) | (with_reducible refine Below.alloc ?_ (by first | omega | (dsimp only; omega) | (simp <;> omega)) _) | (with_reducible refine Below.setCell ?_ (by first | omega | (dsimp only; omega) | (simp <;> omega)) _) | (with_reducible refine Below.drew ?_) | (with_reducible refine below_drewN ?_ _) | (with_reducible refine Below.trans ?_ (Below.mono (by assumption) (by first | omega | (dsimp only; omega) | (simp <;> omega))))))⟩
        simp [results, Tryz.results137, go_sem, errL, *]
end Go.Proofs.YtaomlgpakbjegaaGreatDoor
