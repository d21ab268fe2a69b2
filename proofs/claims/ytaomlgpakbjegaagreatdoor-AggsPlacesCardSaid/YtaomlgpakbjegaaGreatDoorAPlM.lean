/-
  aggs: INDEX, MATCH, LOOKUP at an entry, plainly.
-/
import Derived.Test.YtaomlgpakbjegaaGreatDoorRows
import Derived.Test.YtaomlgpakbjegaaGreatDoorBase
import Derived.Test.YtaomlgpakbjegaaGreatDoorRowB
import Derived.Test.YtaomlgpakbjegaaGreatDoorMg4
import Derived.Test.YtaomlgpakbjegaaGreatDoorValA
import Derived.Test.YtaomlgpakbjegaaGreatDoorValB
import Derived.Test.YtaomlgpakbjegaaGreatDoorValC
import Derived.Test.YtaomlgpakbjegaaGreatDoorAddrC
import Derived.Test.YtaomlgpakbjegaaGreatDoorAddrI
import Derived.Test.YtaomlgpakbjegaaGreatDoorMapK
import Derived.Test.YtaomlgpakbjegaaGreatDoorArgK
import Derived.Test.YtaomlgpakbjegaaGreatDoorAArg
import Derived.Test.YtaomlgpakbjegaaGreatDoorProg
import Derived.Test.YtaomlgpakbjegaaGreatDoorShelfB
import Derived.Test.YtaomlgpakbjegaaGreatDoorDFlo
import Derived.Test.YtaomlgpakbjegaaGreatDoorMg1
import Derived.Test.YtaomlgpakbjegaaGreatDoorMg15
import Derived.Test.YtaomlgpakbjegaaGreatDoorValL
import Derived.Test.YtaomlgpakbjegaaGreatDoorNCallK
import Derived.Test.YtaomlgpakbjegaaGreatDoorAItm
import Derived.Test.YtaomlgpakbjegaaGreatDoorAAmo
import Derived.Test.YtaomlgpakbjegaaGreatDoorASum
import Derived.Test.YtaomlgpakbjegaaGreatDoorAFind
import Derived.Test.YtaomlgpakbjegaaGreatDoorACall
import Derived.Test.YtaomlgpakbjegaaGreatDoorACallB
import Derived.Test.YtaomlgpakbjegaaGreatDoorANum
import Derived.Test.YtaomlgpakbjegaaGreatDoorAInt
import Derived.Test.YtaomlgpakbjegaaGreatDoorALar
import Derived.Test.YtaomlgpakbjegaaGreatDoorACol
import Derived.Test.YtaomlgpakbjegaaGreatDoorAAt
import Derived.Test.YtaomlgpakbjegaaGreatDoorACnt
import Derived.Test.YtaomlgpakbjegaaGreatDoorACif
import Derived.Test.YtaomlgpakbjegaaGreatDoorMg31
import Derived.Test.YtaomlgpakbjegaaGreatDoorAKn
import Derived.Test.YtaomlgpakbjegaaGreatDoorAPlc
import Derived.Test.YtaomlgpakbjegaaGreatDoorAHld
import Derived.Test.YtaomlgpakbjegaaGreatDoorAIdx
import Derived.Test.YtaomlgpakbjegaaGreatDoorAAlk
import Derived.Test.YtaomlgpakbjegaaGreatDoorALku
import Derived.Test.YtaomlgpakbjegaaGreatDoorALkv
import Derived.Test.YtaomlgpakbjegaaGreatDoorAAtP
import Derived.Test.YtaomlgpakbjegaaGreatDoorMg40
import Derived.WalkSpells
import Derived.WalkLawsBesides
import Derived.StillTactics
import Derived.Laws.Pointers
import Derived.Deep.RegionHeld3
import Derived.Deep.QuietTactic
import Derived.BigQuiet
import Derived.RowKit3
import Derived.Lib.Hide
import Derived.Lib.OthersKept
import Derived.OwnWalk
import Derived.Lib.IndexLaws
import Derived.Lib.ItoaMem
import Derived.WalkKit
import Derived.ProofKit
import Derived.OpenShut
import Derived.Carry
import Derived.ChangeSame
import Derived.Deep.Draws
import Derived.Maps.OwnSet
import Derived.Maps.AppendAt
import Derived.Shelf.SlGeneric
import Derived.Shelf.SortM.Plain
import Derived.Shelf.SortM.SortNone
import Derived.Ground.SlgmProg
import Derived.Laws.EntriesVeiled
import Derived.Laws.BitsAllLaws
import Derived.Shelf.Strings.Builder1
import Derived.Shelf.Strings.Builder2
import Derived.Shelf.Strings.OnBuilder
import Derived.Shelf.Strings.Trim
import Derived.Shelf.Small.Utf8
import Derived.Shelf.Small.Bits
import Derived.Shelf.Small.Strs
import Derived.Shelf.Small.Wraps
import Derived.Shelf.Strings.BuilderF
import Derived.Shelf.Strings.BuilderK
import Derived.Shelf.Strconv.Itoa0
import Derived.Shelf.Strconv.Itoa1
import Derived.Shelf.LaysM
import Derived.Shelf.Strconv.Itoa2
import Derived.Ground.MpProg
import Derived.Shelf.Pu.ParseUintPublic10
import Derived.Shelf.Strings.Search1
import Derived.Shelf.Strings.Search2
import Derived.Shelf.Strings.Search3
import Derived.Shelf.Strings.Cut
import Derived.Shelf.Strings.Shaped
import Derived.Shelf.Strings.Prefix
import Derived.Shelf.Strings.Runes
import Derived.Shelf.Strings.AsciiSet
import Derived.Shelf.Bits.Mul64
import Derived.Shelf.Strings.Repeat
import Derived.Shelf.Unicode.DecodeSlow
import Derived.Lib.TrimByte
import Derived.Lib.Bytealg
import Derived.Lib.SlTrimSet
import Derived.Lib.ParseIntB
import Derived.Shelf.Strings.SlTrimAscii
import Derived.Lib.SmallJoins
import Derived.Deep.RegionWith
import Derived.Laws.Externs
import Derived.IntWalk
import Derived.Sort.OwnSorted
import Derived.Sort.OwnSortedInts
import Derived.Deep.AppendLies
import Derived.Deep.RegionLaw
import Derived.Outline
import Derived.Deep.CutRange
import Derived.Deep.CutBlock
import Derived.RangeFuncBox
import Derived.RangeFuncLeaves
import Derived.Shelf.Abstract
import Derived.OwnWalkIn
import Derived.TacticsInMore
import Derived.LoopNIn
import Derived.LoopIn
import Derived.Lib.Slices
import Derived.Lib.MinMax
namespace Go.Proofs.YtaomlgpakbjegaaGreatDoor
open Go.RowKit

theorem eqv_iff (a b : VL) : a.eqv b = true ↔ a = b := by
  obtain ⟨a1, a2, a3, a4, a5⟩ := a
  obtain ⟨b1, b2, b3, b4, b5⟩ := b
  unfold VL.eqv vEq
  simp only [Bool.and_eq_true, decide_eq_true_eq, VL.mk.injEq]
  constructor
  · rintro ⟨⟨⟨⟨h1, h2⟩, h3⟩, h4⟩, h5⟩; exact ⟨h1, h2, h3, h4, h5⟩
  · rintro ⟨h1, h2, h3, h4, h5⟩; exact ⟨⟨⟨⟨h1, h2⟩, h3⟩, h4⟩, h5⟩
theorem eqv_no {a b : VL} (h : a ≠ b) : a.eqv b = false := by
  cases h2 : a.eqv b with
  | false => rfl
  | true => exact absurd ((eqv_iff a b).1 h2) h
/-- a value as an argument -/
def sgl (v : VL) : AL := ⟨false, v, 0, 0, 0, 0, none, 0, []⟩
theorem sgl_may {v : VL} (h : v.may = true) : argMay (sgl v) = true := by
  unfold argMay
  rw [if_neg (by show ¬ false = true; decide), show (sgl v).v.may = true from h]
  rfl
theorem sgl_in {v : VL} (h : v.ok) (w : World) (B : Nat) : (sgl v).In w B := ⟨h, (fun i c hi => (by simp [sgl] at hi)), (fun e he => (by cases he)), (by show 0 ≤ 9223372036854775807; omega)⟩
theorem numA_int2 {i : Int} (h : 1 ≤ i ∧ i ≤ 2000000) : intC (numA (i * 10000)).v = 0 ∧ intV (numA (i * 10000)).v = i := by
  have hm : VL.may (numA (i * 10000)).v = true := numV_may (by omega)
  have h1 : (numA (i * 10000)).v.asC = 0 := by unfold VL.asC; rw [if_pos hm]; rfl
  have h2 : (numA (i * 10000)).v.asN = i * 10000 := by unfold VL.asN; rw [if_pos hm]; rfl
  have h3 : (i * 10000).tmod 10000 = 0 := by rw [Int.tmod_eq_emod_of_nonneg (by omega)]; omega
  have h4 : (i * 10000).tdiv 10000 = i := by rw [Int.tdiv_eq_ediv_of_nonneg (by omega)]; omega
  have h5 : wholeB (i * 10000) = true := by unfold wholeB; rw [h3]; simp; omega
  have h6 : wholeV (i * 10000) = i := by unfold wholeV; rw [h3, h4, if_pos ⟨by omega, rfl⟩]
  unfold intC intV
  rw [h1, h2, h5, h6]
  simp
/-- INDEX at an entry -/
theorem index_at {x : AL} (hr : mayRectB x.t x.l x.b x.r = true) (h : entsOk x = true) {k : Nat} {e : EL} (he : x.es[k]? = some e) : indexR x (numA ((e.r - x.t + 1) * 10000)) (numA ((e.c - x.l + 1) * 10000)) = e.v := by
  obtain ⟨hi, -, -⟩ := ent_parts h k e he
  obtain ⟨m1, m2, m3, m4, m5, m6⟩ := rect_in hr
  unfold inB at hi
  simp only [Bool.and_eq_true, decide_eq_true_eq] at hi
  obtain ⟨a1, a2⟩ := numA_int2 (i := e.r - x.t + 1) (by omega)
  obtain ⟨b1, b2⟩ := numA_int2 (i := e.c - x.l + 1) (by omega)
  unfold indexR
  rw [a1, a2, b1, b2, if_pos rfl, if_pos rfl, if_neg (by unfold rowsL colsL; omega)]
  rw [show e.r - x.t + 1 - 1 = e.r - x.t by omega, show e.c - x.l + 1 - 1 = e.c - x.l by omega]
  exact look_at h he
theorem first_F {x : AL} {v : VL} {i : Nat} (h : FirstL x v i) : firstF v x = some i := by
  have hp := h.lt
  exact Ffirst_some (by omega) ((eqv_iff _ _).2 h.at_) (fun j hj => eqv_no (h.no j hj))
theorem match_line {x : AL} {v : VL} {i : Nat} (hl : rowsL x = 1 ∨ colsL x = 1) (h : FirstL x v i) (hi : i ≤ 17179869184) : matchR (sgl v) x = ⟨1, ((i : Int) + 1) * 10000, ⟨#[]⟩, false, 0⟩ := by
  unfold matchR
  rw [if_neg (by simp; omega)]
  unfold lookR2
  rw [show firstF (sgl v).v x = some i from first_F h]
  exact numL_form (by omega)
theorem match_no {x : AL} {v : VL} (h1 : 1 < rowsL x) (h2 : 1 < colsL x) : matchR (sgl v) x = errL 8 := by
  unfold matchR
  rw [if_pos (by simp; omega)]
theorem lookup_line {x : AL} {v : VL} {i : Nat} (hl : rowsL x = 1 ∨ colsL x = 1) (h : FirstL x v i) : lookupR (sgl v) x x = v := by
  unfold lookupR
  rw [if_neg (by simp; omega)]
  unfold lookR3
  rw [show firstF (sgl v).v x = some i from first_F h]
  exact h.at_
theorem kp_INDEX {w : World} {v : Value} {x : AL} {k : Nat} {d : EL} {l : List AL} (hm : x.many = true) (hy : argMay x = true) (he : x.es[k]? = some d) (hl : l = [x, numA ((d.r - x.t + 1) * 10000), numA ((d.c - x.l + 1) * 10000)]) (hTab : Tab w) (hv : ArgsC w v l) : Calls Tryz.prog 27 #[.string ⟨#[73, 78, 68, 69, 88]⟩, v, .int .i64 0] w fun e w' => e = .returned (.agg #[.int .i64 (d.v).t, .int .i64 (d.v).n, .string (d.v).s, .bool (d.v).b, .int .i64 (d.v).c]) ∧ Below w.heap.size w w' := by
  subst hl
  obtain ⟨m1, m2, m3⟩ := may_parts hm hy
  obtain ⟨q1, q2, q3, q4, q5, q6⟩ := rect_in m1
  obtain ⟨hi, -, -⟩ := ent_parts m3 k d he
  unfold inB at hi
  simp only [Bool.and_eq_true, decide_eq_true_eq] at hi
  have h := lacall_any (name := ⟨#[73, 78, 68, 69, 88]⟩) (l := [x, numA ((d.r - x.t + 1) * 10000), numA ((d.c - x.l + 1) * 10000)]) (text := 0) (by decide) (by simp) (by omega) (by simp only [List.all_cons, List.all_nil, Bool.and_true, hy, Bool.true_and]; rw [numA_may (by omega), numA_may (by omega)]; rfl) (by rw [show ([x, numA ((d.r - x.t + 1) * 10000), numA ((d.c - x.l + 1) * 10000)].map fun x => x.many) = [true, false, false] by simp [hm, numA]]; decide +kernel) (by intro z hz; simp at hz; rcases hz with rfl | rfl | rfl; omega; (show ¬ (1 : Int) = 4; omega); (show ¬ (1 : Int) = 4; omega)) (ata_INDEX x _ _ m1 m3 0) hTab hv
  rw [index_at m1 m3 he] at h
  exact h
/-- MATCH of a value -/
theorem kp_MATCH {w : World} {v : Value} {x : AL} {u r : VL} {l : List AL} (hm : x.many = true) (hy : argMay x = true) (hu : u.may = true) (h4 : ¬ u.t = 4) (hl : l = [sgl u, x]) (hr : matchR (sgl u) x = r) (hTab : Tab w) (hv : ArgsC w v l) : Calls Tryz.prog 27 #[.string ⟨#[77, 65, 84, 67, 72]⟩, v, .int .i64 0] w fun e w' => e = .returned (.agg #[.int .i64 (r).t, .int .i64 (r).n, .string (r).s, .bool (r).b, .int .i64 (r).c]) ∧ Below w.heap.size w w' := by
  subst hl
  subst hr
  obtain ⟨m1, m2, m3⟩ := may_parts hm hy
  exact lacall_any (name := ⟨#[77, 65, 84, 67, 72]⟩) (l := [sgl u, x]) (text := 0) (by decide) (by simp) (by omega) (by simp only [List.all_cons, List.all_nil, Bool.and_true, hy, sgl_may hu]) (by rw [show ([sgl u, x].map fun x => x.many) = [false, true] by simp [hm, sgl]]; decide +kernel) (by intro z hz; simp at hz; rcases hz with rfl | rfl; exact h4; omega) (ata_MATCH (sgl u) x m1 m3 0) hTab hv
/-- MATCH of a fault is that fault -/
theorem kp_MATCH4 {w : World} {v : Value} {x : AL} {u : VL} {l : List AL} (hm : x.many = true) (hy : argMay x = true) (hu : u.may = true) (h4 : u.t = 4) (hl : l = [sgl u, x]) (hTab : Tab w) (hv : ArgsC w v l) : Calls Tryz.prog 27 #[.string ⟨#[77, 65, 84, 67, 72]⟩, v, .int .i64 0] w fun e w' => e = .returned (.agg #[.int .i64 (u).t, .int .i64 (u).n, .string (u).s, .bool (u).b, .int .i64 (u).c]) ∧ Below w.heap.size w w' := by
  subst hl
  obtain ⟨A, cap, rfl, hcap, hR, hin⟩ := hv
  have hc : callA ⟨#[77, 65, 84, 67, 72]⟩ [sgl u, x] 0 v0 = u := by
    unfold callA
    rw [if_neg (by omega), show [sgl u, x].all argMay = true by simp only [List.all_cons, List.all_nil, Bool.and_true, hy, sgl_may hu], if_neg (by simp), show takesA ⟨#[77, 65, 84, 67, 72]⟩ ([sgl u, x].map fun x => x.many) = true by rw [show ([sgl u, x].map fun x => x.many) = [false, true] by simp [hm, sgl]]; decide +kernel, if_neg (by simp)]
    unfold callAS
    rw [List.find?_cons_of_pos (by show decide (u.t = 4) = true; simp [h4])]
    rfl
  have h := acall_any ⟨#[77, 65, 84, 67, 72]⟩ (by decide) [sgl u, x] (by simp) 0 (by omega) v0 (mays_any _) (fun _ _ hn => absurd h4 (hn (sgl u) (by simp))) w hTab A cap hcap hR hin
  rw [hc] at h
  exact h
theorem kp_LOOKUP {w : World} {v : Value} {x : AL} {u : VL} {i : Nat} {l : List AL} (hm : x.many = true) (hy : argMay x = true) (hu : u.may = true) (h4 : ¬ u.t = 4) (hl : l = [sgl u, x, x]) (hn : rowsL x = 1 ∨ colsL x = 1) (hF : FirstL x u i) (hTab : Tab w) (hv : ArgsC w v l) : Calls Tryz.prog 27 #[.string ⟨#[76, 79, 79, 75, 85, 80]⟩, v, .int .i64 0] w fun e w' => e = .returned (.agg #[.int .i64 (u).t, .int .i64 (u).n, .string (u).s, .bool (u).b, .int .i64 (u).c]) ∧ Below w.heap.size w w' := by
  subst hl
  obtain ⟨m1, m2, m3⟩ := may_parts hm hy
  have h := lacall_any (name := ⟨#[76, 79, 79, 75, 85, 80]⟩) (l := [sgl u, x, x]) (text := 0) (by decide) (by simp) (by omega) (by simp only [List.all_cons, List.all_nil, Bool.and_true, hy, sgl_may hu]) (by rw [show ([sgl u, x, x].map fun x => x.many) = [false, true, true] by simp [hm, sgl]]; decide +kernel) (by intro z hz; simp at hz; rcases hz with rfl | rfl; exact h4; omega) (ata_LOOKUP (sgl u) x x m1 m3 m1 m3 0) hTab hv
  rw [lookup_line hn hF] at h
  exact h
end Go.Proofs.YtaomlgpakbjegaaGreatDoor
