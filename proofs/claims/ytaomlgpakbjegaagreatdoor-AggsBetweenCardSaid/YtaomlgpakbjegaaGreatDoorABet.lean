/-
  aggs: calls at a column of some numbers.
-/
import Derived.Test.YtaomlgpakbjegaaGreatDoorProg
import Derived.Test.YtaomlgpakbjegaaGreatDoorMg3
import Derived.Test.YtaomlgpakbjegaaGreatDoorRows
import Derived.Test.YtaomlgpakbjegaaGreatDoorBase
import Derived.Test.YtaomlgpakbjegaaGreatDoorRowB
import Derived.Test.YtaomlgpakbjegaaGreatDoorMg5
import Derived.Test.YtaomlgpakbjegaaGreatDoorValA
import Derived.Test.YtaomlgpakbjegaaGreatDoorValB
import Derived.Test.YtaomlgpakbjegaaGreatDoorValC
import Derived.Test.YtaomlgpakbjegaaGreatDoorAddrC
import Derived.Test.YtaomlgpakbjegaaGreatDoorMg10
import Derived.Test.YtaomlgpakbjegaaGreatDoorMapK
import Derived.Test.YtaomlgpakbjegaaGreatDoorShelf
import Derived.Test.YtaomlgpakbjegaaGreatDoorMg2
import Derived.Test.YtaomlgpakbjegaaGreatDoorMg12
import Derived.Test.YtaomlgpakbjegaaGreatDoorDPrint
import Derived.Test.YtaomlgpakbjegaaGreatDoorRPr
import Derived.Test.YtaomlgpakbjegaaGreatDoorKnuth
import Derived.Test.YtaomlgpakbjegaaGreatDoorDDiv
import Derived.Test.YtaomlgpakbjegaaGreatDoorDDig
import Derived.Test.YtaomlgpakbjegaaGreatDoorCutW
import Derived.Test.YtaomlgpakbjegaaGreatDoorDParse
import Derived.Test.YtaomlgpakbjegaaGreatDoorDecK
import Derived.Test.YtaomlgpakbjegaaGreatDoorDDivA
import Derived.Test.YtaomlgpakbjegaaGreatDoorValD
import Derived.Test.YtaomlgpakbjegaaGreatDoorMg23
import Derived.Test.YtaomlgpakbjegaaGreatDoorValL
import Derived.Test.YtaomlgpakbjegaaGreatDoorMg25
import Derived.Test.YtaomlgpakbjegaaGreatDoorAItm
import Derived.Test.YtaomlgpakbjegaaGreatDoorAAmo
import Derived.Test.YtaomlgpakbjegaaGreatDoorASum
import Derived.Test.YtaomlgpakbjegaaGreatDoorAFind
import Derived.Test.YtaomlgpakbjegaaGreatDoorACall
import Derived.Test.YtaomlgpakbjegaaGreatDoorACallB
import Derived.Test.YtaomlgpakbjegaaGreatDoorANum
import Derived.Test.YtaomlgpakbjegaaGreatDoorAVal
import Derived.Test.YtaomlgpakbjegaaGreatDoorALar
import Derived.Test.YtaomlgpakbjegaaGreatDoorAPlB
import Derived.Test.YtaomlgpakbjegaaGreatDoorAMea
import Derived.Test.YtaomlgpakbjegaaGreatDoorASom
import Derived.Test.YtaomlgpakbjegaaGreatDoorAArg
import Derived.Test.YtaomlgpakbjegaaGreatDoorACol
import Derived.Test.YtaomlgpakbjegaaGreatDoorMg40
import Derived.Test.YtaomlgpakbjegaaGreatDoorACnt
import Derived.Test.YtaomlgpakbjegaaGreatDoorACif
import Derived.Test.YtaomlgpakbjegaaGreatDoorAClo
import Derived.Test.YtaomlgpakbjegaaGreatDoorAKn
import Derived.Test.YtaomlgpakbjegaaGreatDoorAAtB
import Derived.WalkSpells
import Derived.WalkLawsBesides
import Derived.StillTactics
import Derived.Laws.Pointers
import Derived.Deep.RegionHeld3
import Derived.Deep.QuietTactic
import Derived.BigQuiet
import Derived.RowKit3
import Derived.Lib.Hide
import Derived.Lib.OthersKept
import Derived.OwnWalk
import Derived.Lib.IndexLaws
import Derived.Lib.ItoaMem
import Derived.Shelf.SlGeneric
import Derived.Shelf.SortM.Plain
import Derived.Shelf.SortM.SortNone
import Derived.Ground.SlgmProg
import Derived.WalkKit
import Derived.ProofKit
import Derived.OpenShut
import Derived.Carry
import Derived.ChangeSame
import Derived.Deep.Draws
import Derived.Maps.OwnSet
import Derived.Maps.AppendAt
import Derived.Laws.EntriesVeiled
import Derived.Laws.BitsAllLaws
import Derived.Shelf.Strings.Builder1
import Derived.Shelf.Strings.Builder2
import Derived.Shelf.Strings.OnBuilder
import Derived.Shelf.Strings.Trim
import Derived.Shelf.Small.Utf8
import Derived.Shelf.Small.Bits
import Derived.Shelf.Small.Strs
import Derived.Shelf.Small.Wraps
import Derived.Shelf.Strings.BuilderF
import Derived.Shelf.Strings.BuilderK
import Derived.Shelf.Strconv.Itoa0
import Derived.Shelf.Strconv.Itoa1
import Derived.Shelf.LaysM
import Derived.Shelf.Strconv.Itoa2
import Derived.Ground.MpProg
import Derived.Shelf.Pu.ParseUintPublic10
import Derived.Shelf.Strings.Search1
import Derived.Shelf.Strings.Search2
import Derived.Shelf.Strings.Search3
import Derived.Shelf.Strings.Cut
import Derived.Shelf.Strings.Shaped
import Derived.Shelf.Strings.Prefix
import Derived.Shelf.Strings.Runes
import Derived.Shelf.Strings.AsciiSet
import Derived.Shelf.Bits.Mul64
import Derived.Shelf.Strings.Repeat
import Derived.Shelf.Unicode.DecodeSlow
import Derived.Lib.TrimByte
import Derived.Lib.Bytealg
import Derived.Lib.SlTrimSet
import Derived.Lib.ParseIntB
import Derived.Shelf.Strings.SlTrimAscii
import Derived.Lib.SmallJoins
import Derived.Deep.RegionWith
import Derived.Laws.Externs
import Derived.IntWalk
import Derived.Sort.OwnSorted
import Derived.Sort.OwnSortedInts
import Derived.RangeFuncBox
import Derived.RangeFuncLeaves
import Derived.Shelf.Abstract
import Derived.OwnWalkIn
import Derived.TacticsInMore
import Derived.LoopNIn
import Derived.LoopIn
import Derived.Lib.Slices
import Derived.Lib.MinMax
import Derived.Deep.AppendLies
import Derived.Deep.RegionLaw
namespace Go.Proofs.YtaomlgpakbjegaaGreatDoor
open Go.RowKit

theorem okN_in (x : Int) (hx : -9223372036854775808 ≤ x ∧ x ≤ 9223372036854775807) : -9223372036854775807 ≤ okN x ∧ okN x ≤ 9223372036854775807 := by
  unfold okN; split <;> omega
theorem okN_same {x : Int} (hx : x ≠ -9223372036854775808) : okN x = x := by unfold okN; rw [if_neg hx]
theorem colE_at {l : List Int} {k : Nat} {e : EL} (he : (colE l)[k]? = some e) : ∃ x, l[k]? = some x ∧ e = ⟨(k : Int) + 1, 1, ⟨1, okN x, ⟨#[]⟩, false, 0⟩⟩ := by
  unfold colE at he
  rw [List.getElem?_mapIdx] at he
  cases hx : l[k]? with
  | none => rw [hx] at he; cases he
  | some x => rw [hx] at he; exact ⟨x, rfl, by cases he; rfl⟩
theorem numV_may {x : Int} (h : x ≠ -9223372036854775808) : VL.may ⟨1, x, ⟨#[]⟩, false, 0⟩ = true := by
  unfold VL.may vMay
  simp [h]
theorem okN_ne (x : Int) : okN x ≠ -9223372036854775808 := by unfold okN; split <;> omega
theorem col_may {l : List Int} (h0 : l ≠ []) (h : l.length ≤ 4096) (A : Option Addr) (cap : Nat) : argMay (colA l A cap) = true := by
  have hn : 0 < l.length := List.length_pos_iff.2 h0
  unfold argMay
  rw [if_pos (show (colA l A cap).many = true from rfl)]
  have h1 : mayRectB (colA l A cap).t (colA l A cap).l (colA l A cap).b (colA l A cap).r = true := by
    show mayRectB 1 1 (max 1 (l.length : Int)) 1 = true
    unfold mayRectB mayB
    simp
    omega
  have h2 : vZero (colA l A cap).v = true := by show vZero v0 = true; decide +kernel
  have h3 : entsOk (colA l A cap) = true := by
    unfold entsOk
    rw [List.all_eq_true]
    intro k hk
    have hk' := List.mem_range.1 hk
    have hcl : k < l.length := by have : (colA l A cap).es.length = l.length := colE_len l; omega
    obtain ⟨e, he⟩ : ∃ e, (colE l)[k]? = some e := ⟨_, List.getElem?_eq_getElem (by rw [colE_len]; exact hcl)⟩
    obtain ⟨x, hx, rfl⟩ := colE_at he
    unfold entOk
    rw [show (colA l A cap).es[k]? = _ from he]
    simp only [Bool.and_eq_true]
    refine ⟨⟨?_, numV_may (okN_ne x)⟩, ?_⟩
    · show inB 1 1 (max 1 (l.length : Int)) 1 ((k : Int) + 1) 1 = true
      unfold inB
      simp
      omega
    · cases k with
      | zero => rfl
      | succ j =>
        simp only
        obtain ⟨d, hd⟩ : ∃ d, (colE l)[j]? = some d := ⟨_, List.getElem?_eq_getElem (by rw [colE_len]; omega)⟩
        obtain ⟨y, hy, rfl⟩ := colE_at hd
        rw [show (colA l A cap).es[j]? = _ from hd]
        show befB ((j : Int) + 1) 1 (((j + 1 : Nat) : Int) + 1) 1 = true
        unfold befB
        simp
        omega
  rw [h1, h2, h3]; rfl
theorem col_nums (l : List Int) (A : Option Addr) (cap : Nat) : numsL (itemsL [colA l A cap]) = l.map okN := by
  rw [itemsX_col]
  unfold numsL
  rw [List.filterMap_map]
  induction l with
  | nil => rfl
  | cons x l ih => simp only [List.filterMap_cons, List.map_cons]; simp [Function.comp] at ih ⊢; exact ih
theorem col_find (l : List Int) (A : Option Addr) (cap : Nat) : (itemsL [colA l A cap]).find? (fun v => decide (v.t = 4)) = none := by
  rw [itemsX_col, List.find?_eq_none]
  intro v hv
  obtain ⟨x, _, rfl⟩ := List.mem_map.1 hv
  simp
theorem col_fault (l : List Int) (A : Option Addr) (cap : Nat) (r : VL) : faultR (itemsL [colA l A cap]) r = r := by
  unfold faultR; rw [col_find]
theorem col_count (l : List Int) (A : Option Addr) (cap : Nat) : (itemsL [colA l A cap]).countP (fun v => decide (v.t = 1)) = l.length := by
  rw [itemsX_col, List.countP_map, List.countP_eq_length.2 (by intro x _; simp)]
theorem col_len (l : List Int) (A : Option Addr) (cap : Nat) : (itemsL [colA l A cap]).length = l.length := by rw [itemsX_col, List.length_map]
theorem numA_int {k : Nat} (h : 1 ≤ k ∧ k ≤ 100000) : intC (numA ((k : Int) * 10000)).v = 0 ∧ intV (numA ((k : Int) * 10000)).v = (k : Int) := by
  have hm : VL.may (numA ((k : Int) * 10000)).v = true := numV_may (by omega)
  have h1 : (numA ((k : Int) * 10000)).v.asC = 0 := by unfold VL.asC; rw [if_pos hm]; rfl
  have h2 : (numA ((k : Int) * 10000)).v.asN = (k : Int) * 10000 := by unfold VL.asN; rw [if_pos hm]; rfl
  have h3 : ((k : Int) * 10000).tmod 10000 = 0 := by rw [Int.tmod_eq_emod_of_nonneg (by omega)]; omega
  have h4 : ((k : Int) * 10000).tdiv 10000 = (k : Int) := by rw [Int.tdiv_eq_ediv_of_nonneg (by omega)]; omega
  have h5 : wholeB ((k : Int) * 10000) = true := by unfold wholeB; rw [h3]; simp; omega
  have h6 : wholeV ((k : Int) * 10000) = (k : Int) := by unfold wholeV; rw [h3, h4, if_pos ⟨by omega, rfl⟩]
  unfold intC intV
  rw [h1, h2, h5, h6]
  simp
theorem col_large {l : List Int} (A : Option Addr) (cap : Nat) {k : Nat} (h : 1 ≤ k ∧ k ≤ l.length) (hl : l.length ≤ 60) : largeR (colA l A cap) (numA ((k : Int) * 10000)) = numL ((sortL (l.map okN)).getD (l.length - k) 0) := by
  obtain ⟨h1, h2⟩ := numA_int (k := k) (by omega)
  unfold largeR
  rw [h1, if_pos rfl, h2, col_fault, col_nums]
  unfold kthL
  rw [if_neg (by rw [List.length_map]; omega)]
  show numL ((sortL (l.map okN)).getD ((l.map okN).length - (k : Int).toNat) 0) = _
  rw [List.length_map, Int.toNat_natCast]
theorem numA_may {x : Int} (h : x ≠ -9223372036854775808) : argMay (numA x) = true := by
  unfold argMay
  rw [if_neg (by show ¬ false = true; decide)]
  rw [show (numA x).v.may = true from numV_may h]
  rfl
/-- a call at one rectangle -/
theorem kcol {name : ByteArray} {r : VL} {y : Int} (x : AL) (hs : name.size ≤ 16) (hm : x.many = true) (hy : argMay x = true) (ht : takesA name [true] = true) (hD : DoA name [x] 0 r) (hr : r = ⟨1, y, ⟨#[]⟩, false, 0⟩) {w : World} {v : Value} (hTab : Tab w) (hv : ArgsC w v [x]) : Calls Tryz.prog 27 #[.string name, v, .int .i64 0] w fun e w' => e = .returned (.agg #[.int .i64 1, .int .i64 y, .string ⟨#[]⟩, .bool false, .int .i64 0]) ∧ Below w.heap.size w w' := by
  obtain ⟨m1, m2, m3⟩ := may_parts hm hy
  have h := lacall_any (name := name) (text := 0) hs (by simp) (by omega) (by simp [hy]) (by rw [show ([x].map fun x => x.many) = [true] by simp [hm]]; exact ht) (by intro z hz; simp at hz; subst hz; omega) hD hTab hv
  rw [hr] at h
  exact h
theorem kcol_LARGE {l : List Int} {A : Option Addr} {cap : Nat} {k : Nat} {y : Int} (h0 : l ≠ []) (hl : l.length ≤ 60) (hk : 1 ≤ k ∧ k ≤ l.length) (hy : (sortL (l.map okN)).getD (l.length - k) 0 = y) (hyn : y ≠ -9223372036854775808) {w : World} {v : Value} (hTab : Tab w) (hv : ArgsC w v [colA l A cap, numA ((k : Int) * 10000)]) : Calls Tryz.prog 27 #[.string ⟨#[76, 65, 82, 71, 69]⟩, v, .int .i64 0] w fun e w' => e = .returned (.agg #[.int .i64 1, .int .i64 y, .string ⟨#[]⟩, .bool false, .int .i64 0]) ∧ Below w.heap.size w w' := by
  have hm := col_may h0 (by omega) A cap
  obtain ⟨m1, m2, m3⟩ := may_parts rfl hm
  have h := lacall_any (name := ⟨#[76, 65, 82, 71, 69]⟩) (l := [colA l A cap, numA ((k : Int) * 10000)]) (text := 0) (by decide) (by simp) (by omega) (by simp only [List.all_cons, List.all_nil, Bool.and_true, hm, Bool.true_and]; exact numA_may (by omega)) (by rw [show ([colA l A cap, numA ((k : Int) * 10000)].map fun x => x.many) = [true, false] from rfl]; decide +kernel) (by intro z hz; simp at hz; rcases hz with rfl | rfl; omega; show ¬ (1 : Int) = 4; omega) (ata_LARGE (colA l A cap) (numA ((k : Int) * 10000)) (by rw [col_len]; omega) 0) hTab hv
  rw [col_large A cap hk hl, hy, numL_form hyn] at h
  exact h
/-- what the calls at a column answer -/
structure BetL (l : List Int) (mn mx md mw : Int) : Prop where
  min_ : Lib.minOf (l.map okN) = mn
  max_ : Lib.maxOf (l.map okN) = mx
  med : medianL (l.map okN) = md
  mean : meanL (l.map okN) = mw
  a1 : mn ≤ md ∧ md ≤ mx ∧ mn ≤ mw ∧ mw ≤ mx
  a2 : -9223372036854775807 ≤ mn ∧ mx ≤ 9223372036854775807
theorem bet_of {l : List Int} (h0 : l ≠ []) (hl : ∀ x ∈ l, -9223372036854775808 ≤ x ∧ x ≤ 9223372036854775807) : ∃ mn mx md mw, BetL l mn mx md mw := by
  have hm0 : l.map okN ≠ [] := by simpa using h0
  have hb : ∀ y ∈ l.map okN, -9223372036854775807 ≤ y ∧ y ≤ 9223372036854775807 := by
    intro y hy
    obtain ⟨x, hx, rfl⟩ := List.mem_map.1 hy
    exact okN_in x (hl x hx)
  obtain ⟨i1, i2⟩ := minOf_is hm0
  obtain ⟨j1, j2⟩ := maxOf_is hm0
  exact ⟨_, _, _, _, ⟨rfl, rfl, rfl, rfl, ⟨le_medianL hm0 i2, medianL_le hm0 j2, le_meanL hm0 i2, meanL_le hm0 j2⟩, (hb _ i1).1, (hb _ j1).2⟩⟩
theorem some_form {l : List Int} (h0 : l ≠ []) {r y : Int} (hr : r = y) (hy : y ≠ -9223372036854775808) (A : Option Addr) (cap : Nat) : faultR (itemsL [colA l A cap]) (someR (numsL (itemsL [colA l A cap])) r) = ⟨1, y, ⟨#[]⟩, false, 0⟩ := by
  rw [col_fault, col_nums]
  unfold someR
  rw [if_neg (by simpa using h0), hr, numL_form hy]
end Go.Proofs.YtaomlgpakbjegaaGreatDoor
