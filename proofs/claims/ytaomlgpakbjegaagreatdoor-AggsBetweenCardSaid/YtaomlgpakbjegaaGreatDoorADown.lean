/-
  aggs: the greatest ones, going down; SUM at a column.
-/
import Derived.Test.YtaomlgpakbjegaaGreatDoorProg
import Derived.Test.YtaomlgpakbjegaaGreatDoorMg3
import Derived.Test.YtaomlgpakbjegaaGreatDoorRows
import Derived.Test.YtaomlgpakbjegaaGreatDoorBase
import Derived.Test.YtaomlgpakbjegaaGreatDoorRowB
import Derived.Test.YtaomlgpakbjegaaGreatDoorMg5
import Derived.Test.YtaomlgpakbjegaaGreatDoorValA
import Derived.Test.YtaomlgpakbjegaaGreatDoorValB
import Derived.Test.YtaomlgpakbjegaaGreatDoorValC
import Derived.Test.YtaomlgpakbjegaaGreatDoorAddrC
import Derived.Test.YtaomlgpakbjegaaGreatDoorMg10
import Derived.Test.YtaomlgpakbjegaaGreatDoorMapK
import Derived.Test.YtaomlgpakbjegaaGreatDoorShelf
import Derived.Test.YtaomlgpakbjegaaGreatDoorMg2
import Derived.Test.YtaomlgpakbjegaaGreatDoorMg12
import Derived.Test.YtaomlgpakbjegaaGreatDoorDPrint
import Derived.Test.YtaomlgpakbjegaaGreatDoorRPr
import Derived.Test.YtaomlgpakbjegaaGreatDoorKnuth
import Derived.Test.YtaomlgpakbjegaaGreatDoorDDiv
import Derived.Test.YtaomlgpakbjegaaGreatDoorDDig
import Derived.Test.YtaomlgpakbjegaaGreatDoorCutW
import Derived.Test.YtaomlgpakbjegaaGreatDoorDParse
import Derived.Test.YtaomlgpakbjegaaGreatDoorDecK
import Derived.Test.YtaomlgpakbjegaaGreatDoorDDivA
import Derived.Test.YtaomlgpakbjegaaGreatDoorValD
import Derived.Test.YtaomlgpakbjegaaGreatDoorMg23
import Derived.Test.YtaomlgpakbjegaaGreatDoorValL
import Derived.Test.YtaomlgpakbjegaaGreatDoorMg25
import Derived.Test.YtaomlgpakbjegaaGreatDoorAItm
import Derived.Test.YtaomlgpakbjegaaGreatDoorAAmo
import Derived.Test.YtaomlgpakbjegaaGreatDoorASum
import Derived.Test.YtaomlgpakbjegaaGreatDoorAFind
import Derived.Test.YtaomlgpakbjegaaGreatDoorACall
import Derived.Test.YtaomlgpakbjegaaGreatDoorACallB
import Derived.Test.YtaomlgpakbjegaaGreatDoorANum
import Derived.Test.YtaomlgpakbjegaaGreatDoorAVal
import Derived.Test.YtaomlgpakbjegaaGreatDoorALar
import Derived.Test.YtaomlgpakbjegaaGreatDoorAPlB
import Derived.Test.YtaomlgpakbjegaaGreatDoorAMea
import Derived.Test.YtaomlgpakbjegaaGreatDoorASom
import Derived.Test.YtaomlgpakbjegaaGreatDoorAArg
import Derived.Test.YtaomlgpakbjegaaGreatDoorACol
import Derived.Test.YtaomlgpakbjegaaGreatDoorMg40
import Derived.Test.YtaomlgpakbjegaaGreatDoorACnt
import Derived.Test.YtaomlgpakbjegaaGreatDoorACif
import Derived.Test.YtaomlgpakbjegaaGreatDoorAClo
import Derived.Test.YtaomlgpakbjegaaGreatDoorAKn
import Derived.Test.YtaomlgpakbjegaaGreatDoorAAtB
import Derived.Test.YtaomlgpakbjegaaGreatDoorABet
import Derived.WalkSpells
import Derived.WalkLawsBesides
import Derived.StillTactics
import Derived.Laws.Pointers
import Derived.Deep.RegionHeld3
import Derived.Deep.QuietTactic
import Derived.BigQuiet
import Derived.RowKit3
import Derived.Lib.Hide
import Derived.Lib.OthersKept
import Derived.OwnWalk
import Derived.Lib.IndexLaws
import Derived.Lib.ItoaMem
import Derived.Shelf.SlGeneric
import Derived.Shelf.SortM.Plain
import Derived.Shelf.SortM.SortNone
import Derived.Ground.SlgmProg
import Derived.WalkKit
import Derived.ProofKit
import Derived.OpenShut
import Derived.Carry
import Derived.ChangeSame
import Derived.Deep.Draws
import Derived.Maps.OwnSet
import Derived.Maps.AppendAt
import Derived.Laws.EntriesVeiled
import Derived.Laws.BitsAllLaws
import Derived.Shelf.Strings.Builder1
import Derived.Shelf.Strings.Builder2
import Derived.Shelf.Strings.OnBuilder
import Derived.Shelf.Strings.Trim
import Derived.Shelf.Small.Utf8
import Derived.Shelf.Small.Bits
import Derived.Shelf.Small.Strs
import Derived.Shelf.Small.Wraps
import Derived.Shelf.Strings.BuilderF
import Derived.Shelf.Strings.BuilderK
import Derived.Shelf.Strconv.Itoa0
import Derived.Shelf.Strconv.Itoa1
import Derived.Shelf.LaysM
import Derived.Shelf.Strconv.Itoa2
import Derived.Ground.MpProg
import Derived.Shelf.Pu.ParseUintPublic10
import Derived.Shelf.Strings.Search1
import Derived.Shelf.Strings.Search2
import Derived.Shelf.Strings.Search3
import Derived.Shelf.Strings.Cut
import Derived.Shelf.Strings.Shaped
import Derived.Shelf.Strings.Prefix
import Derived.Shelf.Strings.Runes
import Derived.Shelf.Strings.AsciiSet
import Derived.Shelf.Bits.Mul64
import Derived.Shelf.Strings.Repeat
import Derived.Shelf.Unicode.DecodeSlow
import Derived.Lib.TrimByte
import Derived.Lib.Bytealg
import Derived.Lib.SlTrimSet
import Derived.Lib.ParseIntB
import Derived.Shelf.Strings.SlTrimAscii
import Derived.Lib.SmallJoins
import Derived.Deep.RegionWith
import Derived.Laws.Externs
import Derived.IntWalk
import Derived.Sort.OwnSorted
import Derived.Sort.OwnSortedInts
import Derived.RangeFuncBox
import Derived.RangeFuncLeaves
import Derived.Shelf.Abstract
import Derived.OwnWalkIn
import Derived.TacticsInMore
import Derived.LoopNIn
import Derived.LoopIn
import Derived.Lib.Slices
import Derived.Lib.MinMax
import Derived.Deep.AppendLies
import Derived.Deep.RegionLaw
namespace Go.Proofs.YtaomlgpakbjegaaGreatDoor
open Go.RowKit

/-- the greatest ones, going down -/
structure DownL (l : List Int) (mn mx : Int) (f : Nat → Int) : Prop where
  at_ : ∀ k, 1 ≤ k → k ≤ l.length → (sortL (l.map okN)).getD (l.length - k) 0 = f k
  zero : f 0 = mx
  one : f 1 = mx
  last : f l.length = mn
  le : ∀ k, k < l.length → f (k + 1) ≤ f k
  bd : ∀ k, k ≤ l.length → -9223372036854775807 ≤ f k ∧ f k ≤ 9223372036854775807
  all : (List.range l.length).map (fun j => f (j + 1)) = (sortL (l.map okN)).reverse
theorem down_of {l : List Int} (h0 : l ≠ []) (hl : ∀ x ∈ l, -9223372036854775808 ≤ x ∧ x ≤ 9223372036854775807) {mn mx md mw : Int} (hB : BetL l mn mx md mw) : ∃ f, DownL l mn mx f := by
  have hn : 0 < l.length := List.length_pos_iff.2 h0
  have hm0 : l.map okN ≠ [] := by simpa using h0
  have hlen : (l.map okN).length = l.length := List.length_map _
  have hb : ∀ y ∈ l.map okN, -9223372036854775807 ≤ y ∧ y ≤ 9223372036854775807 := by
    intro y hy
    obtain ⟨x, hx, rfl⟩ := List.mem_map.1 hy
    exact okN_in x (hl x hx)
  have hlast := sortL_last hm0
  have hfirst := sortL_first hm0
  rw [hlen, hB.max_] at hlast
  rw [hB.min_] at hfirst
  have a1 := hB.a1
  have a2 := hB.a2
  have hsl : (sortL (l.map okN)).length = l.length := by rw [sortL_len, hlen]
  refine ⟨fun k => if k = 0 then mx else (sortL (l.map okN)).getD (l.length - k) 0, ⟨?_, ?_, ?_, ?_, ?_, ?_, ?_⟩⟩
  · intro k h1 _; rw [if_neg (by omega)]
  · rfl
  · rw [if_neg (by omega)]; exact hlast
  · rw [if_neg (by omega), Nat.sub_self]; exact hfirst
  · intro k hk
    show (if k + 1 = 0 then mx else _) ≤ (if k = 0 then mx else _)
    rw [if_neg (by omega)]
    by_cases h : k = 0
    · subst h; rw [if_pos rfl, hlast]; omega
    · rw [if_neg h]
      have h9 := sortL_le (l := l.map okN) (i := l.length - (k + 1)) (j := l.length - k) (by omega) (by omega)
      rw [List.getD_eq_getElem?_getD, List.getD_eq_getElem?_getD, List.getElem?_eq_getElem (by omega), List.getElem?_eq_getElem (by omega)]
      exact h9
  · intro k hk
    show _ ≤ (if k = 0 then mx else _) ∧ (if k = 0 then mx else _) ≤ _
    by_cases h : k = 0
    · subst h; rw [if_pos rfl]; omega
    · rw [if_neg h]
      exact hb _ (sortL_getD_mem (by omega))
  · rw [← sortL_down, hlen]
    apply List.map_congr_left
    intro j _
    rw [if_neg (by omega)]
theorem down_sum {l : List Int} {mn mx : Int} {f : Nat → Int} (h : DownL l mn mx f) : (((List.range l.length).map fun j => f (j + 1)).map okN).sum = (l.map okN).sum := by
  have e : (((List.range l.length).map fun j => f (j + 1)).map okN) = (List.range l.length).map fun j => f (j + 1) := by
    rw [List.map_map]
    apply List.map_congr_left
    intro j hj
    have := h.bd (j + 1) (by have := List.mem_range.1 hj; omega)
    show okN (f (j + 1)) = f (j + 1)
    exact okN_same (by omega)
  rw [e, h.all]
  exact sum_perm ((List.reverse_perm _).trans (List.mergeSort_perm _ _))
/-- SUM at a column -/
theorem kcol_SUM {l : List Int} {A : Option Addr} {cap : Nat} {r : VL} (h0 : l ≠ []) (hl : l.length ≤ 4096) (hr : fitL (l.map okN).sum = r) {w : World} {v : Value} (hTab : Tab w) (hv : ArgsC w v [colA l A cap]) : Calls Tryz.prog 27 #[.string ⟨#[83, 85, 77]⟩, v, .int .i64 0] w fun e w' => e = .returned (.agg #[.int .i64 (r).t, .int .i64 (r).n, .string (r).s, .bool (r).b, .int .i64 (r).c]) ∧ Below w.heap.size w w' := by
  have hm := col_may h0 hl A cap
  have h := lacall_any (name := ⟨#[83, 85, 77]⟩) (l := [colA l A cap]) (text := 0) (by decide) (by simp) (by omega) (by simp [hm]) (by rw [show ([colA l A cap].map fun x => x.many) = [true] from rfl]; decide +kernel) (by intro z hz; simp at hz; subst hz; show ¬ (0 : Int) = 4; omega) (ata_SUM [colA l A cap] (by simp) (by rw [col_len]; omega) 0) hTab hv
  rw [col_fault, col_nums, hr] at h
  exact h
end Go.Proofs.YtaomlgpakbjegaaGreatDoor
