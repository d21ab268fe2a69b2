/-
  the law AggsPlaces: for any argument.
-/
import Derived.Test.YtaomlgpakbjegaaGreatDoorRows
import Derived.Test.YtaomlgpakbjegaaGreatDoorBase
import Derived.Test.YtaomlgpakbjegaaGreatDoorRowB
import Derived.Test.YtaomlgpakbjegaaGreatDoorMg4
import Derived.Test.YtaomlgpakbjegaaGreatDoorValA
import Derived.Test.YtaomlgpakbjegaaGreatDoorValB
import Derived.Test.YtaomlgpakbjegaaGreatDoorValC
import Derived.Test.YtaomlgpakbjegaaGreatDoorAddrC
import Derived.Test.YtaomlgpakbjegaaGreatDoorAddrI
import Derived.Test.YtaomlgpakbjegaaGreatDoorMapK
import Derived.Test.YtaomlgpakbjegaaGreatDoorArgK
import Derived.Test.YtaomlgpakbjegaaGreatDoorAArg
import Derived.Test.YtaomlgpakbjegaaGreatDoorProg
import Derived.Test.YtaomlgpakbjegaaGreatDoorShelfB
import Derived.Test.YtaomlgpakbjegaaGreatDoorDFlo
import Derived.Test.YtaomlgpakbjegaaGreatDoorMg1
import Derived.Test.YtaomlgpakbjegaaGreatDoorMg15
import Derived.Test.YtaomlgpakbjegaaGreatDoorValL
import Derived.Test.YtaomlgpakbjegaaGreatDoorNCallK
import Derived.Test.YtaomlgpakbjegaaGreatDoorAItm
import Derived.Test.YtaomlgpakbjegaaGreatDoorAAmo
import Derived.Test.YtaomlgpakbjegaaGreatDoorASum
import Derived.Test.YtaomlgpakbjegaaGreatDoorAFind
import Derived.Test.YtaomlgpakbjegaaGreatDoorACall
import Derived.Test.YtaomlgpakbjegaaGreatDoorACallB
import Derived.Test.YtaomlgpakbjegaaGreatDoorANum
import Derived.Test.YtaomlgpakbjegaaGreatDoorAInt
import Derived.Test.YtaomlgpakbjegaaGreatDoorALar
import Derived.Test.YtaomlgpakbjegaaGreatDoorACol
import Derived.Test.YtaomlgpakbjegaaGreatDoorAAt
import Derived.Test.YtaomlgpakbjegaaGreatDoorACnt
import Derived.Test.YtaomlgpakbjegaaGreatDoorACif
import Derived.Test.YtaomlgpakbjegaaGreatDoorMg31
import Derived.Test.YtaomlgpakbjegaaGreatDoorAKn
import Derived.Test.YtaomlgpakbjegaaGreatDoorAPlc
import Derived.Test.YtaomlgpakbjegaaGreatDoorAHld
import Derived.Test.YtaomlgpakbjegaaGreatDoorAIdx
import Derived.Test.YtaomlgpakbjegaaGreatDoorAAlk
import Derived.Test.YtaomlgpakbjegaaGreatDoorALku
import Derived.Test.YtaomlgpakbjegaaGreatDoorALkv
import Derived.Test.YtaomlgpakbjegaaGreatDoorAAtP
import Derived.Test.YtaomlgpakbjegaaGreatDoorMg40
import Derived.Test.YtaomlgpakbjegaaGreatDoorAPlM
import Derived.Test.YtaomlgpakbjegaaGreatDoorRArgK
import Derived.Test.YtaomlgpakbjegaaGreatDoorRArgM
import Derived.Test.YtaomlgpakbjegaaGreatDoorR8D
import Derived.Test.YtaomlgpakbjegaaGreatDoorLPla
import Derived.WalkSpells
import Derived.WalkLawsBesides
import Derived.StillTactics
import Derived.Laws.Pointers
import Derived.Deep.RegionHeld3
import Derived.Deep.QuietTactic
import Derived.BigQuiet
import Derived.RowKit3
import Derived.Lib.Hide
import Derived.Lib.OthersKept
import Derived.OwnWalk
import Derived.Lib.IndexLaws
import Derived.Lib.ItoaMem
import Derived.WalkKit
import Derived.ProofKit
import Derived.OpenShut
import Derived.Carry
import Derived.ChangeSame
import Derived.Deep.Draws
import Derived.Maps.OwnSet
import Derived.Maps.AppendAt
import Derived.Shelf.SlGeneric
import Derived.Shelf.SortM.Plain
import Derived.Shelf.SortM.SortNone
import Derived.Ground.SlgmProg
import Derived.Laws.EntriesVeiled
import Derived.Laws.BitsAllLaws
import Derived.Shelf.Strings.Builder1
import Derived.Shelf.Strings.Builder2
import Derived.Shelf.Strings.OnBuilder
import Derived.Shelf.Strings.Trim
import Derived.Shelf.Small.Utf8
import Derived.Shelf.Small.Bits
import Derived.Shelf.Small.Strs
import Derived.Shelf.Small.Wraps
import Derived.Shelf.Strings.BuilderF
import Derived.Shelf.Strings.BuilderK
import Derived.Shelf.Strconv.Itoa0
import Derived.Shelf.Strconv.Itoa1
import Derived.Shelf.LaysM
import Derived.Shelf.Strconv.Itoa2
import Derived.Ground.MpProg
import Derived.Shelf.Pu.ParseUintPublic10
import Derived.Shelf.Strings.Search1
import Derived.Shelf.Strings.Search2
import Derived.Shelf.Strings.Search3
import Derived.Shelf.Strings.Cut
import Derived.Shelf.Strings.Shaped
import Derived.Shelf.Strings.Prefix
import Derived.Shelf.Strings.Runes
import Derived.Shelf.Strings.AsciiSet
import Derived.Shelf.Bits.Mul64
import Derived.Shelf.Strings.Repeat
import Derived.Shelf.Unicode.DecodeSlow
import Derived.Lib.TrimByte
import Derived.Lib.Bytealg
import Derived.Lib.SlTrimSet
import Derived.Lib.ParseIntB
import Derived.Shelf.Strings.SlTrimAscii
import Derived.Lib.SmallJoins
import Derived.Deep.RegionWith
import Derived.Laws.Externs
import Derived.IntWalk
import Derived.Sort.OwnSorted
import Derived.Sort.OwnSortedInts
import Derived.Deep.AppendLies
import Derived.Deep.RegionLaw
import Derived.Outline
import Derived.Deep.CutRange
import Derived.Deep.CutBlock
import Derived.RangeFuncBox
import Derived.RangeFuncLeaves
import Derived.Shelf.Abstract
import Derived.OwnWalkIn
import Derived.TacticsInMore
import Derived.LoopNIn
import Derived.LoopIn
import Derived.Lib.Slices
import Derived.Lib.MinMax
namespace Go.Proofs.YtaomlgpakbjegaaGreatDoor
open Go.RowKit

theorem walk_AggsPlaces (x : AL) (which : Int) (w : World) (ht : Tab w) (hin : x.In w w.heap.size) : Calls Tryz.prog 14 #[.agg #[.bool x.many, .int .i64 x.v.t, .int .i64 x.v.n, .string x.v.s, .bool x.v.b, .int .i64 x.v.c, .int .i64 x.t, .int .i64 x.l, .int .i64 x.b, .int .i64 x.r, .slice x.A x.es.length x.cap], .int .i64 which] w fun e w' => e = .returned (.bool true) ∧ Below w.heap.size w w' := by
  cases hmm : x.many
  · have h := wpla_no x which w ht hmm
    rwa [hmm] at h
  · obtain ⟨mm, v, rt, rl, rb, rr, A, cap, es⟩ := x
    obtain rfl : mm = true := hmm
    cases hy : argMay (⟨true, v, rt, rl, rb, rr, A, cap, es⟩ : AL)
    · exact wpla_bad v rt rl rb rr A cap es which w ht hin hy
    · by_cases hes : es = []
      · subst hes
        exact wpla_none v rt rl rb rr A cap which w ht hin hy
      · have hn : 0 < es.length := List.length_pos_iff.2 hes
        obtain ⟨m1, m2, m3⟩ := may_parts (x := (⟨true, v, rt, rl, rb, rr, A, cap, es⟩ : AL)) rfl hy
        obtain ⟨r, hr⟩ : ∃ r, which.tmod (es.length : Int) = r := ⟨_, rfl⟩
        have hrb := tmod_lt which (es.length : Int) (by omega)
        rw [hr, Int.natAbs_natCast] at hrb
        obtain ⟨K, hK⟩ : ∃ K : Nat, (if r < 0 then r + (es.length : Int) else r) = (K : Int) := ⟨(if r < 0 then r + (es.length : Int) else r).toNat, by split <;> omega⟩
        have hKn : K < es.length := by
          split at hK <;> omega
        obtain ⟨d, hd⟩ : ∃ d, es[K]? = some d := ⟨_, List.getElem?_eq_getElem hKn⟩
        obtain ⟨t1, hu, -⟩ := ent_parts m3 K d hd
        obtain ⟨p1, p2, p3, p4, p5, p6⟩ := rect_in m1
        dsimp only at p1 p2 p3 p4 p5 p6
        have yes := wpla_yes v rt rl rb rr A cap es which w ht hin hy r hr K hK d hd
        by_cases h4 : d.v.t = 4
        · exact yes d.v (fun w' v' l hl h1 h2 => kp_MATCH4 rfl hy hu h4 hl h1 h2) (Or.inl ⟨h4, rfl⟩)
        · by_cases hl : rt = rb ∨ rl = rr
          · have hln : rowsL (⟨true, v, rt, rl, rb, rr, A, cap, es⟩ : AL) = 1 ∨ colsL (⟨true, v, rt, rl, rb, rr, A, cap, es⟩ : AL) = 1 := by
              rcases hl with h | h
              · left; unfold rowsL; dsimp only; omega
              · right; unfold colsL; dsimp only; omega
            obtain ⟨i, hF, hi, c1, c2⟩ := first_of m3 hln hd
            have hii : i ≤ 17179869184 := by
              have := hF.lt
              have hR : rowsL (⟨true, v, rt, rl, rb, rr, A, cap, es⟩ : AL) ≤ 1048576 := by unfold rowsL; dsimp only; omega
              have hC : colsL (⟨true, v, rt, rl, rb, rr, A, cap, es⟩ : AL) ≤ 16384 := by unfold colsL; dsimp only; omega
              have hC0 : 0 ≤ colsL (⟨true, v, rt, rl, rb, rr, A, cap, es⟩ : AL) := by unfold colsL; dsimp only; omega
              have hm := Int.mul_le_mul hR hC hC0 (by omega)
              omega
            exact yes ⟨1, ((i : Int) + 1) * 10000, ⟨#[]⟩, false, 0⟩ (fun w' v' l hl2 h1 h2 => kp_MATCH rfl hy hu h4 hl2 (match_line hln hF hii) h1 h2) (Or.inr (Or.inr ⟨h4, hl, i, hF, rfl, hi, c1, c2⟩))
          · have hR : 1 < rowsL (⟨true, v, rt, rl, rb, rr, A, cap, es⟩ : AL) := by unfold rowsL; dsimp only; omega
            have hC : 1 < colsL (⟨true, v, rt, rl, rb, rr, A, cap, es⟩ : AL) := by unfold colsL; dsimp only; omega
            exact yes (errL 8) (fun w' v' l hl2 h1 h2 => kp_MATCH rfl hy hu h4 hl2 (match_no hR hC) h1 h2) (Or.inr (Or.inl ⟨h4, fun e => hl (Or.inl e), fun e => hl (Or.inr e), rfl⟩))
end Go.Proofs.YtaomlgpakbjegaaGreatDoor
