/-
  the law AggsCounts: for any argument.
-/
import Derived.Test.YtaomlgpakbjegaaGreatDoorRows
import Derived.Test.YtaomlgpakbjegaaGreatDoorBase
import Derived.Test.YtaomlgpakbjegaaGreatDoorRowB
import Derived.Test.YtaomlgpakbjegaaGreatDoorDecA
import Derived.Test.YtaomlgpakbjegaaGreatDoorValA
import Derived.Test.YtaomlgpakbjegaaGreatDoorValB
import Derived.Test.YtaomlgpakbjegaaGreatDoorMg8
import Derived.Test.YtaomlgpakbjegaaGreatDoorValC
import Derived.Test.YtaomlgpakbjegaaGreatDoorAddrC
import Derived.Test.YtaomlgpakbjegaaGreatDoorAddrI
import Derived.Test.YtaomlgpakbjegaaGreatDoorMapK
import Derived.Test.YtaomlgpakbjegaaGreatDoorMg13
import Derived.Test.YtaomlgpakbjegaaGreatDoorAArg
import Derived.Test.YtaomlgpakbjegaaGreatDoorProg
import Derived.Test.YtaomlgpakbjegaaGreatDoorShelfB
import Derived.Test.YtaomlgpakbjegaaGreatDoorDFlo
import Derived.Test.YtaomlgpakbjegaaGreatDoorShelf
import Derived.Test.YtaomlgpakbjegaaGreatDoorFmtU
import Derived.Test.YtaomlgpakbjegaaGreatDoorPrintL
import Derived.Test.YtaomlgpakbjegaaGreatDoorDPrint
import Derived.Test.YtaomlgpakbjegaaGreatDoorRPr
import Derived.Test.YtaomlgpakbjegaaGreatDoorNDoA
import Derived.Test.YtaomlgpakbjegaaGreatDoorValD
import Derived.Test.YtaomlgpakbjegaaGreatDoorMg22
import Derived.Test.YtaomlgpakbjegaaGreatDoorValJ
import Derived.Test.YtaomlgpakbjegaaGreatDoorValL
import Derived.Test.YtaomlgpakbjegaaGreatDoorNCallK
import Derived.Test.YtaomlgpakbjegaaGreatDoorAItm
import Derived.Test.YtaomlgpakbjegaaGreatDoorAAmo
import Derived.Test.YtaomlgpakbjegaaGreatDoorASum
import Derived.Test.YtaomlgpakbjegaaGreatDoorAFind
import Derived.Test.YtaomlgpakbjegaaGreatDoorACall
import Derived.Test.YtaomlgpakbjegaaGreatDoorACallB
import Derived.Test.YtaomlgpakbjegaaGreatDoorANum
import Derived.Test.YtaomlgpakbjegaaGreatDoorAInt
import Derived.Test.YtaomlgpakbjegaaGreatDoorALar
import Derived.Test.YtaomlgpakbjegaaGreatDoorACol
import Derived.Test.YtaomlgpakbjegaaGreatDoorAAt
import Derived.Test.YtaomlgpakbjegaaGreatDoorACnt
import Derived.Test.YtaomlgpakbjegaaGreatDoorACif
import Derived.Test.YtaomlgpakbjegaaGreatDoorAClo
import Derived.Test.YtaomlgpakbjegaaGreatDoorAKn
import Derived.Test.YtaomlgpakbjegaaGreatDoorAAtB
import Derived.Test.YtaomlgpakbjegaaGreatDoorRArgM
import Derived.Test.YtaomlgpakbjegaaGreatDoorR8D
import Derived.Test.YtaomlgpakbjegaaGreatDoorLACnt
import Derived.WalkSpells
import Derived.WalkLawsBesides
import Derived.StillTactics
import Derived.Laws.Pointers
import Derived.Deep.RegionHeld3
import Derived.Deep.QuietTactic
import Derived.BigQuiet
import Derived.RowKit3
import Derived.Lib.Hide
import Derived.Lib.OthersKept
import Derived.OwnWalk
import Derived.Lib.IndexLaws
import Derived.Lib.ItoaMem
import Derived.WalkKit
import Derived.ProofKit
import Derived.OpenShut
import Derived.Carry
import Derived.ChangeSame
import Derived.Deep.Draws
import Derived.Maps.OwnSet
import Derived.Maps.AppendAt
import Derived.Shelf.SlGeneric
import Derived.Shelf.SortM.Plain
import Derived.Shelf.SortM.SortNone
import Derived.Ground.SlgmProg
import Derived.Laws.EntriesVeiled
import Derived.Laws.BitsAllLaws
import Derived.Shelf.Strings.Builder1
import Derived.Shelf.Strings.Builder2
import Derived.Shelf.Strings.OnBuilder
import Derived.Shelf.Strings.Trim
import Derived.Shelf.Small.Utf8
import Derived.Shelf.Small.Bits
import Derived.Shelf.Small.Strs
import Derived.Shelf.Small.Wraps
import Derived.Shelf.Strings.BuilderF
import Derived.Shelf.Strings.BuilderK
import Derived.Shelf.Strconv.Itoa0
import Derived.Shelf.Strconv.Itoa1
import Derived.Shelf.LaysM
import Derived.Shelf.Strconv.Itoa2
import Derived.Ground.MpProg
import Derived.Shelf.Pu.ParseUintPublic10
import Derived.Shelf.Strings.Search1
import Derived.Shelf.Strings.Search2
import Derived.Shelf.Strings.Search3
import Derived.Shelf.Strings.Cut
import Derived.Shelf.Strings.Shaped
import Derived.Shelf.Strings.Prefix
import Derived.Shelf.Strings.Runes
import Derived.Shelf.Strings.AsciiSet
import Derived.Shelf.Bits.Mul64
import Derived.Shelf.Strings.Repeat
import Derived.Shelf.Unicode.DecodeSlow
import Derived.Lib.TrimByte
import Derived.Lib.Bytealg
import Derived.Lib.SlTrimSet
import Derived.Lib.ParseIntB
import Derived.Shelf.Strings.SlTrimAscii
import Derived.Lib.SmallJoins
import Derived.Deep.RegionWith
import Derived.Laws.Externs
import Derived.IntWalk
import Derived.Sort.OwnSorted
import Derived.Sort.OwnSortedInts
import Derived.Deep.AppendLies
import Derived.Deep.RegionLaw
namespace Go.Proofs.YtaomlgpakbjegaaGreatDoor
open Go.RowKit

theorem walk_AggsCounts (x : AL) (w : World) (ht : Tab w) (hin : x.In w w.heap.size) : Calls Tryz.prog 13 #[.agg #[.bool x.many, .int .i64 x.v.t, .int .i64 x.v.n, .string x.v.s, .bool x.v.b, .int .i64 x.v.c, .int .i64 x.t, .int .i64 x.l, .int .i64 x.b, .int .i64 x.r, .slice x.A x.es.length x.cap]] w fun e w' => e = .returned (.bool true) ∧ Below w.heap.size w w' := by
  cases hmm : x.many
  · have h := wcnt_no x w ht hin hmm
    rwa [hmm] at h
  · obtain ⟨m, v, rt, rl, rb, rr, A, cap, es⟩ := x
    obtain rfl : m = true := hmm
    cases hy : argMay (⟨true, v, rt, rl, rb, rr, A, cap, es⟩ : AL)
    · exact wcnt_bad v rt rl rb rr A cap es w ht hin hy
    · obtain ⟨m1, m2, m3⟩ := may_parts (x := (⟨true, v, rt, rl, rb, rr, A, cap, es⟩ : AL)) rfl hy
      have hlen := ent_len m1 m3
      obtain ⟨q1, q2, q3, q4, q5, q6⟩ := rect_in m1
      have hsp := cnt_split m3
      have hcl := cnt_le (es.map EL.v)
      obtain ⟨R, hR⟩ : ∃ R, rowsL (⟨true, v, rt, rl, rb, rr, A, cap, es⟩ : AL) = R := ⟨_, rfl⟩
      obtain ⟨C, hC⟩ : ∃ C, colsL (⟨true, v, rt, rl, rb, rr, A, cap, es⟩ : AL) = C := ⟨_, rfl⟩
      have hRb : 1 ≤ R ∧ R ≤ 1048576 := by unfold rowsL at hR; omega
      have hCb : 1 ≤ C ∧ C ≤ 16384 := by unfold colsL at hC; omega
      have hP1 : 1 ≤ R * C ∧ R * C ≤ 17179869184 := ⟨by have := Int.mul_le_mul hRb.1 hCb.1 (by omega) (by omega); simpa using this, by have := Int.mul_le_mul hRb.2 hCb.2 (by omega) (by omega); simpa using this⟩
      have hcif : cifL (⟨true, v, rt, rl, rb, rr, A, cap, es⟩ : AL) v0 = numL ((R * C - (es.length : Int) + ((es.countP fun e => e.v.eqv v0) : Nat)) * 10000) := by
        unfold cifL
        rw [if_pos (show v0.t = 0 from rfl), hR, hC]
      have hS1 : R * 10000 * C = R * C * 10000 := by rw [Int.mul_right_comm]
      dsimp only at hlen hsp
      generalize hcB : (es.countP fun e => e.v.eqv v0) = cB at *
      generalize hcO : (es.map EL.v).countP (fun v => !decide (v.t = 0)) = cO at *
      generalize hcN : (es.map EL.v).countP (fun v => decide (v.t = 1)) = cN at *
      generalize hP : R * C = P at *
      refine wcnt_yes v rt rl rb rr A cap es w ht hin hy ((P - (es.length : Int) + (cB : Nat)) * 10000) ((cO : Nat) * 10000) ((cN : Nat) * 10000) (R * 10000) (C * 10000) ?_ ?_ ?_ ?_ ?_ (by omega) (es.length : Int) rfl (by omega) (by omega) C (by omega) (by omega) (by omega) (P * 10000) hS1 (by omega) (by omega)
      · rw [hcif]; exact numL_form (by omega)
      · rw [items_many (x := (⟨true, v, rt, rl, rb, rr, A, cap, es⟩ : AL)) rfl]
        show numL (((es.map EL.v).countP (fun v => !decide (v.t = 0)) : Nat) * 10000) = _
        rw [hcO]; exact numL_form (by omega)
      · rw [items_many (x := (⟨true, v, rt, rl, rb, rr, A, cap, es⟩ : AL)) rfl]
        show numL (((es.map EL.v).countP (fun v => decide (v.t = 1)) : Nat) * 10000) = _
        rw [hcN]; exact numL_form (by omega)
      · rw [hR]; exact numL_form (by omega)
      · rw [hC]; exact numL_form (by omega)
end Go.Proofs.YtaomlgpakbjegaaGreatDoor
