/-
  aggs: INDEX, MATCH, LOOKUP behind their names.
-/
import Derived.Test.YtaomlgpakbjegaaGreatDoorRows
import Derived.Test.YtaomlgpakbjegaaGreatDoorBase
import Derived.Test.YtaomlgpakbjegaaGreatDoorRowB
import Derived.Test.YtaomlgpakbjegaaGreatDoorMg4
import Derived.Test.YtaomlgpakbjegaaGreatDoorValA
import Derived.Test.YtaomlgpakbjegaaGreatDoorValB
import Derived.Test.YtaomlgpakbjegaaGreatDoorValC
import Derived.Test.YtaomlgpakbjegaaGreatDoorAddrC
import Derived.Test.YtaomlgpakbjegaaGreatDoorAddrI
import Derived.Test.YtaomlgpakbjegaaGreatDoorMapK
import Derived.Test.YtaomlgpakbjegaaGreatDoorArgK
import Derived.Test.YtaomlgpakbjegaaGreatDoorAArg
import Derived.Test.YtaomlgpakbjegaaGreatDoorProg
import Derived.Test.YtaomlgpakbjegaaGreatDoorShelfB
import Derived.Test.YtaomlgpakbjegaaGreatDoorDFlo
import Derived.Test.YtaomlgpakbjegaaGreatDoorMg1
import Derived.Test.YtaomlgpakbjegaaGreatDoorMg15
import Derived.Test.YtaomlgpakbjegaaGreatDoorValL
import Derived.Test.YtaomlgpakbjegaaGreatDoorNCallK
import Derived.Test.YtaomlgpakbjegaaGreatDoorAItm
import Derived.Test.YtaomlgpakbjegaaGreatDoorAAmo
import Derived.Test.YtaomlgpakbjegaaGreatDoorASum
import Derived.Test.YtaomlgpakbjegaaGreatDoorAFind
import Derived.Test.YtaomlgpakbjegaaGreatDoorACall
import Derived.Test.YtaomlgpakbjegaaGreatDoorACallB
import Derived.Test.YtaomlgpakbjegaaGreatDoorANum
import Derived.Test.YtaomlgpakbjegaaGreatDoorAInt
import Derived.Test.YtaomlgpakbjegaaGreatDoorALar
import Derived.Test.YtaomlgpakbjegaaGreatDoorACol
import Derived.Test.YtaomlgpakbjegaaGreatDoorAAt
import Derived.Test.YtaomlgpakbjegaaGreatDoorACnt
import Derived.Test.YtaomlgpakbjegaaGreatDoorACif
import Derived.Test.YtaomlgpakbjegaaGreatDoorMg31
import Derived.Test.YtaomlgpakbjegaaGreatDoorAKn
import Derived.Test.YtaomlgpakbjegaaGreatDoorAPlc
import Derived.Test.YtaomlgpakbjegaaGreatDoorAHld
import Derived.Test.YtaomlgpakbjegaaGreatDoorAIdx
import Derived.Test.YtaomlgpakbjegaaGreatDoorAAlk
import Derived.Test.YtaomlgpakbjegaaGreatDoorALku
import Derived.Test.YtaomlgpakbjegaaGreatDoorALkv
import Derived.WalkSpells
import Derived.WalkLawsBesides
import Derived.StillTactics
import Derived.Laws.Pointers
import Derived.Deep.RegionHeld3
import Derived.Deep.QuietTactic
import Derived.BigQuiet
import Derived.RowKit3
import Derived.Lib.Hide
import Derived.Lib.OthersKept
import Derived.OwnWalk
import Derived.Lib.IndexLaws
import Derived.Lib.ItoaMem
import Derived.WalkKit
import Derived.ProofKit
import Derived.OpenShut
import Derived.Carry
import Derived.ChangeSame
import Derived.Deep.Draws
import Derived.Maps.OwnSet
import Derived.Maps.AppendAt
import Derived.Shelf.SlGeneric
import Derived.Shelf.SortM.Plain
import Derived.Shelf.SortM.SortNone
import Derived.Ground.SlgmProg
import Derived.Laws.EntriesVeiled
import Derived.Laws.BitsAllLaws
import Derived.Shelf.Strings.Builder1
import Derived.Shelf.Strings.Builder2
import Derived.Shelf.Strings.OnBuilder
import Derived.Shelf.Strings.Trim
import Derived.Shelf.Small.Utf8
import Derived.Shelf.Small.Bits
import Derived.Shelf.Small.Strs
import Derived.Shelf.Small.Wraps
import Derived.Shelf.Strings.BuilderF
import Derived.Shelf.Strings.BuilderK
import Derived.Shelf.Strconv.Itoa0
import Derived.Shelf.Strconv.Itoa1
import Derived.Shelf.LaysM
import Derived.Shelf.Strconv.Itoa2
import Derived.Ground.MpProg
import Derived.Shelf.Pu.ParseUintPublic10
import Derived.Shelf.Strings.Search1
import Derived.Shelf.Strings.Search2
import Derived.Shelf.Strings.Search3
import Derived.Shelf.Strings.Cut
import Derived.Shelf.Strings.Shaped
import Derived.Shelf.Strings.Prefix
import Derived.Shelf.Strings.Runes
import Derived.Shelf.Strings.AsciiSet
import Derived.Shelf.Bits.Mul64
import Derived.Shelf.Strings.Repeat
import Derived.Shelf.Unicode.DecodeSlow
import Derived.Lib.TrimByte
import Derived.Lib.Bytealg
import Derived.Lib.SlTrimSet
import Derived.Lib.ParseIntB
import Derived.Shelf.Strings.SlTrimAscii
import Derived.Lib.SmallJoins
import Derived.Deep.RegionWith
import Derived.Laws.Externs
import Derived.IntWalk
import Derived.Sort.OwnSorted
import Derived.Sort.OwnSortedInts
import Derived.Deep.AppendLies
import Derived.Deep.RegionLaw
import Derived.Outline
import Derived.Deep.CutRange
import Derived.Deep.CutBlock
namespace Go.Proofs.YtaomlgpakbjegaaGreatDoor
open Go.RowKit

/-- MATCH's answer -/
def matchR (x0 x1 : AL) : VL := if (decide (1 < rowsL x1) && decide (1 < colsL x1)) = true then errL 8 else lookR2 x0.v x1
/-- LOOKUP's answer -/
def lookupR (x0 x1 x2 : AL) : VL := if ((decide (1 < rowsL x1) && decide (1 < colsL x1)) || !(decide (rowsL x1 = rowsL x2) && decide (colsL x1 = colsL x2))) = true then errL 8 else lookR3 x0.v x1 x2
set_option maxRecDepth 100000 in
theorem ata_INDEX (x0 x1 x2 : AL) (hm : mayRectB x0.t x0.l x0.b x0.r = true) (he : entsOk x0 = true) (text : Int) : DoA ⟨#[73, 78, 68, 69, 88]⟩ [x0, x1, x2] text (indexR x0 x1 x2) := ⟨fun w bl base kd lo hi d A cap hlk hBx hTab hcap hR hin => by
  have e : lookL aZero (aTab bl) ⟨#[73, 78, 68, 69, 88]⟩ = .agg #[.string ⟨#[114, 118, 118]⟩, .int .i64 3, .int .i64 3, .func (.func 138) #[] #[]] := by kernel_rfl
  have hd := fourth_of (e.symm.trans hlk)
  exact ⟨138, #[], hd.symm, fun _ _ => by simp [go_sem], aindex_any x0 x1 x2 text w A cap hR hin hm he⟩⟩
set_option maxRecDepth 100000 in
theorem ata_MATCH (x0 x1 : AL) (hm : mayRectB x1.t x1.l x1.b x1.r = true) (he : entsOk x1 = true) (text : Int) : DoA ⟨#[77, 65, 84, 67, 72]⟩ [x0, x1] text (matchR x0 x1) := ⟨fun w bl base kd lo hi d A cap hlk hBx hTab hcap hR hin => by
  have e : lookL aZero (aTab bl) ⟨#[77, 65, 84, 67, 72]⟩ = .agg #[.string ⟨#[118, 114]⟩, .int .i64 2, .int .i64 2, .func (.func 137) #[] #[]] := by kernel_rfl
  have hd := fourth_of (e.symm.trans hlk)
  exact ⟨137, #[], hd.symm, fun _ _ => by simp [go_sem], alook2 x0 x1 hm he text w A cap hR hin⟩⟩
set_option maxRecDepth 100000 in
theorem ata_LOOKUP (x0 x1 x2 : AL) (hm : mayRectB x1.t x1.l x1.b x1.r = true) (he : entsOk x1 = true) (hm2 : mayRectB x2.t x2.l x2.b x2.r = true) (he2 : entsOk x2 = true) (text : Int) : DoA ⟨#[76, 79, 79, 75, 85, 80]⟩ [x0, x1, x2] text (lookupR x0 x1 x2) := ⟨fun w bl base kd lo hi d A cap hlk hBx hTab hcap hR hin => by
  have e : lookL aZero (aTab bl) ⟨#[76, 79, 79, 75, 85, 80]⟩ = .agg #[.string ⟨#[118, 114, 114]⟩, .int .i64 3, .int .i64 3, .func (.func 137) #[] #[]] := by kernel_rfl
  have hd := fourth_of (e.symm.trans hlk)
  exact ⟨137, #[], hd.symm, fun _ _ => by simp [go_sem], alook3 x0 x1 x2 hm he hm2 he2 text w A cap hR hin⟩⟩
end Go.Proofs.YtaomlgpakbjegaaGreatDoor
