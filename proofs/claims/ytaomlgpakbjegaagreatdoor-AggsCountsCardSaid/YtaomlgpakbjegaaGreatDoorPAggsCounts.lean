/-
  The law AggsCounts returns true for every input; the listed variables of the library are as the program's text lays them (the card ties that).
-/
import Derived.Test.YtaomlgpakbjegaaGreatDoorCards
import Derived.Test.YtaomlgpakbjegaaGreatDoorTie
import Derived.Test.YtaomlgpakbjegaaGreatDoorRows
import Derived.Test.YtaomlgpakbjegaaGreatDoorBase
import Derived.Test.YtaomlgpakbjegaaGreatDoorProg
import Derived.Test.YtaomlgpakbjegaaGreatDoorShelf
import Derived.Test.YtaomlgpakbjegaaGreatDoorFmtU
import Derived.Test.YtaomlgpakbjegaaGreatDoorLaidD
import Derived.Test.YtaomlgpakbjegaaGreatDoorRowB
import Derived.Test.YtaomlgpakbjegaaGreatDoorDecA
import Derived.Test.YtaomlgpakbjegaaGreatDoorValA
import Derived.Test.YtaomlgpakbjegaaGreatDoorValB
import Derived.Test.YtaomlgpakbjegaaGreatDoorMg8
import Derived.Test.YtaomlgpakbjegaaGreatDoorValC
import Derived.Test.YtaomlgpakbjegaaGreatDoorAddrC
import Derived.Test.YtaomlgpakbjegaaGreatDoorAddrI
import Derived.Test.YtaomlgpakbjegaaGreatDoorMapK
import Derived.Test.YtaomlgpakbjegaaGreatDoorMg13
import Derived.Test.YtaomlgpakbjegaaGreatDoorAArg
import Derived.Test.YtaomlgpakbjegaaGreatDoorShelfB
import Derived.Test.YtaomlgpakbjegaaGreatDoorDFlo
import Derived.Test.YtaomlgpakbjegaaGreatDoorPrintL
import Derived.Test.YtaomlgpakbjegaaGreatDoorDPrint
import Derived.Test.YtaomlgpakbjegaaGreatDoorRPr
import Derived.Test.YtaomlgpakbjegaaGreatDoorNDoA
import Derived.Test.YtaomlgpakbjegaaGreatDoorValD
import Derived.Test.YtaomlgpakbjegaaGreatDoorMg22
import Derived.Test.YtaomlgpakbjegaaGreatDoorValJ
import Derived.Test.YtaomlgpakbjegaaGreatDoorValL
import Derived.Test.YtaomlgpakbjegaaGreatDoorNCallK
import Derived.Test.YtaomlgpakbjegaaGreatDoorAItm
import Derived.Test.YtaomlgpakbjegaaGreatDoorAAmo
import Derived.Test.YtaomlgpakbjegaaGreatDoorASum
import Derived.Test.YtaomlgpakbjegaaGreatDoorAFind
import Derived.Test.YtaomlgpakbjegaaGreatDoorACall
import Derived.Test.YtaomlgpakbjegaaGreatDoorACallB
import Derived.Test.YtaomlgpakbjegaaGreatDoorANum
import Derived.Test.YtaomlgpakbjegaaGreatDoorAInt
import Derived.Test.YtaomlgpakbjegaaGreatDoorALar
import Derived.Test.YtaomlgpakbjegaaGreatDoorACol
import Derived.Test.YtaomlgpakbjegaaGreatDoorAAt
import Derived.Test.YtaomlgpakbjegaaGreatDoorACnt
import Derived.Test.YtaomlgpakbjegaaGreatDoorACif
import Derived.Test.YtaomlgpakbjegaaGreatDoorAClo
import Derived.Test.YtaomlgpakbjegaaGreatDoorAKn
import Derived.Test.YtaomlgpakbjegaaGreatDoorAAtB
import Derived.Test.YtaomlgpakbjegaaGreatDoorRArgM
import Derived.Test.YtaomlgpakbjegaaGreatDoorR8D
import Derived.Test.YtaomlgpakbjegaaGreatDoorLACnt
import Derived.Test.YtaomlgpakbjegaaGreatDoorLACntJ
import Derived.Test.YtaomlgpakbjegaaGreatDoorRdK
import Derived.Test.YtaomlgpakbjegaaGreatDoorRdV
import Derived.Test.YtaomlgpakbjegaaGreatDoorRdOne
import Derived.Deep.DeepHandedRow
import Derived.Deep.DeepWitnessRowRef
import Derived.Lib.LaidTab
import Derived.WalkKit
import Derived.ProofKit
import Derived.OpenShut
import Derived.Carry
import Derived.ChangeSame
import Derived.Lib.Hide
import Derived.Deep.Draws
import Derived.Shelf.Strings.Builder1
import Derived.Shelf.Strings.Builder2
import Derived.Shelf.Strings.OnBuilder
import Derived.Shelf.Strings.Trim
import Derived.Shelf.Small.Utf8
import Derived.Shelf.Small.Bits
import Derived.Shelf.Small.Strs
import Derived.Shelf.Small.Wraps
import Derived.Shelf.Strings.BuilderF
import Derived.Shelf.Strings.BuilderK
import Derived.Shelf.Strconv.Itoa0
import Derived.Shelf.Strconv.Itoa1
import Derived.Shelf.LaysM
import Derived.Shelf.Strconv.Itoa2
import Derived.Ground.MpProg
import Derived.Shelf.Pu.ParseUintPublic10
import Derived.Shelf.Strings.Search1
import Derived.Shelf.Strings.Search2
import Derived.Shelf.Strings.Search3
import Derived.Shelf.Strings.Cut
import Derived.Shelf.Strings.Shaped
import Derived.Shelf.Strings.Prefix
import Derived.Shelf.Strings.Runes
import Derived.Shelf.Strings.AsciiSet
import Derived.Shelf.Bits.Mul64
import Derived.Shelf.Strings.Repeat
import Derived.Shelf.Unicode.DecodeSlow
import Derived.Ground.SlgmProg
import Derived.Shelf.SortM.Plain
import Derived.Shelf.SortM.SortNone
import Derived.WalkSpells
import Derived.WalkLawsBesides
import Derived.StillTactics
import Derived.Laws.Pointers
import Derived.Deep.RegionHeld3
import Derived.Deep.QuietTactic
import Derived.BigQuiet
import Derived.RowKit3
import Derived.Lib.OthersKept
import Derived.OwnWalk
import Derived.Lib.IndexLaws
import Derived.Lib.ItoaMem
import Derived.Shelf.Vars
import Derived.Maps.OwnSet
import Derived.Maps.AppendAt
import Derived.Shelf.SlGeneric
import Derived.Laws.EntriesVeiled
import Derived.Laws.BitsAllLaws
import Derived.Lib.TrimByte
import Derived.Lib.Bytealg
import Derived.Lib.SlTrimSet
import Derived.Lib.ParseIntB
import Derived.Shelf.Strings.SlTrimAscii
import Derived.Lib.SmallJoins
import Derived.Deep.RegionWith
import Derived.Laws.Externs
import Derived.IntWalk
import Derived.Sort.OwnSorted
import Derived.Sort.OwnSortedInts
import Derived.Deep.AppendLies
import Derived.Deep.RegionLaw
import Derived.Deep.Slices
import Derived.ChangeSlices
namespace Go.Proofs.YtaomlgpakbjegaaGreatDoor
open Go.ChangeShapes Go.WideShapes Go.ChangeAt Go.RowKit
open Go.ChangeMaps (open_string)

set_option maxRecDepth 100000 in
/-- what the walk gives, for every input -/
theorem contract_AggsCounts (H : Type) (enc : TypeId × Value → H) (W : World) (base : Nat) (args : Array Value) (ds gs : List (DataW H)) (before : List MemPlace)
    (hval : ∀ (j : Nat) t v, Tryz.f13.params[j]? = some t → args[j]? = some v → Value.okWide Tryz.prog W .any base t v)
    (hW : DataW.Whole enc Tryz.prog Tryz.f13.params.toList Rows.aggsCountsSpec.vars false W args.toList ds gs before)
    (ht : Tab W) :
    Calls Tryz.prog 13 args W fun e W' => ∃ v, e = .returned v ∧ Rows.aggsCountsSpec.post enc Tryz.prog Tryz.f13 false true false false W args v W' := by
  have hW' := hW
  obtain ⟨p, q, hA0, hV, rfl, hfz, hnd⟩ := hW
  have hA : DataW.TrodAll enc Tryz.prog W 0 (fun _ => true) true Tryz.f13.params.toList args.toList ds p := hA0
  rw [Tryz.params13] at hA hval
  obtain ⟨v0, vs0, d0, ds0, p0, q0, hargs, rfl, rfl, h0, r0⟩ := trodAll_cons hA
  obtain ⟨rfl, rfl, rfl⟩ := trodAll_nil r0
  obtain rfl : args = #[v0] := by cases args; simp_all
  obtain ⟨x0, rfl, hx0⟩ := rd_arg1 (hval 0 38 v0 rfl rfl) h0
  refine (walk_AggsCounts x0 W ht hx0).mono fun e W' ⟨he, hb⟩ => ⟨_, he, ?_⟩
  exact law_post laidOut Tryz.underlying4 (by kernel_rfl) rfl (fun ds hd => by
    rw [Tryz.params13] at hd
    match ds, hd with
    | [_], _ => rfl) (by kernel_rfl) hW' hb

/-- the witness' arguments -/
def wArgs_AggsCounts : Array Value := #[.agg #[.bool false, .int .i64 0, .int .i64 0, .string ⟨#[]⟩, .bool false, .int .i64 0, .int .i64 0, .int .i64 0, .int .i64 0, .int .i64 0, .slice none 0 0]]
theorem laid_met_AggsCounts (os : Os) : laidMet Tryz.prog Rows.aggsCountsRow.laid ((laidWorldD os).forCall (fun _ _ => 0) ⟨#[], wArgs_AggsCounts, []⟩).memory :=
  laidMet_of_run' 8 (by kernel_rfl) (by kernel_rfl)
theorem reads_AggsCounts (os : Os) {H : Type} (enc : TypeId × Value → H) : ∃ places, DataW.whole enc Tryz.prog ((laidWorldD os).forCall (fun _ _ => 0) ⟨#[], wArgs_AggsCounts, []⟩).memory Tryz.f13.params.toList Rows.aggsCountsSpec.vars false wArgs_AggsCounts.toList 8 = some ([.agg [.lit (.bool false), .agg [.lit (.int .i64 0), .lit (.int .i64 0), .lit (.string []), .lit (.bool false), .lit (.int .i64 0)], .agg [.lit (.int .i64 0), .lit (.int .i64 0), .lit (.int .i64 0), .lit (.int .i64 0)], .nil]], [], places) :=
  ⟨[], by kernel_rfl⟩

set_option maxRecDepth 100000 in
theorem wh1_AggsCounts (os : Os) : ((laidWorldD os).forCall (fun _ _ => 0) ⟨#[], wArgs_AggsCounts, []⟩).variablesRefB Tryz.checked.prog = true := by kernel_rfl
set_option maxRecDepth 100000 in
theorem wh2_AggsCounts (os : Os) : (((laidWorldD os).forCall (fun _ _ => 0) ⟨#[], wArgs_AggsCounts, []⟩).heap.toList.drop Tryz.checked.prog.globals.size).take ((begin Tryz.checked.prog (fun _ _ => 0) default).world.heap.size - Tryz.checked.prog.globals.size) =
      (begin Tryz.checked.prog (fun _ _ => 0) default).world.heap.toList.drop Tryz.checked.prog.globals.size := by kernel_rfl
set_option maxRecDepth 100000 in
theorem wh3_AggsCounts (os : Os) : Input.okWideB Tryz.checked.prog ((laidWorldD os).forCall (fun _ _ => 0) ⟨#[], wArgs_AggsCounts, []⟩) 13 ⟨#[], wArgs_AggsCounts, []⟩ = true := by kernel_rfl
theorem wcn_AggsCounts (places : List MemPlace) {H : Type} : Rows.aggsCountsRow.domain.all (PathCond.test Tryz.prog ⟨Tryz.f13.params.toList, (([.agg [.lit (.bool false), .agg [.lit (.int .i64 0), .lit (.int .i64 0), .lit (.string []), .lit (.bool false), .lit (.int .i64 0)], .agg [.lit (.int .i64 0), .lit (.int .i64 0), .lit (.int .i64 0), .lit (.int .i64 0)], .nil]], [], places) : List (DataW H) × List (DataW H) × List MemPlace).1, (OpenSpec.ofChange Rows.aggsCountsSpec).bare.plain.varTypes Tryz.prog, []⟩) = true := by kernel_rfl
set_option maxRecDepth 100000 in
theorem wpre_AggsCounts (os : Os) {H : Type} (enc : TypeId × Value → H) : (OpenSpec.ofChange Rows.aggsCountsSpec).preRow enc Tryz.prog Tryz.f13 Rows.aggsCountsRow.domain false Rows.aggsCountsRow.laid ((laidWorldD os).forCall (fun _ _ => 0) ⟨#[], wArgs_AggsCounts, []⟩).memory wArgs_AggsCounts := by
  obtain ⟨places, hx⟩ := reads_AggsCounts os enc
  exact OpenSpec.preRow_of_cond 8 hx (wcn_AggsCounts places) (fun k hk => by cases hk) (by kernel_rfl) (laid_met_AggsCounts os)

set_option maxRecDepth 100000 in
theorem lifted_AggsCounts (os : Os) (started : os.Started) (H : Type) (enc : TypeId × Value → H) (F : Stop.Interp) :
    ReturnsInHanded {} Tryz.checked os 13 .any ((OpenSpec.ofChange Rows.aggsCountsSpec).preRow enc Tryz.prog Tryz.f13 Rows.aggsCountsRow.domain false Rows.aggsCountsRow.laid) (((OpenSpec.ofChange Rows.aggsCountsSpec).at F).post enc Tryz.prog Tryz.f13 false true false false) := by
  refine returnsInHanded_of_row (C := Tryz.checked) (s := OpenSpec.ofChange Rows.aggsCountsSpec) own started (by kernel_rfl) Tryz.func13
    (witness_row_atRef (enc := enc) (C := Tryz.checked) false (laidWorldD os) wArgs_AggsCounts rfl (wh1_AggsCounts os) (wh2_AggsCounts os) (wh3_AggsCounts os) (wpre_AggsCounts os enc)) ?_
  intro W base args ds gs before hval hW _ _ _ hL hsh _
  exact contract_AggsCounts H enc W base args ds gs before hval hW (tab_ofD (laidMet_tailD (laidMet_tailD hL)) hsh)

set_option maxRecDepth 100000 in
theorem jf_AggsCounts : joinedFacts Tryz.pinned.checked.prog 13 Tryz.f13 (OpenSpec.ofChange Rows.aggsCountsSpec).bare Rows.aggsCountsRow = true := by kernel_rfl
theorem said_AggsCounts : Rows.AggsCountsSaid :=
  OpenClaim.holds_of_cond 13 Tryz.f13 rfl rfl rfl rfl rfl rfl rfl ⟨rfl, rfl, rfl, rfl, rfl⟩ rfl rfl rfl rfl rfl (by kernel_rfl) Tryz.func13 jf_AggsCounts
    (of_decide_eq_true (by kernel_rfl)) (by unfold Func.isWrapper; rw [if_neg (of_decide_eq_false (by kernel_rfl))]; exact ⟨rfl, rfl⟩)
    (fun os started H enc _ F => by rw [OpenClaim.pre_eq_preRow]; exact lifted_AggsCounts os started H enc F)

theorem plain_AggsCounts (f : FuncId) (fn : Func) (hf : Tryz.pinned.checked.prog.funcNamed "oriel/oriellaw10.AggsCounts" = some f) (hfn : Tryz.pinned.checked.prog.funcs[f]? = some fn) :
    true = Tryz.pinned.checked.prog.looks [] ∧ ∀ (j : Nat) t, fn.params[j]? = some t → Tryz.pinned.checked.prog.wantsStandIn t = false := by
  obtain rfl : f = 13 := Option.some.inj ((show Tryz.prog.funcNamed "oriel/oriellaw10.AggsCounts" = some 13 by kernel_rfl).symm.trans hf) |>.symm
  obtain rfl : fn = Tryz.f13 := (Option.some.inj (Tryz.func13.symm.trans hfn)).symm
  refine ⟨by kernel_rfl, fun j t ht => ?_⟩
  rw [Tryz.params13] at ht
  have hm : t = 38 := by simpa using Array.mem_of_getElem? ht
  rcases hm with rfl
  · exact (show Tryz.prog.wantsStandIn 38 = false by kernel_rfl)

/-- THE CARD -/
theorem card_AggsCounts : Rows.AggsCountsCardSaid :=
  Claim7.holds_tied_plain_at .later [] _ _ _ _ said_AggsCounts (fun _ h => by cases h) (by kernel_rfl) (fun _ h => by cases h) aggsCounts_row_tie rfl ⟨rfl, rfl⟩ (by kernel_rfl) rfl plain_AggsCounts (by kernel_rfl)
end Go.Proofs.YtaomlgpakbjegaaGreatDoor
