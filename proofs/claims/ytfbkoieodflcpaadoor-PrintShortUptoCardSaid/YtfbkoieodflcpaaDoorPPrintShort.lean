/-
  The law PrintShort returns true for every input of bulk at most 1048576; the listed variables of the library are as the program's text lays them (the card ties that).
-/
import Derived.Test.YtfbkoieodflcpaaDoorCards
import Derived.Test.YtfbkoieodflcpaaDoorTie
import Derived.Test.YtfbkoieodflcpaaDoorRows
import Derived.Test.YtfbkoieodflcpaaDoorBase
import Derived.Test.YtfbkoieodflcpaaDoorProg
import Derived.Test.YtfbkoieodflcpaaDoorShelf
import Derived.Test.YtfbkoieodflcpaaDoorFmtU
import Derived.Test.YtfbkoieodflcpaaDoorLaidE
import Derived.Test.YtfbkoieodflcpaaDoorMg4
import Derived.Test.YtfbkoieodflcpaaDoorAddrC
import Derived.Test.YtfbkoieodflcpaaDoorNames
import Derived.Test.YtfbkoieodflcpaaDoorMg7
import Derived.Test.YtfbkoieodflcpaaDoorDecA
import Derived.Test.YtfbkoieodflcpaaDoorValA
import Derived.Test.YtfbkoieodflcpaaDoorValB
import Derived.Test.YtfbkoieodflcpaaDoorMg11
import Derived.Test.YtfbkoieodflcpaaDoorLexP
import Derived.Test.YtfbkoieodflcpaaDoorRowB
import Derived.Test.YtfbkoieodflcpaaDoorMapK
import Derived.Test.YtfbkoieodflcpaaDoorArgK
import Derived.Test.YtfbkoieodflcpaaDoorRefP
import Derived.Test.YtfbkoieodflcpaaDoorMg17
import Derived.Test.YtfbkoieodflcpaaDoorRefN
import Derived.Test.YtfbkoieodflcpaaDoorRefM
import Derived.Test.YtfbkoieodflcpaaDoorRefY
import Derived.Test.YtfbkoieodflcpaaDoorRefQ
import Derived.Test.YtfbkoieodflcpaaDoorRefZ
import Derived.Test.YtfbkoieodflcpaaDoorRefD
import Derived.Test.YtfbkoieodflcpaaDoorRefC
import Derived.Test.YtfbkoieodflcpaaDoorShelfC
import Derived.Test.YtfbkoieodflcpaaDoorNameX
import Derived.Test.YtfbkoieodflcpaaDoorNameY
import Derived.Test.YtfbkoieodflcpaaDoorDPrint
import Derived.Test.YtfbkoieodflcpaaDoorValL
import Derived.Test.YtfbkoieodflcpaaDoorPrP
import Derived.Test.YtfbkoieodflcpaaDoorPrA
import Derived.Test.YtfbkoieodflcpaaDoorPrS
import Derived.Test.YtfbkoieodflcpaaDoorPrT
import Derived.Test.YtfbkoieodflcpaaDoorBld
import Derived.Test.YtfbkoieodflcpaaDoorPrB
import Derived.Test.YtfbkoieodflcpaaDoorPrL
import Derived.Test.YtfbkoieodflcpaaDoorRNam
import Derived.Test.YtfbkoieodflcpaaDoorRNod
import Derived.Test.YtfbkoieodflcpaaDoorRLev
import Derived.Test.YtfbkoieodflcpaaDoorRNodB
import Derived.Test.YtfbkoieodflcpaaDoorRPt
import Derived.Test.YtfbkoieodflcpaaDoorRPtB
import Derived.Test.YtfbkoieodflcpaaDoorRPut
import Derived.Test.YtfbkoieodflcpaaDoorRDep
import Derived.Test.YtfbkoieodflcpaaDoorPrSh
import Derived.Test.YtfbkoieodflcpaaDoorRdK
import Derived.Test.YtfbkoieodflcpaaDoorBulk
import Derived.Test.YtfbkoieodflcpaaDoorRdF
import Derived.Deep.DeepHandedRow
import Derived.Deep.DeepWitnessRowRef
import Derived.Lib.LaidTab
import Derived.WalkKit
import Derived.ProofKit
import Derived.OpenShut
import Derived.Carry
import Derived.ChangeSame
import Derived.Lib.Hide
import Derived.Deep.Draws
import Derived.Shelf.Strings.Builder1
import Derived.Shelf.Strings.Builder2
import Derived.Shelf.Strings.Trim
import Derived.Shelf.Small.Utf8
import Derived.Shelf.Small.Strs
import Derived.Shelf.Strings.BuilderF
import Derived.Shelf.Strings.BuilderK
import Derived.Shelf.Strconv.Itoa0
import Derived.Shelf.Strconv.Itoa1
import Derived.Shelf.LaysM
import Derived.Shelf.Strconv.Itoa2
import Derived.Shelf.Strconv.Itoa3
import Derived.Shelf.Strings.Search1
import Derived.Shelf.Strings.Search2
import Derived.Shelf.Strings.Search3
import Derived.Shelf.Strings.Count
import Derived.Shelf.Strings.Shaped
import Derived.Shelf.Strings.Split
import Derived.Shelf.Strings.Replace
import Derived.Shelf.Strings.Runes
import Derived.Shelf.Strings.AsciiSet
import Derived.Shelf.Unicode.DecodeSlow
import Derived.WalkSpells
import Derived.WalkLawsBesides
import Derived.StillTactics
import Derived.Laws.Pointers
import Derived.Deep.RegionHeld3
import Derived.Deep.QuietTactic
import Derived.BigQuiet
import Derived.RowKit3
import Derived.Lib.OthersKept
import Derived.OwnWalk
import Derived.Lib.IndexLaws
import Derived.Lib.ItoaMem
import Derived.Shelf.Vars
import Derived.Lib.TrimByte
import Derived.Lib.SlTrimSet
import Derived.Lib.ParseIntB
import Derived.Lib.ItoaNum
import Derived.Maps.OwnSet
import Derived.Maps.AppendAt
import Derived.Outline
import Derived.Deep.CutRange
import Derived.Lib.Bytealg
import Derived.Lib.Replace
import Derived.Deep.AppendLies
import Derived.Deep.Slices
import Derived.ChangeSlices
namespace Go.Proofs.YtfbkoieodflcpaaDoor
open Go.ChangeShapes Go.WideShapes Go.ChangeAt Go.RowKit
open Go.ChangeMaps (open_string)

set_option maxRecDepth 100000 in
/-- what the walk gives, for every input -/
theorem contract_PrintShort (H : Type) (enc : TypeId × Value → H) (W : World) (base : Nat) (args : Array Value) (ds gs : List (DataW H)) (before : List MemPlace)
    (hval : ∀ (j : Nat) t v, Tryd.f4.params[j]? = some t → args[j]? = some v → Value.okWide Tryd.prog W .any base t v)
    (hW : DataW.Whole enc Tryd.prog Tryd.f4.params.toList Rows.printShortSpec.vars false W args.toList ds gs before)
    (ht : Tab W)
    (hk : Rows.uptoSmall H (ds ++ gs) = true) :
    Calls Tryd.prog 4 args W fun e W' => ∃ v, e = .returned v ∧ Rows.printShortSpec.post enc Tryd.prog Tryd.f4 false true false false W args v W' := by
  have hW' := hW
  obtain ⟨p, q, hA0, hV, rfl, hfz, hnd⟩ := hW
  have hA : DataW.TrodAll enc Tryd.prog W 0 (fun _ => true) true Tryd.f4.params.toList args.toList ds p := hA0
  rw [Tryd.params4] at hA hval
  obtain ⟨v0, vs0, d0, ds0, p0, q0, hargs, rfl, rfl, h0, r0⟩ := trodAll_cons hA
  obtain ⟨rfl, rfl, rfl⟩ := trodAll_nil r0
  obtain rfl : args = #[v0] := by cases args; simp_all
  obtain ⟨A0, l0, cap0, rfl, hR0, hok0, hlb0, hsb0⟩ := rd_form (hval 0 24 v0 rfl rfl) h0
  have y0 := small_form hk (d := d0) (List.mem_append_left _ (by simp))
  refine (walk_PrintShort l0 (by omega) hok0 (fun n hn => Nat.le_trans (hsb0 n hn) y0) W ht A0 cap0 hR0).mono fun e W' ⟨he, hb⟩ => ⟨_, he, ?_⟩
  exact law_post laidOut Tryd.underlying4 (by kernel_rfl) rfl (fun ds hd => by
    rw [Tryd.params4] at hd
    match ds, hd with
    | [_], _ => rfl) (by kernel_rfl) hW' hb

/-- the witness' arguments -/
def wArgs_PrintShort : Array Value := #[.agg #[.slice none 0 0]]
theorem laid_met_PrintShort (os : Os) : laidMet Tryd.prog Rows.printShortUptoRow.laid ((laidWorldD os).forCall (fun _ _ => 0) ⟨#[], wArgs_PrintShort, []⟩).memory :=
  laidMet_of_run' 8 (by kernel_rfl) (by kernel_rfl)
theorem reads_PrintShort (os : Os) {H : Type} (enc : TypeId × Value → H) : ∃ places, DataW.whole enc Tryd.prog ((laidWorldD os).forCall (fun _ _ => 0) ⟨#[], wArgs_PrintShort, []⟩).memory Tryd.f4.params.toList Rows.printShortSpec.vars false wArgs_PrintShort.toList 8 = some ([.agg [.nil]], [], places) :=
  ⟨[], by kernel_rfl⟩

set_option maxRecDepth 100000 in
theorem wh1_PrintShort (os : Os) : ((laidWorldD os).forCall (fun _ _ => 0) ⟨#[], wArgs_PrintShort, []⟩).variablesRefB Tryd.checked.prog = true := by kernel_rfl
set_option maxRecDepth 100000 in
theorem wh2_PrintShort (os : Os) : (((laidWorldD os).forCall (fun _ _ => 0) ⟨#[], wArgs_PrintShort, []⟩).heap.toList.drop Tryd.checked.prog.globals.size).take ((begin Tryd.checked.prog (fun _ _ => 0) default).world.heap.size - Tryd.checked.prog.globals.size) =
      (begin Tryd.checked.prog (fun _ _ => 0) default).world.heap.toList.drop Tryd.checked.prog.globals.size := by kernel_rfl
set_option maxRecDepth 100000 in
theorem wh3_PrintShort (os : Os) : Input.okWideB Tryd.checked.prog ((laidWorldD os).forCall (fun _ _ => 0) ⟨#[], wArgs_PrintShort, []⟩) 4 ⟨#[], wArgs_PrintShort, []⟩ = true := by kernel_rfl
theorem wcn_PrintShort (places : List MemPlace) {H : Type} : Rows.printShortUptoRow.domain.all (PathCond.test Tryd.prog ⟨Tryd.f4.params.toList, (([.agg [.nil]], [], places) : List (DataW H) × List (DataW H) × List MemPlace).1, (Rows.OpenSpec.upto Rows.printShortSpec).bare.plain.varTypes Tryd.prog, []⟩) = true := by kernel_rfl
set_option maxRecDepth 100000 in
theorem wpre_PrintShort (os : Os) {H : Type} (enc : TypeId × Value → H) : (Rows.OpenSpec.upto Rows.printShortSpec).preRow enc Tryd.prog Tryd.f4 Rows.printShortUptoRow.domain false Rows.printShortUptoRow.laid ((laidWorldD os).forCall (fun _ _ => 0) ⟨#[], wArgs_PrintShort, []⟩).memory wArgs_PrintShort := by
  obtain ⟨places, hx⟩ := reads_PrintShort os enc
  exact OpenSpec.preRow_of_cond 8 hx (wcn_PrintShort places) (fun k hk => by cases hk; rfl) (by kernel_rfl) (laid_met_PrintShort os)

set_option maxRecDepth 100000 in
theorem lifted_PrintShort (os : Os) (started : os.Started) (H : Type) (enc : TypeId × Value → H) (F : Stop.Interp) :
    ReturnsInHanded {} Tryd.checked os 4 .any ((Rows.OpenSpec.upto Rows.printShortSpec).preRow enc Tryd.prog Tryd.f4 Rows.printShortUptoRow.domain false Rows.printShortUptoRow.laid) (((Rows.OpenSpec.upto Rows.printShortSpec).at F).post enc Tryd.prog Tryd.f4 false true false false) := by
  refine returnsInHanded_of_row (C := Tryd.checked) (s := Rows.OpenSpec.upto Rows.printShortSpec) own started (by kernel_rfl) Tryd.func4
    (witness_row_atRef (enc := enc) (C := Tryd.checked) false (laidWorldD os) wArgs_PrintShort rfl (wh1_PrintShort os) (wh2_PrintShort os) (wh3_PrintShort os) (wpre_PrintShort os enc)) ?_
  intro W base args ds gs before hval hW _ hcd _ hL hsh _
  exact contract_PrintShort H enc W base args ds gs before hval hW (tab_ofD (laidMet_tailD (laidMet_tailD hL)) hsh) (hcd _ rfl)

set_option maxRecDepth 100000 in
theorem jf_PrintShort : joinedFacts Tryd.pinned.checked.prog 4 Tryd.f4 (Rows.OpenSpec.upto Rows.printShortSpec).bare Rows.printShortUptoRow = true := by kernel_rfl
theorem said_PrintShort : Rows.PrintShortUptoSaid :=
  OpenClaim.holds_of_cond 4 Tryd.f4 rfl rfl rfl rfl rfl rfl rfl ⟨rfl, rfl, rfl, rfl, rfl⟩ rfl rfl rfl rfl rfl (by kernel_rfl) Tryd.func4 jf_PrintShort
    (of_decide_eq_true (by kernel_rfl)) (by unfold Func.isWrapper; rw [if_neg (of_decide_eq_false (by kernel_rfl))]; exact ⟨rfl, rfl⟩)
    (fun os started H enc _ F => by rw [OpenClaim.pre_eq_preRow]; exact lifted_PrintShort os started H enc F)

theorem plain_PrintShort (f : FuncId) (fn : Func) (hf : Tryd.pinned.checked.prog.funcNamed "oriel/oriellaw07.PrintShort" = some f) (hfn : Tryd.pinned.checked.prog.funcs[f]? = some fn) :
    false = Tryd.pinned.checked.prog.looks [] ∧ ∀ (j : Nat) t, fn.params[j]? = some t → Tryd.pinned.checked.prog.wantsStandIn t = false := by
  obtain rfl : f = 4 := Option.some.inj ((show Tryd.prog.funcNamed "oriel/oriellaw07.PrintShort" = some 4 by kernel_rfl).symm.trans hf) |>.symm
  obtain rfl : fn = Tryd.f4 := (Option.some.inj (Tryd.func4.symm.trans hfn)).symm
  refine ⟨by kernel_rfl, fun j t ht => ?_⟩
  rw [Tryd.params4] at ht
  have hm : t = 24 := by simpa using Array.mem_of_getElem? ht
  rcases hm with rfl
  · exact (show Tryd.prog.wantsStandIn 24 = false by kernel_rfl)

/-- THE CARD -/
theorem card_PrintShort : Rows.PrintShortUptoCardSaid :=
  Claim7.holds_tied_plain_at .later [] _ _ _ _ said_PrintShort (fun _ h => by cases h) (by kernel_rfl) (fun _ h => by cases h) printShortUpto_row_tie rfl ⟨rfl, rfl⟩ (by kernel_rfl) rfl plain_PrintShort (by kernel_rfl)
end Go.Proofs.YtfbkoieodflcpaaDoor
