/-
  The law PrintOne returns true for every input of bulk at most 1048576; the listed variables of the library are as the program's text lays them (the card ties that).
-/
import Derived.Test.YtfbkoieodflcpaaDoorCards
import Derived.Test.YtfbkoieodflcpaaDoorTie
import Derived.Test.YtfbkoieodflcpaaDoorRows
import Derived.Test.YtfbkoieodflcpaaDoorBase
import Derived.Test.YtfbkoieodflcpaaDoorProg
import Derived.Test.YtfbkoieodflcpaaDoorShelf
import Derived.Test.YtfbkoieodflcpaaDoorFmtU
import Derived.Test.YtfbkoieodflcpaaDoorLaidE
import Derived.Test.YtfbkoieodflcpaaDoorMg4
import Derived.Test.YtfbkoieodflcpaaDoorAddrC
import Derived.Test.YtfbkoieodflcpaaDoorMg6
import Derived.Test.YtfbkoieodflcpaaDoorDecA
import Derived.Test.YtfbkoieodflcpaaDoorValA
import Derived.Test.YtfbkoieodflcpaaDoorValB
import Derived.Test.YtfbkoieodflcpaaDoorMg11
import Derived.Test.YtfbkoieodflcpaaDoorMg10
import Derived.Test.YtfbkoieodflcpaaDoorMapK
import Derived.Test.YtfbkoieodflcpaaDoorRefP
import Derived.Test.YtfbkoieodflcpaaDoorRefQ
import Derived.Test.YtfbkoieodflcpaaDoorShelfC
import Derived.Test.YtfbkoieodflcpaaDoorNameX
import Derived.Test.YtfbkoieodflcpaaDoorNameY
import Derived.Test.YtfbkoieodflcpaaDoorDPrint
import Derived.Test.YtfbkoieodflcpaaDoorValL
import Derived.Test.YtfbkoieodflcpaaDoorPrP
import Derived.Test.YtfbkoieodflcpaaDoorPrA
import Derived.Test.YtfbkoieodflcpaaDoorPrS
import Derived.Test.YtfbkoieodflcpaaDoorPrT
import Derived.Test.YtfbkoieodflcpaaDoorPrO1
import Derived.Test.YtfbkoieodflcpaaDoorPrO2
import Derived.Test.YtfbkoieodflcpaaDoorMg26
import Derived.Test.YtfbkoieodflcpaaDoorNumP
import Derived.Test.YtfbkoieodflcpaaDoorPrO5
import Derived.Test.YtfbkoieodflcpaaDoorRefN
import Derived.Test.YtfbkoieodflcpaaDoorRefM
import Derived.Test.YtfbkoieodflcpaaDoorRefY
import Derived.Test.YtfbkoieodflcpaaDoorRefZ
import Derived.Test.YtfbkoieodflcpaaDoorPrO6
import Derived.Test.YtfbkoieodflcpaaDoorPrO7
import Derived.Test.YtfbkoieodflcpaaDoorPrO8
import Derived.Test.YtfbkoieodflcpaaDoorPrO9
import Derived.Test.YtfbkoieodflcpaaDoorPrO10
import Derived.Test.YtfbkoieodflcpaaDoorPrO11
import Derived.Test.YtfbkoieodflcpaaDoorPrSm
import Derived.Test.YtfbkoieodflcpaaDoorPrD
import Derived.Test.YtfbkoieodflcpaaDoorRefD
import Derived.Test.YtfbkoieodflcpaaDoorRefC
import Derived.Test.YtfbkoieodflcpaaDoorBld
import Derived.Test.YtfbkoieodflcpaaDoorPrB
import Derived.Test.YtfbkoieodflcpaaDoorPrL
import Derived.Test.YtfbkoieodflcpaaDoorPrOn
import Derived.Test.YtfbkoieodflcpaaDoorBulk
import Derived.Test.YtfbkoieodflcpaaDoorRdF
import Derived.Deep.DeepHandedRow
import Derived.Deep.DeepWitnessRowRef
import Derived.Lib.LaidTab
import Derived.WalkKit
import Derived.ProofKit
import Derived.OpenShut
import Derived.Carry
import Derived.ChangeSame
import Derived.Lib.Hide
import Derived.Deep.Draws
import Derived.Shelf.Strings.Builder1
import Derived.Shelf.Strings.Builder2
import Derived.Shelf.Strings.Trim
import Derived.Shelf.Small.Utf8
import Derived.Shelf.Small.Strs
import Derived.Shelf.Strings.BuilderF
import Derived.Shelf.Strings.BuilderK
import Derived.Shelf.Strconv.Itoa0
import Derived.Shelf.Strconv.Itoa1
import Derived.Shelf.LaysM
import Derived.Shelf.Strconv.Itoa2
import Derived.Shelf.Strconv.Itoa3
import Derived.Shelf.Strings.Search1
import Derived.Shelf.Strings.Search2
import Derived.Shelf.Strings.Search3
import Derived.Shelf.Strings.Count
import Derived.Shelf.Strings.Shaped
import Derived.Shelf.Strings.Split
import Derived.Shelf.Strings.Replace
import Derived.Shelf.Strings.Runes
import Derived.Shelf.Strings.AsciiSet
import Derived.Shelf.Unicode.DecodeSlow
import Derived.WalkSpells
import Derived.WalkLawsBesides
import Derived.StillTactics
import Derived.Laws.Pointers
import Derived.Deep.RegionHeld3
import Derived.Deep.QuietTactic
import Derived.BigQuiet
import Derived.RowKit3
import Derived.Lib.OthersKept
import Derived.OwnWalk
import Derived.Lib.IndexLaws
import Derived.Lib.ItoaMem
import Derived.Shelf.Vars
import Derived.Lib.TrimByte
import Derived.Lib.SlTrimSet
import Derived.Lib.ParseIntB
import Derived.Lib.ItoaNum
import Derived.Maps.OwnSet
import Derived.Maps.AppendAt
import Derived.Lib.Bytealg
import Derived.Lib.Replace
import Derived.Outline
import Derived.Deep.CutRange
import Derived.Deep.AppendLies
import Derived.Deep.Slices
import Derived.ChangeSlices
namespace Go.Proofs.YtfbkoieodflcpaaDoor
open Go.ChangeShapes Go.WideShapes Go.ChangeAt Go.RowKit
open Go.ChangeMaps (open_string)

set_option maxRecDepth 100000 in
/-- what the walk gives, for every input -/
theorem contract_PrintOne (H : Type) (enc : TypeId × Value → H) (W : World) (base : Nat) (args : Array Value) (ds gs : List (DataW H)) (before : List MemPlace)
    (hval : ∀ (j : Nat) t v, Tryd.f3.params[j]? = some t → args[j]? = some v → Value.okWide Tryd.prog W .any base t v)
    (hW : DataW.Whole enc Tryd.prog Tryd.f3.params.toList Rows.printOneSpec.vars false W args.toList ds gs before)
    (ht : Tab W)
    (hk : Rows.uptoSmall H (ds ++ gs) = true) :
    Calls Tryd.prog 3 args W fun e W' => ∃ v, e = .returned v ∧ Rows.printOneSpec.post enc Tryd.prog Tryd.f3 false true false false W args v W' := by
  have hW' := hW
  obtain ⟨p, q, hA0, hV, rfl, hfz, hnd⟩ := hW
  have hA : DataW.TrodAll enc Tryd.prog W 0 (fun _ => true) true Tryd.f3.params.toList args.toList ds p := hA0
  rw [Tryd.params3] at hA hval
  obtain ⟨v0, vs0, d0, ds0, p0, q0, hargs, rfl, rfl, h0, r0⟩ := trodAll_cons hA
  obtain ⟨v1, vs1, d1, ds1, p1, q1, rfl, rfl, rfl, h1, r1⟩ := trodAll_cons r0
  obtain ⟨rfl, rfl, rfl⟩ := trodAll_nil r1
  obtain rfl : args = #[v0, v1] := by cases args; simp_all
  obtain ⟨A0, l0, cap0, rfl, hR0, hok0, hlb0, hsb0⟩ := rd_form (hval 0 24 v0 rfl rfl) h0
  obtain ⟨A1, l1, cap1, rfl, hR1, hok1, hlb1, hsb1⟩ := rd_form (hval 1 24 v1 rfl rfl) h1
  have y0 := small_form hk (d := d0) (List.mem_append_left _ (by simp))
  have y1 := small_form hk (d := d1) (List.mem_append_left _ (by simp))
  refine (walk_PrintOne l0 (by omega) hok0 (fun n hn => Nat.le_trans (hsb0 n hn) y0) l1 (by omega) hok1 (fun n hn => Nat.le_trans (hsb1 n hn) y1) W ht A0 cap0 hR0 A1 cap1 hR1).mono fun e W' ⟨he, hb⟩ => ⟨_, he, ?_⟩
  exact law_post laidOut Tryd.underlying4 (by kernel_rfl) rfl (fun ds hd => by
    rw [Tryd.params3] at hd
    match ds, hd with
    | [_, _], _ => rfl) (by kernel_rfl) hW' hb

/-- the witness' arguments -/
def wArgs_PrintOne : Array Value := #[.agg #[.slice none 0 0], .agg #[.slice none 0 0]]
theorem laid_met_PrintOne (os : Os) : laidMet Tryd.prog Rows.printOneUptoRow.laid ((laidWorldD os).forCall (fun _ _ => 0) ⟨#[], wArgs_PrintOne, []⟩).memory :=
  laidMet_of_run' 8 (by kernel_rfl) (by kernel_rfl)
theorem reads_PrintOne (os : Os) {H : Type} (enc : TypeId × Value → H) : ∃ places, DataW.whole enc Tryd.prog ((laidWorldD os).forCall (fun _ _ => 0) ⟨#[], wArgs_PrintOne, []⟩).memory Tryd.f3.params.toList Rows.printOneSpec.vars false wArgs_PrintOne.toList 8 = some ([.agg [.nil], .agg [.nil]], [], places) :=
  ⟨[], by kernel_rfl⟩

set_option maxRecDepth 100000 in
theorem wh1_PrintOne (os : Os) : ((laidWorldD os).forCall (fun _ _ => 0) ⟨#[], wArgs_PrintOne, []⟩).variablesRefB Tryd.checked.prog = true := by kernel_rfl
set_option maxRecDepth 100000 in
theorem wh2_PrintOne (os : Os) : (((laidWorldD os).forCall (fun _ _ => 0) ⟨#[], wArgs_PrintOne, []⟩).heap.toList.drop Tryd.checked.prog.globals.size).take ((begin Tryd.checked.prog (fun _ _ => 0) default).world.heap.size - Tryd.checked.prog.globals.size) =
      (begin Tryd.checked.prog (fun _ _ => 0) default).world.heap.toList.drop Tryd.checked.prog.globals.size := by kernel_rfl
set_option maxRecDepth 100000 in
theorem wh3_PrintOne (os : Os) : Input.okWideB Tryd.checked.prog ((laidWorldD os).forCall (fun _ _ => 0) ⟨#[], wArgs_PrintOne, []⟩) 3 ⟨#[], wArgs_PrintOne, []⟩ = true := by kernel_rfl
theorem wcn_PrintOne (places : List MemPlace) {H : Type} : Rows.printOneUptoRow.domain.all (PathCond.test Tryd.prog ⟨Tryd.f3.params.toList, (([.agg [.nil], .agg [.nil]], [], places) : List (DataW H) × List (DataW H) × List MemPlace).1, (Rows.OpenSpec.upto Rows.printOneSpec).bare.plain.varTypes Tryd.prog, []⟩) = true := by kernel_rfl
set_option maxRecDepth 100000 in
theorem wpre_PrintOne (os : Os) {H : Type} (enc : TypeId × Value → H) : (Rows.OpenSpec.upto Rows.printOneSpec).preRow enc Tryd.prog Tryd.f3 Rows.printOneUptoRow.domain false Rows.printOneUptoRow.laid ((laidWorldD os).forCall (fun _ _ => 0) ⟨#[], wArgs_PrintOne, []⟩).memory wArgs_PrintOne := by
  obtain ⟨places, hx⟩ := reads_PrintOne os enc
  exact OpenSpec.preRow_of_cond 8 hx (wcn_PrintOne places) (fun k hk => by cases hk; rfl) (by kernel_rfl) (laid_met_PrintOne os)

set_option maxRecDepth 100000 in
theorem lifted_PrintOne (os : Os) (started : os.Started) (H : Type) (enc : TypeId × Value → H) (F : Stop.Interp) :
    ReturnsInHanded {} Tryd.checked os 3 .any ((Rows.OpenSpec.upto Rows.printOneSpec).preRow enc Tryd.prog Tryd.f3 Rows.printOneUptoRow.domain false Rows.printOneUptoRow.laid) (((Rows.OpenSpec.upto Rows.printOneSpec).at F).post enc Tryd.prog Tryd.f3 false true false false) := by
  refine returnsInHanded_of_row (C := Tryd.checked) (s := Rows.OpenSpec.upto Rows.printOneSpec) own started (by kernel_rfl) Tryd.func3
    (witness_row_atRef (enc := enc) (C := Tryd.checked) false (laidWorldD os) wArgs_PrintOne rfl (wh1_PrintOne os) (wh2_PrintOne os) (wh3_PrintOne os) (wpre_PrintOne os enc)) ?_
  intro W base args ds gs before hval hW _ hcd _ hL hsh _
  exact contract_PrintOne H enc W base args ds gs before hval hW (tab_ofD (laidMet_tailD (laidMet_tailD hL)) hsh) (hcd _ rfl)

set_option maxRecDepth 100000 in
theorem jf_PrintOne : joinedFacts Tryd.pinned.checked.prog 3 Tryd.f3 (Rows.OpenSpec.upto Rows.printOneSpec).bare Rows.printOneUptoRow = true := by kernel_rfl
theorem said_PrintOne : Rows.PrintOneUptoSaid :=
  OpenClaim.holds_of_cond 3 Tryd.f3 rfl rfl rfl rfl rfl rfl rfl ⟨rfl, rfl, rfl, rfl, rfl⟩ rfl rfl rfl rfl rfl (by kernel_rfl) Tryd.func3 jf_PrintOne
    (of_decide_eq_true (by kernel_rfl)) (by unfold Func.isWrapper; rw [if_neg (of_decide_eq_false (by kernel_rfl))]; exact ⟨rfl, rfl⟩)
    (fun os started H enc _ F => by rw [OpenClaim.pre_eq_preRow]; exact lifted_PrintOne os started H enc F)

theorem plain_PrintOne (f : FuncId) (fn : Func) (hf : Tryd.pinned.checked.prog.funcNamed "oriel/oriellaw07.PrintOne" = some f) (hfn : Tryd.pinned.checked.prog.funcs[f]? = some fn) :
    false = Tryd.pinned.checked.prog.looks [] ∧ ∀ (j : Nat) t, fn.params[j]? = some t → Tryd.pinned.checked.prog.wantsStandIn t = false := by
  obtain rfl : f = 3 := Option.some.inj ((show Tryd.prog.funcNamed "oriel/oriellaw07.PrintOne" = some 3 by kernel_rfl).symm.trans hf) |>.symm
  obtain rfl : fn = Tryd.f3 := (Option.some.inj (Tryd.func3.symm.trans hfn)).symm
  refine ⟨by kernel_rfl, fun j t ht => ?_⟩
  rw [Tryd.params3] at ht
  have hm : t = 24 := by simpa using Array.mem_of_getElem? ht
  rcases hm with rfl
  · exact (show Tryd.prog.wantsStandIn 24 = false by kernel_rfl)

/-- THE CARD -/
theorem card_PrintOne : Rows.PrintOneUptoCardSaid :=
  Claim7.holds_tied_plain_at .later [] _ _ _ _ said_PrintOne (fun _ h => by cases h) (by kernel_rfl) (fun _ h => by cases h) printOneUpto_row_tie rfl ⟨rfl, rfl⟩ (by kernel_rfl) rfl plain_PrintOne (by kernel_rfl)
end Go.Proofs.YtfbkoieodflcpaaDoor
