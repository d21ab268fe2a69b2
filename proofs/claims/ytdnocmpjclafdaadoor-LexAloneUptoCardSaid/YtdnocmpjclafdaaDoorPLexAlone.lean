/-
  The law LexAlone returns true for every input of bulk at most 1048576; the listed variables of the library are as the program's text lays them (the card ties that).
-/
import Derived.Test.YtdnocmpjclafdaaDoorCards
import Derived.Test.YtdnocmpjclafdaaDoorTie
import Derived.Test.YtdnocmpjclafdaaDoorRows
import Derived.Test.YtdnocmpjclafdaaDoorBase
import Derived.Test.YtdnocmpjclafdaaDoorProg
import Derived.Test.YtdnocmpjclafdaaDoorShelf
import Derived.Test.YtdnocmpjclafdaaDoorFmtU
import Derived.Test.YtdnocmpjclafdaaDoorLaidD
import Derived.Test.YtdnocmpjclafdaaDoorNumL
import Derived.Test.YtdnocmpjclafdaaDoorCutW
import Derived.Test.YtdnocmpjclafdaaDoorAddrC
import Derived.Test.YtdnocmpjclafdaaDoorNames
import Derived.Test.YtdnocmpjclafdaaDoorParseW
import Derived.Test.YtdnocmpjclafdaaDoorPRect
import Derived.Test.YtdnocmpjclafdaaDoorDecA
import Derived.Test.YtdnocmpjclafdaaDoorValA
import Derived.Test.YtdnocmpjclafdaaDoorValB
import Derived.Test.YtdnocmpjclafdaaDoorValD
import Derived.Test.YtdnocmpjclafdaaDoorLexP
import Derived.Test.YtdnocmpjclafdaaDoorLexW
import Derived.Test.YtdnocmpjclafdaaDoorRefName
import Derived.Test.YtdnocmpjclafdaaDoorLexR
import Derived.Test.YtdnocmpjclafdaaDoorLexWd
import Derived.Test.YtdnocmpjclafdaaDoorLexSg
import Derived.Test.YtdnocmpjclafdaaDoorBld
import Derived.Test.YtdnocmpjclafdaaDoorLexQt
import Derived.Test.YtdnocmpjclafdaaDoorLexS
import Derived.Test.YtdnocmpjclafdaaDoorDDig
import Derived.Test.YtdnocmpjclafdaaDoorDParse
import Derived.Test.YtdnocmpjclafdaaDoorLexF
import Derived.Test.YtdnocmpjclafdaaDoorRowB
import Derived.Test.YtdnocmpjclafdaaDoorMapK
import Derived.Test.YtdnocmpjclafdaaDoorLexC
import Derived.Test.YtdnocmpjclafdaaDoorLexI
import Derived.Test.YtdnocmpjclafdaaDoorLexL
import Derived.Test.YtdnocmpjclafdaaDoorLexT
import Derived.Test.YtdnocmpjclafdaaDoorLexAl
import Derived.Test.YtdnocmpjclafdaaDoorWLexAlone
import Derived.Test.YtdnocmpjclafdaaDoorBulk
import Derived.Deep.DeepHandedRow
import Derived.Deep.DeepWitnessRowRef
import Derived.Lib.LaidTab
import Derived.WalkKit
import Derived.ProofKit
import Derived.OpenShut
import Derived.Carry
import Derived.ChangeSame
import Derived.Lib.Hide
import Derived.Deep.Draws
import Derived.Shelf.Strings.Builder1
import Derived.Shelf.Strings.Builder2
import Derived.Shelf.Strings.Trim
import Derived.Shelf.Small.Utf8
import Derived.Shelf.Small.Strs
import Derived.Shelf.Small.Wraps
import Derived.Shelf.Strings.BuilderF
import Derived.Shelf.Strings.BuilderK
import Derived.Shelf.Utf8.RuneCount
import Derived.Shelf.Strconv.Itoa0
import Derived.Shelf.Strconv.Itoa1
import Derived.Shelf.LaysM
import Derived.Shelf.Strconv.Itoa2
import Derived.Shelf.Strconv.Itoa3
import Derived.Ground.MpProg
import Derived.Shelf.Pu.ParseUintPublic10
import Derived.Shelf.Strings.Search1
import Derived.Shelf.Strings.Search2
import Derived.Shelf.Strings.Search3
import Derived.Shelf.Strings.Cut
import Derived.Shelf.Strings.Count
import Derived.Shelf.Strings.Shaped
import Derived.Shelf.Strings.Prefix
import Derived.Shelf.Strings.Split
import Derived.Shelf.Strings.Replace
import Derived.Shelf.Strings.SplitShaped
import Derived.Shelf.Unicode.Decode
import Derived.Shelf.Strings.Runes
import Derived.Shelf.Strings.RuneCount
import Derived.Shelf.Strings.AsciiSet
import Derived.Shelf.Unicode.DecodeSlow
import Derived.Shelf.Unicode.DecodeAny
import Derived.Shelf.Unicode.DecodeLast
import Derived.WalkSpells
import Derived.WalkLawsBesides
import Derived.StillTactics
import Derived.Laws.Pointers
import Derived.Deep.RegionHeld3
import Derived.Deep.QuietTactic
import Derived.BigQuiet
import Derived.RowKit3
import Derived.Lib.OthersKept
import Derived.OwnWalk
import Derived.Lib.IndexLaws
import Derived.Lib.ItoaMem
import Derived.Shelf.Vars
import Derived.Lib.TrimByte
import Derived.Lib.SlTrimSet
import Derived.Lib.ParseIntB
import Derived.Lib.ItoaNum
import Derived.Shelf.Strings.SlTrimAscii
import Derived.Lib.SmallJoins
import Derived.Maps.OwnSet
import Derived.Maps.AppendAt
import Derived.RangeFuncBox
import Derived.RangeFuncNested
import Derived.RangeFuncLeaves
import Derived.Shelf.Abstract
import Derived.OwnWalkIn
import Derived.TacticsInMore
import Derived.LoopNIn
import Derived.LoopIn
import Derived.Maps.OwnIn
namespace Go.Proofs.YtdnocmpjclafdaaDoor
open Go.ChangeShapes Go.WideShapes Go.ChangeAt Go.RowKit
open Go.ChangeMaps (open_string)

set_option maxRecDepth 100000 in
/-- what the walk gives, for every input -/
theorem contract_LexAlone (H : Type) (enc : TypeId × Value → H) (W : World) (base : Nat) (args : Array Value) (ds gs : List (DataW H)) (before : List MemPlace)
    (hval : ∀ (j : Nat) t v, Tryd.f5.params[j]? = some t → args[j]? = some v → Value.okWide Tryd.prog W .any base t v)
    (hW : DataW.Whole enc Tryd.prog Tryd.f5.params.toList Rows.lexAloneSpec.vars false W args.toList ds gs before)
    (ht : Tab W)
    (hk : Rows.uptoSmall H (ds ++ gs) = true) :
    Calls Tryd.prog 5 args W fun e W' => ∃ v, e = .returned v ∧ Rows.lexAloneSpec.post enc Tryd.prog Tryd.f5 false true false false W args v W' := by
  have hW' := hW
  obtain ⟨p, q, hA0, hV, rfl, hfz, hnd⟩ := hW
  have hA : DataW.TrodAll enc Tryd.prog W 0 (fun _ => true) true Tryd.f5.params.toList args.toList ds p := hA0
  rw [Tryd.params5] at hA hval
  obtain ⟨v0, vs0, d0, ds0, p0, q0, hargs, rfl, rfl, h0, r0⟩ := trodAll_cons hA
  obtain ⟨rfl, rfl, rfl⟩ := trodAll_nil r0
  obtain rfl : args = #[v0] := by cases args; simp_all
  obtain ⟨a0, rfl, rfl, rfl, w0⟩ := open_string Tryd.underlying9 (hval 0 9 v0 rfl rfl) h0
  have y0 := small_string hk (s := a0) (List.mem_append_left _ (by simp))
  refine (walkb_LexAlone a0 y0 W ht).mono fun e W' ⟨he, hb⟩ => ⟨_, he, ?_⟩
  exact law_post laidOut Tryd.underlying4 (by kernel_rfl) rfl (fun ds hd => by
    rw [Tryd.params5] at hd
    match ds, hd with
    | [_], _ => rfl) (by kernel_rfl) hW' hb

theorem laid_met_LexAlone (os : Os) : laidMet Tryd.prog Rows.lexAloneUptoRow.laid ((laidWorldD os).forCall (fun _ _ => 0) ⟨#[], #[.string ⟨#[]⟩], []⟩).memory :=
  laidMet_of_run' 8 (by kernel_rfl) (by kernel_rfl)
theorem reads_LexAlone (os : Os) {H : Type} (enc : TypeId × Value → H) : ∃ places, DataW.whole enc Tryd.prog ((laidWorldD os).forCall (fun _ _ => 0) ⟨#[], #[.string ⟨#[]⟩], []⟩).memory Tryd.f5.params.toList Rows.lexAloneSpec.vars false #[.string ⟨#[]⟩].toList 8 = some ([.lit (.string [])], [], places) :=
  ⟨[], by kernel_rfl⟩

set_option maxRecDepth 100000 in
theorem lifted_LexAlone (os : Os) (started : os.Started) (H : Type) (enc : TypeId × Value → H) (F : Stop.Interp) :
    ReturnsInHanded {} Tryd.checked os 5 .any ((Rows.OpenSpec.upto Rows.lexAloneSpec).preRow enc Tryd.prog Tryd.f5 Rows.lexAloneUptoRow.domain false Rows.lexAloneUptoRow.laid) (((Rows.OpenSpec.upto Rows.lexAloneSpec).at F).post enc Tryd.prog Tryd.f5 false true false false) := by
  obtain ⟨places, hx⟩ := reads_LexAlone os enc
  refine returnsInHanded_of_row (C := Tryd.checked) (s := Rows.OpenSpec.upto Rows.lexAloneSpec) own started (by kernel_rfl) Tryd.func5
    (witness_row_atRef (enc := enc) (C := Tryd.checked) false (laidWorldD os) #[.string ⟨#[]⟩] rfl (by kernel_rfl) (by kernel_rfl) (by kernel_rfl)
      (OpenSpec.preRow_of_cond 8 hx (by kernel_rfl) (fun k hk => by cases hk; rfl) (by kernel_rfl) (laid_met_LexAlone os))) ?_
  intro W base args ds gs before hval hW _ hcd _ hL hsh _
  exact contract_LexAlone H enc W base args ds gs before hval hW (tab_ofD (laidMet_tailD (laidMet_tailD hL)) hsh) (hcd _ rfl)

theorem said_LexAlone : Rows.LexAloneUptoSaid :=
  OpenClaim.holds_of_cond 5 Tryd.f5 rfl rfl rfl rfl rfl rfl rfl ⟨rfl, rfl, rfl, rfl, rfl⟩ rfl rfl rfl rfl rfl (by kernel_rfl) Tryd.func5 (by kernel_rfl)
    (of_decide_eq_true (by kernel_rfl)) (by unfold Func.isWrapper; rw [if_neg (of_decide_eq_false (by kernel_rfl))]; exact ⟨rfl, rfl⟩)
    (fun os started H enc _ F => by rw [OpenClaim.pre_eq_preRow]; exact lifted_LexAlone os started H enc F)

theorem plain_LexAlone (f : FuncId) (fn : Func) (hf : Tryd.pinned.checked.prog.funcNamed "oriel/oriellaw04.LexAlone" = some f) (hfn : Tryd.pinned.checked.prog.funcs[f]? = some fn) :
    true = Tryd.pinned.checked.prog.looks [] ∧ ∀ (j : Nat) t, fn.params[j]? = some t → Tryd.pinned.checked.prog.wantsStandIn t = false := by
  obtain rfl : f = 5 := Option.some.inj ((show Tryd.prog.funcNamed "oriel/oriellaw04.LexAlone" = some 5 by kernel_rfl).symm.trans hf) |>.symm
  obtain rfl : fn = Tryd.f5 := (Option.some.inj (Tryd.func5.symm.trans hfn)).symm
  refine ⟨by kernel_rfl, fun j t ht => ?_⟩
  rw [Tryd.params5] at ht
  have hm : t = 9 := by simpa using Array.mem_of_getElem? ht
  rcases hm with rfl
  · exact (show Tryd.prog.wantsStandIn 9 = false by kernel_rfl)

/-- THE CARD -/
theorem card_LexAlone : Rows.LexAloneUptoCardSaid :=
  Claim7.holds_tied_plain_at .later [] _ _ _ _ said_LexAlone (fun _ h => by cases h) (by kernel_rfl) (fun _ h => by cases h) lexAloneUpto_row_tie rfl ⟨rfl, rfl⟩ (by kernel_rfl) rfl plain_LexAlone (by kernel_rfl)
end Go.Proofs.YtdnocmpjclafdaaDoor
