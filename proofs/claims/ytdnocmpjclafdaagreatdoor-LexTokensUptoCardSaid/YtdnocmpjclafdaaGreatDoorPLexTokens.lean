/-
  The law LexTokens returns true for every input of bulk at most 1048576; the listed variables of the library are as the program's text lays them (the card ties that).
-/
import Derived.Test.YtdnocmpjclafdaaGreatDoorCards
import Derived.Test.YtdnocmpjclafdaaGreatDoorTie
import Derived.Test.YtdnocmpjclafdaaGreatDoorRows
import Derived.Test.YtdnocmpjclafdaaGreatDoorBase
import Derived.Test.YtdnocmpjclafdaaGreatDoorProg
import Derived.Test.YtdnocmpjclafdaaGreatDoorShelf
import Derived.Test.YtdnocmpjclafdaaGreatDoorMg2
import Derived.Test.YtdnocmpjclafdaaGreatDoorPrintL
import Derived.Test.YtdnocmpjclafdaaGreatDoorNumL
import Derived.Test.YtdnocmpjclafdaaGreatDoorCutW
import Derived.Test.YtdnocmpjclafdaaGreatDoorAddrC
import Derived.Test.YtdnocmpjclafdaaGreatDoorNames
import Derived.Test.YtdnocmpjclafdaaGreatDoorParseW
import Derived.Test.YtdnocmpjclafdaaGreatDoorPRect
import Derived.Test.YtdnocmpjclafdaaGreatDoorDecA
import Derived.Test.YtdnocmpjclafdaaGreatDoorValA
import Derived.Test.YtdnocmpjclafdaaGreatDoorValB
import Derived.Test.YtdnocmpjclafdaaGreatDoorValD
import Derived.Test.YtdnocmpjclafdaaGreatDoorLexP
import Derived.Test.YtdnocmpjclafdaaGreatDoorLexW
import Derived.Test.YtdnocmpjclafdaaGreatDoorRefName
import Derived.Test.YtdnocmpjclafdaaGreatDoorLexR
import Derived.Test.YtdnocmpjclafdaaGreatDoorLexWd
import Derived.Test.YtdnocmpjclafdaaGreatDoorLexSg
import Derived.Test.YtdnocmpjclafdaaGreatDoorLexQ
import Derived.Test.YtdnocmpjclafdaaGreatDoorBld
import Derived.Test.YtdnocmpjclafdaaGreatDoorLexQt
import Derived.Test.YtdnocmpjclafdaaGreatDoorLexS
import Derived.Test.YtdnocmpjclafdaaGreatDoorDDig
import Derived.Test.YtdnocmpjclafdaaGreatDoorDParse
import Derived.Test.YtdnocmpjclafdaaGreatDoorLexF
import Derived.Test.YtdnocmpjclafdaaGreatDoorRParse
import Derived.Test.YtdnocmpjclafdaaGreatDoorRPRect
import Derived.Test.YtdnocmpjclafdaaGreatDoorLexN
import Derived.Test.YtdnocmpjclafdaaGreatDoorMg30
import Derived.Test.YtdnocmpjclafdaaGreatDoorRDig
import Derived.Test.YtdnocmpjclafdaaGreatDoorRDParA
import Derived.Test.YtdnocmpjclafdaaGreatDoorRDPar
import Derived.Test.YtdnocmpjclafdaaGreatDoorRDParB
import Derived.Test.YtdnocmpjclafdaaGreatDoorRDJoin
import Derived.Test.YtdnocmpjclafdaaGreatDoorValK
import Derived.Test.YtdnocmpjclafdaaGreatDoorLexD
import Derived.Test.YtdnocmpjclafdaaGreatDoorLexA
import Derived.Test.YtdnocmpjclafdaaGreatDoorLexB
import Derived.Test.YtdnocmpjclafdaaGreatDoorRowB
import Derived.Test.YtdnocmpjclafdaaGreatDoorMapK
import Derived.Test.YtdnocmpjclafdaaGreatDoorLexC
import Derived.Test.YtdnocmpjclafdaaGreatDoorLexI
import Derived.Test.YtdnocmpjclafdaaGreatDoorLexL
import Derived.Test.YtdnocmpjclafdaaGreatDoorLexT
import Derived.Test.YtdnocmpjclafdaaGreatDoorLexSm
import Derived.Test.YtdnocmpjclafdaaGreatDoorLexTk
import Derived.Test.YtdnocmpjclafdaaGreatDoorBulk
import Derived.Deep.DeepHandedRow
import Derived.Deep.DeepWitnessRowRef
import Derived.Lib.LaidTab
import Derived.WalkKit
import Derived.ProofKit
import Derived.OpenShut
import Derived.Carry
import Derived.ChangeSame
import Derived.Lib.Hide
import Derived.Deep.Draws
import Derived.Shelf.Strings.Builder1
import Derived.Shelf.Strings.Builder2
import Derived.Shelf.Strings.Trim
import Derived.Shelf.Small.Utf8
import Derived.Shelf.Small.Strs
import Derived.Shelf.Small.Wraps
import Derived.Shelf.Strings.BuilderF
import Derived.Shelf.Strings.BuilderK
import Derived.Shelf.Strconv.Itoa0
import Derived.Shelf.Strconv.Itoa1
import Derived.Shelf.LaysM
import Derived.Shelf.Strconv.Itoa2
import Derived.Ground.MpProg
import Derived.Shelf.Pu.ParseUintPublic10
import Derived.Shelf.Strings.Search1
import Derived.Shelf.Strings.Search2
import Derived.Shelf.Strings.Search3
import Derived.Shelf.Strings.Cut
import Derived.Shelf.Strings.Count
import Derived.Shelf.Strings.Shaped
import Derived.Shelf.Strings.Prefix
import Derived.Shelf.Strings.Split
import Derived.Shelf.Strings.Replace
import Derived.Shelf.Strings.SplitShaped
import Derived.Shelf.Strings.Runes
import Derived.Shelf.Strings.AsciiSet
import Derived.Shelf.Unicode.DecodeSlow
import Derived.WalkSpells
import Derived.WalkLawsBesides
import Derived.StillTactics
import Derived.Laws.Pointers
import Derived.Deep.RegionHeld3
import Derived.Deep.QuietTactic
import Derived.BigQuiet
import Derived.RowKit3
import Derived.Lib.OthersKept
import Derived.OwnWalk
import Derived.Lib.IndexLaws
import Derived.Lib.ItoaMem
import Derived.Shelf.Vars
import Derived.Lib.TrimByte
import Derived.Lib.SlTrimSet
import Derived.Lib.ParseIntB
import Derived.Lib.ItoaNum
import Derived.Shelf.Strings.SlTrimAscii
import Derived.Lib.SmallJoins
import Derived.Maps.OwnSet
import Derived.Maps.AppendAt
import Derived.RangeFuncBox
import Derived.RangeFuncNested
import Derived.RangeFuncLeaves
import Derived.Shelf.Abstract
import Derived.OwnWalkIn
import Derived.TacticsInMore
import Derived.LoopNIn
import Derived.LoopIn
import Derived.Maps.OwnIn
namespace Go.Proofs.YtdnocmpjclafdaaGreatDoor
open Go.ChangeShapes Go.WideShapes Go.ChangeAt Go.RowKit
open Go.ChangeMaps (open_string)

set_option maxRecDepth 100000 in
/-- what the walk gives, for every input -/
theorem contract_LexTokens (H : Type) (enc : TypeId × Value → H) (W : World) (base : Nat) (args : Array Value) (ds gs : List (DataW H)) (before : List MemPlace)
    (hval : ∀ (j : Nat) t v, Tryz.f3.params[j]? = some t → args[j]? = some v → Value.okWide Tryz.prog W .any base t v)
    (hW : DataW.Whole enc Tryz.prog Tryz.f3.params.toList Rows.lexTokensSpec.vars false W args.toList ds gs before)
    (ht : Tab W)
    (hk : Rows.uptoSmall H (ds ++ gs) = true) :
    Calls Tryz.prog 3 args W fun e W' => ∃ v, e = .returned v ∧ Rows.lexTokensSpec.post enc Tryz.prog Tryz.f3 false true false false W args v W' := by
  have hW' := hW
  obtain ⟨p, q, hA0, hV, rfl, hfz, hnd⟩ := hW
  have hA : DataW.TrodAll enc Tryz.prog W 0 (fun _ => true) true Tryz.f3.params.toList args.toList ds p := hA0
  rw [Tryz.params3] at hA hval
  obtain ⟨v0, vs0, d0, ds0, p0, q0, hargs, rfl, rfl, h0, r0⟩ := trodAll_cons hA
  obtain ⟨rfl, rfl, rfl⟩ := trodAll_nil r0
  obtain rfl : args = #[v0] := by cases args; simp_all
  obtain ⟨a0, rfl, rfl, rfl, w0⟩ := open_string Tryz.underlying9 (hval 0 9 v0 rfl rfl) h0
  have y0 := small_string hk (s := a0) (List.mem_append_left _ (by simp))
  refine (walkb_LexTokens a0 y0 W ht).mono fun e W' ⟨he, hb⟩ => ⟨_, he, ?_⟩
  exact law_post laidOut Tryz.underlying4 (by kernel_rfl) rfl (fun ds hd => by
    rw [Tryz.params3] at hd
    match ds, hd with
    | [_], _ => rfl) (by kernel_rfl) hW' hb

theorem laid_met_LexTokens (os : Os) : laidMet Tryz.prog Rows.lexTokensUptoRow.laid ((laidWorldD os).forCall (fun _ _ => 0) ⟨#[], #[.string ⟨#[]⟩], []⟩).memory :=
  laidMet_of_run' 8 (by kernel_rfl) (by kernel_rfl)
theorem reads_LexTokens (os : Os) {H : Type} (enc : TypeId × Value → H) : ∃ places, DataW.whole enc Tryz.prog ((laidWorldD os).forCall (fun _ _ => 0) ⟨#[], #[.string ⟨#[]⟩], []⟩).memory Tryz.f3.params.toList Rows.lexTokensSpec.vars false #[.string ⟨#[]⟩].toList 8 = some ([.lit (.string [])], [], places) :=
  ⟨[], by kernel_rfl⟩

set_option maxRecDepth 100000 in
theorem lifted_LexTokens (os : Os) (started : os.Started) (H : Type) (enc : TypeId × Value → H) (F : Stop.Interp) :
    ReturnsInHanded {} Tryz.checked os 3 .any ((Rows.OpenSpec.upto Rows.lexTokensSpec).preRow enc Tryz.prog Tryz.f3 Rows.lexTokensUptoRow.domain false Rows.lexTokensUptoRow.laid) (((Rows.OpenSpec.upto Rows.lexTokensSpec).at F).post enc Tryz.prog Tryz.f3 false true false false) := by
  obtain ⟨places, hx⟩ := reads_LexTokens os enc
  refine returnsInHanded_of_row (C := Tryz.checked) (s := Rows.OpenSpec.upto Rows.lexTokensSpec) own started (by kernel_rfl) Tryz.func3
    (witness_row_atRef (enc := enc) (C := Tryz.checked) false (laidWorldD os) #[.string ⟨#[]⟩] rfl (by kernel_rfl) (by kernel_rfl) (by kernel_rfl)
      (OpenSpec.preRow_of_cond 8 hx (by kernel_rfl) (fun k hk => by cases hk; rfl) (by kernel_rfl) (laid_met_LexTokens os))) ?_
  intro W base args ds gs before hval hW _ hcd _ hL hsh _
  exact contract_LexTokens H enc W base args ds gs before hval hW (tab_ofD (laidMet_tailD (laidMet_tailD hL)) hsh) (hcd _ rfl)

theorem said_LexTokens : Rows.LexTokensUptoSaid :=
  OpenClaim.holds_of_cond 3 Tryz.f3 rfl rfl rfl rfl rfl rfl rfl ⟨rfl, rfl, rfl, rfl, rfl⟩ rfl rfl rfl rfl rfl (by kernel_rfl) Tryz.func3 (by kernel_rfl)
    (of_decide_eq_true (by kernel_rfl)) (by unfold Func.isWrapper; rw [if_neg (of_decide_eq_false (by kernel_rfl))]; exact ⟨rfl, rfl⟩)
    (fun os started H enc _ F => by rw [OpenClaim.pre_eq_preRow]; exact lifted_LexTokens os started H enc F)

theorem plain_LexTokens (f : FuncId) (fn : Func) (hf : Tryz.pinned.checked.prog.funcNamed "oriel/oriellaw04.LexTokens" = some f) (hfn : Tryz.pinned.checked.prog.funcs[f]? = some fn) :
    true = Tryz.pinned.checked.prog.looks [] ∧ ∀ (j : Nat) t, fn.params[j]? = some t → Tryz.pinned.checked.prog.wantsStandIn t = false := by
  obtain rfl : f = 3 := Option.some.inj ((show Tryz.prog.funcNamed "oriel/oriellaw04.LexTokens" = some 3 by kernel_rfl).symm.trans hf) |>.symm
  obtain rfl : fn = Tryz.f3 := (Option.some.inj (Tryz.func3.symm.trans hfn)).symm
  refine ⟨by kernel_rfl, fun j t ht => ?_⟩
  rw [Tryz.params3] at ht
  have hm : t = 9 := by simpa using Array.mem_of_getElem? ht
  rcases hm with rfl
  · exact (show Tryz.prog.wantsStandIn 9 = false by kernel_rfl)

/-- THE CARD -/
theorem card_LexTokens : Rows.LexTokensUptoCardSaid :=
  Claim7.holds_tied_plain_at .later [] _ _ _ _ said_LexTokens (fun _ h => by cases h) (by kernel_rfl) (fun _ h => by cases h) lexTokensUpto_row_tie rfl ⟨rfl, rfl⟩ (by kernel_rfl) rfl plain_LexTokens (by kernel_rfl)
end Go.Proofs.YtdnocmpjclafdaaGreatDoor
