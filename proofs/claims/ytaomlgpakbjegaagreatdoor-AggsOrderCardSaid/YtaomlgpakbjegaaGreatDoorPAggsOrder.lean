/-
  Values, entries, arguments that came in; The law AggsOrder returns true for every input; the listed variables of the library are as the program's text lays them (the card ties that).
-/
import Derived.Test.YtaomlgpakbjegaaGreatDoorRows
import Derived.Test.YtaomlgpakbjegaaGreatDoorBase
import Derived.Test.YtaomlgpakbjegaaGreatDoorMg4
import Derived.Test.YtaomlgpakbjegaaGreatDoorMg5
import Derived.Test.YtaomlgpakbjegaaGreatDoorValA
import Derived.Test.YtaomlgpakbjegaaGreatDoorValB
import Derived.Test.YtaomlgpakbjegaaGreatDoorValC
import Derived.Test.YtaomlgpakbjegaaGreatDoorAddrC
import Derived.Test.YtaomlgpakbjegaaGreatDoorMg10
import Derived.Test.YtaomlgpakbjegaaGreatDoorMapK
import Derived.Test.YtaomlgpakbjegaaGreatDoorCards
import Derived.Test.YtaomlgpakbjegaaGreatDoorTie
import Derived.Test.YtaomlgpakbjegaaGreatDoorProg
import Derived.Test.YtaomlgpakbjegaaGreatDoorShelf
import Derived.Test.YtaomlgpakbjegaaGreatDoorMg2
import Derived.Test.YtaomlgpakbjegaaGreatDoorMg3
import Derived.Test.YtaomlgpakbjegaaGreatDoorMg12
import Derived.Test.YtaomlgpakbjegaaGreatDoorMg13
import Derived.Test.YtaomlgpakbjegaaGreatDoorDPrint
import Derived.Test.YtaomlgpakbjegaaGreatDoorRPr
import Derived.Test.YtaomlgpakbjegaaGreatDoorKnuth
import Derived.Test.YtaomlgpakbjegaaGreatDoorDDiv
import Derived.Test.YtaomlgpakbjegaaGreatDoorDDig
import Derived.Test.YtaomlgpakbjegaaGreatDoorCutW
import Derived.Test.YtaomlgpakbjegaaGreatDoorDParse
import Derived.Test.YtaomlgpakbjegaaGreatDoorDecK
import Derived.Test.YtaomlgpakbjegaaGreatDoorDDivA
import Derived.Test.YtaomlgpakbjegaaGreatDoorMg23
import Derived.Test.YtaomlgpakbjegaaGreatDoorValL
import Derived.Test.YtaomlgpakbjegaaGreatDoorAItm
import Derived.Test.YtaomlgpakbjegaaGreatDoorAAmo
import Derived.Test.YtaomlgpakbjegaaGreatDoorASum
import Derived.Test.YtaomlgpakbjegaaGreatDoorAFind
import Derived.Test.YtaomlgpakbjegaaGreatDoorACall
import Derived.Test.YtaomlgpakbjegaaGreatDoorACallB
import Derived.Test.YtaomlgpakbjegaaGreatDoorANum
import Derived.Test.YtaomlgpakbjegaaGreatDoorAVal
import Derived.Test.YtaomlgpakbjegaaGreatDoorALar
import Derived.Test.YtaomlgpakbjegaaGreatDoorAPlB
import Derived.Test.YtaomlgpakbjegaaGreatDoorAMea
import Derived.Test.YtaomlgpakbjegaaGreatDoorASom
import Derived.Test.YtaomlgpakbjegaaGreatDoorAArg
import Derived.Test.YtaomlgpakbjegaaGreatDoorACol
import Derived.Test.YtaomlgpakbjegaaGreatDoorMg39
import Derived.Test.YtaomlgpakbjegaaGreatDoorACnt
import Derived.Test.YtaomlgpakbjegaaGreatDoorACif
import Derived.Test.YtaomlgpakbjegaaGreatDoorAClo
import Derived.Test.YtaomlgpakbjegaaGreatDoorAKn
import Derived.Test.YtaomlgpakbjegaaGreatDoorAAtB
import Derived.Test.YtaomlgpakbjegaaGreatDoorAOrd
import Derived.Test.YtaomlgpakbjegaaGreatDoorRArgM
import Derived.Test.YtaomlgpakbjegaaGreatDoorR8D
import Derived.Test.YtaomlgpakbjegaaGreatDoorLAOrd
import Derived.WalkSpells
import Derived.WalkLawsBesides
import Derived.StillTactics
import Derived.Laws.Pointers
import Derived.Deep.RegionHeld3
import Derived.Deep.QuietTactic
import Derived.BigQuiet
import Derived.RowKit3
import Derived.Lib.Hide
import Derived.Lib.OthersKept
import Derived.OwnWalk
import Derived.Lib.IndexLaws
import Derived.Lib.ItoaMem
import Derived.WalkKit
import Derived.ProofKit
import Derived.OpenShut
import Derived.Carry
import Derived.ChangeSame
import Derived.Deep.Draws
import Derived.Deep.Slices
import Derived.ChangeSlices
import Derived.Maps.OwnSet
import Derived.Maps.AppendAt
import Derived.Deep.DeepHandedRow
import Derived.Deep.DeepWitnessRowRef
import Derived.SizedLaws
import Derived.Lib.LaidTab
import Derived.Shelf.Strings.Builder1
import Derived.Shelf.Strings.Builder2
import Derived.Shelf.Strings.OnBuilder
import Derived.Shelf.Strings.Trim
import Derived.Shelf.Small.Utf8
import Derived.Shelf.Small.Bits
import Derived.Shelf.Small.Strs
import Derived.Shelf.Small.Wraps
import Derived.Shelf.Strings.BuilderF
import Derived.Shelf.Strings.BuilderK
import Derived.Shelf.Strconv.Itoa0
import Derived.Shelf.Strconv.Itoa1
import Derived.Shelf.LaysM
import Derived.Shelf.Strconv.Itoa2
import Derived.Ground.MpProg
import Derived.Shelf.Pu.ParseUintPublic10
import Derived.Shelf.Strings.Search1
import Derived.Shelf.Strings.Search2
import Derived.Shelf.Strings.Search3
import Derived.Shelf.Strings.Cut
import Derived.Shelf.Strings.Shaped
import Derived.Shelf.Strings.Prefix
import Derived.Shelf.Strings.Runes
import Derived.Shelf.Strings.AsciiSet
import Derived.Shelf.Bits.Mul64
import Derived.Shelf.Strings.Repeat
import Derived.Shelf.Unicode.DecodeSlow
import Derived.Ground.SlgmProg
import Derived.Shelf.SortM.Plain
import Derived.Shelf.SortM.SortNone
import Derived.Shelf.Vars
import Derived.Shelf.SlGeneric
import Derived.Laws.EntriesVeiled
import Derived.Laws.BitsAllLaws
import Derived.Lib.TrimByte
import Derived.Lib.Bytealg
import Derived.Lib.SlTrimSet
import Derived.Lib.ParseIntB
import Derived.Shelf.Strings.SlTrimAscii
import Derived.Lib.SmallJoins
import Derived.Deep.RegionWith
import Derived.Laws.Externs
import Derived.IntWalk
import Derived.Sort.OwnSorted
import Derived.Sort.OwnSortedInts
import Derived.RangeFuncBox
import Derived.RangeFuncLeaves
import Derived.Shelf.Abstract
import Derived.OwnWalkIn
import Derived.TacticsInMore
import Derived.LoopNIn
import Derived.LoopIn
import Derived.Lib.Slices
import Derived.Lib.MinMax
import Derived.Deep.AppendLies
import Derived.Deep.RegionLaw
namespace Go.Proofs.YtaomlgpakbjegaaGreatDoor
open Go.RowKit Go.ChangeShapes Go.WideShapes Go.Deep

section
variable {H : Type} {enc : TypeId × Value → H} {w : World} {sp : Nat → Bool} {held : Bool}
theorem rd_val (fuel : Nat) (us : List Value) (z : DataW H × List MemPlace) (h : DataW.trod enc Tryz.prog w 0 sp held fuel 26 us = some z) : ∃ x : VL, us = x.cs ∧ x.ok := by
  have g := readsAll_of_trod 6 26 [23, 2, 9, 4, 24] fuel us z (by kernel_rfl) h
  obtain ⟨_, _, rfl, g0, _, _, rfl, g1, _, _, rfl, g2, _, _, rfl, g3, _, _, rfl, g4, rfl⟩ := g
  obtain ⟨t, rfl, b_t⟩ := Reads1.i64 Tryz.underlying23 g0
  obtain ⟨n, rfl, b_n⟩ := Reads1.i64 Tryz.underlying2 g1
  obtain ⟨s, rfl, b_s⟩ := Reads1.string Tryz.underlying9 g2
  obtain ⟨b, rfl⟩ := Reads1.bool Tryz.underlying4 g3
  obtain ⟨c, rfl, b_c⟩ := Reads1.i64 Tryz.underlying24 g4
  exact ⟨⟨t, n, s, b, c⟩, rfl, b_n⟩
set_option maxRecDepth 100000 in
theorem rd_vals {r : Reach} {b0 : Nat} {v : Value} {d : DataW H} {ps : List MemPlace} (hval : Value.okWide Tryz.prog w r b0 94 v) (h : DataW.Trod enc Tryz.prog w 0 sp held 94 v d ps) : ∃ (A : Option Addr) (l : List VL) (cap : Nat), v = .slice A l.length cap ∧ l.length ≤ cap ∧ cap ≤ maxLen ∧ RdB w w.heap.size A 5 (l.map VL.cs) ∧ (∀ x ∈ l, x.ok) ∧ (l = [] ∨ ∃ es sr, d = .slice es sr ∧ es.length = l.length) ∧ (A = none → l.length = 0 ∧ cap = 0) :=
  rd_argK 5 (by omega) VL.cs VL.ok (fun _ => rfl) Tryz.underlying94 (by kernel_rfl) rd_val hval h
theorem rd_ent (fuel : Nat) (us : List Value) (z : DataW H × List MemPlace) (h : DataW.trod enc Tryz.prog w 0 sp held fuel 59 us = some z) : ∃ x : EL, us = x.cs ∧ x.v.ok := by
  have g := readsAll_of_trod 6 59 [3, 3, 23, 2, 9, 4, 24] fuel us z (by kernel_rfl) h
  obtain ⟨_, _, rfl, g0, _, _, rfl, g1, _, _, rfl, g2, _, _, rfl, g3, _, _, rfl, g4, _, _, rfl, g5, _, _, rfl, g6, rfl⟩ := g
  obtain ⟨r, rfl, b_r⟩ := Reads1.i64 Tryz.underlying3 g0
  obtain ⟨q, rfl, b_q⟩ := Reads1.i64 Tryz.underlying3 g1
  obtain ⟨t, rfl, b_t⟩ := Reads1.i64 Tryz.underlying23 g2
  obtain ⟨n, rfl, b_n⟩ := Reads1.i64 Tryz.underlying2 g3
  obtain ⟨s, rfl, b_s⟩ := Reads1.string Tryz.underlying9 g4
  obtain ⟨b, rfl⟩ := Reads1.bool Tryz.underlying4 g5
  obtain ⟨c, rfl, b_c⟩ := Reads1.i64 Tryz.underlying24 g6
  exact ⟨⟨r, q, ⟨t, n, s, b, c⟩⟩, rfl, b_n⟩
theorem rd_arg (fuel : Nat) (us : List Value) (z : DataW H × List MemPlace) (h : DataW.trod enc Tryz.prog w 0 sp held fuel 38 us = some z) : ∃ x : AL, us = x.cs ∧ x.In w w.heap.size := by
  have g := readsAll_of_trod 6 38 [4, 23, 2, 9, 4, 24, 3, 3, 3, 3, 36] fuel us z (by kernel_rfl) h
  obtain ⟨_, _, rfl, g0, _, _, rfl, g1, _, _, rfl, g2, _, _, rfl, g3, _, _, rfl, g4, _, _, rfl, g5, _, _, rfl, g6, _, _, rfl, g7, _, _, rfl, g8, _, _, rfl, g9, _, _, rfl, g10, rfl⟩ := g
  obtain ⟨m, rfl⟩ := Reads1.bool Tryz.underlying4 g0
  obtain ⟨t, rfl, b_t⟩ := Reads1.i64 Tryz.underlying23 g1
  obtain ⟨n, rfl, b_n⟩ := Reads1.i64 Tryz.underlying2 g2
  obtain ⟨s, rfl, b_s⟩ := Reads1.string Tryz.underlying9 g3
  obtain ⟨b, rfl⟩ := Reads1.bool Tryz.underlying4 g4
  obtain ⟨c, rfl, b_c⟩ := Reads1.i64 Tryz.underlying24 g5
  obtain ⟨rt, rfl, b_rt⟩ := Reads1.i64 Tryz.underlying3 g6
  obtain ⟨rl, rfl, b_rl⟩ := Reads1.i64 Tryz.underlying3 g7
  obtain ⟨rb, rfl, b_rb⟩ := Reads1.i64 Tryz.underlying3 g8
  obtain ⟨rr, rfl, b_rr⟩ := Reads1.i64 Tryz.underlying3 g9
  obtain ⟨f10, y10, g10⟩ := g10
  obtain ⟨E, l, cap, rfl, hl, hcap, hR, hp, _, _⟩ := rd_sliceK 7 (by omega) EL.cs (fun x => x.v.ok) (fun _ => rfl) Tryz.underlying36 (by kernel_rfl) rd_ent g10
  unfold maxLen at hcap
  exact ⟨⟨m, ⟨t, n, s, b, c⟩, rt, rl, rb, rr, E, cap, l⟩, rfl, b_n, hR, hp, by show l.length ≤ _; omega⟩
set_option maxRecDepth 100000 in
theorem rd_args {r : Reach} {b0 : Nat} {v : Value} {d : DataW H} {ps : List MemPlace} (hval : Value.okWide Tryz.prog w r b0 22 v) (h : DataW.Trod enc Tryz.prog w 0 sp held 22 v d ps) : ∃ (A : Option Addr) (l : List AL) (cap : Nat), v = .slice A l.length cap ∧ l.length ≤ cap ∧ cap ≤ maxLen ∧ RdB w w.heap.size A 11 (l.map AL.cs) ∧ (∀ x ∈ l, x.In w w.heap.size) ∧ (l = [] ∨ ∃ es sr, d = .slice es sr ∧ es.length = l.length) ∧ (A = none → l.length = 0 ∧ cap = 0) :=
  rd_argK 11 (by omega) AL.cs (fun x => x.In w w.heap.size) (fun _ => rfl) Tryz.underlying22 (by kernel_rfl) rd_arg hval h
end
end Go.Proofs.YtaomlgpakbjegaaGreatDoor
namespace Go.Proofs.YtaomlgpakbjegaaGreatDoor
open Go.ChangeShapes Go.WideShapes Go.ChangeAt Go.RowKit
open Go.ChangeMaps (open_string)

set_option maxRecDepth 100000 in
/-- what the walk gives, for every input -/
theorem contract_AggsOrder (H : Type) (enc : TypeId × Value → H) (W : World) (base : Nat) (args : Array Value) (ds gs : List (DataW H)) (before : List MemPlace)
    (hval : ∀ (j : Nat) t v, Tryz.f11.params[j]? = some t → args[j]? = some v → Value.okWide Tryz.prog W .any base t v)
    (hW : DataW.Whole enc Tryz.prog Tryz.f11.params.toList Rows.aggsOrderSpec.vars false W args.toList ds gs before)
    (ht : Tab W)
    (hsz : (DataW.weightsEach Tryz.prog (Tryz.f11.params.toList ++ (OpenSpec.ofChange Rows.aggsOrderSpec).bare.plain.varTypes Tryz.prog) (ds ++ gs)).all (· ≤ reachBytes) = true) :
    Calls Tryz.prog 11 args W fun e W' => ∃ v, e = .returned v ∧ Rows.aggsOrderSpec.post enc Tryz.prog Tryz.f11 false true false false W args v W' := by
  have hW' := hW
  obtain ⟨p, q, hA0, hV, rfl, hfz, hnd⟩ := hW
  have hA : DataW.TrodAll enc Tryz.prog W 0 (fun _ => true) true Tryz.f11.params.toList args.toList ds p := hA0
  rw [Tryz.params11] at hA hval
  obtain ⟨v0, vs0, d0, ds0, p0, q0, hargs, rfl, rfl, h0, r0⟩ := trodAll_cons hA
  obtain ⟨rfl, rfl, rfl⟩ := trodAll_nil r0
  obtain rfl : args = #[v0] := by cases args; simp_all
  obtain ⟨A0, l0, cap0, rfl, hlc0, hcm0, hR0, hP0, hD0, hN0⟩ := rd_args (hval 0 22 v0 rfl rfl) h0
  unfold maxLen at hcm0
  have hl0 : l0.length ≤ 1649267441664 := by
    rcases hD0 with h | ⟨es, sr, h, he⟩
    · rw [h]; simp
    · have hb : Tryz.prog.bytesOf 38 = 112 := by kernel_rfl
      have := sized_slice hsz (j := 0) (t := 22) (e := 38) rfl (by rw [h]; rfl) Tryz.underlying22
      rw [hb] at this
      unfold reachBytes at this
      omega
  refine (walk_AggsOrder l0 hl0 W ht A0 cap0 hlc0 hR0 hP0).mono fun e W' ⟨he, hb⟩ => ⟨_, he, ?_⟩
  exact law_post laidOut Tryz.underlying4 (by kernel_rfl) rfl (fun ds hd => by
    rw [Tryz.params11] at hd
    match ds, hd with
    | [_], _ => rfl) (by kernel_rfl) hW' hb

/-- the witness' arguments -/
def wArgs_AggsOrder : Array Value := #[.slice none 0 0]
theorem laid_met_AggsOrder (os : Os) : laidMet Tryz.prog Rows.aggsOrderRow.laid ((laidWorldD os).forCall (fun _ _ => 0) ⟨#[], wArgs_AggsOrder, []⟩).memory :=
  laidMet_of_run' 8 (by kernel_rfl) (by kernel_rfl)
theorem reads_AggsOrder (os : Os) {H : Type} (enc : TypeId × Value → H) : ∃ places, DataW.whole enc Tryz.prog ((laidWorldD os).forCall (fun _ _ => 0) ⟨#[], wArgs_AggsOrder, []⟩).memory Tryz.f11.params.toList Rows.aggsOrderSpec.vars false wArgs_AggsOrder.toList 8 = some ([.nil], [], places) :=
  ⟨[], by kernel_rfl⟩

set_option maxRecDepth 100000 in
theorem wh1_AggsOrder (os : Os) : ((laidWorldD os).forCall (fun _ _ => 0) ⟨#[], wArgs_AggsOrder, []⟩).variablesRefB Tryz.checked.prog = true := by kernel_rfl
set_option maxRecDepth 100000 in
theorem wh2_AggsOrder (os : Os) : (((laidWorldD os).forCall (fun _ _ => 0) ⟨#[], wArgs_AggsOrder, []⟩).heap.toList.drop Tryz.checked.prog.globals.size).take ((begin Tryz.checked.prog (fun _ _ => 0) default).world.heap.size - Tryz.checked.prog.globals.size) =
      (begin Tryz.checked.prog (fun _ _ => 0) default).world.heap.toList.drop Tryz.checked.prog.globals.size := by kernel_rfl
set_option maxRecDepth 100000 in
theorem wh3_AggsOrder (os : Os) : Input.okWideB Tryz.checked.prog ((laidWorldD os).forCall (fun _ _ => 0) ⟨#[], wArgs_AggsOrder, []⟩) 11 ⟨#[], wArgs_AggsOrder, []⟩ = true := by kernel_rfl
theorem wcn_AggsOrder (places : List MemPlace) {H : Type} : Rows.aggsOrderRow.domain.all (PathCond.test Tryz.prog ⟨Tryz.f11.params.toList, (([.nil], [], places) : List (DataW H) × List (DataW H) × List MemPlace).1, (OpenSpec.ofChange Rows.aggsOrderSpec).bare.plain.varTypes Tryz.prog, []⟩) = true := by kernel_rfl
set_option maxRecDepth 100000 in
theorem wpre_AggsOrder (os : Os) {H : Type} (enc : TypeId × Value → H) : (OpenSpec.ofChange Rows.aggsOrderSpec).preRow enc Tryz.prog Tryz.f11 Rows.aggsOrderRow.domain false Rows.aggsOrderRow.laid ((laidWorldD os).forCall (fun _ _ => 0) ⟨#[], wArgs_AggsOrder, []⟩).memory wArgs_AggsOrder := by
  obtain ⟨places, hx⟩ := reads_AggsOrder os enc
  exact OpenSpec.preRow_of_cond 8 hx (wcn_AggsOrder places) (fun k hk => by cases hk) (by kernel_rfl) (laid_met_AggsOrder os)

set_option maxRecDepth 100000 in
theorem lifted_AggsOrder (os : Os) (started : os.Started) (H : Type) (enc : TypeId × Value → H) (F : Stop.Interp) :
    ReturnsInHanded {} Tryz.checked os 11 .any ((OpenSpec.ofChange Rows.aggsOrderSpec).preRow enc Tryz.prog Tryz.f11 Rows.aggsOrderRow.domain false Rows.aggsOrderRow.laid) (((OpenSpec.ofChange Rows.aggsOrderSpec).at F).post enc Tryz.prog Tryz.f11 false true false false) := by
  refine returnsInHanded_of_row (C := Tryz.checked) (s := OpenSpec.ofChange Rows.aggsOrderSpec) own started (by kernel_rfl) Tryz.func11
    (witness_row_atRef (enc := enc) (C := Tryz.checked) false (laidWorldD os) wArgs_AggsOrder rfl (wh1_AggsOrder os) (wh2_AggsOrder os) (wh3_AggsOrder os) (wpre_AggsOrder os enc)) ?_
  intro W base args ds gs before hval hW _ _ hsz hL hsh _
  exact contract_AggsOrder H enc W base args ds gs before hval hW (tab_ofD (laidMet_tailD (laidMet_tailD hL)) hsh) hsz

set_option maxRecDepth 100000 in
theorem jf_AggsOrder : joinedFacts Tryz.pinned.checked.prog 11 Tryz.f11 (OpenSpec.ofChange Rows.aggsOrderSpec).bare Rows.aggsOrderRow = true := by kernel_rfl
theorem said_AggsOrder : Rows.AggsOrderSaid :=
  OpenClaim.holds_of_cond 11 Tryz.f11 rfl rfl rfl rfl rfl rfl rfl ⟨rfl, rfl, rfl, rfl, rfl⟩ rfl rfl rfl rfl rfl (by kernel_rfl) Tryz.func11 jf_AggsOrder
    (of_decide_eq_true (by kernel_rfl)) (by unfold Func.isWrapper; rw [if_neg (of_decide_eq_false (by kernel_rfl))]; exact ⟨rfl, rfl⟩)
    (fun os started H enc _ F => by rw [OpenClaim.pre_eq_preRow]; exact lifted_AggsOrder os started H enc F)

theorem plain_AggsOrder (f : FuncId) (fn : Func) (hf : Tryz.pinned.checked.prog.funcNamed "oriel/oriellaw10.AggsOrder" = some f) (hfn : Tryz.pinned.checked.prog.funcs[f]? = some fn) :
    true = Tryz.pinned.checked.prog.looks [] ∧ ∀ (j : Nat) t, fn.params[j]? = some t → Tryz.pinned.checked.prog.wantsStandIn t = false := by
  obtain rfl : f = 11 := Option.some.inj ((show Tryz.prog.funcNamed "oriel/oriellaw10.AggsOrder" = some 11 by kernel_rfl).symm.trans hf) |>.symm
  obtain rfl : fn = Tryz.f11 := (Option.some.inj (Tryz.func11.symm.trans hfn)).symm
  refine ⟨by kernel_rfl, fun j t ht => ?_⟩
  rw [Tryz.params11] at ht
  have hm : t = 22 := by simpa using Array.mem_of_getElem? ht
  rcases hm with rfl
  · exact (show Tryz.prog.wantsStandIn 22 = false by kernel_rfl)

/-- THE CARD -/
theorem card_AggsOrder : Rows.AggsOrderCardSaid :=
  Claim7.holds_tied_plain_at .later [] _ _ _ _ said_AggsOrder (fun _ h => by cases h) (by kernel_rfl) (fun _ h => by cases h) aggsOrder_row_tie rfl ⟨rfl, rfl⟩ (by kernel_rfl) rfl plain_AggsOrder (by kernel_rfl)
end Go.Proofs.YtaomlgpakbjegaaGreatDoor
