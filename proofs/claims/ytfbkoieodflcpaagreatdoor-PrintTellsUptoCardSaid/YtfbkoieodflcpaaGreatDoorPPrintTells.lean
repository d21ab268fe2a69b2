/-
  a formula that came in, with its room; The law PrintTells returns true for every input of bulk at most 1048576; the listed variables of the library are as the program's text lays them (the card ties that).
-/
import Derived.Test.YtfbkoieodflcpaaGreatDoorRows
import Derived.Test.YtfbkoieodflcpaaGreatDoorBase
import Derived.Test.YtfbkoieodflcpaaGreatDoorMg9
import Derived.Test.YtfbkoieodflcpaaGreatDoorMg3
import Derived.Test.YtfbkoieodflcpaaGreatDoorProg
import Derived.Test.YtfbkoieodflcpaaGreatDoorShelf
import Derived.Test.YtfbkoieodflcpaaGreatDoorAddrC
import Derived.Test.YtfbkoieodflcpaaGreatDoorMg5
import Derived.Test.YtfbkoieodflcpaaGreatDoorDecA
import Derived.Test.YtfbkoieodflcpaaGreatDoorValA
import Derived.Test.YtfbkoieodflcpaaGreatDoorValB
import Derived.Test.YtfbkoieodflcpaaGreatDoorMapK
import Derived.Test.YtfbkoieodflcpaaGreatDoorRefP
import Derived.Test.YtfbkoieodflcpaaGreatDoorRefName
import Derived.Test.YtfbkoieodflcpaaGreatDoorRefN
import Derived.Test.YtfbkoieodflcpaaGreatDoorRefM
import Derived.Test.YtfbkoieodflcpaaGreatDoorRefY
import Derived.Test.YtfbkoieodflcpaaGreatDoorRefQ
import Derived.Test.YtfbkoieodflcpaaGreatDoorRefZ
import Derived.Test.YtfbkoieodflcpaaGreatDoorMg48
import Derived.Test.YtfbkoieodflcpaaGreatDoorCards
import Derived.Test.YtfbkoieodflcpaaGreatDoorTie
import Derived.Test.YtfbkoieodflcpaaGreatDoorMg2
import Derived.Test.YtfbkoieodflcpaaGreatDoorShelfC
import Derived.Test.YtfbkoieodflcpaaGreatDoorNameX
import Derived.Test.YtfbkoieodflcpaaGreatDoorNameY
import Derived.Test.YtfbkoieodflcpaaGreatDoorDPrint
import Derived.Test.YtfbkoieodflcpaaGreatDoorValK
import Derived.Test.YtfbkoieodflcpaaGreatDoorRPr
import Derived.Test.YtfbkoieodflcpaaGreatDoorValL
import Derived.Test.YtfbkoieodflcpaaGreatDoorPrP
import Derived.Test.YtfbkoieodflcpaaGreatDoorPrA
import Derived.Test.YtfbkoieodflcpaaGreatDoorT07
import Derived.Test.YtfbkoieodflcpaaGreatDoorRLev
import Derived.Test.YtfbkoieodflcpaaGreatDoorT07B
import Derived.Test.YtfbkoieodflcpaaGreatDoorT07C
import Derived.Test.YtfbkoieodflcpaaGreatDoorT07D
import Derived.Test.YtfbkoieodflcpaaGreatDoorPrS
import Derived.Test.YtfbkoieodflcpaaGreatDoorPrT
import Derived.Test.YtfbkoieodflcpaaGreatDoorT07E
import Derived.Test.YtfbkoieodflcpaaGreatDoorRNam
import Derived.Test.YtfbkoieodflcpaaGreatDoorRNod
import Derived.Test.YtfbkoieodflcpaaGreatDoorRNodB
import Derived.Test.YtfbkoieodflcpaaGreatDoorRPt
import Derived.Test.YtfbkoieodflcpaaGreatDoorRPtB
import Derived.Test.YtfbkoieodflcpaaGreatDoorRPut
import Derived.Test.YtfbkoieodflcpaaGreatDoorT07F
import Derived.Test.YtfbkoieodflcpaaGreatDoorRefD
import Derived.Test.YtfbkoieodflcpaaGreatDoorRefC
import Derived.Test.YtfbkoieodflcpaaGreatDoorBld
import Derived.Test.YtfbkoieodflcpaaGreatDoorPrB
import Derived.Test.YtfbkoieodflcpaaGreatDoorPrL
import Derived.Test.YtfbkoieodflcpaaGreatDoorPrTl
import Derived.WalkSpells
import Derived.WalkLawsBesides
import Derived.StillTactics
import Derived.Laws.Pointers
import Derived.Deep.RegionHeld3
import Derived.Deep.QuietTactic
import Derived.BigQuiet
import Derived.RowKit3
import Derived.Lib.Hide
import Derived.Lib.OthersKept
import Derived.OwnWalk
import Derived.Lib.IndexLaws
import Derived.Lib.ItoaMem
import Derived.WalkKit
import Derived.ProofKit
import Derived.OpenShut
import Derived.Carry
import Derived.ChangeSame
import Derived.Deep.Draws
import Derived.Deep.Slices
import Derived.ChangeSlices
import Derived.Lib.TrimByte
import Derived.Lib.SlTrimSet
import Derived.Lib.ParseIntB
import Derived.Shelf.Strings.Builder1
import Derived.Shelf.Strings.Builder2
import Derived.Shelf.Strings.Trim
import Derived.Shelf.Small.Utf8
import Derived.Shelf.Small.Strs
import Derived.Shelf.Small.Wraps
import Derived.Shelf.Strings.BuilderF
import Derived.Shelf.Strings.BuilderK
import Derived.Shelf.Strconv.Itoa0
import Derived.Shelf.Strconv.Itoa1
import Derived.Shelf.LaysM
import Derived.Shelf.Strconv.Itoa2
import Derived.Shelf.Strconv.Itoa3
import Derived.Shelf.Strings.Search1
import Derived.Shelf.Strings.Search2
import Derived.Shelf.Strings.Search3
import Derived.Shelf.Strings.Cut
import Derived.Shelf.Strings.Count
import Derived.Shelf.Strings.Shaped
import Derived.Shelf.Strings.Prefix
import Derived.Shelf.Strings.Split
import Derived.Shelf.Strings.Replace
import Derived.Shelf.Strings.Runes
import Derived.Shelf.Strings.AsciiSet
import Derived.Shelf.Unicode.DecodeSlow
import Derived.Lib.ItoaNum
import Derived.Maps.OwnSet
import Derived.Maps.AppendAt
import Derived.Deep.DeepHandedRow
import Derived.Deep.DeepWitnessRowRef
import Derived.Lib.LaidTab
import Derived.Shelf.Vars
import Derived.Ground.MpProg
import Derived.Shelf.Pu.ParseUintPublic10
import Derived.Lib.Bytealg
import Derived.Lib.Replace
import Derived.Outline
import Derived.Deep.CutRange
import Derived.Deep.AppendLies
namespace Go.Proofs.YtfbkoieodflcpaaGreatDoor
open Go.RowKit Go.ChangeShapes Go.WideShapes Go.Deep

section
variable {H : Type} {enc : TypeId × Value → H} {w : World} {sp : Nat → Bool} {held : Bool}
set_option maxRecDepth 100000 in
theorem rd_form2 {r : Reach} {b0 : Nat} {v : Value} {d : DataW H} {ps : List MemPlace} (hval : Value.okWide Tryz.prog w r b0 24 v) (h : DataW.Trod enc Tryz.prog w 0 sp held 24 v d ps) : ∃ (A : Option Addr) (l : List NL) (cap : Nat), v = .agg #[.slice A l.length cap] ∧ RdB w w.heap.size A 15 (l.map NL.cs) ∧ (∀ n ∈ l, n.ok) ∧ l.length ≤ Rows.uptoBulk d ∧ (∀ n ∈ l, n.v.s.size ≤ Rows.uptoBulk d) ∧ l.length ≤ cap := by
  obtain ⟨fs, hfs⟩ : ∃ fs, Tryz.prog.underlying 24 = some (.struct fs) := ⟨_, Tryz.underlying24⟩
  obtain ⟨cs, rfl, _⟩ := okWide_struct hfs hval
  obtain ⟨fuel, hf⟩ := h
  have hg := readsAll_of_trod 6 24 [22] fuel cs.toList (d, ps) (by kernel_rfl) hf
  obtain ⟨u, rest, hcs, _, hr⟩ := hg
  obtain rfl : rest = [] := hr
  obtain ⟨n1, y1, h1, k1⟩ := trod_part Tryz.underlying24 hf 0 22 0 1 rfl (by kernel_rfl)
  change DataW.trod enc Tryz.prog w 0 sp held n1 22 (cs.toList.take 1) = some y1 at h1
  rw [hcs] at h1
  change DataW.trod enc Tryz.prog w 0 sp held n1 22 [u] = some y1 at h1
  obtain ⟨A, l, cap, rfl, hlc, _, h4, h6, _⟩ := rd_sliceQ 15 (by omega) NL.cs (fun x d => x.ok ∧ x.v.s.size ≤ Rows.uptoBulk d) (fun _ => rfl) Tryz.underlying22 (by kernel_rfl) (fun n us z hz => by obtain ⟨x, a, b, c⟩ := rd_node n us z hz; exact ⟨x, a, b, c⟩) h1
  refine ⟨A, l, cap, ?_, h4, ?_⟩
  · congr 1
    apply Array.toList_inj.1
    rw [hcs]
  · rcases h6 with rfl | ⟨es, sr, he, hl, hm⟩
    · exact ⟨fun n hn => (by cases hn), Nat.zero_le _, fun n hn => (by cases hn), hlc⟩
    · have e1 : Rows.uptoBulkAll es ≤ Rows.uptoBulk y1.1 := by rw [he]; simp only [Rows.uptoBulk]; omega
      have e2 := bulk_len es
      refine ⟨fun n hn => ?_, ?_, fun n hn => ?_, hlc⟩
      · obtain ⟨_, _, h7⟩ := hm n hn; exact h7.1
      · show _ ≤ Rows.uptoBulk (d, ps).1
        omega
      · obtain ⟨d', hd, h7⟩ := hm n hn
        have := bulk_mem hd
        show _ ≤ Rows.uptoBulk (d, ps).1
        omega
end
end Go.Proofs.YtfbkoieodflcpaaGreatDoor
namespace Go.Proofs.YtfbkoieodflcpaaGreatDoor
open Go.ChangeShapes Go.WideShapes Go.ChangeAt Go.RowKit
open Go.ChangeMaps (open_string)

set_option maxRecDepth 100000 in
/-- what the walk gives, for every input -/
theorem contract_PrintTells (H : Type) (enc : TypeId × Value → H) (W : World) (base : Nat) (args : Array Value) (ds gs : List (DataW H)) (before : List MemPlace)
    (hval : ∀ (j : Nat) t v, Tryz.f3.params[j]? = some t → args[j]? = some v → Value.okWide Tryz.prog W .any base t v)
    (hW : DataW.Whole enc Tryz.prog Tryz.f3.params.toList Rows.printTellsSpec.vars false W args.toList ds gs before)
    (ht : Tab W)
    (hk : Rows.uptoSmall H (ds ++ gs) = true) :
    Calls Tryz.prog 3 args W fun e W' => ∃ v, e = .returned v ∧ Rows.printTellsSpec.post enc Tryz.prog Tryz.f3 false true false false W args v W' := by
  have hW' := hW
  obtain ⟨p, q, hA0, hV, rfl, hfz, hnd⟩ := hW
  have hA : DataW.TrodAll enc Tryz.prog W 0 (fun _ => true) true Tryz.f3.params.toList args.toList ds p := hA0
  rw [Tryz.params3] at hA hval
  obtain ⟨v0, vs0, d0, ds0, p0, q0, hargs, rfl, rfl, h0, r0⟩ := trodAll_cons hA
  obtain ⟨rfl, rfl, rfl⟩ := trodAll_nil r0
  obtain rfl : args = #[v0] := by cases args; simp_all
  obtain ⟨A0, l0, cap0, rfl, hR0, hok0, hlb0, hsb0, hlc0⟩ := rd_form2 (hval 0 24 v0 rfl rfl) h0
  have y0 := small_form hk (d := d0) (List.mem_append_left _ (by simp))
  refine (walk_PrintTells l0 (by omega) hok0 (fun n hn => Nat.le_trans (hsb0 n hn) y0) W ht A0 cap0 hlc0 hR0).mono fun e W' ⟨he, hb⟩ => ⟨_, he, ?_⟩
  exact law_post laidOut Tryz.underlying4 (by kernel_rfl) rfl (fun ds hd => by
    rw [Tryz.params3] at hd
    match ds, hd with
    | [_], _ => rfl) (by kernel_rfl) hW' hb

/-- the witness' arguments -/
def wArgs_PrintTells : Array Value := #[.agg #[.slice none 0 0]]
theorem laid_met_PrintTells (os : Os) : laidMet Tryz.prog Rows.printTellsUptoRow.laid ((laidWorldD os).forCall (fun _ _ => 0) ⟨#[], wArgs_PrintTells, []⟩).memory :=
  laidMet_of_run' 8 (by kernel_rfl) (by kernel_rfl)
theorem reads_PrintTells (os : Os) {H : Type} (enc : TypeId × Value → H) : ∃ places, DataW.whole enc Tryz.prog ((laidWorldD os).forCall (fun _ _ => 0) ⟨#[], wArgs_PrintTells, []⟩).memory Tryz.f3.params.toList Rows.printTellsSpec.vars false wArgs_PrintTells.toList 8 = some ([.agg [.nil]], [], places) :=
  ⟨[], by kernel_rfl⟩

set_option maxRecDepth 100000 in
theorem wh1_PrintTells (os : Os) : ((laidWorldD os).forCall (fun _ _ => 0) ⟨#[], wArgs_PrintTells, []⟩).variablesRefB Tryz.checked.prog = true := by kernel_rfl
set_option maxRecDepth 100000 in
theorem wh2_PrintTells (os : Os) : (((laidWorldD os).forCall (fun _ _ => 0) ⟨#[], wArgs_PrintTells, []⟩).heap.toList.drop Tryz.checked.prog.globals.size).take ((begin Tryz.checked.prog (fun _ _ => 0) default).world.heap.size - Tryz.checked.prog.globals.size) =
      (begin Tryz.checked.prog (fun _ _ => 0) default).world.heap.toList.drop Tryz.checked.prog.globals.size := by kernel_rfl
set_option maxRecDepth 100000 in
theorem wh3_PrintTells (os : Os) : Input.okWideB Tryz.checked.prog ((laidWorldD os).forCall (fun _ _ => 0) ⟨#[], wArgs_PrintTells, []⟩) 3 ⟨#[], wArgs_PrintTells, []⟩ = true := by kernel_rfl
theorem wcn_PrintTells (places : List MemPlace) {H : Type} : Rows.printTellsUptoRow.domain.all (PathCond.test Tryz.prog ⟨Tryz.f3.params.toList, (([.agg [.nil]], [], places) : List (DataW H) × List (DataW H) × List MemPlace).1, (Rows.OpenSpec.upto Rows.printTellsSpec).bare.plain.varTypes Tryz.prog, []⟩) = true := by kernel_rfl
set_option maxRecDepth 100000 in
theorem wpre_PrintTells (os : Os) {H : Type} (enc : TypeId × Value → H) : (Rows.OpenSpec.upto Rows.printTellsSpec).preRow enc Tryz.prog Tryz.f3 Rows.printTellsUptoRow.domain false Rows.printTellsUptoRow.laid ((laidWorldD os).forCall (fun _ _ => 0) ⟨#[], wArgs_PrintTells, []⟩).memory wArgs_PrintTells := by
  obtain ⟨places, hx⟩ := reads_PrintTells os enc
  exact OpenSpec.preRow_of_cond 8 hx (wcn_PrintTells places) (fun k hk => by cases hk; rfl) (by kernel_rfl) (laid_met_PrintTells os)

set_option maxRecDepth 100000 in
theorem lifted_PrintTells (os : Os) (started : os.Started) (H : Type) (enc : TypeId × Value → H) (F : Stop.Interp) :
    ReturnsInHanded {} Tryz.checked os 3 .any ((Rows.OpenSpec.upto Rows.printTellsSpec).preRow enc Tryz.prog Tryz.f3 Rows.printTellsUptoRow.domain false Rows.printTellsUptoRow.laid) (((Rows.OpenSpec.upto Rows.printTellsSpec).at F).post enc Tryz.prog Tryz.f3 false true false false) := by
  refine returnsInHanded_of_row (C := Tryz.checked) (s := Rows.OpenSpec.upto Rows.printTellsSpec) own started (by kernel_rfl) Tryz.func3
    (witness_row_atRef (enc := enc) (C := Tryz.checked) false (laidWorldD os) wArgs_PrintTells rfl (wh1_PrintTells os) (wh2_PrintTells os) (wh3_PrintTells os) (wpre_PrintTells os enc)) ?_
  intro W base args ds gs before hval hW _ hcd _ hL hsh _
  exact contract_PrintTells H enc W base args ds gs before hval hW (tab_ofD (laidMet_tailD (laidMet_tailD hL)) hsh) (hcd _ rfl)

set_option maxRecDepth 100000 in
theorem jf_PrintTells : joinedFacts Tryz.pinned.checked.prog 3 Tryz.f3 (Rows.OpenSpec.upto Rows.printTellsSpec).bare Rows.printTellsUptoRow = true := by kernel_rfl
theorem said_PrintTells : Rows.PrintTellsUptoSaid :=
  OpenClaim.holds_of_cond 3 Tryz.f3 rfl rfl rfl rfl rfl rfl rfl ⟨rfl, rfl, rfl, rfl, rfl⟩ rfl rfl rfl rfl rfl (by kernel_rfl) Tryz.func3 jf_PrintTells
    (of_decide_eq_true (by kernel_rfl)) (by unfold Func.isWrapper; rw [if_neg (of_decide_eq_false (by kernel_rfl))]; exact ⟨rfl, rfl⟩)
    (fun os started H enc _ F => by rw [OpenClaim.pre_eq_preRow]; exact lifted_PrintTells os started H enc F)

theorem plain_PrintTells (f : FuncId) (fn : Func) (hf : Tryz.pinned.checked.prog.funcNamed "oriel/oriellaw07.PrintTells" = some f) (hfn : Tryz.pinned.checked.prog.funcs[f]? = some fn) :
    true = Tryz.pinned.checked.prog.looks [] ∧ ∀ (j : Nat) t, fn.params[j]? = some t → Tryz.pinned.checked.prog.wantsStandIn t = false := by
  obtain rfl : f = 3 := Option.some.inj ((show Tryz.prog.funcNamed "oriel/oriellaw07.PrintTells" = some 3 by kernel_rfl).symm.trans hf) |>.symm
  obtain rfl : fn = Tryz.f3 := (Option.some.inj (Tryz.func3.symm.trans hfn)).symm
  refine ⟨by kernel_rfl, fun j t ht => ?_⟩
  rw [Tryz.params3] at ht
  have hm : t = 24 := by simpa using Array.mem_of_getElem? ht
  rcases hm with rfl
  · exact (show Tryz.prog.wantsStandIn 24 = false by kernel_rfl)

/-- THE CARD -/
theorem card_PrintTells : Rows.PrintTellsUptoCardSaid :=
  Claim7.holds_tied_plain_at .later [] _ _ _ _ said_PrintTells (fun _ h => by cases h) (by kernel_rfl) (fun _ h => by cases h) printTellsUpto_row_tie rfl ⟨rfl, rfl⟩ (by kernel_rfl) rfl plain_PrintTells (by kernel_rfl)
end Go.Proofs.YtfbkoieodflcpaaGreatDoor
