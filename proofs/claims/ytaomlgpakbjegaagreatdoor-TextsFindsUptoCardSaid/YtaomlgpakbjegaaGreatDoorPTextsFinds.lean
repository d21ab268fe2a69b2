/-
  What the bound on an input's bulk gives; The law TextsFinds returns true for every input of bulk at most 1048576; the listed variables of the library are as the program's text lays them (the card ties that).
-/
import Derived.Test.YtaomlgpakbjegaaGreatDoorRows
import Derived.Test.YtaomlgpakbjegaaGreatDoorBase
import Derived.Test.YtaomlgpakbjegaaGreatDoorCards
import Derived.Test.YtaomlgpakbjegaaGreatDoorTie
import Derived.Test.YtaomlgpakbjegaaGreatDoorProg
import Derived.Test.YtaomlgpakbjegaaGreatDoorShelf
import Derived.Test.YtaomlgpakbjegaaGreatDoorFmtU
import Derived.Test.YtaomlgpakbjegaaGreatDoorLaidD
import Derived.Test.YtaomlgpakbjegaaGreatDoorMapK
import Derived.Test.YtaomlgpakbjegaaGreatDoorTFind
import Derived.Test.YtaomlgpakbjegaaGreatDoorRowB
import Derived.Test.YtaomlgpakbjegaaGreatDoorDecA
import Derived.Test.YtaomlgpakbjegaaGreatDoorValA
import Derived.Test.YtaomlgpakbjegaaGreatDoorValB
import Derived.Test.YtaomlgpakbjegaaGreatDoorMg10
import Derived.Test.YtaomlgpakbjegaaGreatDoorValC
import Derived.Test.YtaomlgpakbjegaaGreatDoorAddrC
import Derived.Test.YtaomlgpakbjegaaGreatDoorAddrI
import Derived.Test.YtaomlgpakbjegaaGreatDoorMg14
import Derived.Test.YtaomlgpakbjegaaGreatDoorPrintL
import Derived.Test.YtaomlgpakbjegaaGreatDoorDPrint
import Derived.Test.YtaomlgpakbjegaaGreatDoorRPr
import Derived.Test.YtaomlgpakbjegaaGreatDoorNDoE
import Derived.Test.YtaomlgpakbjegaaGreatDoorTCall
import Derived.Test.YtaomlgpakbjegaaGreatDoorValD
import Derived.Test.YtaomlgpakbjegaaGreatDoorMg21
import Derived.Test.YtaomlgpakbjegaaGreatDoorValJ
import Derived.Test.YtaomlgpakbjegaaGreatDoorValL
import Derived.Test.YtaomlgpakbjegaaGreatDoorNCallK
import Derived.Test.YtaomlgpakbjegaaGreatDoorTCallK
import Derived.Test.YtaomlgpakbjegaaGreatDoorTDoA
import Derived.Test.YtaomlgpakbjegaaGreatDoorTCallB
import Derived.Test.YtaomlgpakbjegaaGreatDoorTDoB
import Derived.Test.YtaomlgpakbjegaaGreatDoorTDoC
import Derived.Test.YtaomlgpakbjegaaGreatDoorTDoD
import Derived.Test.YtaomlgpakbjegaaGreatDoorTArg
import Derived.Test.YtaomlgpakbjegaaGreatDoorTLaw
import Derived.Test.YtaomlgpakbjegaaGreatDoorTAt
import Derived.Test.YtaomlgpakbjegaaGreatDoorTJoiL
import Derived.Test.YtaomlgpakbjegaaGreatDoorTDoG
import Derived.Test.YtaomlgpakbjegaaGreatDoorTDoH
import Derived.Test.YtaomlgpakbjegaaGreatDoorTDoI
import Derived.Test.YtaomlgpakbjegaaGreatDoorTAtF
import Derived.Test.YtaomlgpakbjegaaGreatDoorTFinL
import Derived.Test.YtaomlgpakbjegaaGreatDoorTDoF
import Derived.Test.YtaomlgpakbjegaaGreatDoorMg41
import Derived.Test.YtaomlgpakbjegaaGreatDoorTAtB
import Derived.Test.YtaomlgpakbjegaaGreatDoorTParL
import Derived.Test.YtaomlgpakbjegaaGreatDoorTKn
import Derived.Test.YtaomlgpakbjegaaGreatDoorTPar
import Derived.Test.YtaomlgpakbjegaaGreatDoorTJoi
import Derived.Test.YtaomlgpakbjegaaGreatDoorTFinA
import Derived.Test.YtaomlgpakbjegaaGreatDoorTFin
import Derived.WalkKit
import Derived.ProofKit
import Derived.OpenShut
import Derived.Carry
import Derived.ChangeSame
import Derived.Lib.Hide
import Derived.Deep.Draws
import Derived.Deep.DeepHandedRow
import Derived.Deep.DeepWitnessRowRef
import Derived.Lib.LaidTab
import Derived.Shelf.Strings.Builder1
import Derived.Shelf.Strings.Builder2
import Derived.Shelf.Strings.OnBuilder
import Derived.Shelf.Strings.Trim
import Derived.Shelf.Small.Bits
import Derived.Shelf.Small.Strs
import Derived.Shelf.Small.Wraps
import Derived.Shelf.Strings.BuilderF
import Derived.Shelf.Strings.BuilderK
import Derived.Shelf.Strconv.Itoa0
import Derived.Shelf.Strconv.Itoa1
import Derived.Shelf.LaysM
import Derived.Shelf.Strconv.Itoa2
import Derived.Ground.MpProg
import Derived.Shelf.Pu.ParseUintPublic10
import Derived.Shelf.Strings.Search1
import Derived.Shelf.Strings.Search2
import Derived.Shelf.Strings.Search3
import Derived.Shelf.Strings.Cut
import Derived.Shelf.Strings.Prefix
import Derived.Shelf.Strings.Runes
import Derived.Shelf.Strings.AsciiSet
import Derived.Shelf.Bits.Mul64
import Derived.Shelf.Strings.Repeat
import Derived.WalkSpells
import Derived.WalkLawsBesides
import Derived.StillTactics
import Derived.Laws.Pointers
import Derived.Deep.RegionHeld3
import Derived.Deep.QuietTactic
import Derived.BigQuiet
import Derived.RowKit3
import Derived.Lib.OthersKept
import Derived.OwnWalk
import Derived.Lib.IndexLaws
import Derived.Lib.ItoaMem
import Derived.Shelf.Vars
import Derived.Maps.OwnSet
import Derived.Maps.AppendAt
import Derived.Laws.EntriesVeiled
import Derived.Laws.BitsAllLaws
import Derived.Lib.TrimByte
import Derived.Lib.Bytealg
import Derived.Lib.SlTrimSet
import Derived.Lib.ParseIntB
import Derived.Shelf.Strings.SlTrimAscii
import Derived.Lib.SmallJoins
import Derived.Deep.RegionWith
import Derived.IntWalk
import Derived.Laws.IdiomStrings
import Derived.RegionTactic
import Derived.ChangeAlike
import Derived.Lib.Repeat
import Derived.Lib.IndexMore
namespace Go.Proofs.YtaomlgpakbjegaaGreatDoor

theorem bulk_one {H : Type} (d : DataW H) : 1 ≤ Rows.uptoBulk d := by
  cases d with
  | lit l => cases l <;> simp [Rows.uptoBulk]
  | _ => simp [Rows.uptoBulk]
theorem bulk_mem {H : Type} {d : DataW H} : ∀ {l : List (DataW H)}, d ∈ l → Rows.uptoBulk d ≤ Rows.uptoBulkAll l
  | x :: r, h => by
    simp only [Rows.uptoBulkAll]
    rcases List.mem_cons.1 h with rfl | h
    · omega
    · have := bulk_mem h; omega
theorem bulk_len {H : Type} : ∀ (l : List (DataW H)), l.length ≤ Rows.uptoBulkAll l
  | [] => Nat.zero_le _
  | x :: r => by
    have := bulk_one x
    have := bulk_len r
    simp only [Rows.uptoBulkAll, List.length_cons]; omega
theorem small_slice {H : Type} {l : List (DataW H)} {d : DataW H} {es sr : List (DataW H)} (hk : Rows.uptoSmall H l = true) (hd : d ∈ l) (e : d = .slice es sr) : es.length ≤ 1048576 := by
  have h : Rows.uptoBulkAll l ≤ 1048576 := of_decide_eq_true hk
  have h1 := bulk_mem hd
  have h2 := bulk_len es
  subst e
  simp only [Rows.uptoBulk] at h1
  omega
theorem small_list {H : Type} {l : List (DataW H)} {d : DataW H} {n : Nat} (hk : Rows.uptoSmall H l = true) (hd : d ∈ l) (e : n = 0 ∨ ∃ es sr, d = .slice es sr ∧ es.length = n) : n ≤ 1048576 := by
  rcases e with rfl | ⟨es, sr, e, rfl⟩
  · omega
  · exact small_slice hk hd e
theorem small_string {H : Type} {l : List (DataW H)} {s : ByteArray} (hk : Rows.uptoSmall H l = true) (hd : DataW.lit (.string s.data.toList) ∈ l) : s.size ≤ 1048576 := by
  have h : Rows.uptoBulkAll l ≤ 1048576 := of_decide_eq_true hk
  have h1 := bulk_mem hd
  simp only [Rows.uptoBulk] at h1
  have e : s.data.toList.length = s.size := by rw [Array.length_toList]; rfl
  omega
end Go.Proofs.YtaomlgpakbjegaaGreatDoor
namespace Go.Proofs.YtaomlgpakbjegaaGreatDoor
open Go.ChangeShapes Go.WideShapes Go.ChangeAt Go.RowKit
open Go.ChangeMaps (open_string)

set_option maxRecDepth 100000 in
/-- what the walk gives, for every input -/
theorem contract_TextsFinds (H : Type) (enc : TypeId × Value → H) (W : World) (base : Nat) (args : Array Value) (ds gs : List (DataW H)) (before : List MemPlace)
    (hval : ∀ (j : Nat) t v, Tryz.f6.params[j]? = some t → args[j]? = some v → Value.okWide Tryz.prog W .any base t v)
    (hW : DataW.Whole enc Tryz.prog Tryz.f6.params.toList Rows.textsFindsSpec.vars false W args.toList ds gs before)
    (ht : Tab W)
    (hk : Rows.uptoSmall H (ds ++ gs) = true) :
    Calls Tryz.prog 6 args W fun e W' => ∃ v, e = .returned v ∧ Rows.textsFindsSpec.post enc Tryz.prog Tryz.f6 false true false false W args v W' := by
  have hW' := hW
  obtain ⟨p, q, hA0, hV, rfl, hfz, hnd⟩ := hW
  have hA : DataW.TrodAll enc Tryz.prog W 0 (fun _ => true) true Tryz.f6.params.toList args.toList ds p := hA0
  rw [Tryz.params6] at hA hval
  obtain ⟨v0, vs0, d0, ds0, p0, q0, hargs, rfl, rfl, h0, r0⟩ := trodAll_cons hA
  obtain ⟨v1, vs1, d1, ds1, p1, q1, rfl, rfl, rfl, h1, r1⟩ := trodAll_cons r0
  obtain ⟨v2, vs2, d2, ds2, p2, q2, rfl, rfl, rfl, h2, r2⟩ := trodAll_cons r1
  obtain ⟨rfl, rfl, rfl⟩ := trodAll_nil r2
  obtain rfl : args = #[v0, v1, v2] := by cases args; simp_all
  obtain ⟨a0, rfl, rfl, rfl, w0⟩ := open_string Tryz.underlying9 (hval 0 9 v0 rfl rfl) h0
  obtain ⟨a1, rfl, rfl, rfl, w1⟩ := open_string Tryz.underlying9 (hval 1 9 v1 rfl rfl) h1
  obtain ⟨a2, rfl, rfl, rfl, w2⟩ := open_int Tryz.underlying3 (hval 2 3 v2 rfl rfl) h2
  have b2 := bounds_i64 w2
  have y0 := small_string hk (s := a0) (List.mem_append_left _ (by simp))
  have y1 := small_string hk (s := a1) (List.mem_append_left _ (by simp))
  refine (walk_TextsFinds a0 a1 y0 y1 a2 W ht).mono fun e W' ⟨he, hb⟩ => ⟨_, he, ?_⟩
  exact law_post laidOut Tryz.underlying4 (by kernel_rfl) rfl (fun ds hd => by
    rw [Tryz.params6] at hd
    match ds, hd with
    | [_, _, _], _ => rfl) (by kernel_rfl) hW' hb

theorem laid_met_TextsFinds (os : Os) : laidMet Tryz.prog Rows.textsFindsUptoRow.laid ((laidWorldD os).forCall (fun _ _ => 0) ⟨#[], #[.string ⟨#[]⟩, .string ⟨#[]⟩, .int .i64 0], []⟩).memory :=
  laidMet_of_run' 8 (by kernel_rfl) (by kernel_rfl)
theorem reads_TextsFinds (os : Os) {H : Type} (enc : TypeId × Value → H) : ∃ places, DataW.whole enc Tryz.prog ((laidWorldD os).forCall (fun _ _ => 0) ⟨#[], #[.string ⟨#[]⟩, .string ⟨#[]⟩, .int .i64 0], []⟩).memory Tryz.f6.params.toList Rows.textsFindsSpec.vars false #[.string ⟨#[]⟩, .string ⟨#[]⟩, .int .i64 0].toList 8 = some ([.lit (.string []), .lit (.string []), .lit (.int .i64 0)], [], places) :=
  ⟨[], by kernel_rfl⟩

set_option maxRecDepth 100000 in
theorem lifted_TextsFinds (os : Os) (started : os.Started) (H : Type) (enc : TypeId × Value → H) (F : Stop.Interp) :
    ReturnsInHanded {} Tryz.checked os 6 .any ((Rows.OpenSpec.upto Rows.textsFindsSpec).preRow enc Tryz.prog Tryz.f6 Rows.textsFindsUptoRow.domain false Rows.textsFindsUptoRow.laid) (((Rows.OpenSpec.upto Rows.textsFindsSpec).at F).post enc Tryz.prog Tryz.f6 false true false false) := by
  obtain ⟨places, hx⟩ := reads_TextsFinds os enc
  refine returnsInHanded_of_row (C := Tryz.checked) (s := Rows.OpenSpec.upto Rows.textsFindsSpec) own started (by kernel_rfl) Tryz.func6
    (witness_row_atRef (enc := enc) (C := Tryz.checked) false (laidWorldD os) #[.string ⟨#[]⟩, .string ⟨#[]⟩, .int .i64 0] rfl (by kernel_rfl) (by kernel_rfl) (by kernel_rfl)
      (OpenSpec.preRow_of_cond 8 hx (by kernel_rfl) (fun k hk => by cases hk; rfl) (by kernel_rfl) (laid_met_TextsFinds os))) ?_
  intro W base args ds gs before hval hW _ hcd _ hL hsh _
  exact contract_TextsFinds H enc W base args ds gs before hval hW (tab_ofD (laidMet_tailD (laidMet_tailD hL)) hsh) (hcd _ rfl)

theorem said_TextsFinds : Rows.TextsFindsUptoSaid :=
  OpenClaim.holds_of_cond 6 Tryz.f6 rfl rfl rfl rfl rfl rfl rfl ⟨rfl, rfl, rfl, rfl, rfl⟩ rfl rfl rfl rfl rfl (by kernel_rfl) Tryz.func6 (by kernel_rfl)
    (of_decide_eq_true (by kernel_rfl)) (by unfold Func.isWrapper; rw [if_neg (of_decide_eq_false (by kernel_rfl))]; exact ⟨rfl, rfl⟩)
    (fun os started H enc _ F => by rw [OpenClaim.pre_eq_preRow]; exact lifted_TextsFinds os started H enc F)

theorem plain_TextsFinds (f : FuncId) (fn : Func) (hf : Tryz.pinned.checked.prog.funcNamed "oriel/oriellaw09.TextsFinds" = some f) (hfn : Tryz.pinned.checked.prog.funcs[f]? = some fn) :
    true = Tryz.pinned.checked.prog.looks [] ∧ ∀ (j : Nat) t, fn.params[j]? = some t → Tryz.pinned.checked.prog.wantsStandIn t = false := by
  obtain rfl : f = 6 := Option.some.inj ((show Tryz.prog.funcNamed "oriel/oriellaw09.TextsFinds" = some 6 by kernel_rfl).symm.trans hf) |>.symm
  obtain rfl : fn = Tryz.f6 := (Option.some.inj (Tryz.func6.symm.trans hfn)).symm
  refine ⟨by kernel_rfl, fun j t ht => ?_⟩
  rw [Tryz.params6] at ht
  have hm : t = 9 ∨ t = 3 := by simpa using Array.mem_of_getElem? ht
  rcases hm with rfl | rfl
  · exact (show Tryz.prog.wantsStandIn 9 = false by kernel_rfl)
  · exact (show Tryz.prog.wantsStandIn 3 = false by kernel_rfl)

/-- THE CARD -/
theorem card_TextsFinds : Rows.TextsFindsUptoCardSaid :=
  Claim7.holds_tied_plain_at .later [] _ _ _ _ said_TextsFinds (fun _ h => by cases h) (by kernel_rfl) (fun _ h => by cases h) textsFindsUpto_row_tie rfl ⟨rfl, rfl⟩ (by kernel_rfl) rfl plain_TextsFinds (by kernel_rfl)
end Go.Proofs.YtaomlgpakbjegaaGreatDoor
