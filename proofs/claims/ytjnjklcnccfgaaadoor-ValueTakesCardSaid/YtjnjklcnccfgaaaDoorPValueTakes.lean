/-
  The law ValueTakes returns true for every input; the listed tables of the library are as the program's text lays them (the card ties that).
-/
import Derived.Test.YtjnjklcnccfgaaaDoorCards
import Derived.Test.YtjnjklcnccfgaaaDoorTie
import Derived.Test.YtjnjklcnccfgaaaDoorLaidV
import Derived.Test.YtjnjklcnccfgaaaDoorLTak
import Derived.Deep.DeepHandedRow
import Derived.Lib.LaidTab
namespace Go.Proofs.YtjnjklcnccfgaaaDoor
open Go.ChangeShapes Go.WideShapes Go.ChangeAt Go.RowKit
open Go.ChangeMaps (open_string)

set_option maxRecDepth 100000 in
/-- what the walk gives, for every input -/
theorem contract_ValueTakes (H : Type) (enc : TypeId × Value → H) (W : World) (base : Nat) (args : Array Value) (ds gs : List (DataW H)) (before : List MemPlace)
    (hval : ∀ (j : Nat) t v, Tryd.f8.params[j]? = some t → args[j]? = some v → Value.okWide Tryd.prog W .any base t v)
    (hW : DataW.Whole enc Tryd.prog Tryd.f8.params.toList Rows.valueTakesSpec.vars false W args.toList ds gs before)
    (ht : Tab W) :
    Calls Tryd.prog 8 args W fun e W' => ∃ v, e = .returned v ∧ Rows.valueTakesSpec.post enc Tryd.prog Tryd.f8 false true false false W args v W' := by
  have hW' := hW
  obtain ⟨p, q, hA0, hV, rfl, hfz, hnd⟩ := hW
  have hA : DataW.TrodAll enc Tryd.prog W 0 (fun _ => true) true Tryd.f8.params.toList args.toList ds p := hA0
  rw [Tryd.params8] at hA hval
  obtain ⟨v0, vs0, d0, ds0, p0, q0, hargs, rfl, rfl, h0, r0⟩ := trodAll_cons hA
  obtain ⟨rfl, rfl, rfl⟩ := trodAll_nil r0
  obtain rfl : args = #[v0] := by cases args; simp_all
  obtain ⟨cs0, rfl, g0⟩ := open_agg (n := 6) (l := [22, 2, 9, 4, 23]) (by kernel_rfl) (by kernel_rfl) (hval 0 25 v0 rfl rfl) h0
  obtain ⟨c0_0, _, rfl, g0_0, c0_1, _, rfl, g0_1, c0_2, _, rfl, g0_2, c0_3, _, rfl, g0_3, c0_4, _, rfl, g0_4, rfl⟩ := g0
  obtain ⟨a0_0, rfl, b0_0⟩ := Reads1.i64 Tryd.underlying22 g0_0
  obtain ⟨a0_1, rfl, b0_1⟩ := Reads1.i64 Tryd.underlying2 g0_1
  obtain ⟨a0_2, rfl, b0_2⟩ := Reads1.string Tryd.underlying9 g0_2
  obtain ⟨a0_3, rfl⟩ := Reads1.bool Tryd.underlying4 g0_3
  obtain ⟨a0_4, rfl, b0_4⟩ := Reads1.i64 Tryd.underlying23 g0_4
  refine (walk_ValueTakes a0_0 a0_1 a0_2 a0_3 a0_4 b0_1 W ht).mono fun e W' ⟨he, hb⟩ => ⟨_, he, ?_⟩
  exact law_post laidOut Tryd.underlying4 (by kernel_rfl) rfl (fun ds hd => by
    rw [Tryd.params8] at hd
    match ds, hd with
    | [_], _ => rfl) (by kernel_rfl) hW' hb

theorem laid_met_ValueTakes (os : Os) : laidMet Tryd.prog Rows.valueTakesRow.laid ((laidWorld os).forCall (fun _ _ => 0) ⟨#[], #[.agg #[.int .i64 0, .int .i64 0, .string ⟨#[]⟩, .bool false, .int .i64 0]], []⟩).memory :=
  laidMet_of_run' 8 (by kernel_rfl) (by kernel_rfl)
theorem reads_ValueTakes (os : Os) {H : Type} (enc : TypeId × Value → H) : ∃ places, DataW.whole enc Tryd.prog ((laidWorld os).forCall (fun _ _ => 0) ⟨#[], #[.agg #[.int .i64 0, .int .i64 0, .string ⟨#[]⟩, .bool false, .int .i64 0]], []⟩).memory Tryd.f8.params.toList Rows.valueTakesSpec.vars false #[.agg #[.int .i64 0, .int .i64 0, .string ⟨#[]⟩, .bool false, .int .i64 0]].toList 8 = some ([.agg [.lit (.int .i64 0), .lit (.int .i64 0), .lit (.string []), .lit (.bool false), .lit (.int .i64 0)]], [], places) :=
  ⟨[], by kernel_rfl⟩

set_option maxRecDepth 100000 in
theorem lifted_ValueTakes (os : Os) (started : os.Started) (H : Type) (enc : TypeId × Value → H) (F : Stop.Interp) :
    ReturnsInHanded {} Tryd.checked os 8 .any ((OpenSpec.ofChange Rows.valueTakesSpec).preRow enc Tryd.prog Tryd.f8 Rows.valueTakesRow.domain false Rows.valueTakesRow.laid) (((OpenSpec.ofChange Rows.valueTakesSpec).at F).post enc Tryd.prog Tryd.f8 false true false false) := by
  obtain ⟨places, hx⟩ := reads_ValueTakes os enc
  refine returnsInHanded_of_row (C := Tryd.checked) (s := OpenSpec.ofChange Rows.valueTakesSpec) own started (by kernel_rfl) Tryd.func8
    (witness_row_at (enc := enc) (C := Tryd.checked) false (laidWorld os) #[.agg #[.int .i64 0, .int .i64 0, .string ⟨#[]⟩, .bool false, .int .i64 0]] rfl (by kernel_rfl) (by kernel_rfl) (by kernel_rfl)
      (OpenSpec.preRow_of_cond 8 hx (by kernel_rfl) (fun k hk => by cases hk) (by kernel_rfl) (laid_met_ValueTakes os))) ?_
  intro W base args ds gs before hval hW _ _ _ hL hsh _
  exact contract_ValueTakes H enc W base args ds gs before hval hW (tab_of (laidMet_tail (laidMet_tail hL)))

theorem said_ValueTakes : Rows.ValueTakesSaid :=
  OpenClaim.holds_of_cond 8 Tryd.f8 rfl rfl rfl rfl rfl rfl rfl ⟨rfl, rfl, rfl, rfl, rfl⟩ rfl rfl rfl rfl rfl (by kernel_rfl) Tryd.func8 (by kernel_rfl)
    (of_decide_eq_true (by kernel_rfl)) (by unfold Func.isWrapper; rw [if_neg (of_decide_eq_false (by kernel_rfl))]; exact ⟨rfl, rfl⟩)
    (fun os started H enc _ F => by rw [OpenClaim.pre_eq_preRow]; exact lifted_ValueTakes os started H enc F)

theorem plain_ValueTakes (f : FuncId) (fn : Func) (hf : Tryd.pinned.checked.prog.funcNamed "oriel/oriellaw02.ValueTakes" = some f) (hfn : Tryd.pinned.checked.prog.funcs[f]? = some fn) :
    true = Tryd.pinned.checked.prog.looks [] ∧ ∀ (j : Nat) t, fn.params[j]? = some t → Tryd.pinned.checked.prog.wantsStandIn t = false := by
  obtain rfl : f = 8 := Option.some.inj ((show Tryd.prog.funcNamed "oriel/oriellaw02.ValueTakes" = some 8 by kernel_rfl).symm.trans hf) |>.symm
  obtain rfl : fn = Tryd.f8 := (Option.some.inj (Tryd.func8.symm.trans hfn)).symm
  refine ⟨by kernel_rfl, fun j t ht => ?_⟩
  rw [Tryd.params8] at ht
  have hm : t = 25 := by simpa using Array.mem_of_getElem? ht
  rcases hm with rfl
  · exact (show Tryd.prog.wantsStandIn 25 = false by kernel_rfl)

/-- THE CARD -/
theorem card_ValueTakes : Rows.ValueTakesCardSaid :=
  Claim7.holds_tied_plain_at .later [] _ _ _ _ said_ValueTakes (fun _ h => by cases h) (by kernel_rfl) (fun _ h => by cases h) valueTakes_row_tie rfl ⟨rfl, rfl⟩ (by kernel_rfl) rfl plain_ValueTakes (by kernel_rfl)
end Go.Proofs.YtjnjklcnccfgaaaDoor
