/-
  The law ValueOrder returns true for every input; the listed tables of the library are as the program's text lays them (the card ties that).
-/
import Derived.Test.YtjnjklcnccfgaaaDoorCards
import Derived.Test.YtjnjklcnccfgaaaDoorTie
import Derived.Test.YtjnjklcnccfgaaaDoorLaidV
import Derived.Test.YtjnjklcnccfgaaaDoorLOrder
import Derived.Deep.DeepHandedRow
import Derived.Lib.LaidTab
namespace Go.Proofs.YtjnjklcnccfgaaaDoor
open Go.ChangeShapes Go.WideShapes Go.ChangeAt Go.RowKit
open Go.ChangeMaps (open_string)

set_option maxRecDepth 100000 in
/-- what the walk gives, for every input -/
theorem contract_ValueOrder (H : Type) (enc : TypeId × Value → H) (W : World) (base : Nat) (args : Array Value) (ds gs : List (DataW H)) (before : List MemPlace)
    (hval : ∀ (j : Nat) t v, Tryd.f6.params[j]? = some t → args[j]? = some v → Value.okWide Tryd.prog W .any base t v)
    (hW : DataW.Whole enc Tryd.prog Tryd.f6.params.toList Rows.valueOrderSpec.vars false W args.toList ds gs before)
    (ht : Tab W) :
    Calls Tryd.prog 6 args W fun e W' => ∃ v, e = .returned v ∧ Rows.valueOrderSpec.post enc Tryd.prog Tryd.f6 false true false false W args v W' := by
  have hW' := hW
  obtain ⟨p, q, hA0, hV, rfl, hfz, hnd⟩ := hW
  have hA : DataW.TrodAll enc Tryd.prog W 0 (fun _ => true) true Tryd.f6.params.toList args.toList ds p := hA0
  rw [Tryd.params6] at hA hval
  obtain ⟨v0, vs0, d0, ds0, p0, q0, hargs, rfl, rfl, h0, r0⟩ := trodAll_cons hA
  obtain ⟨v1, vs1, d1, ds1, p1, q1, rfl, rfl, rfl, h1, r1⟩ := trodAll_cons r0
  obtain ⟨v2, vs2, d2, ds2, p2, q2, rfl, rfl, rfl, h2, r2⟩ := trodAll_cons r1
  obtain ⟨rfl, rfl, rfl⟩ := trodAll_nil r2
  obtain rfl : args = #[v0, v1, v2] := by cases args; simp_all
  obtain ⟨cs0, rfl, g0⟩ := open_agg (n := 6) (l := [22, 2, 9, 4, 23]) (by kernel_rfl) (by kernel_rfl) (hval 0 25 v0 rfl rfl) h0
  obtain ⟨c0_0, _, rfl, g0_0, c0_1, _, rfl, g0_1, c0_2, _, rfl, g0_2, c0_3, _, rfl, g0_3, c0_4, _, rfl, g0_4, rfl⟩ := g0
  obtain ⟨a0_0, rfl, b0_0⟩ := Reads1.i64 Tryd.underlying22 g0_0
  obtain ⟨a0_1, rfl, b0_1⟩ := Reads1.i64 Tryd.underlying2 g0_1
  obtain ⟨a0_2, rfl, b0_2⟩ := Reads1.string Tryd.underlying9 g0_2
  obtain ⟨a0_3, rfl⟩ := Reads1.bool Tryd.underlying4 g0_3
  obtain ⟨a0_4, rfl, b0_4⟩ := Reads1.i64 Tryd.underlying23 g0_4
  obtain ⟨cs1, rfl, g1⟩ := open_agg (n := 6) (l := [22, 2, 9, 4, 23]) (by kernel_rfl) (by kernel_rfl) (hval 1 25 v1 rfl rfl) h1
  obtain ⟨c1_0, _, rfl, g1_0, c1_1, _, rfl, g1_1, c1_2, _, rfl, g1_2, c1_3, _, rfl, g1_3, c1_4, _, rfl, g1_4, rfl⟩ := g1
  obtain ⟨a1_0, rfl, b1_0⟩ := Reads1.i64 Tryd.underlying22 g1_0
  obtain ⟨a1_1, rfl, b1_1⟩ := Reads1.i64 Tryd.underlying2 g1_1
  obtain ⟨a1_2, rfl, b1_2⟩ := Reads1.string Tryd.underlying9 g1_2
  obtain ⟨a1_3, rfl⟩ := Reads1.bool Tryd.underlying4 g1_3
  obtain ⟨a1_4, rfl, b1_4⟩ := Reads1.i64 Tryd.underlying23 g1_4
  obtain ⟨cs2, rfl, g2⟩ := open_agg (n := 6) (l := [22, 2, 9, 4, 23]) (by kernel_rfl) (by kernel_rfl) (hval 2 25 v2 rfl rfl) h2
  obtain ⟨c2_0, _, rfl, g2_0, c2_1, _, rfl, g2_1, c2_2, _, rfl, g2_2, c2_3, _, rfl, g2_3, c2_4, _, rfl, g2_4, rfl⟩ := g2
  obtain ⟨a2_0, rfl, b2_0⟩ := Reads1.i64 Tryd.underlying22 g2_0
  obtain ⟨a2_1, rfl, b2_1⟩ := Reads1.i64 Tryd.underlying2 g2_1
  obtain ⟨a2_2, rfl, b2_2⟩ := Reads1.string Tryd.underlying9 g2_2
  obtain ⟨a2_3, rfl⟩ := Reads1.bool Tryd.underlying4 g2_3
  obtain ⟨a2_4, rfl, b2_4⟩ := Reads1.i64 Tryd.underlying23 g2_4
  refine (walk_ValueOrder a0_0 a0_1 a0_2 a0_3 a0_4 a1_0 a1_1 a1_2 a1_3 a1_4 a2_0 a2_1 a2_2 a2_3 a2_4 b0_1 b1_1 b2_1 W ht).mono fun e W' ⟨he, hb⟩ => ⟨_, he, ?_⟩
  exact law_post laidOut Tryd.underlying4 (by kernel_rfl) rfl (fun ds hd => by
    rw [Tryd.params6] at hd
    match ds, hd with
    | [_, _, _], _ => rfl) (by kernel_rfl) hW' hb

theorem laid_met_ValueOrder (os : Os) : laidMet Tryd.prog Rows.valueOrderRow.laid ((laidWorld os).forCall (fun _ _ => 0) ⟨#[], #[.agg #[.int .i64 0, .int .i64 0, .string ⟨#[]⟩, .bool false, .int .i64 0], .agg #[.int .i64 0, .int .i64 0, .string ⟨#[]⟩, .bool false, .int .i64 0], .agg #[.int .i64 0, .int .i64 0, .string ⟨#[]⟩, .bool false, .int .i64 0]], []⟩).memory :=
  laidMet_of_run' 8 (by kernel_rfl) (by kernel_rfl)
theorem reads_ValueOrder (os : Os) {H : Type} (enc : TypeId × Value → H) : ∃ places, DataW.whole enc Tryd.prog ((laidWorld os).forCall (fun _ _ => 0) ⟨#[], #[.agg #[.int .i64 0, .int .i64 0, .string ⟨#[]⟩, .bool false, .int .i64 0], .agg #[.int .i64 0, .int .i64 0, .string ⟨#[]⟩, .bool false, .int .i64 0], .agg #[.int .i64 0, .int .i64 0, .string ⟨#[]⟩, .bool false, .int .i64 0]], []⟩).memory Tryd.f6.params.toList Rows.valueOrderSpec.vars false #[.agg #[.int .i64 0, .int .i64 0, .string ⟨#[]⟩, .bool false, .int .i64 0], .agg #[.int .i64 0, .int .i64 0, .string ⟨#[]⟩, .bool false, .int .i64 0], .agg #[.int .i64 0, .int .i64 0, .string ⟨#[]⟩, .bool false, .int .i64 0]].toList 8 = some ([.agg [.lit (.int .i64 0), .lit (.int .i64 0), .lit (.string []), .lit (.bool false), .lit (.int .i64 0)], .agg [.lit (.int .i64 0), .lit (.int .i64 0), .lit (.string []), .lit (.bool false), .lit (.int .i64 0)], .agg [.lit (.int .i64 0), .lit (.int .i64 0), .lit (.string []), .lit (.bool false), .lit (.int .i64 0)]], [], places) :=
  ⟨[], by kernel_rfl⟩

set_option maxRecDepth 100000 in
theorem lifted_ValueOrder (os : Os) (started : os.Started) (H : Type) (enc : TypeId × Value → H) (F : Stop.Interp) :
    ReturnsInHanded {} Tryd.checked os 6 .any ((OpenSpec.ofChange Rows.valueOrderSpec).preRow enc Tryd.prog Tryd.f6 Rows.valueOrderRow.domain false Rows.valueOrderRow.laid) (((OpenSpec.ofChange Rows.valueOrderSpec).at F).post enc Tryd.prog Tryd.f6 false true false false) := by
  obtain ⟨places, hx⟩ := reads_ValueOrder os enc
  refine returnsInHanded_of_row (C := Tryd.checked) (s := OpenSpec.ofChange Rows.valueOrderSpec) own started (by kernel_rfl) Tryd.func6
    (witness_row_at (enc := enc) (C := Tryd.checked) false (laidWorld os) #[.agg #[.int .i64 0, .int .i64 0, .string ⟨#[]⟩, .bool false, .int .i64 0], .agg #[.int .i64 0, .int .i64 0, .string ⟨#[]⟩, .bool false, .int .i64 0], .agg #[.int .i64 0, .int .i64 0, .string ⟨#[]⟩, .bool false, .int .i64 0]] rfl (by kernel_rfl) (by kernel_rfl) (by kernel_rfl)
      (OpenSpec.preRow_of_cond 8 hx (by kernel_rfl) (fun k hk => by cases hk) (by kernel_rfl) (laid_met_ValueOrder os))) ?_
  intro W base args ds gs before hval hW _ _ _ hL hsh _
  exact contract_ValueOrder H enc W base args ds gs before hval hW (tab_of (laidMet_tail (laidMet_tail hL)))

theorem said_ValueOrder : Rows.ValueOrderSaid :=
  OpenClaim.holds_of_cond 6 Tryd.f6 rfl rfl rfl rfl rfl rfl rfl ⟨rfl, rfl, rfl, rfl, rfl⟩ rfl rfl rfl rfl rfl (by kernel_rfl) Tryd.func6 (by kernel_rfl)
    (of_decide_eq_true (by kernel_rfl)) (by unfold Func.isWrapper; rw [if_neg (of_decide_eq_false (by kernel_rfl))]; exact ⟨rfl, rfl⟩)
    (fun os started H enc _ F => by rw [OpenClaim.pre_eq_preRow]; exact lifted_ValueOrder os started H enc F)

theorem plain_ValueOrder (f : FuncId) (fn : Func) (hf : Tryd.pinned.checked.prog.funcNamed "oriel/oriellaw02.ValueOrder" = some f) (hfn : Tryd.pinned.checked.prog.funcs[f]? = some fn) :
    true = Tryd.pinned.checked.prog.looks [] ∧ ∀ (j : Nat) t, fn.params[j]? = some t → Tryd.pinned.checked.prog.wantsStandIn t = false := by
  obtain rfl : f = 6 := Option.some.inj ((show Tryd.prog.funcNamed "oriel/oriellaw02.ValueOrder" = some 6 by kernel_rfl).symm.trans hf) |>.symm
  obtain rfl : fn = Tryd.f6 := (Option.some.inj (Tryd.func6.symm.trans hfn)).symm
  refine ⟨by kernel_rfl, fun j t ht => ?_⟩
  rw [Tryd.params6] at ht
  have hm : t = 25 := by simpa using Array.mem_of_getElem? ht
  rcases hm with rfl
  · exact (show Tryd.prog.wantsStandIn 25 = false by kernel_rfl)

/-- THE CARD -/
theorem card_ValueOrder : Rows.ValueOrderCardSaid :=
  Claim7.holds_tied_plain_at .later [] _ _ _ _ said_ValueOrder (fun _ h => by cases h) (by kernel_rfl) (fun _ h => by cases h) valueOrder_row_tie rfl ⟨rfl, rfl⟩ (by kernel_rfl) rfl plain_ValueOrder (by kernel_rfl)
end Go.Proofs.YtjnjklcnccfgaaaDoor
