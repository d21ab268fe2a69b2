/-
  The law DecPowers returns true for every input; the listed variables of the library are as the program's text lays them (the card ties that).
-/
import Derived.Test.YtjnjklcnccfgaaaDoorCards
import Derived.Test.YtjnjklcnccfgaaaDoorTie
import Derived.Test.YtjnjklcnccfgaaaDoorLaidD
import Derived.Test.YtjnjklcnccfgaaaDoorLDPow
import Derived.Deep.DeepHandedRow
import Derived.Deep.DeepWitnessRowRef
import Derived.Lib.LaidTab
namespace Go.Proofs.YtjnjklcnccfgaaaDoor
open Go.ChangeShapes Go.WideShapes Go.ChangeAt Go.RowKit
open Go.ChangeMaps (open_string)

set_option maxRecDepth 100000 in
/-- what the walk gives, for every input -/
theorem contract_DecPowers (H : Type) (enc : TypeId × Value → H) (W : World) (base : Nat) (args : Array Value) (ds gs : List (DataW H)) (before : List MemPlace)
    (hval : ∀ (j : Nat) t v, Tryd.f17.params[j]? = some t → args[j]? = some v → Value.okWide Tryd.prog W .any base t v)
    (hW : DataW.Whole enc Tryd.prog Tryd.f17.params.toList Rows.decPowersSpec.vars false W args.toList ds gs before)
    (ht : Tab W) :
    Calls Tryd.prog 17 args W fun e W' => ∃ v, e = .returned v ∧ Rows.decPowersSpec.post enc Tryd.prog Tryd.f17 false true false false W args v W' := by
  have hW' := hW
  obtain ⟨p, q, hA0, hV, rfl, hfz, hnd⟩ := hW
  have hA : DataW.TrodAll enc Tryd.prog W 0 (fun _ => true) true Tryd.f17.params.toList args.toList ds p := hA0
  rw [Tryd.params17] at hA hval
  obtain ⟨v0, vs0, d0, ds0, p0, q0, hargs, rfl, rfl, h0, r0⟩ := trodAll_cons hA
  obtain ⟨v1, vs1, d1, ds1, p1, q1, rfl, rfl, rfl, h1, r1⟩ := trodAll_cons r0
  obtain ⟨rfl, rfl, rfl⟩ := trodAll_nil r1
  obtain rfl : args = #[v0, v1] := by cases args; simp_all
  obtain ⟨a0, rfl, rfl, rfl, w0⟩ := open_int Tryd.underlying2 (hval 0 2 v0 rfl rfl) h0
  have b0 := bounds_i64 w0
  obtain ⟨a1, rfl, rfl, rfl, w1⟩ := open_int Tryd.underlying3 (hval 1 3 v1 rfl rfl) h1
  have b1 := bounds_i64 w1
  refine (walk_DecPowers a0 a1 b0 b1 W ht).mono fun e W' ⟨he, hb⟩ => ⟨_, he, ?_⟩
  exact law_post laidOut Tryd.underlying4 (by kernel_rfl) rfl (fun ds hd => by
    rw [Tryd.params17] at hd
    match ds, hd with
    | [_, _], _ => rfl) (by kernel_rfl) hW' hb

theorem laid_met_DecPowers (os : Os) : laidMet Tryd.prog Rows.decPowersRow.laid ((laidWorldD os).forCall (fun _ _ => 0) ⟨#[], #[.int .i64 0, .int .i64 0], []⟩).memory :=
  laidMet_of_run' 8 (by kernel_rfl) (by kernel_rfl)
theorem reads_DecPowers (os : Os) {H : Type} (enc : TypeId × Value → H) : ∃ places, DataW.whole enc Tryd.prog ((laidWorldD os).forCall (fun _ _ => 0) ⟨#[], #[.int .i64 0, .int .i64 0], []⟩).memory Tryd.f17.params.toList Rows.decPowersSpec.vars false #[.int .i64 0, .int .i64 0].toList 8 = some ([.lit (.int .i64 0), .lit (.int .i64 0)], [], places) :=
  ⟨[], by kernel_rfl⟩

set_option maxRecDepth 100000 in
theorem lifted_DecPowers (os : Os) (started : os.Started) (H : Type) (enc : TypeId × Value → H) (F : Stop.Interp) :
    ReturnsInHanded {} Tryd.checked os 17 .any ((OpenSpec.ofChange Rows.decPowersSpec).preRow enc Tryd.prog Tryd.f17 Rows.decPowersRow.domain false Rows.decPowersRow.laid) (((OpenSpec.ofChange Rows.decPowersSpec).at F).post enc Tryd.prog Tryd.f17 false true false false) := by
  obtain ⟨places, hx⟩ := reads_DecPowers os enc
  refine returnsInHanded_of_row (C := Tryd.checked) (s := OpenSpec.ofChange Rows.decPowersSpec) own started (by kernel_rfl) Tryd.func17
    (witness_row_atRef (enc := enc) (C := Tryd.checked) false (laidWorldD os) #[.int .i64 0, .int .i64 0] rfl (by kernel_rfl) (by kernel_rfl) (by kernel_rfl)
      (OpenSpec.preRow_of_cond 8 hx (by kernel_rfl) (fun k hk => by cases hk) (by kernel_rfl) (laid_met_DecPowers os))) ?_
  intro W base args ds gs before hval hW _ _ _ hL hsh _
  exact contract_DecPowers H enc W base args ds gs before hval hW (tab_ofD (laidMet_tailD (laidMet_tailD hL)))

theorem said_DecPowers : Rows.DecPowersSaid :=
  OpenClaim.holds_of_cond 17 Tryd.f17 rfl rfl rfl rfl rfl rfl rfl ⟨rfl, rfl, rfl, rfl, rfl⟩ rfl rfl rfl rfl rfl (by kernel_rfl) Tryd.func17 (by kernel_rfl)
    (of_decide_eq_true (by kernel_rfl)) (by unfold Func.isWrapper; rw [if_neg (of_decide_eq_false (by kernel_rfl))]; exact ⟨rfl, rfl⟩)
    (fun os started H enc _ F => by rw [OpenClaim.pre_eq_preRow]; exact lifted_DecPowers os started H enc F)

theorem plain_DecPowers (f : FuncId) (fn : Func) (hf : Tryd.pinned.checked.prog.funcNamed "oriel/oriellaw01.DecPowers" = some f) (hfn : Tryd.pinned.checked.prog.funcs[f]? = some fn) :
    true = Tryd.pinned.checked.prog.looks [] ∧ ∀ (j : Nat) t, fn.params[j]? = some t → Tryd.pinned.checked.prog.wantsStandIn t = false := by
  obtain rfl : f = 17 := Option.some.inj ((show Tryd.prog.funcNamed "oriel/oriellaw01.DecPowers" = some 17 by kernel_rfl).symm.trans hf) |>.symm
  obtain rfl : fn = Tryd.f17 := (Option.some.inj (Tryd.func17.symm.trans hfn)).symm
  refine ⟨by kernel_rfl, fun j t ht => ?_⟩
  rw [Tryd.params17] at ht
  have hm : t = 2 ∨ t = 3 := by simpa using Array.mem_of_getElem? ht
  rcases hm with rfl | rfl
  · exact (show Tryd.prog.wantsStandIn 2 = false by kernel_rfl)
  · exact (show Tryd.prog.wantsStandIn 3 = false by kernel_rfl)

/-- THE CARD -/
theorem card_DecPowers : Rows.DecPowersCardSaid :=
  Claim7.holds_tied_plain_at .later [] _ _ _ _ said_DecPowers (fun _ h => by cases h) (by kernel_rfl) (fun _ h => by cases h) decPowers_row_tie rfl ⟨rfl, rfl⟩ (by kernel_rfl) rfl plain_DecPowers (by kernel_rfl)
end Go.Proofs.YtjnjklcnccfgaaaDoor
