/-
  The law NumsTakes returns true for every input: no condition.
-/
import Derived.Test.YthobaffgllipfaaLNTak
import Derived.Test.YthobaffgllipfaaRdIn
namespace Go.Proofs.Ythobaffgllipfaa
open Go.ChangeShapes Go.WideShapes Go.ChangeAt Go.RowKit
open Go.ChangeMaps (open_string)

set_option maxRecDepth 100000 in
/-- what the walk gives, for every input -/
theorem contract_NumsTakes (H : Type) (enc : TypeId × Value → H) (W : World) (base : Nat) (args : Array Value) (ds gs : List (DataW H)) (before : List MemPlace)
    (hval : ∀ (j : Nat) t v, Try.f3.params[j]? = some t → args[j]? = some v → Value.okWide Try.prog W .any base t v)
    (hW : DataW.Whole enc Try.prog Try.f3.params.toList Rows.numsTakesSpec.vars false W args.toList ds gs before) :
    Calls Try.prog 3 args W fun e W' => ∃ v, e = .returned v ∧ Rows.numsTakesSpec.post enc Try.prog Try.f3 false true false false W args v W' := by
  have hW' := hW
  obtain ⟨p, q, hA0, hV, rfl, hfz, hnd⟩ := hW
  have hA : DataW.TrodAll enc Try.prog W 0 (fun _ => true) true Try.f3.params.toList args.toList ds p := hA0
  rw [Try.params3] at hA hval
  obtain ⟨v0, vs0, d0, ds0, p0, q0, hargs, rfl, rfl, h0, r0⟩ := trodAll_cons hA
  obtain ⟨v1, vs1, d1, ds1, p1, q1, rfl, rfl, rfl, h1, r1⟩ := trodAll_cons r0
  obtain ⟨rfl, rfl, rfl⟩ := trodAll_nil r1
  obtain rfl : args = #[v0, v1] := by cases args; simp_all
  obtain ⟨a0, rfl, rfl, rfl, w0⟩ := open_string Try.underlying9 (hval 0 9 v0 rfl rfl) h0
  obtain ⟨A1, l1, cap1, rfl, hlc1, hcm1, hA1⟩ := rd_bools Try.underlying22 Try.underlying4 (by kernel_rfl) (hval 1 22 v1 rfl rfl) h1
  unfold maxLen at hcm1
  refine (walk_NumsTakes a0 (by unfold maxLen at w0; omega) l1 (by omega) W A1 cap1 hA1).mono fun e W' ⟨he, hb⟩ => ⟨_, he, ?_⟩
  exact law_post laidOut Try.underlying4 (by kernel_rfl) rfl (fun ds hd => by
    rw [Try.params3] at hd
    match ds, hd with
    | [_, _], _ => rfl) (by kernel_rfl) hW' hb

set_option maxRecDepth 100000 in
theorem lifted_NumsTakes (os : Os) (started : os.Started) (H : Type) (enc : TypeId × Value → H) :
    ReturnsInHanded {} Try.checked os 3 .any (Rows.numsTakesSpec.pre6 enc Try.prog Try.f3 Rows.numsTakesRow.domain false) (Rows.numsTakesSpec.post enc Try.prog Try.f3 false true false false) := by
  refine returnsInHanded_of_change (C := Try.checked) own started (by kernel_rfl) Try.func3
    (ChangeSpec.witness6 (enc := enc) (C := Try.checked) false ⟨#[], #[.string ⟨#[]⟩, .slice none 0 0], []⟩ 8 (by kernel_rfl) (by kernel_rfl) (by kernel_rfl) (by kernel_rfl)) ?_
  intro W base args ds gs before hval hW _ _
  exact contract_NumsTakes H enc W base args ds gs before hval hW

theorem holds_NumsTakes : Rows.NumsTakesSaid :=
  OpenClaim.holds_of_wide 3 Try.f3 rfl rfl rfl rfl rfl rfl rfl ⟨rfl, rfl, rfl, rfl, rfl⟩ rfl rfl rfl rfl rfl (by kernel_rfl) Try.func3 (by kernel_rfl)
    (of_decide_eq_true (by kernel_rfl)) (by unfold Func.isWrapper; rw [if_neg (of_decide_eq_false (by kernel_rfl))]; exact ⟨rfl, rfl⟩)
    (fun os started H enc _ => lifted_NumsTakes os started H enc)
end Go.Proofs.Ythobaffgllipfaa
