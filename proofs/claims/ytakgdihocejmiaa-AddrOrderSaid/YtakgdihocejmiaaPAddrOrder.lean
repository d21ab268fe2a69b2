/-
  The law AddrOrder returns true for every input: no condition.
-/
import Derived.Test.YtakgdihocejmiaaLAddrT
namespace Go.Proofs.Ytakgdihocejmiaa
open Go.ChangeShapes Go.WideShapes Go.ChangeAt Go.RowKit

/-- what the walk gives, for every input -/
theorem contract_AddrOrder (H : Type) (enc : TypeId × Value → H) (W : World) (base : Nat) (args : Array Value) (ds gs : List (DataW H)) (before : List MemPlace)
    (hval : ∀ (j : Nat) t v, Try.f4.params[j]? = some t → args[j]? = some v → Value.okWide Try.prog W .any base t v)
    (hW : DataW.Whole enc Try.prog Try.f4.params.toList Rows.addrOrderSpec.vars false W args.toList ds gs before) :
    Calls Try.prog 4 args W fun e W' => ∃ v, e = .returned v ∧ Rows.addrOrderSpec.post enc Try.prog Try.f4 false true false false W args v W' := by
  have hW' := hW
  obtain ⟨p, q, hA0, hV, rfl, hfz, hnd⟩ := hW
  have hA : DataW.TrodAll enc Try.prog W 0 (fun _ => true) true Try.f4.params.toList args.toList ds p := hA0
  rw [Try.params4] at hA hval
  obtain ⟨v0, vs0, d0, ds0, p0, q0, hargs, rfl, rfl, h0, r0⟩ := trodAll_cons hA
  obtain ⟨v1, vs1, d1, ds1, p1, q1, rfl, rfl, rfl, h1, r1⟩ := trodAll_cons r0
  obtain ⟨v2, vs2, d2, ds2, p2, q2, rfl, rfl, rfl, h2, r2⟩ := trodAll_cons r1
  obtain ⟨rfl, rfl, rfl⟩ := trodAll_nil r2
  obtain rfl : args = #[v0, v1, v2] := by cases args; simp_all
  obtain ⟨cs0, rfl, g0⟩ := open_agg (n := 6) (l := [3, 3]) (by kernel_rfl) (by kernel_rfl) (hval 0 25 v0 rfl rfl) h0
  obtain ⟨c0_0, _, rfl, g0_0, c0_1, _, rfl, g0_1, rfl⟩ := g0
  obtain ⟨a0_0, rfl, b0_0⟩ := Reads1.i64 Try.underlying3 g0_0
  obtain ⟨a0_1, rfl, b0_1⟩ := Reads1.i64 Try.underlying3 g0_1
  obtain ⟨cs1, rfl, g1⟩ := open_agg (n := 6) (l := [3, 3]) (by kernel_rfl) (by kernel_rfl) (hval 1 25 v1 rfl rfl) h1
  obtain ⟨c1_0, _, rfl, g1_0, c1_1, _, rfl, g1_1, rfl⟩ := g1
  obtain ⟨a1_0, rfl, b1_0⟩ := Reads1.i64 Try.underlying3 g1_0
  obtain ⟨a1_1, rfl, b1_1⟩ := Reads1.i64 Try.underlying3 g1_1
  obtain ⟨cs2, rfl, g2⟩ := open_agg (n := 6) (l := [3, 3]) (by kernel_rfl) (by kernel_rfl) (hval 2 25 v2 rfl rfl) h2
  obtain ⟨c2_0, _, rfl, g2_0, c2_1, _, rfl, g2_1, rfl⟩ := g2
  obtain ⟨a2_0, rfl, b2_0⟩ := Reads1.i64 Try.underlying3 g2_0
  obtain ⟨a2_1, rfl, b2_1⟩ := Reads1.i64 Try.underlying3 g2_1
  refine (walk_AddrOrder a0_0 a0_1 a1_0 a1_1 a2_0 a2_1 W).mono fun e W' ⟨he, hb⟩ => ⟨_, he, ?_⟩
  exact law_post laidOut Try.underlying4 (by kernel_rfl) rfl (fun ds hd => by
    rw [Try.params4] at hd
    match ds, hd with
    | [_, _, _], _ => rfl) (by kernel_rfl) hW' hb

set_option maxRecDepth 100000 in
theorem lifted_AddrOrder (os : Os) (started : os.Started) (H : Type) (enc : TypeId × Value → H) :
    ReturnsInHanded {} Try.checked os 4 .any (Rows.addrOrderSpec.pre6 enc Try.prog Try.f4 Rows.addrOrderRow.domain false) (Rows.addrOrderSpec.post enc Try.prog Try.f4 false true false false) := by
  refine returnsInHanded_of_change (C := Try.checked) own started (by kernel_rfl) Try.func4
    (ChangeSpec.witness6 (enc := enc) (C := Try.checked) false ⟨#[], #[.agg #[.int .i64 0, .int .i64 0], .agg #[.int .i64 0, .int .i64 0], .agg #[.int .i64 0, .int .i64 0]], []⟩ 8 (by kernel_rfl) (by kernel_rfl) (by kernel_rfl) (by kernel_rfl)) ?_
  intro W base args ds gs before hval hW _ _
  exact contract_AddrOrder H enc W base args ds gs before hval hW

theorem holds_AddrOrder : Rows.AddrOrderSaid :=
  OpenClaim.holds_of_wide 4 Try.f4 rfl rfl rfl rfl rfl rfl rfl ⟨rfl, rfl, rfl, rfl, rfl⟩ rfl rfl rfl rfl rfl (by kernel_rfl) Try.func4 (by kernel_rfl)
    (of_decide_eq_true (by kernel_rfl)) (by unfold Func.isWrapper; rw [if_neg (of_decide_eq_false (by kernel_rfl))]; exact ⟨rfl, rfl⟩)
    (fun os started H enc _ => lifted_AddrOrder os started H enc)
end Go.Proofs.Ytakgdihocejmiaa
