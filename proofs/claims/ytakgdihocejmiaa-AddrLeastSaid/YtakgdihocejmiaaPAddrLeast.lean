/-
  The law AddrLeast returns true for every input: no condition.
-/
import Derived.Test.YtakgdihocejmiaaLAddrU
namespace Go.Proofs.Ytakgdihocejmiaa
open Go.ChangeShapes Go.WideShapes Go.ChangeAt Go.RowKit

/-- what the walk gives, for every input -/
theorem contract_AddrLeast (H : Type) (enc : TypeId × Value → H) (W : World) (base : Nat) (args : Array Value) (ds gs : List (DataW H)) (before : List MemPlace)
    (hval : ∀ (j : Nat) t v, Try.f7.params[j]? = some t → args[j]? = some v → Value.okWide Try.prog W .any base t v)
    (hW : DataW.Whole enc Try.prog Try.f7.params.toList Rows.addrLeastSpec.vars false W args.toList ds gs before) :
    Calls Try.prog 7 args W fun e W' => ∃ v, e = .returned v ∧ Rows.addrLeastSpec.post enc Try.prog Try.f7 false true false false W args v W' := by
  have hW' := hW
  obtain ⟨p, q, hA0, hV, rfl, hfz, hnd⟩ := hW
  have hA : DataW.TrodAll enc Try.prog W 0 (fun _ => true) true Try.f7.params.toList args.toList ds p := hA0
  rw [Try.params7] at hA hval
  obtain ⟨v0, vs0, d0, ds0, p0, q0, hargs, rfl, rfl, h0, r0⟩ := trodAll_cons hA
  obtain ⟨v1, vs1, d1, ds1, p1, q1, rfl, rfl, rfl, h1, r1⟩ := trodAll_cons r0
  obtain ⟨rfl, rfl, rfl⟩ := trodAll_nil r1
  obtain rfl : args = #[v0, v1] := by cases args; simp_all
  obtain ⟨cs0, rfl, g0⟩ := open_agg (n := 6) (l := [3, 3, 3, 3, 3, 3]) (by kernel_rfl) (by kernel_rfl) (hval 0 33 v0 rfl rfl) h0
  obtain ⟨c0_0, _, rfl, g0_0, c0_1, _, rfl, g0_1, c0_2, _, rfl, g0_2, c0_3, _, rfl, g0_3, c0_4, _, rfl, g0_4, c0_5, _, rfl, g0_5, rfl⟩ := g0
  obtain ⟨a0_0, rfl, b0_0⟩ := Reads1.i64 Try.underlying3 g0_0
  obtain ⟨a0_1, rfl, b0_1⟩ := Reads1.i64 Try.underlying3 g0_1
  obtain ⟨a0_2, rfl, b0_2⟩ := Reads1.i64 Try.underlying3 g0_2
  obtain ⟨a0_3, rfl, b0_3⟩ := Reads1.i64 Try.underlying3 g0_3
  obtain ⟨a0_4, rfl, b0_4⟩ := Reads1.i64 Try.underlying3 g0_4
  obtain ⟨a0_5, rfl, b0_5⟩ := Reads1.i64 Try.underlying3 g0_5
  obtain ⟨cs1, rfl, g1⟩ := open_agg (n := 6) (l := [3, 3, 3, 3]) (by kernel_rfl) (by kernel_rfl) (hval 1 23 v1 rfl rfl) h1
  obtain ⟨c1_0, _, rfl, g1_0, c1_1, _, rfl, g1_1, c1_2, _, rfl, g1_2, c1_3, _, rfl, g1_3, rfl⟩ := g1
  obtain ⟨a1_0, rfl, b1_0⟩ := Reads1.i64 Try.underlying3 g1_0
  obtain ⟨a1_1, rfl, b1_1⟩ := Reads1.i64 Try.underlying3 g1_1
  obtain ⟨a1_2, rfl, b1_2⟩ := Reads1.i64 Try.underlying3 g1_2
  obtain ⟨a1_3, rfl, b1_3⟩ := Reads1.i64 Try.underlying3 g1_3
  refine (walk_AddrLeast a0_0 a0_1 a0_2 a0_3 a0_4 a0_5 a1_0 a1_1 a1_2 a1_3 W).mono fun e W' ⟨he, hb⟩ => ⟨_, he, ?_⟩
  exact law_post laidOut Try.underlying4 (by kernel_rfl) rfl (fun ds hd => by
    rw [Try.params7] at hd
    match ds, hd with
    | [_, _], _ => rfl) (by kernel_rfl) hW' hb

set_option maxRecDepth 100000 in
theorem lifted_AddrLeast (os : Os) (started : os.Started) (H : Type) (enc : TypeId × Value → H) :
    ReturnsInHanded {} Try.checked os 7 .any (Rows.addrLeastSpec.pre6 enc Try.prog Try.f7 Rows.addrLeastRow.domain false) (Rows.addrLeastSpec.post enc Try.prog Try.f7 false true false false) := by
  refine returnsInHanded_of_change (C := Try.checked) own started (by kernel_rfl) Try.func7
    (ChangeSpec.witness6 (enc := enc) (C := Try.checked) false ⟨#[], #[.agg #[.int .i64 0, .int .i64 0, .int .i64 0, .int .i64 0, .int .i64 0, .int .i64 0], .agg #[.int .i64 0, .int .i64 0, .int .i64 0, .int .i64 0]], []⟩ 8 (by kernel_rfl) (by kernel_rfl) (by kernel_rfl) (by kernel_rfl)) ?_
  intro W base args ds gs before hval hW _ _
  exact contract_AddrLeast H enc W base args ds gs before hval hW

theorem holds_AddrLeast : Rows.AddrLeastSaid :=
  OpenClaim.holds_of_wide 7 Try.f7 rfl rfl rfl rfl rfl rfl rfl ⟨rfl, rfl, rfl, rfl, rfl⟩ rfl rfl rfl rfl rfl (by kernel_rfl) Try.func7 (by kernel_rfl)
    (of_decide_eq_true (by kernel_rfl)) (by unfold Func.isWrapper; rw [if_neg (of_decide_eq_false (by kernel_rfl))]; exact ⟨rfl, rfl⟩)
    (fun os started H enc _ => lifted_AddrLeast os started H enc)
end Go.Proofs.Ytakgdihocejmiaa
