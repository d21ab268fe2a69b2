/-
  The law StampsNewer returns true for every input: no condition.
-/
import Derived.Test.YtkpoidlohgnbpaaRows
import Derived.Test.YtkpoidlohgnbpaaBase
import Derived.Test.YtkpoidlohgnbpaaStK
import Derived.Test.YtkpoidlohgnbpaaAddrC
import Derived.Test.YtkpoidlohgnbpaaStC
import Derived.Test.YtkpoidlohgnbpaaStD
import Derived.Test.YtkpoidlohgnbpaaProg
import Derived.Test.YtkpoidlohgnbpaaShelf
import Derived.Test.YtkpoidlohgnbpaaStE
import Derived.Test.YtkpoidlohgnbpaaEq
import Derived.Test.YtkpoidlohgnbpaaStG
import Derived.Test.YtkpoidlohgnbpaaStF
import Derived.Test.YtkpoidlohgnbpaaStL
import Derived.Test.YtkpoidlohgnbpaaStH
import Derived.Test.YtkpoidlohgnbpaaStI
import Derived.Test.YtkpoidlohgnbpaaRowB
import Derived.Test.YtkpoidlohgnbpaaRdK
import Derived.Test.YtkpoidlohgnbpaaStB
import Derived.Test.YtkpoidlohgnbpaaStN
import Derived.SizedLaws
import Derived.WalkKit
import Derived.ProofKit
import Derived.OpenShut
import Derived.Carry
import Derived.ChangeSame
import Derived.Lib.Hide
import Derived.Deep.Draws
import Derived.DeepKeys4
import Derived.Maps.OwnSet
import Derived.Maps.AppendAt
import Derived.Maps.RangeWalk
import Derived.WalkSpells
import Derived.WalkLawsBesides
import Derived.IntWalk
import Derived.StillTactics
import Derived.Laws.Pointers
import Derived.Deep.RegionHeld3
import Derived.Deep.QuietTactic
import Derived.BigQuiet
import Derived.RowKit3
import Derived.Lib.OthersKept
import Derived.OwnWalk
import Derived.Lib.IndexLaws
import Derived.StillTailTactics
import Derived.Lib.ItoaMem
import Derived.Shelf.Small.Bits
import Derived.Shelf.Strconv.Itoa0
import Derived.Shelf.Sort.Plain
import Derived.Ground.Names2Prog
import Derived.Shelf.Slices.SearchI
import Derived.Shelf.Slices.In.SortNone
import Derived.Shelf.Slices.Empties
import Derived.Sort.OwnSorted
import Derived.Sort.OwnSortedInts
import Derived.RangeFuncBox
import Derived.Deep.Slices
import Derived.ChangeSlices
import Derived.Outline
import Derived.Deep.CutRange
import Derived.Deep.CutBlock
namespace Go.Proofs.Ytkpoidlohgnbpaa
open Go.ChangeShapes Go.WideShapes Go.ChangeAt Go.RowKit
open Go.ChangeMaps (open_string)

set_option maxRecDepth 100000 in
/-- what the walk gives, for every input -/
theorem contract_StampsNewer (H : Type) (enc : TypeId × Value → H) (W : World) (base : Nat) (args : Array Value) (ds gs : List (DataW H)) (before : List MemPlace)
    (hval : ∀ (j : Nat) t v, Try.f3.params[j]? = some t → args[j]? = some v → Value.okWide Try.prog W .any base t v)
    (hW : DataW.Whole enc Try.prog Try.f3.params.toList Rows.stampsNewerSpec.vars false W args.toList ds gs before) (hsz : (DataW.weightsEach Try.prog (Try.f3.params.toList ++ Rows.stampsNewerSpec.plain.varTypes Try.prog) (ds ++ gs)).all (· ≤ reachBytes) = true) :
    Calls Try.prog 3 args W fun e W' => ∃ v, e = .returned v ∧ Rows.stampsNewerSpec.post enc Try.prog Try.f3 false true false false W args v W' := by
  have hW' := hW
  obtain ⟨p, q, hA0, hV, rfl, hfz, hnd⟩ := hW
  have hA : DataW.TrodAll enc Try.prog W 0 (fun _ => true) true Try.f3.params.toList args.toList ds p := hA0
  rw [Try.params3] at hA hval
  obtain ⟨v0, vs0, d0, ds0, p0, q0, hargs, rfl, rfl, h0, r0⟩ := trodAll_cons hA
  obtain ⟨v1, vs1, d1, ds1, p1, q1, rfl, rfl, rfl, h1, r1⟩ := trodAll_cons r0
  obtain ⟨rfl, rfl, rfl⟩ := trodAll_nil r1
  obtain rfl : args = #[v0, v1] := by cases args; simp_all
  obtain ⟨A1, l1, cap1, rfl, hlc1, hcm1, hR1, hP1, hD1, hN1⟩ := rd_ops (hval 0 22 v0 rfl rfl) h0
  obtain ⟨a2, rfl, rfl, rfl, w2⟩ := open_int Try.underlying3 (hval 1 3 v1 rfl rfl) h1
  have b2 := bounds_i64 w2
  have hl1 : l1.length ≤ 3518437208883 := by
    rcases hD1 with h | ⟨es, sr, h, he⟩
    · rw [h]; simp
    · have hb : Try.prog.bytesOf 32 = 40 := by kernel_rfl
      have := sized_slice hsz (j := 0) (t := 22) (e := 32) rfl (by rw [h]; rfl) Try.underlying22
      rw [hb] at this
      unfold reachBytes at this
      omega
  refine (walk_StampsNewer l1 hl1 hP1 a2 b2 W A1 cap1 hR1).mono fun e W' ⟨he, hb⟩ => ⟨_, he, ?_⟩
  exact law_post laidOut Try.underlying4 (by kernel_rfl) rfl (fun ds hd => by
    rw [Try.params3] at hd
    match ds, hd with
    | [_, _], _ => rfl) (by kernel_rfl) hW' hb

set_option maxRecDepth 100000 in
theorem lifted_StampsNewer (os : Os) (started : os.Started) (H : Type) (enc : TypeId × Value → H) :
    ReturnsInHanded {} Try.checked os 3 .any (Rows.stampsNewerSpec.pre6 enc Try.prog Try.f3 Rows.stampsNewerRow.domain false) (Rows.stampsNewerSpec.post enc Try.prog Try.f3 false true false false) := by
  refine returnsInHanded_of_change_sized (C := Try.checked) own started (by kernel_rfl) Try.func3
    (ChangeSpec.witness6 (enc := enc) (C := Try.checked) false ⟨#[], #[.slice none 0 0, .int .i64 0], []⟩ 8 (by kernel_rfl) (by kernel_rfl) (by kernel_rfl) (by kernel_rfl)) ?_
  intro W base args ds gs before hval hW _ hsz _
  exact contract_StampsNewer H enc W base args ds gs before hval hW hsz

theorem holds_StampsNewer : Rows.StampsNewerSaid :=
  OpenClaim.holds_of_wide 3 Try.f3 rfl rfl rfl rfl rfl rfl rfl ⟨rfl, rfl, rfl, rfl, rfl⟩ rfl rfl rfl rfl rfl (by kernel_rfl) Try.func3 (by kernel_rfl)
    (of_decide_eq_true (by kernel_rfl)) (by unfold Func.isWrapper; rw [if_neg (of_decide_eq_false (by kernel_rfl))]; exact ⟨rfl, rfl⟩)
    (fun os started H enc _ => lifted_StampsNewer os started H enc)
end Go.Proofs.Ytkpoidlohgnbpaa
