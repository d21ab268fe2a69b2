/-
  The law NumsCalls returns true for every input: no condition.
-/
import Derived.Test.YthobaffgllipfaaGreatRows
import Derived.Test.YthobaffgllipfaaGreatBase
import Derived.Test.YthobaffgllipfaaGreatMapK
import Derived.Test.YthobaffgllipfaaGreatNFind
import Derived.Test.YthobaffgllipfaaGreatMg3
import Derived.Test.YthobaffgllipfaaGreatValA
import Derived.Test.YthobaffgllipfaaGreatValB
import Derived.Test.YthobaffgllipfaaGreatDecS
import Derived.Test.YthobaffgllipfaaGreatValC
import Derived.Test.YthobaffgllipfaaGreatAddrC
import Derived.Test.YthobaffgllipfaaGreatMg9
import Derived.Test.YthobaffgllipfaaGreatDMod
import Derived.Test.YthobaffgllipfaaGreatDFlo
import Derived.Test.YthobaffgllipfaaGreatProg
import Derived.Test.YthobaffgllipfaaGreatMg12
import Derived.Test.YthobaffgllipfaaGreatDRnd
import Derived.Test.YthobaffgllipfaaGreatMg14
import Derived.Test.YthobaffgllipfaaGreatKnuth
import Derived.Test.YthobaffgllipfaaGreatDDiv
import Derived.Test.YthobaffgllipfaaGreatMg17
import Derived.Test.YthobaffgllipfaaGreatNDoA
import Derived.Test.YthobaffgllipfaaGreatNDoB
import Derived.Test.YthobaffgllipfaaGreatNDoC
import Derived.Test.YthobaffgllipfaaGreatNDoD
import Derived.Test.YthobaffgllipfaaGreatNDoE
import Derived.Test.YthobaffgllipfaaGreatNCall
import Derived.Test.YthobaffgllipfaaGreatValL
import Derived.Test.YthobaffgllipfaaGreatNCallK
import Derived.Test.YthobaffgllipfaaGreatNCallB
import Derived.Test.YthobaffgllipfaaGreatNDoF
import Derived.Test.YthobaffgllipfaaGreatMg28
import Derived.Test.YthobaffgllipfaaGreatNDoQ
import Derived.Test.YthobaffgllipfaaGreatNDoP
import Derived.Test.YthobaffgllipfaaGreatNDoAt2
import Derived.Test.YthobaffgllipfaaGreatDPowB
import Derived.Test.YthobaffgllipfaaGreatDPowC
import Derived.Test.YthobaffgllipfaaGreatNDoAt3
import Derived.Test.YthobaffgllipfaaGreatR8A
import Derived.Test.YthobaffgllipfaaGreatR8B
import Derived.Test.YthobaffgllipfaaGreatMg37
import Derived.Test.YthobaffgllipfaaGreatRGrD
import Derived.Test.YthobaffgllipfaaGreatMg39
import Derived.Test.YthobaffgllipfaaGreatMg40
import Derived.Test.YthobaffgllipfaaGreatRQuo
import Derived.Test.YthobaffgllipfaaGreatRPow
import Derived.Test.YthobaffgllipfaaGreatRPowJ
import Derived.Test.YthobaffgllipfaaGreatR8C
import Derived.Test.YthobaffgllipfaaGreatRArgM
import Derived.Test.YthobaffgllipfaaGreatR8D
import Derived.Test.YthobaffgllipfaaGreatNLaw
import Derived.Test.YthobaffgllipfaaGreatNKn
import Derived.Test.YthobaffgllipfaaGreatLNTak
import Derived.Test.YthobaffgllipfaaGreatR8E
import Derived.Test.YthobaffgllipfaaGreatArgM
import Derived.Test.YthobaffgllipfaaGreatMg52
import Derived.SizedLaws
import Derived.WalkKit
import Derived.ProofKit
import Derived.OpenShut
import Derived.Carry
import Derived.ChangeSame
import Derived.Lib.Hide
import Derived.Deep.Draws
import Derived.Maps.OwnSet
import Derived.Maps.AppendAt
import Derived.WalkSpells
import Derived.WalkLawsBesides
import Derived.StillTactics
import Derived.Laws.Pointers
import Derived.Deep.RegionHeld3
import Derived.Deep.QuietTactic
import Derived.BigQuiet
import Derived.RowKit3
import Derived.Lib.OthersKept
import Derived.OwnWalk
import Derived.Lib.IndexLaws
import Derived.Lib.ItoaMem
import Derived.Laws.EntriesVeiled
import Derived.Laws.BitsAllLaws
import Derived.Shelf.Small.Bits
import Derived.Shelf.Strconv.Itoa0
import Derived.Shelf.Bits.Mul64
import Derived.Lib.TrimByte
import Derived.Lib.Bytealg
import Derived.Lib.SlTrimSet
import Derived.Lib.ParseIntB
import Derived.Shelf.Strings.SlTrimAscii
import Derived.Lib.SmallJoins
import Derived.Deep.RegionWith
import Derived.Laws.Externs
import Derived.Laws.AppendOwnNone
import Derived.Deep.Slices
import Derived.ChangeSlices
namespace Go.Proofs.YthobaffgllipfaaGreat
open Go.ChangeShapes Go.WideShapes Go.ChangeAt Go.RowKit
open Go.ChangeMaps (open_string)

set_option maxRecDepth 100000 in
/-- what the walk gives, for every input -/
theorem contract_NumsCalls (H : Type) (enc : TypeId × Value → H) (W : World) (base : Nat) (args : Array Value) (ds gs : List (DataW H)) (before : List MemPlace)
    (hval : ∀ (j : Nat) t v, Tryz.f3.params[j]? = some t → args[j]? = some v → Value.okWide Tryz.prog W .any base t v)
    (hW : DataW.Whole enc Tryz.prog Tryz.f3.params.toList Rows.numsCallsSpec.vars false W args.toList ds gs before) (hsz : (DataW.weightsEach Tryz.prog (Tryz.f3.params.toList ++ Rows.numsCallsSpec.plain.varTypes Tryz.prog) (ds ++ gs)).all (· ≤ reachBytes) = true) :
    Calls Tryz.prog 3 args W fun e W' => ∃ v, e = .returned v ∧ Rows.numsCallsSpec.post enc Tryz.prog Tryz.f3 false true false false W args v W' := by
  have hW' := hW
  obtain ⟨p, q, hA0, hV, rfl, hfz, hnd⟩ := hW
  have hA : DataW.TrodAll enc Tryz.prog W 0 (fun _ => true) true Tryz.f3.params.toList args.toList ds p := hA0
  rw [Tryz.params3] at hA hval
  obtain ⟨v0, vs0, d0, ds0, p0, q0, hargs, rfl, rfl, h0, r0⟩ := trodAll_cons hA
  obtain ⟨v1, vs1, d1, ds1, p1, q1, rfl, rfl, rfl, h1, r1⟩ := trodAll_cons r0
  obtain ⟨v2, vs2, d2, ds2, p2, q2, rfl, rfl, rfl, h2, r2⟩ := trodAll_cons r1
  obtain ⟨rfl, rfl, rfl⟩ := trodAll_nil r2
  obtain rfl : args = #[v0, v1, v2] := by cases args; simp_all
  obtain ⟨a0, rfl, rfl, rfl, w0⟩ := open_string Tryz.underlying9 (hval 0 9 v0 rfl rfl) h0
  obtain ⟨A1, l1, cap1, rfl, hlc1, hcm1, hR1, hP1, hD1, hN1⟩ := rd_args (hval 1 22 v1 rfl rfl) h1
  unfold maxLen at hcm1
  obtain ⟨a2, rfl, rfl, rfl, w2⟩ := open_int Tryz.underlying3 (hval 2 3 v2 rfl rfl) h2
  have b2 := bounds_i64 w2
  have hl1 : l1.length ≤ 1649267441664 := by
    rcases hD1 with h | ⟨es, sr, h, he⟩
    · rw [h]; simp
    · have hb : Tryz.prog.bytesOf 35 = 112 := by kernel_rfl
      have := sized_slice hsz (j := 1) (t := 22) (e := 35) rfl (by rw [h]; rfl) Tryz.underlying22
      rw [hb] at this
      unfold reachBytes at this
      omega
  refine (walk_NumsCalls a0 (by unfold maxLen at w0; omega) l1 hl1 a2 W A1 cap1 hR1 hP1).mono fun e W' ⟨he, hb⟩ => ⟨_, he, ?_⟩
  exact law_post laidOut Tryz.underlying4 (by kernel_rfl) rfl (fun ds hd => by
    rw [Tryz.params3] at hd
    match ds, hd with
    | [_, _, _], _ => rfl) (by kernel_rfl) hW' hb

set_option maxRecDepth 100000 in
theorem lifted_NumsCalls (os : Os) (started : os.Started) (H : Type) (enc : TypeId × Value → H) :
    ReturnsInHanded {} Tryz.checked os 3 .any (Rows.numsCallsSpec.pre6 enc Tryz.prog Tryz.f3 Rows.numsCallsRow.domain false) (Rows.numsCallsSpec.post enc Tryz.prog Tryz.f3 false true false false) := by
  refine returnsInHanded_of_change_sized (C := Tryz.checked) own started (by kernel_rfl) Tryz.func3
    (ChangeSpec.witness6 (enc := enc) (C := Tryz.checked) false ⟨#[], #[.string ⟨#[]⟩, .slice none 0 0, .int .i64 0], []⟩ 8 (by kernel_rfl) (by kernel_rfl) (by kernel_rfl) (by kernel_rfl)) ?_
  intro W base args ds gs before hval hW _ hsz _
  exact contract_NumsCalls H enc W base args ds gs before hval hW hsz

theorem holds_NumsCalls : Rows.NumsCallsSaid :=
  OpenClaim.holds_of_wide 3 Tryz.f3 rfl rfl rfl rfl rfl rfl rfl ⟨rfl, rfl, rfl, rfl, rfl⟩ rfl rfl rfl rfl rfl (by kernel_rfl) Tryz.func3 (by kernel_rfl)
    (of_decide_eq_true (by kernel_rfl)) (by unfold Func.isWrapper; rw [if_neg (of_decide_eq_false (by kernel_rfl))]; exact ⟨rfl, rfl⟩)
    (fun os started H enc _ => lifted_NumsCalls os started H enc)
end Go.Proofs.YthobaffgllipfaaGreat
