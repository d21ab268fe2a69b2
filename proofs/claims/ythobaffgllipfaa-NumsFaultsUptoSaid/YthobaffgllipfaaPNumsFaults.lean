/-
  The law NumsFaults returns true for every input of bulk at most 1048576.
-/
import Derived.Test.YthobaffgllipfaaRows
import Derived.Test.YthobaffgllipfaaBase
import Derived.Test.YthobaffgllipfaaMapK
import Derived.Test.YthobaffgllipfaaNFind
import Derived.Test.YthobaffgllipfaaRowB
import Derived.Test.YthobaffgllipfaaDecA
import Derived.Test.YthobaffgllipfaaValA
import Derived.Test.YthobaffgllipfaaValB
import Derived.Test.YthobaffgllipfaaDecS
import Derived.Test.YthobaffgllipfaaValC
import Derived.Test.YthobaffgllipfaaAddrC
import Derived.Test.YthobaffgllipfaaAddrI
import Derived.Test.YthobaffgllipfaaArgK
import Derived.Test.YthobaffgllipfaaDMod
import Derived.Test.YthobaffgllipfaaDFlo
import Derived.Test.YthobaffgllipfaaProg
import Derived.Test.YthobaffgllipfaaShelf
import Derived.Test.YthobaffgllipfaaPrintL
import Derived.Test.YthobaffgllipfaaDPrint
import Derived.Test.YthobaffgllipfaaDRnd
import Derived.Test.YthobaffgllipfaaDSqr
import Derived.Test.YthobaffgllipfaaKnuth
import Derived.Test.YthobaffgllipfaaDDiv
import Derived.Test.YthobaffgllipfaaDecK
import Derived.Test.YthobaffgllipfaaDDivA
import Derived.Test.YthobaffgllipfaaNDoA
import Derived.Test.YthobaffgllipfaaNDoB
import Derived.Test.YthobaffgllipfaaNDoC
import Derived.Test.YthobaffgllipfaaNDoD
import Derived.Test.YthobaffgllipfaaNDoE
import Derived.Test.YthobaffgllipfaaNCall
import Derived.Test.YthobaffgllipfaaValE
import Derived.Test.YthobaffgllipfaaValF
import Derived.Test.YthobaffgllipfaaValL
import Derived.Test.YthobaffgllipfaaNCallK
import Derived.Test.YthobaffgllipfaaNCallB
import Derived.Test.YthobaffgllipfaaNDoF
import Derived.Test.YthobaffgllipfaaNDoG
import Derived.Test.YthobaffgllipfaaNDoQ
import Derived.Test.YthobaffgllipfaaNDoAt
import Derived.Test.YthobaffgllipfaaNDoP
import Derived.Test.YthobaffgllipfaaNDoAt2
import Derived.Test.YthobaffgllipfaaDPow
import Derived.Test.YthobaffgllipfaaDPowB
import Derived.Test.YthobaffgllipfaaDPowC
import Derived.Test.YthobaffgllipfaaNDoAt3
import Derived.Test.YthobaffgllipfaaArgS
import Derived.Test.YthobaffgllipfaaNLaw
import Derived.Test.YthobaffgllipfaaNFltL
import Derived.Test.YthobaffgllipfaaNKn
import Derived.Test.YthobaffgllipfaaLNTak
import Derived.Test.YthobaffgllipfaaLNFlt
import Derived.Test.YthobaffgllipfaaRdK
import Derived.Test.YthobaffgllipfaaRdV
import Derived.Test.YthobaffgllipfaaBulk
import Derived.JoinedCond
import Derived.WalkKit
import Derived.ProofKit
import Derived.OpenShut
import Derived.Carry
import Derived.ChangeSame
import Derived.Lib.Hide
import Derived.Deep.Draws
import Derived.Maps.OwnSet
import Derived.Maps.AppendAt
import Derived.WalkSpells
import Derived.WalkLawsBesides
import Derived.StillTactics
import Derived.Laws.Pointers
import Derived.Deep.RegionHeld3
import Derived.Deep.QuietTactic
import Derived.BigQuiet
import Derived.RowKit3
import Derived.Lib.OthersKept
import Derived.OwnWalk
import Derived.Lib.IndexLaws
import Derived.Lib.ItoaMem
import Derived.Laws.EntriesVeiled
import Derived.Laws.BitsAllLaws
import Derived.Shelf.Small.Bits
import Derived.Shelf.Strconv.Itoa0
import Derived.Shelf.Bits.Mul64
import Derived.Lib.TrimByte
import Derived.Lib.Bytealg
import Derived.Lib.SlTrimSet
import Derived.Lib.ParseIntB
import Derived.Shelf.Strings.SlTrimAscii
import Derived.Lib.SmallJoins
import Derived.Deep.RegionWith
import Derived.Laws.Externs
import Derived.Deep.Slices
import Derived.ChangeSlices
namespace Go.Proofs.Ythobaffgllipfaa
open Go.ChangeShapes Go.WideShapes Go.ChangeAt Go.RowKit
open Go.ChangeMaps (open_string)

set_option maxRecDepth 100000 in
/-- what the walk gives, for every input -/
theorem contract_NumsFaults (H : Type) (enc : TypeId × Value → H) (W : World) (base : Nat) (args : Array Value) (ds gs : List (DataW H)) (before : List MemPlace)
    (hval : ∀ (j : Nat) t v, Try.f4.params[j]? = some t → args[j]? = some v → Value.okWide Try.prog W .any base t v)
    (hW : DataW.Whole enc Try.prog Try.f4.params.toList Rows.numsFaultsSpec.vars false W args.toList ds gs before) (hk : Rows.uptoSmall H (ds ++ gs) = true) :
    Calls Try.prog 4 args W fun e W' => ∃ v, e = .returned v ∧ Rows.numsFaultsSpec.post enc Try.prog Try.f4 false true false false W args v W' := by
  have hW' := hW
  obtain ⟨p, q, hA0, hV, rfl, hfz, hnd⟩ := hW
  have hA : DataW.TrodAll enc Try.prog W 0 (fun _ => true) true Try.f4.params.toList args.toList ds p := hA0
  rw [Try.params4] at hA hval
  obtain ⟨v0, vs0, d0, ds0, p0, q0, hargs, rfl, rfl, h0, r0⟩ := trodAll_cons hA
  obtain ⟨v1, vs1, d1, ds1, p1, q1, rfl, rfl, rfl, h1, r1⟩ := trodAll_cons r0
  obtain ⟨v2, vs2, d2, ds2, p2, q2, rfl, rfl, rfl, h2, r2⟩ := trodAll_cons r1
  obtain ⟨rfl, rfl, rfl⟩ := trodAll_nil r2
  obtain rfl : args = #[v0, v1, v2] := by cases args; simp_all
  obtain ⟨a0, rfl, rfl, rfl, w0⟩ := open_string Try.underlying9 (hval 0 9 v0 rfl rfl) h0
  obtain ⟨A1, l1, cap1, rfl, hlc1, hcm1, hR1, hP1, hD1, hN1⟩ := rd_vals (hval 1 26 v1 rfl rfl) h1
  unfold maxLen at hcm1
  obtain ⟨a2, rfl, rfl, rfl, w2⟩ := open_int Try.underlying3 (hval 2 3 v2 rfl rfl) h2
  have b2 := bounds_i64 w2
  have hs1 : l1.length ≤ 1048576 := small_list hk (List.mem_append_left _ (by simp)) (hD1.imp (fun h => by rw [h]; rfl) id)
  refine (walk_NumsFaults a0 (by unfold maxLen at w0; omega) l1 hP1 hs1 a2 W A1 cap1 hR1).mono fun e W' ⟨he, hb⟩ => ⟨_, he, ?_⟩
  exact law_post laidOut Try.underlying4 (by kernel_rfl) rfl (fun ds hd => by
    rw [Try.params4] at hd
    match ds, hd with
    | [_, _, _], _ => rfl) (by kernel_rfl) hW' hb

set_option maxRecDepth 100000 in
theorem lifted_NumsFaults (os : Os) (started : os.Started) (H : Type) (enc : TypeId × Value → H) (F : Stop.Interp) :
    ReturnsInHanded {} Try.checked os 4 .any ((Rows.OpenSpec.upto Rows.numsFaultsSpec).pre6 enc Try.prog Try.f4 Rows.numsFaultsUptoRow.domain false) (((Rows.OpenSpec.upto Rows.numsFaultsSpec).at F).post enc Try.prog Try.f4 false true false false) := by
  refine returnsInHanded_of_cond (C := Try.checked) (s := Rows.OpenSpec.upto Rows.numsFaultsSpec) (k := Rows.uptoSmall) rfl own started (by kernel_rfl) Try.func4
    (OpenSpec.witness (enc := enc) (C := Try.checked) (s := Rows.OpenSpec.upto Rows.numsFaultsSpec) (k := Rows.uptoSmall) rfl false ⟨#[], #[.string ⟨#[]⟩, .slice none 0 0, .int .i64 0], []⟩ 8 (by kernel_rfl) (by kernel_rfl) (by kernel_rfl)
      (x := ([.lit (.string []), .nil, .lit (.int .i64 0)], [], [])) (by kernel_rfl) rfl (by kernel_rfl)) ?_
  intro W base args ds gs before hval hW _ hk _
  exact contract_NumsFaults H enc W base args ds gs before hval hW hk

theorem holds_NumsFaults : Rows.NumsFaultsUptoSaid :=
  OpenClaim.holds_of_cond 4 Try.f4 rfl rfl rfl rfl rfl rfl rfl ⟨rfl, rfl, rfl, rfl, rfl⟩ rfl rfl rfl rfl rfl (by kernel_rfl) Try.func4 (by kernel_rfl)
    (of_decide_eq_true (by kernel_rfl)) (by unfold Func.isWrapper; rw [if_neg (of_decide_eq_false (by kernel_rfl))]; exact ⟨rfl, rfl⟩)
    (fun os started H enc _ F => lifted_NumsFaults os started H enc F)
end Go.Proofs.Ythobaffgllipfaa
