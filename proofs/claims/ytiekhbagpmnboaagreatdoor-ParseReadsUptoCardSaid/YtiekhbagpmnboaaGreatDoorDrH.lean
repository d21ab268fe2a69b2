/-
  orielref06: the reader's prim, where something is wrong.
-/
import Derived.Test.YtiekhbagpmnboaaGreatDoorMg0
import Derived.Test.YtiekhbagpmnboaaGreatDoorRows
import Derived.Test.YtiekhbagpmnboaaGreatDoorProg
import Derived.Test.YtiekhbagpmnboaaGreatDoorAddrC
import Derived.Test.YtiekhbagpmnboaaGreatDoorMg2
import Derived.Test.YtiekhbagpmnboaaGreatDoorMg26
import Derived.Test.YtiekhbagpmnboaaGreatDoorValA
import Derived.Test.YtiekhbagpmnboaaGreatDoorValB
import Derived.Test.YtiekhbagpmnboaaGreatDoorMg5
import Derived.Test.YtiekhbagpmnboaaGreatDoorMg6
import Derived.Test.YtiekhbagpmnboaaGreatDoorMg7
import Derived.Test.YtiekhbagpmnboaaGreatDoorPaW
import Derived.Test.YtiekhbagpmnboaaGreatDoorMg9
import Derived.Test.YtiekhbagpmnboaaGreatDoorDrC
import Derived.Test.YtiekhbagpmnboaaGreatDoorMg11
import Derived.Test.YtiekhbagpmnboaaGreatDoorDrF
import Derived.WalkSpells
import Derived.WalkLawsBesides
import Derived.StillTactics
import Derived.Laws.Pointers
import Derived.Deep.RegionHeld3
import Derived.Deep.QuietTactic
import Derived.BigQuiet
import Derived.RowKit3
import Derived.Lib.Hide
import Derived.Lib.OthersKept
import Derived.OwnWalk
import Derived.Lib.IndexLaws
import Derived.Lib.ItoaMem
import Derived.Lib.TrimByte
import Derived.Lib.SlTrimSet
import Derived.Lib.ParseIntB
import Derived.WalkKit
import Derived.ProofKit
import Derived.OpenShut
import Derived.Carry
import Derived.ChangeSame
import Derived.Deep.Draws
import Derived.Shelf.Strings.Builder1
import Derived.Shelf.Strings.Trim
import Derived.Shelf.Small.Utf8
import Derived.Shelf.Small.Strs
import Derived.Shelf.Small.Wraps
import Derived.Shelf.Strings.BuilderF
import Derived.Shelf.Strings.BuilderK
import Derived.Shelf.Strconv.Itoa0
import Derived.Shelf.Strconv.Itoa1
import Derived.Shelf.LaysM
import Derived.Shelf.Strconv.Itoa2
import Derived.Shelf.Strconv.Itoa3
import Derived.Ground.MpProg
import Derived.Shelf.Pu.ParseUintPublic10
import Derived.Shelf.Strings.Search1
import Derived.Shelf.Strings.Search2
import Derived.Shelf.Strings.Cut
import Derived.Shelf.Strings.Shaped
import Derived.Shelf.Strings.Prefix
import Derived.Shelf.Strings.Runes
import Derived.Shelf.Strings.AsciiSet
import Derived.Shelf.Unicode.DecodeSlow
import Derived.Lib.ItoaNum
import Derived.Maps.OwnSet
import Derived.Maps.AppendAt
import Derived.BigRegion
import Derived.Deep.RegionLaw
import Derived.Deep.AppendLies
namespace Go.Proofs.YtiekhbagpmnboaaGreatDoor
open Go.RowKit

set_option maxRecDepth 100000 in
set_option maxHeartbeats 2000000 in
theorem dprim_bad (tv : TV) (R : Nat) (ts : List Tok) (s : PS) (hk : s.now.kind ≠ 1 ∧ s.now.kind ≠ 2 ∧ s.now.kind ≠ 6 ∧ s.now.kind ≠ 3 ∧ s.now.kind ≠ 4) (hi : s.is [40] = false) (w : World) (hR : DOk tv R w ts s) : Calls Tryz.prog 90 #[.pointer (some ⟨R, 0, none⟩)] w fun e w' => DRes tv R ts w s.fail e w' := by
  have CN := dnow_ok tv R ts s w hR
  have hlt := hR.ltR
  have CF := fun W h => dfail_ok tv R ts s 8 s.now.place (by decide) W h
  unfold PS.fail
  have g1 : (s.now.kind == 1) = false := by simp [hk.1]
  have g2 : (s.now.kind == 2) = false := by simp [hk.2.1]
  have g6 : (s.now.kind == 6) = false := by simp [hk.2.2.1]
  have g3 : (s.now.kind == 3) = false := by simp [hk.2.2.2.1]
  have g4 : (s.now.kind == 4) = false := by simp [hk.2.2.2.2]
  have hcase : (s.now.kind == 7) = false ∨ ((s.now.kind == 7) = true ∧ (s.now.str = (⟨#[40]⟩ : ByteArray)) = False) := by
    by_cases h7 : s.now.kind = 7
    · refine .inr ⟨by simp [h7], eq_false fun h => ?_⟩
      simp [PS.is, h7] at hi
      exact hi h
    · exact .inl (by simp [h7])
  clear hk hi
  generalize s.now = x at *
  rcases hcase with g7 | ⟨g7, h40⟩ <;> (
    go_enter Tryz.func90, Tryz.ntmps90
    go_wp2_with fail
    refine CN.mono ?_
    rintro e w1 ⟨rfl, hb1⟩
    have hR1 := hR.up hb1
    have d4 := hR1.err
    have hlt1 := hR1.ltR
    have CF1 := fun W (hb : Below w1.heap.size w1 W) => CF W (hR1.up hb)
    have hk1 := KeepD.up hb1 hlt
    clear CN CF hb1 hR hR1
    go_wp2_with fail
    refine (CF1 _ (by repeat (first | exact Below.refl _ _ | refine Below.drew ?_ | refine Below.setCell ?_ (by first | (simp; done) | (simp; omega)) _ | refine Below.alloc ?_ (by first | exact Nat.le_refl _ | (simp; done) | (simp; omega)) _))).mono ?_
    rintro e w2 ⟨rfl, hk2, h2⟩
    have hk := hk1.trans ((KeepD.up (by repeat (first | exact Below.refl _ _ | refine Below.drew ?_ | refine Below.setCell ?_ (by first | (simp; done) | (simp; omega)) _ | refine Below.alloc ?_ (by first | exact Nat.le_refl _ | (simp; done) | (simp; omega)) _)) hlt1).trans hk2)
    go_wp2
    first | go_end0 | refine bodyPost_ret (results_none rfl _ _ _) rfl ?_
    exact ⟨rfl, hk, h2⟩)
end Go.Proofs.YtiekhbagpmnboaaGreatDoor
