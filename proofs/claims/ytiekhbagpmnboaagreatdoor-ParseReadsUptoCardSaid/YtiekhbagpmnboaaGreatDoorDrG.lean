/-
  orielref06: the reader's prim, TRUE and FALSE.
-/
import Derived.Test.YtiekhbagpmnboaaGreatDoorMg0
import Derived.Test.YtiekhbagpmnboaaGreatDoorRows
import Derived.Test.YtiekhbagpmnboaaGreatDoorProg
import Derived.Test.YtiekhbagpmnboaaGreatDoorAddrC
import Derived.Test.YtiekhbagpmnboaaGreatDoorMg2
import Derived.Test.YtiekhbagpmnboaaGreatDoorMg26
import Derived.Test.YtiekhbagpmnboaaGreatDoorValA
import Derived.Test.YtiekhbagpmnboaaGreatDoorValB
import Derived.Test.YtiekhbagpmnboaaGreatDoorMg5
import Derived.Test.YtiekhbagpmnboaaGreatDoorMg6
import Derived.Test.YtiekhbagpmnboaaGreatDoorMg7
import Derived.Test.YtiekhbagpmnboaaGreatDoorPaW
import Derived.Test.YtiekhbagpmnboaaGreatDoorMg9
import Derived.Test.YtiekhbagpmnboaaGreatDoorDrC
import Derived.Test.YtiekhbagpmnboaaGreatDoorMg11
import Derived.Test.YtiekhbagpmnboaaGreatDoorDrF
import Derived.WalkSpells
import Derived.WalkLawsBesides
import Derived.StillTactics
import Derived.Laws.Pointers
import Derived.Deep.RegionHeld3
import Derived.Deep.QuietTactic
import Derived.BigQuiet
import Derived.RowKit3
import Derived.Lib.Hide
import Derived.Lib.OthersKept
import Derived.OwnWalk
import Derived.Lib.IndexLaws
import Derived.Lib.ItoaMem
import Derived.Lib.TrimByte
import Derived.Lib.SlTrimSet
import Derived.Lib.ParseIntB
import Derived.WalkKit
import Derived.ProofKit
import Derived.OpenShut
import Derived.Carry
import Derived.ChangeSame
import Derived.Deep.Draws
import Derived.Shelf.Strings.Builder1
import Derived.Shelf.Strings.Trim
import Derived.Shelf.Small.Utf8
import Derived.Shelf.Small.Strs
import Derived.Shelf.Small.Wraps
import Derived.Shelf.Strings.BuilderF
import Derived.Shelf.Strings.BuilderK
import Derived.Shelf.Strconv.Itoa0
import Derived.Shelf.Strconv.Itoa1
import Derived.Shelf.LaysM
import Derived.Shelf.Strconv.Itoa2
import Derived.Shelf.Strconv.Itoa3
import Derived.Ground.MpProg
import Derived.Shelf.Pu.ParseUintPublic10
import Derived.Shelf.Strings.Search1
import Derived.Shelf.Strings.Search2
import Derived.Shelf.Strings.Cut
import Derived.Shelf.Strings.Shaped
import Derived.Shelf.Strings.Prefix
import Derived.Shelf.Strings.Runes
import Derived.Shelf.Strings.AsciiSet
import Derived.Shelf.Unicode.DecodeSlow
import Derived.Lib.ItoaNum
import Derived.Maps.OwnSet
import Derived.Maps.AppendAt
import Derived.BigRegion
import Derived.Deep.RegionLaw
import Derived.Deep.AppendLies
namespace Go.Proofs.YtiekhbagpmnboaaGreatDoor
open Go.RowKit

set_option maxRecDepth 100000 in
set_option maxHeartbeats 2000000 in
theorem dprim_true (tv : TV) (R : Nat) (ts : List Tok) (s : PS) (hk : s.now.kind = 3) (hs : s.now.str = trueS) (w : World) (hR : DOk tv R w ts s) : Calls Tryz.prog 90 #[.pointer (some ⟨R, 0, none⟩)] w fun e w' => DRes tv R ts w (stepR (s.add (valN ⟨3, 0, ⟨#[]⟩, true, 0⟩) s.now.place)) e w' := by
  have CN := dnow_ok tv R ts s w hR
  have hlt := hR.ltR
  obtain ⟨q, hq⟩ : ∃ q, s.add (valN ⟨3, 0, ⟨#[]⟩, true, 0⟩) s.now.place = q := ⟨_, rfl⟩
  have CA : ∀ W, DOk tv R W ts s → _ := fun W h => hq ▸ dnode_ok tv R ts s (valN ⟨3, 0, ⟨#[]⟩, true, 0⟩) s.now.place W h
  rw [hq]
  clear hq
  simp only [valN] at CA
  have g1 : (s.now.kind == 1) = false := by simp [hk]
  have g2 : (s.now.kind == 2) = false := by simp [hk]
  have g6 : (s.now.kind == 6) = false := by simp [hk]
  have g3 : (s.now.kind == 3) = true := by simp [hk]
  clear hk
  have e1 : (s.now.str = (⟨#[84, 82, 85, 69]⟩ : ByteArray)) = True := eq_true hs
  clear hs
  generalize s.now = x at *
  go_enter Tryz.func90, Tryz.ntmps90
  go_wp2_with fail
  refine CN.mono ?_
  rintro e w1 ⟨rfl, hb1⟩
  have hR1 := hR.up hb1
  have d4 := hR1.err
  have hlt1 := hR1.ltR
  have CA1 := fun W (hb : Below w1.heap.size w1 W) => CA W (hR1.up hb)
  have hk1 := KeepD.up hb1 hlt
  clear CN CA hb1 hR hR1
  go_wp2_with fail
  refine (CA1 _ (by repeat (first | exact Below.refl _ _ | refine Below.drew ?_ | refine Below.setCell ?_ (by first | (simp; done) | (simp; omega)) _ | refine Below.alloc ?_ (by first | exact Nat.le_refl _ | (simp; done) | (simp; omega)) _))).mono ?_
  rintro e w2 ⟨rfl, hk2, h2⟩
  have hk := hk1.trans ((KeepD.up (by repeat (first | exact Below.refl _ _ | refine Below.drew ?_ | refine Below.setCell ?_ (by first | (simp; done) | (simp; omega)) _ | refine Below.alloc ?_ (by first | exact Nat.le_refl _ | (simp; done) | (simp; omega)) _)) hlt1).trans hk2)
  cases q with
  | bad e a =>
    have CST := dstep_er tv R ts e a w2 h2
    clear hk1 hk2 CA1 d4
    go_wp2_with fail
    refine CST.mono ?_
    rintro e w3 ⟨rfl, hk3, h3⟩
    go_wp2
    first | go_end0 | refine bodyPost_ret (results_none rfl _ _ _) rfl ?_
    exact ⟨rfl, hk.trans hk3, h3⟩
  | ok s' =>
    have CST := dstep_ok tv R ts s' w2 h2
    clear hk1 hk2 CA1 d4
    go_wp2_with fail
    refine CST.mono ?_
    rintro e w3 ⟨rfl, hk3, h3⟩
    go_wp2
    first | go_end0 | refine bodyPost_ret (results_none rfl _ _ _) rfl ?_
    exact ⟨rfl, hk.trans hk3, h3⟩
set_option maxRecDepth 100000 in
set_option maxHeartbeats 2000000 in
theorem dprim_false (tv : TV) (R : Nat) (ts : List Tok) (s : PS) (hk : s.now.kind = 3) (hs : s.now.str = falseS) (w : World) (hR : DOk tv R w ts s) : Calls Tryz.prog 90 #[.pointer (some ⟨R, 0, none⟩)] w fun e w' => DRes tv R ts w (stepR (s.add (valN ⟨3, 0, ⟨#[]⟩, false, 0⟩) s.now.place)) e w' := by
  have CN := dnow_ok tv R ts s w hR
  have hlt := hR.ltR
  obtain ⟨q, hq⟩ : ∃ q, s.add (valN ⟨3, 0, ⟨#[]⟩, false, 0⟩) s.now.place = q := ⟨_, rfl⟩
  have CA : ∀ W, DOk tv R W ts s → _ := fun W h => hq ▸ dnode_ok tv R ts s (valN ⟨3, 0, ⟨#[]⟩, false, 0⟩) s.now.place W h
  rw [hq]
  clear hq
  simp only [valN] at CA
  have g1 : (s.now.kind == 1) = false := by simp [hk]
  have g2 : (s.now.kind == 2) = false := by simp [hk]
  have g6 : (s.now.kind == 6) = false := by simp [hk]
  have g3 : (s.now.kind == 3) = true := by simp [hk]
  clear hk
  have e1 : (s.now.str = (⟨#[84, 82, 85, 69]⟩ : ByteArray)) = False := eq_false (by rw [hs]; decide +kernel)
  have e2 : (s.now.str = (⟨#[70, 65, 76, 83, 69]⟩ : ByteArray)) = True := eq_true hs
  clear hs
  generalize s.now = x at *
  go_enter Tryz.func90, Tryz.ntmps90
  go_wp2_with fail
  refine CN.mono ?_
  rintro e w1 ⟨rfl, hb1⟩
  have hR1 := hR.up hb1
  have d4 := hR1.err
  have hlt1 := hR1.ltR
  have CA1 := fun W (hb : Below w1.heap.size w1 W) => CA W (hR1.up hb)
  have hk1 := KeepD.up hb1 hlt
  clear CN CA hb1 hR hR1
  go_wp2_with fail
  refine (CA1 _ (by repeat (first | exact Below.refl _ _ | refine Below.drew ?_ | refine Below.setCell ?_ (by first | (simp; done) | (simp; omega)) _ | refine Below.alloc ?_ (by first | exact Nat.le_refl _ | (simp; done) | (simp; omega)) _))).mono ?_
  rintro e w2 ⟨rfl, hk2, h2⟩
  have hk := hk1.trans ((KeepD.up (by repeat (first | exact Below.refl _ _ | refine Below.drew ?_ | refine Below.setCell ?_ (by first | (simp; done) | (simp; omega)) _ | refine Below.alloc ?_ (by first | exact Nat.le_refl _ | (simp; done) | (simp; omega)) _)) hlt1).trans hk2)
  cases q with
  | bad e a =>
    have CST := dstep_er tv R ts e a w2 h2
    clear hk1 hk2 CA1 d4
    go_wp2_with fail
    refine CST.mono ?_
    rintro e w3 ⟨rfl, hk3, h3⟩
    go_wp2
    first | go_end0 | refine bodyPost_ret (results_none rfl _ _ _) rfl ?_
    exact ⟨rfl, hk.trans hk3, h3⟩
  | ok s' =>
    have CST := dstep_ok tv R ts s' w2 h2
    clear hk1 hk2 CA1 d4
    go_wp2_with fail
    refine CST.mono ?_
    rintro e w3 ⟨rfl, hk3, h3⟩
    go_wp2
    first | go_end0 | refine bodyPost_ret (results_none rfl _ _ _) rfl ?_
    exact ⟨rfl, hk.trans hk3, h3⟩
end Go.Proofs.YtiekhbagpmnboaaGreatDoor
