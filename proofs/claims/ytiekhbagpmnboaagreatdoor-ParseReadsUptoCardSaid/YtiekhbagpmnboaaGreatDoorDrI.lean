/-
  orielref06: the reader's expr, where something is wrong.
-/
import Derived.Test.YtiekhbagpmnboaaGreatDoorMg0
import Derived.Test.YtiekhbagpmnboaaGreatDoorRows
import Derived.Test.YtiekhbagpmnboaaGreatDoorProg
import Derived.Test.YtiekhbagpmnboaaGreatDoorAddrC
import Derived.Test.YtiekhbagpmnboaaGreatDoorMg2
import Derived.Test.YtiekhbagpmnboaaGreatDoorMg26
import Derived.Test.YtiekhbagpmnboaaGreatDoorValA
import Derived.Test.YtiekhbagpmnboaaGreatDoorValB
import Derived.Test.YtiekhbagpmnboaaGreatDoorMg5
import Derived.Test.YtiekhbagpmnboaaGreatDoorMg6
import Derived.Test.YtiekhbagpmnboaaGreatDoorMg7
import Derived.Test.YtiekhbagpmnboaaGreatDoorPaW
import Derived.Test.YtiekhbagpmnboaaGreatDoorMg9
import Derived.Test.YtiekhbagpmnboaaGreatDoorDrC
import Derived.Test.YtiekhbagpmnboaaGreatDoorMg11
import Derived.Test.YtiekhbagpmnboaaGreatDoorDrF
import Derived.Test.YtiekhbagpmnboaaGreatDoorDrH
import Derived.WalkSpells
import Derived.WalkLawsBesides
import Derived.StillTactics
import Derived.Laws.Pointers
import Derived.Deep.RegionHeld3
import Derived.Deep.QuietTactic
import Derived.BigQuiet
import Derived.RowKit3
import Derived.Lib.Hide
import Derived.Lib.OthersKept
import Derived.OwnWalk
import Derived.Lib.IndexLaws
import Derived.Lib.ItoaMem
import Derived.Lib.TrimByte
import Derived.Lib.SlTrimSet
import Derived.Lib.ParseIntB
import Derived.WalkKit
import Derived.ProofKit
import Derived.OpenShut
import Derived.Carry
import Derived.ChangeSame
import Derived.Deep.Draws
import Derived.Shelf.Strings.Builder1
import Derived.Shelf.Strings.Trim
import Derived.Shelf.Small.Utf8
import Derived.Shelf.Small.Strs
import Derived.Shelf.Small.Wraps
import Derived.Shelf.Strings.BuilderF
import Derived.Shelf.Strings.BuilderK
import Derived.Shelf.Strconv.Itoa0
import Derived.Shelf.Strconv.Itoa1
import Derived.Shelf.LaysM
import Derived.Shelf.Strconv.Itoa2
import Derived.Shelf.Strconv.Itoa3
import Derived.Ground.MpProg
import Derived.Shelf.Pu.ParseUintPublic10
import Derived.Shelf.Strings.Search1
import Derived.Shelf.Strings.Search2
import Derived.Shelf.Strings.Cut
import Derived.Shelf.Strings.Shaped
import Derived.Shelf.Strings.Prefix
import Derived.Shelf.Strings.Runes
import Derived.Shelf.Strings.AsciiSet
import Derived.Shelf.Unicode.DecodeSlow
import Derived.Lib.ItoaNum
import Derived.Maps.OwnSet
import Derived.Maps.AppendAt
import Derived.BigRegion
import Derived.Deep.RegionLaw
import Derived.Deep.AppendLies
namespace Go.Proofs.YtiekhbagpmnboaaGreatDoor
open Go.RowKit

theorem dexpr_er (tv : TV) (R : Nat) (ts : List Tok) (e0 a0 k : Int) (w : World) (hR : DEr tv R w ts e0 a0) : Calls Tryz.prog 28 #[.pointer (some ⟨R, 0, none⟩), .int .i64 k] w fun e w' => DRes tv R ts w (.bad e0 a0) e w' := by
  have hlt := hR.ltR
  have he0 : (e0 == 0) = false := by simpa using hR.1
  have d4 := hR.err
  have hk := KeepD.refl hlt
  go_enter Tryz.func28, Tryz.ntmps28
  go_wp2
  first | go_end0 | refine bodyPost_ret (results_none rfl _ _ _) rfl ?_
  exact ⟨rfl, hk, hR⟩
def DSt (tv : TV) (R : Nat) (w : World) (ts : List Tok) : PR → Prop | .ok s => DOk tv R w ts s | .bad e a => DEr tv R w ts e a
/-- whatever came of what was ahead: expr goes on, or leaves it -/
theorem dexpr_on (tv : TV) (R : Nat) (ts : List Tok) (tb : Tb) (f : Nat) (HE : ∀ s w q, DOk tv R w ts s → px tb f (.lev 0) s = some q → Calls Tryz.prog 28 #[.pointer (some ⟨R, 0, none⟩), .int .i64 0] w fun e w' => DRes tv R ts w q e w') (x : PR) (r : PR) (h : bindR (some x) (px tb f (.lev 0)) = some r) (w : World) (hx : DSt tv R w ts x) : Calls Tryz.prog 28 #[.pointer (some ⟨R, 0, none⟩), .int .i64 0] w fun e w' => DRes tv R ts w r e w' := by
  cases x with
  | ok s => exact HE s w r hx h
  | bad e a =>
    have : r = .bad e a := by simp only [bindR] at h; injection h with h; exact h.symm
    subst this
    exact dexpr_er tv R ts e a 0 w hx
def closeR : PR → PR | .ok s => s.closes | .bad e a => .bad e a
set_option maxRecDepth 100000 in
set_option maxHeartbeats 2000000 in
theorem dprim_par (tv : TV) (R : Nat) (ts : List Tok) (tb : Tb) (f : Nat) (HE : ∀ s w q, DOk tv R w ts s → px tb f (.lev 0) s = some q → Calls Tryz.prog 28 #[.pointer (some ⟨R, 0, none⟩), .int .i64 0] w fun e w' => DRes tv R ts w q e w') (s : PS) (hi : s.is [40] = true) (x2 : PR) (h2 : bindR (some s.opens) (px tb f (.lev 0)) = some x2) (hop : ∀ s2, x2 = .ok s2 → 1 ≤ s2.opn) (w : World) (hR : DOk tv R w ts s) : Calls Tryz.prog 90 #[.pointer (some ⟨R, 0, none⟩)] w fun e w' => DRes tv R ts w (closeR x2) e w' := by
  have CN := dnow_ok tv R ts s w hR
  have hlt := hR.ltR
  have CO := fun W h => dopened tv R ts s W h
  have h7 := PS.is_kind hi
  have h40 : (s.now.str = (⟨#[40]⟩ : ByteArray)) = True := eq_true (by simp [PS.is] at hi; exact hi.2)
  have g1 : (s.now.kind == 1) = false := by simp [h7]
  have g2 : (s.now.kind == 2) = false := by simp [h7]
  have g6 : (s.now.kind == 6) = false := by simp [h7]
  have g3 : (s.now.kind == 3) = false := by simp [h7]
  have g4 : (s.now.kind == 4) = false := by simp [h7]
  have g7 : (s.now.kind == 7) = true := by simp [h7]
  have CE : ∀ W, DSt tv R W ts s.opens → Calls Tryz.prog 28 #[.pointer (some ⟨R, 0, none⟩), .int .i64 0] W fun e w' => DRes tv R ts W x2 e w' := fun W hx => dexpr_on tv R ts tb f HE s.opens x2 h2 W hx
  clear hi h7 h2 HE
  generalize s.opens = x1 at *
  generalize s.now = x at *
  go_enter Tryz.func90, Tryz.ntmps90
  go_wp2_with fail
  refine CN.mono ?_
  rintro e w1 ⟨rfl, hb1⟩
  have hR1 := hR.up hb1
  have d4 := hR1.err
  have hlt1 := hR1.ltR
  have CO1 := fun W (hb : Below w1.heap.size w1 W) => CO W (hR1.up hb)
  have hk1 := KeepD.up hb1 hlt
  clear CN CO hb1 hR hR1
  go_wp2_with fail
  refine (CO1 _ (by repeat (first | exact Below.refl _ _ | refine Below.drew ?_ | refine Below.setCell ?_ (by first | (simp; done) | (simp; omega)) _ | refine Below.alloc ?_ (by first | exact Nat.le_refl _ | (simp; done) | (simp; omega)) _))).mono ?_
  rintro e w2 ⟨rfl, hk2, h2⟩
  have hk := hk1.trans ((KeepD.up (by repeat (first | exact Below.refl _ _ | refine Below.drew ?_ | refine Below.setCell ?_ (by first | (simp; done) | (simp; omega)) _ | refine Below.alloc ?_ (by first | exact Nat.le_refl _ | (simp; done) | (simp; omega)) _)) hlt1).trans hk2)
  have CE2 := CE w2 (by cases x1 <;> exact h2)
  clear CO1 CE hk1 hk2 d4 h2
  go_wp2_with fail
  refine CE2.mono ?_
  rintro e w3 ⟨rfl, hk3, h3⟩
  have hkk := hk.trans hk3
  cases x2 with
  | bad e a =>
    have CC := dclosed_er tv R ts e a w3 h3
    clear CE2 hk hk3
    go_wp2_with fail
    refine CC.mono ?_
    rintro e w4 ⟨rfl, hk4, h4⟩
    go_wp2
    first | go_end0 | refine bodyPost_ret (results_none rfl _ _ _) rfl ?_
    exact ⟨rfl, hkk.trans hk4, h4⟩
  | ok s2 =>
    have CC := dclosed tv R ts s2 (hop s2 rfl) w3 h3
    clear CE2 hk hk3
    go_wp2_with fail
    refine CC.mono ?_
    rintro e w4 ⟨rfl, hk4, h4⟩
    go_wp2
    first | go_end0 | refine bodyPost_ret (results_none rfl _ _ _) rfl ?_
    exact ⟨rfl, hkk.trans hk4, h4⟩
end Go.Proofs.YtiekhbagpmnboaaGreatDoor
