/-
  nums: TRUNC, ROUND.
-/
import Derived.Test.YthobaffgllipfaaGreatRows
import Derived.Test.YthobaffgllipfaaGreatBase
import Derived.Test.YthobaffgllipfaaGreatMg3
import Derived.Test.YthobaffgllipfaaGreatValA
import Derived.Test.YthobaffgllipfaaGreatValB
import Derived.Test.YthobaffgllipfaaGreatDecS
import Derived.Test.YthobaffgllipfaaGreatValC
import Derived.Test.YthobaffgllipfaaGreatAddrC
import Derived.Test.YthobaffgllipfaaGreatMg9
import Derived.Test.YthobaffgllipfaaGreatMapK
import Derived.Test.YthobaffgllipfaaGreatDMod
import Derived.Test.YthobaffgllipfaaGreatDFlo
import Derived.Test.YthobaffgllipfaaGreatProg
import Derived.Test.YthobaffgllipfaaGreatMg12
import Derived.Test.YthobaffgllipfaaGreatDRnd
import Derived.Test.YthobaffgllipfaaGreatMg14
import Derived.Test.YthobaffgllipfaaGreatKnuth
import Derived.Test.YthobaffgllipfaaGreatDDiv
import Derived.Test.YthobaffgllipfaaGreatMg17
import Derived.Test.YthobaffgllipfaaGreatNDoA
import Derived.Test.YthobaffgllipfaaGreatNDoB
import Derived.Test.YthobaffgllipfaaGreatNDoC
import Derived.Deep.RegionWith
import Derived.WalkSpells
import Derived.WalkLawsBesides
import Derived.StillTactics
import Derived.Laws.Pointers
import Derived.Deep.RegionHeld3
import Derived.Deep.QuietTactic
import Derived.BigQuiet
import Derived.RowKit3
import Derived.Lib.Hide
import Derived.Lib.OthersKept
import Derived.OwnWalk
import Derived.Lib.IndexLaws
import Derived.Lib.ItoaMem
import Derived.WalkKit
import Derived.ProofKit
import Derived.OpenShut
import Derived.Carry
import Derived.ChangeSame
import Derived.Deep.Draws
import Derived.Maps.OwnSet
import Derived.Maps.AppendAt
import Derived.Laws.BitsAllLaws
import Derived.Shelf.Small.Bits
import Derived.Shelf.Strconv.Itoa0
import Derived.Shelf.Bits.Mul64
import Derived.Lib.TrimByte
import Derived.Lib.Bytealg
import Derived.Lib.SlTrimSet
import Derived.Lib.ParseIntB
import Derived.Shelf.Strings.SlTrimAscii
import Derived.Lib.SmallJoins
namespace Go.Proofs.YthobaffgllipfaaGreat
open Go.RowKit

theorem truncV_in (x n : Int) (hx : -9223372036854775808 ≤ x ∧ x ≤ 9223372036854775807) : -9223372036854775808 ≤ truncV x n ∧ truncV x n ≤ 9223372036854775807 := by
  unfold truncV
  split
  · exact hx
  · split
    · omega
    · have h := pow10_le (4 - n).toNat (by omega)
      have := tdiv_mul_in x (10 ^ (4 - n).toNat) (by omega) hx
      exact ⟨this.1, this.2.1⟩
theorem roundV_in (x p : Int) (hx : -9223372036854775808 ≤ x ∧ x ≤ 9223372036854775807) : -9223372036854775808 ≤ roundV x p ∧ roundV x p ≤ 9223372036854775807 := by
  unfold roundV
  split
  · omega
  · split
    · exact hx
    · split
      · omega
      · exact exV_in _
set_option maxRecDepth 100000 in
set_option maxHeartbeats 1000000 in
theorem do_TRUNC1 (x : Int) (hx : -9223372036854775807 ≤ x ∧ x ≤ 9223372036854775807) (pb : Nat) (w : World) (gb cap : Nat) (hg : gb < w.heap.size) (_hcap : 1 ≤ cap) (c0 : w.cell? ⟨gb, 0, none⟩ = some (.int .i64 x)) (hp : pb < w.heap.size) (cp : w.cell? ⟨pb, 0, none⟩ = some (.func (.func 38) #[] #[])) : Calls Tryz.prog 80 #[.slice (some ⟨gb, 0, none⟩) 1 cap, .pointer (some ⟨pb, 0, none⟩)] w fun e w' => e = .returned (.agg #[.int .i64 (toldL (truncV x 0) (0)).t, .int .i64 (toldL (truncV x 0) (0)).n, .string (toldL (truncV x 0) (0)).s, .bool (toldL (truncV x 0) (0)).b, .int .i64 (toldL (truncV x 0) (0)).c]) ∧ Below w.heap.size w w' := by
  have hne : gb ≠ w.heap.size := by omega
  have hpb : pb ≠ w.heap.size := by omega
  go_enter Tryz.func80, Tryz.ntmps80
  go_wp2_with fail
  first | (go_loud (go_region_held3 (fun w' => w'.cell? ⟨gb, 0, none⟩ = some (.int .i64 x) ∧ w'.cell? ⟨pb, 0, none⟩ = some (.func (.func 38) #[] #[]) ∧ ResAt w' (w.heap.size) 5 ∧ Below w.heap.size w w' ∧ w.heap.size + 1 ≤ w'.heap.size)
    (first | (go_split_ands; exact ⟨(by simp [go_sem, *]), (by simp [go_sem, *]), (by first | (with_reducible exact ResAt.drew (ResAt.new5 _ _ _ _ _ _ _)) | (repeat (first | (with_reducible assumption) | (with_reducible refine ResAt.setCell ?_ _ _) | (with_reducible refine ResAt.drew ?_)))), (by (repeat (first | (with_reducible exact Below.refl _ _) | (with_reducible refine Below.alloc ?_ (by first | omega | (dsimp only; omega) | (simp <;> omega)) _) | (with_reducible refine Below.setCell ?_ (by first | omega | (dsimp only; omega) | (simp <;> omega)) _) | (with_reducible refine Below.drew ?_) | (with_reducible refine below_drewN ?_ _) | (with_reducible refine Below.trans ?_ (Below.mono (by assumption) (by first | omega | (dsimp only; omega) | (simp <;> omega))))))), (by first | (simp; done) | (simp; omega))⟩) | (exact ⟨(by simp [go_sem, *]), (by simp [go_sem, *]), (by first | (with_reducible exact ResAt.drew (ResAt.new5 _ _ _ _ _ _ _)) | (repeat (first | (with_reducible assumption) | (with_reducible refine ResAt.setCell ?_ _ _) | (with_reducible refine ResAt.drew ?_)))), (by (repeat (first | (with_reducible exact Below.refl _ _) | (with_reducible refine Below.alloc ?_ (by first | omega | (dsimp only; omega) | (simp <;> omega)) _) | (with_reducible refine Below.setCell ?_ (by first | omega | (dsimp only; omega) | (simp <;> omega)) _) | (with_reducible refine Below.drew ?_) | (with_reducible refine below_drewN ?_ _) | (with_reducible refine Below.trans ?_ (Below.mono (by assumption) (by first | omega | (dsimp only; omega) | (simp <;> omega))))))), (by first | (simp; done) | (simp; omega))⟩) | (go_split_ands; exact ⟨(by rw [hb.cell (by dsimp only; omega)]; assumption), (by rw [hb.cell (by dsimp only; omega)]; assumption), (ResAt.below (by assumption) hb (by omega)), (Below.trans (by assumption) (hb.mono (by omega))), (by have := hb.size; omega)⟩))
    (first | (go_at_call 38; refine (trunc_any x 0 (by omega) (by omega) _).mono ?_; rintro e w1 ⟨rfl, rfl⟩) | (go_at_call 35; refine (told_c (truncV x 0) (truncV_in x 0 (by omega)) (0) _).mono ?_; rintro e w1 ⟨rfl, hb⟩)))) | fail "region"
  go_split_ands
  go_wp2
  try simp only [resAt_setCell] at *
  refine bodyPost_ret (v := .agg #[.int .i64 (toldL (truncV x 0) (0)).t, .int .i64 (toldL (truncV x 0) (0)).n, .string (toldL (truncV x 0) (0)).s, .bool (toldL (truncV x 0) (0)).b, .int .i64 (toldL (truncV x 0) (0)).c]) ?_ rfl ⟨rfl, by first | assumption | (go_split_ands; first | assumption | ((repeat (first | (with_reducible exact Below.refl _ _) | (with_reducible refine Below.alloc ?_ (by first | omega | (dsimp only; omega) | (simp <;> omega)) _) | (with_reducible refine Below.setCell ?_ (by first | omega | (dsimp only; omega) | (simp <;> omega)) _) | (with_reducible refine Below.drew ?_) | (with_reducible refine below_drewN ?_ _) | (with_reducible refine Below.trans ?_ (Below.mono (by assumption) (by first | omega | (dsimp only; omega) | (simp <;> omega)))))); done)) | ((repeat (first | (with_reducible exact Below.refl _ _) | (with_reducible refine Below.alloc ?_ (by first | omega | (dsimp only; omega) | (simp <;> omega)) _) | (with_reducible refine Below.setCell ?_ (by first | omega | (dsimp only; omega) | (simp <;> omega)) _) | (with_reducible refine Below.drew ?_) | (with_reducible refine below_drewN ?_ _) | (with_reducible refine Below.trans ?_ (Below.mono (by assumption) (by first | omega | (dsimp only; omega) | (simp <;> omega)))))); done)⟩
  simp [results, Tryz.results80, go_sem, *]
set_option maxRecDepth 100000 in
set_option maxHeartbeats 1000000 in
theorem do_TRUNC2 (x : Int) (hx : -9223372036854775807 ≤ x ∧ x ≤ 9223372036854775807) (y : Int) (hy : -9223372036854775807 ≤ y ∧ y ≤ 9223372036854775807) (pb : Nat) (v : Int) (h : wholeB y = true) (hv : wholeV y = v) (w : World) (gb cap : Nat) (hg : gb < w.heap.size) (_hcap : 2 ≤ cap) (c0 : w.cell? ⟨gb, 0, none⟩ = some (.int .i64 x)) (c1 : w.cell? ⟨gb, 1, none⟩ = some (.int .i64 y)) (hp : pb < w.heap.size) (cp : w.cell? ⟨pb, 0, none⟩ = some (.func (.func 38) #[] #[])) : Calls Tryz.prog 80 #[.slice (some ⟨gb, 0, none⟩) 2 cap, .pointer (some ⟨pb, 0, none⟩)] w fun e w' => e = .returned (.agg #[.int .i64 (toldL (truncV x v) (0)).t, .int .i64 (toldL (truncV x v) (0)).n, .string (toldL (truncV x v) (0)).s, .bool (toldL (truncV x v) (0)).b, .int .i64 (toldL (truncV x v) (0)).c]) ∧ Below w.heap.size w w' := by
  have hne : gb ≠ w.heap.size := by omega
  have hpb : pb ≠ w.heap.size := by omega
  have hvb : -9223372036854775808 ≤ v ∧ v ≤ 9223372036854775807 := by rw [← hv]; exact wholeV_in y (by omega)
  have hw : IntKind.i64.wrap v = v := IntWalk.i64_in _ (by omega)
  have HW : ∀ w2, Hid (Calls Tryz.prog 81 #[.int .i64 y] w2 fun e w' => e = .returned (.tuple #[.int .i64 v, .bool true]) ∧ w2 = w') := fun w2 => Lib.hid (by have H := whole_any y (by omega) w2; rw [h, hv] at H; exact H)
  clear h hv
  go_enter Tryz.func80, Tryz.ntmps80
  go_wp2_with fail
  refine (HW _).out.mono ?_
  rintro e w' ⟨rfl, rfl⟩
  clear HW
  go_wp2_with fail
  first | (go_loud (go_region_held3 (fun w' => w'.cell? ⟨gb, 0, none⟩ = some (.int .i64 x) ∧ w'.cell? ⟨gb, 1, none⟩ = some (.int .i64 y) ∧ w'.cell? ⟨pb, 0, none⟩ = some (.func (.func 38) #[] #[]) ∧ ResAt w' (w.heap.size) 5 ∧ Below w.heap.size w w' ∧ w.heap.size + 1 ≤ w'.heap.size)
    (first | (go_split_ands; exact ⟨(by simp [go_sem, *]), (by simp [go_sem, *]), (by simp [go_sem, *]), (by first | (with_reducible exact ResAt.drew (ResAt.new5 _ _ _ _ _ _ _)) | (repeat (first | (with_reducible assumption) | (with_reducible refine ResAt.setCell ?_ _ _) | (with_reducible refine ResAt.drew ?_)))), (by (repeat (first | (with_reducible exact Below.refl _ _) | (with_reducible refine Below.alloc ?_ (by first | omega | (dsimp only; omega) | (simp <;> omega)) _) | (with_reducible refine Below.setCell ?_ (by first | omega | (dsimp only; omega) | (simp <;> omega)) _) | (with_reducible refine Below.drew ?_) | (with_reducible refine below_drewN ?_ _) | (with_reducible refine Below.trans ?_ (Below.mono (by assumption) (by first | omega | (dsimp only; omega) | (simp <;> omega))))))), (by first | (simp; done) | (simp; omega))⟩) | (exact ⟨(by simp [go_sem, *]), (by simp [go_sem, *]), (by simp [go_sem, *]), (by first | (with_reducible exact ResAt.drew (ResAt.new5 _ _ _ _ _ _ _)) | (repeat (first | (with_reducible assumption) | (with_reducible refine ResAt.setCell ?_ _ _) | (with_reducible refine ResAt.drew ?_)))), (by (repeat (first | (with_reducible exact Below.refl _ _) | (with_reducible refine Below.alloc ?_ (by first | omega | (dsimp only; omega) | (simp <;> omega)) _) | (with_reducible refine Below.setCell ?_ (by first | omega | (dsimp only; omega) | (simp <;> omega)) _) | (with_reducible refine Below.drew ?_) | (with_reducible refine below_drewN ?_ _) | (with_reducible refine Below.trans ?_ (Below.mono (by assumption) (by first | omega | (dsimp only; omega) | (simp <;> omega))))))), (by first | (simp; done) | (simp; omega))⟩) | (go_split_ands; exact ⟨(by rw [hb.cell (by dsimp only; omega)]; assumption), (by rw [hb.cell (by dsimp only; omega)]; assumption), (by rw [hb.cell (by dsimp only; omega)]; assumption), (ResAt.below (by assumption) hb (by omega)), (Below.trans (by assumption) (hb.mono (by omega))), (by have := hb.size; omega)⟩))
    (first | (go_at_call 38; refine (trunc_any x v (by omega) (by omega) _).mono ?_; rintro e w1 ⟨rfl, rfl⟩) | (go_at_call 35; refine (told_c (truncV x v) (truncV_in x v (by omega)) (0) _).mono ?_; rintro e w1 ⟨rfl, hb⟩)))) | fail "region"
  go_split_ands
  go_wp2
  try simp only [resAt_setCell] at *
  refine bodyPost_ret (v := .agg #[.int .i64 (toldL (truncV x v) (0)).t, .int .i64 (toldL (truncV x v) (0)).n, .string (toldL (truncV x v) (0)).s, .bool (toldL (truncV x v) (0)).b, .int .i64 (toldL (truncV x v) (0)).c]) ?_ rfl ⟨rfl, by first | assumption | (go_split_ands; first | assumption | ((repeat (first | (with_reducible exact Below.refl _ _) | (with_reducible refine Below.alloc ?_ (by first | omega | (dsimp only; omega) | (simp <;> omega)) _) | (with_reducible refine Below.setCell ?_ (by first | omega | (dsimp only; omega) | (simp <;> omega)) _) | (with_reducible refine Below.drew ?_) | (with_reducible refine below_drewN ?_ _) | (with_reducible refine Below.trans ?_ (Below.mono (by assumption) (by first | omega | (dsimp only; omega) | (simp <;> omega)))))); done)) | ((repeat (first | (with_reducible exact Below.refl _ _) | (with_reducible refine Below.alloc ?_ (by first | omega | (dsimp only; omega) | (simp <;> omega)) _) | (with_reducible refine Below.setCell ?_ (by first | omega | (dsimp only; omega) | (simp <;> omega)) _) | (with_reducible refine Below.drew ?_) | (with_reducible refine below_drewN ?_ _) | (with_reducible refine Below.trans ?_ (Below.mono (by assumption) (by first | omega | (dsimp only; omega) | (simp <;> omega)))))); done)⟩
  simp [results, Tryz.results80, go_sem, *]
set_option maxRecDepth 100000 in
set_option maxHeartbeats 1000000 in
theorem do_ROUND1 (x : Int) (hx : -9223372036854775807 ≤ x ∧ x ≤ 9223372036854775807) (pb : Nat) (w : World) (gb cap : Nat) (hg : gb < w.heap.size) (_hcap : 1 ≤ cap) (c0 : w.cell? ⟨gb, 0, none⟩ = some (.int .i64 x)) (hp : pb < w.heap.size) (cp : w.cell? ⟨pb, 0, none⟩ = some (.func (.func 39) #[] #[])) : Calls Tryz.prog 80 #[.slice (some ⟨gb, 0, none⟩) 1 cap, .pointer (some ⟨pb, 0, none⟩)] w fun e w' => e = .returned (.agg #[.int .i64 (toldL (roundV x 0) (roundC x 0)).t, .int .i64 (toldL (roundV x 0) (roundC x 0)).n, .string (toldL (roundV x 0) (roundC x 0)).s, .bool (toldL (roundV x 0) (roundC x 0)).b, .int .i64 (toldL (roundV x 0) (roundC x 0)).c]) ∧ Below w.heap.size w w' := by
  have hne : gb ≠ w.heap.size := by omega
  have hpb : pb ≠ w.heap.size := by omega
  go_enter Tryz.func80, Tryz.ntmps80
  go_wp2_with fail
  first | (go_loud (go_region_held3 (fun w' => w'.cell? ⟨gb, 0, none⟩ = some (.int .i64 x) ∧ w'.cell? ⟨pb, 0, none⟩ = some (.func (.func 39) #[] #[]) ∧ ResAt w' (w.heap.size) 5 ∧ Below w.heap.size w w' ∧ w.heap.size + 1 ≤ w'.heap.size)
    (first | (go_split_ands; exact ⟨(by simp [go_sem, *]), (by simp [go_sem, *]), (by first | (with_reducible exact ResAt.drew (ResAt.new5 _ _ _ _ _ _ _)) | (repeat (first | (with_reducible assumption) | (with_reducible refine ResAt.setCell ?_ _ _) | (with_reducible refine ResAt.drew ?_)))), (by (repeat (first | (with_reducible exact Below.refl _ _) | (with_reducible refine Below.alloc ?_ (by first | omega | (dsimp only; omega) | (simp <;> omega)) _) | (with_reducible refine Below.setCell ?_ (by first | omega | (dsimp only; omega) | (simp <;> omega)) _) | (with_reducible refine Below.drew ?_) | (with_reducible refine below_drewN ?_ _) | (with_reducible refine Below.trans ?_ (Below.mono (by assumption) (by first | omega | (dsimp only; omega) | (simp <;> omega))))))), (by first | (simp; done) | (simp; omega))⟩) | (exact ⟨(by simp [go_sem, *]), (by simp [go_sem, *]), (by first | (with_reducible exact ResAt.drew (ResAt.new5 _ _ _ _ _ _ _)) | (repeat (first | (with_reducible assumption) | (with_reducible refine ResAt.setCell ?_ _ _) | (with_reducible refine ResAt.drew ?_)))), (by (repeat (first | (with_reducible exact Below.refl _ _) | (with_reducible refine Below.alloc ?_ (by first | omega | (dsimp only; omega) | (simp <;> omega)) _) | (with_reducible refine Below.setCell ?_ (by first | omega | (dsimp only; omega) | (simp <;> omega)) _) | (with_reducible refine Below.drew ?_) | (with_reducible refine below_drewN ?_ _) | (with_reducible refine Below.trans ?_ (Below.mono (by assumption) (by first | omega | (dsimp only; omega) | (simp <;> omega))))))), (by first | (simp; done) | (simp; omega))⟩) | (go_split_ands; exact ⟨(by rw [hb.cell (by dsimp only; omega)]; assumption), (by rw [hb.cell (by dsimp only; omega)]; assumption), (ResAt.below (by assumption) hb (by omega)), (Below.trans (by assumption) (hb.mono (by omega))), (by have := hb.size; omega)⟩))
    (first | (go_at_call 39; refine (round_any x (by omega) 0 (by omega) _).mono ?_; rintro e w1 ⟨rfl, hb⟩) | (go_at_call 35; refine (told_c (roundV x 0) (roundV_in x 0 (by omega)) (roundC x 0) _).mono ?_; rintro e w1 ⟨rfl, hb⟩)))) | fail "region"
  go_split_ands
  go_wp2
  try simp only [resAt_setCell] at *
  refine bodyPost_ret (v := .agg #[.int .i64 (toldL (roundV x 0) (roundC x 0)).t, .int .i64 (toldL (roundV x 0) (roundC x 0)).n, .string (toldL (roundV x 0) (roundC x 0)).s, .bool (toldL (roundV x 0) (roundC x 0)).b, .int .i64 (toldL (roundV x 0) (roundC x 0)).c]) ?_ rfl ⟨rfl, by first | assumption | (go_split_ands; first | assumption | ((repeat (first | (with_reducible exact Below.refl _ _) | (with_reducible refine Below.alloc ?_ (by first | omega | (dsimp only; omega) | (simp <;> omega)) _) | (with_reducible refine Below.setCell ?_ (by first | omega | (dsimp only; omega) | (simp <;> omega)) _) | (with_reducible refine Below.drew ?_) | (with_reducible refine below_drewN ?_ _) | (with_reducible refine Below.trans ?_ (Below.mono (by assumption) (by first | omega | (dsimp only; omega) | (simp <;> omega)))))); done)) | ((repeat (first | (with_reducible exact Below.refl _ _) | (with_reducible refine Below.alloc ?_ (by first | omega | (dsimp only; omega) | (simp <;> omega)) _) | (with_reducible refine Below.setCell ?_ (by first | omega | (dsimp only; omega) | (simp <;> omega)) _) | (with_reducible refine Below.drew ?_) | (with_reducible refine below_drewN ?_ _) | (with_reducible refine Below.trans ?_ (Below.mono (by assumption) (by first | omega | (dsimp only; omega) | (simp <;> omega)))))); done)⟩
  simp [results, Tryz.results80, go_sem, *]
set_option maxRecDepth 100000 in
set_option maxHeartbeats 1000000 in
theorem do_ROUND2 (x : Int) (hx : -9223372036854775807 ≤ x ∧ x ≤ 9223372036854775807) (y : Int) (hy : -9223372036854775807 ≤ y ∧ y ≤ 9223372036854775807) (pb : Nat) (v : Int) (h : wholeB y = true) (hv : wholeV y = v) (w : World) (gb cap : Nat) (hg : gb < w.heap.size) (_hcap : 2 ≤ cap) (c0 : w.cell? ⟨gb, 0, none⟩ = some (.int .i64 x)) (c1 : w.cell? ⟨gb, 1, none⟩ = some (.int .i64 y)) (hp : pb < w.heap.size) (cp : w.cell? ⟨pb, 0, none⟩ = some (.func (.func 39) #[] #[])) : Calls Tryz.prog 80 #[.slice (some ⟨gb, 0, none⟩) 2 cap, .pointer (some ⟨pb, 0, none⟩)] w fun e w' => e = .returned (.agg #[.int .i64 (toldL (roundV x v) (roundC x v)).t, .int .i64 (toldL (roundV x v) (roundC x v)).n, .string (toldL (roundV x v) (roundC x v)).s, .bool (toldL (roundV x v) (roundC x v)).b, .int .i64 (toldL (roundV x v) (roundC x v)).c]) ∧ Below w.heap.size w w' := by
  have hne : gb ≠ w.heap.size := by omega
  have hpb : pb ≠ w.heap.size := by omega
  have hvb : -9223372036854775808 ≤ v ∧ v ≤ 9223372036854775807 := by rw [← hv]; exact wholeV_in y (by omega)
  have hw : IntKind.i64.wrap v = v := IntWalk.i64_in _ (by omega)
  have HW : ∀ w2, Hid (Calls Tryz.prog 81 #[.int .i64 y] w2 fun e w' => e = .returned (.tuple #[.int .i64 v, .bool true]) ∧ w2 = w') := fun w2 => Lib.hid (by have H := whole_any y (by omega) w2; rw [h, hv] at H; exact H)
  clear h hv
  go_enter Tryz.func80, Tryz.ntmps80
  go_wp2_with fail
  refine (HW _).out.mono ?_
  rintro e w' ⟨rfl, rfl⟩
  clear HW
  go_wp2_with fail
  first | (go_loud (go_region_held3 (fun w' => w'.cell? ⟨gb, 0, none⟩ = some (.int .i64 x) ∧ w'.cell? ⟨gb, 1, none⟩ = some (.int .i64 y) ∧ w'.cell? ⟨pb, 0, none⟩ = some (.func (.func 39) #[] #[]) ∧ ResAt w' (w.heap.size) 5 ∧ Below w.heap.size w w' ∧ w.heap.size + 1 ≤ w'.heap.size)
    (first | (go_split_ands; exact ⟨(by simp [go_sem, *]), (by simp [go_sem, *]), (by simp [go_sem, *]), (by first | (with_reducible exact ResAt.drew (ResAt.new5 _ _ _ _ _ _ _)) | (repeat (first | (with_reducible assumption) | (with_reducible refine ResAt.setCell ?_ _ _) | (with_reducible refine ResAt.drew ?_)))), (by (repeat (first | (with_reducible exact Below.refl _ _) | (with_reducible refine Below.alloc ?_ (by first | omega | (dsimp only; omega) | (simp <;> omega)) _) | (with_reducible refine Below.setCell ?_ (by first | omega | (dsimp only; omega) | (simp <;> omega)) _) | (with_reducible refine Below.drew ?_) | (with_reducible refine below_drewN ?_ _) | (with_reducible refine Below.trans ?_ (Below.mono (by assumption) (by first | omega | (dsimp only; omega) | (simp <;> omega))))))), (by first | (simp; done) | (simp; omega))⟩) | (exact ⟨(by simp [go_sem, *]), (by simp [go_sem, *]), (by simp [go_sem, *]), (by first | (with_reducible exact ResAt.drew (ResAt.new5 _ _ _ _ _ _ _)) | (repeat (first | (with_reducible assumption) | (with_reducible refine ResAt.setCell ?_ _ _) | (with_reducible refine ResAt.drew ?_)))), (by (repeat (first | (with_reducible exact Below.refl _ _) | (with_reducible refine Below.alloc ?_ (by first | omega | (dsimp only; omega) | (simp <;> omega)) _) | (with_reducible refine Below.setCell ?_ (by first | omega | (dsimp only; omega) | (simp <;> omega)) _) | (with_reducible refine Below.drew ?_) | (with_reducible refine below_drewN ?_ _) | (with_reducible refine Below.trans ?_ (Below.mono (by assumption) (by first | omega | (dsimp only; omega) | (simp <;> omega))))))), (by first | (simp; done) | (simp; omega))⟩) | (go_split_ands; exact ⟨(by rw [hb.cell (by dsimp only; omega)]; assumption), (by rw [hb.cell (by dsimp only; omega)]; assumption), (by rw [hb.cell (by dsimp only; omega)]; assumption), (ResAt.below (by assumption) hb (by omega)), (Below.trans (by assumption) (hb.mono (by omega))), (by have := hb.size; omega)⟩))
    (first | (go_at_call 39; refine (round_any x (by omega) v (by omega) _).mono ?_; rintro e w1 ⟨rfl, hb⟩) | (go_at_call 35; refine (told_c (roundV x v) (roundV_in x v (by omega)) (roundC x v) _).mono ?_; rintro e w1 ⟨rfl, hb⟩)))) | fail "region"
  go_split_ands
  go_wp2
  try simp only [resAt_setCell] at *
  refine bodyPost_ret (v := .agg #[.int .i64 (toldL (roundV x v) (roundC x v)).t, .int .i64 (toldL (roundV x v) (roundC x v)).n, .string (toldL (roundV x v) (roundC x v)).s, .bool (toldL (roundV x v) (roundC x v)).b, .int .i64 (toldL (roundV x v) (roundC x v)).c]) ?_ rfl ⟨rfl, by first | assumption | (go_split_ands; first | assumption | ((repeat (first | (with_reducible exact Below.refl _ _) | (with_reducible refine Below.alloc ?_ (by first | omega | (dsimp only; omega) | (simp <;> omega)) _) | (with_reducible refine Below.setCell ?_ (by first | omega | (dsimp only; omega) | (simp <;> omega)) _) | (with_reducible refine Below.drew ?_) | (with_reducible refine below_drewN ?_ _) | (with_reducible refine Below.trans ?_ (Below.mono (by assumption) (by first | omega | (dsimp only; omega) | (simp <;> omega)))))); done)) | ((repeat (first | (with_reducible exact Below.refl _ _) | (with_reducible refine Below.alloc ?_ (by first | omega | (dsimp only; omega) | (simp <;> omega)) _) | (with_reducible refine Below.setCell ?_ (by first | omega | (dsimp only; omega) | (simp <;> omega)) _) | (with_reducible refine Below.drew ?_) | (with_reducible refine below_drewN ?_ _) | (with_reducible refine Below.trans ?_ (Below.mono (by assumption) (by first | omega | (dsimp only; omega) | (simp <;> omega)))))); done)⟩
  simp [results, Tryz.results80, go_sem, *]
set_option maxRecDepth 100000 in
set_option maxHeartbeats 1000000 in
theorem do_PLno (x : Int) (hx : -9223372036854775807 ≤ x ∧ x ≤ 9223372036854775807) (y : Int) (hy : -9223372036854775807 ≤ y ∧ y ≤ 9223372036854775807) (pb : Nat) (v : Int) (h : wholeB y = false) (hv : wholeV y = v) (w : World) (gb cap : Nat) (hg : gb < w.heap.size) (_hcap : 2 ≤ cap) (_c0 : w.cell? ⟨gb, 0, none⟩ = some (.int .i64 x)) (c1 : w.cell? ⟨gb, 1, none⟩ = some (.int .i64 y)) : Calls Tryz.prog 80 #[.slice (some ⟨gb, 0, none⟩) 2 cap, .pointer (some ⟨pb, 0, none⟩)] w fun e w' => e = .returned (.agg #[.int .i64 4, .int .i64 0, .string ⟨#[]⟩, .bool false, .int .i64 (errC 8)]) ∧ Below w.heap.size w w' := by
  have hne : gb ≠ w.heap.size := by omega
  have HW : ∀ w2, Hid (Calls Tryz.prog 81 #[.int .i64 y] w2 fun e w' => e = .returned (.tuple #[.int .i64 v, .bool false]) ∧ w2 = w') := fun w2 => Lib.hid (by have H := whole_any y (by omega) w2; rw [h, hv] at H; exact H)
  clear h hv
  go_enter Tryz.func80, Tryz.ntmps80
  go_wp2_with fail
  refine (HW _).out.mono ?_
  rintro e w' ⟨rfl, rfl⟩
  clear HW
  go_wp2_with (go_at_call 8; refine (verr_any 8 _).mono ?_; rintro e w1 ⟨rfl, hb⟩; obtain ⟨hc, hf, hz⟩ := bkeep hb (w.heap.size + 1) (by first | omega | (simp <;> omega)))
  try simp only [resAt_setCell] at *
  refine bodyPost_ret (v := .agg #[.int .i64 4, .int .i64 0, .string ⟨#[]⟩, .bool false, .int .i64 (errC 8)]) ?_ rfl ⟨rfl, by first | assumption | (go_split_ands; first | assumption | ((repeat (first | (with_reducible exact Below.refl _ _) | (with_reducible refine Below.alloc ?_ (by first | omega | (dsimp only; omega) | (simp <;> omega)) _) | (with_reducible refine Below.setCell ?_ (by first | omega | (dsimp only; omega) | (simp <;> omega)) _) | (with_reducible refine Below.drew ?_) | (with_reducible refine below_drewN ?_ _) | (with_reducible refine Below.trans ?_ (Below.mono (by assumption) (by first | omega | (dsimp only; omega) | (simp <;> omega)))))); done)) | ((repeat (first | (with_reducible exact Below.refl _ _) | (with_reducible refine Below.alloc ?_ (by first | omega | (dsimp only; omega) | (simp <;> omega)) _) | (with_reducible refine Below.setCell ?_ (by first | omega | (dsimp only; omega) | (simp <;> omega)) _) | (with_reducible refine Below.drew ?_) | (with_reducible refine below_drewN ?_ _) | (with_reducible refine Below.trans ?_ (Below.mono (by assumption) (by first | omega | (dsimp only; omega) | (simp <;> omega)))))); done)⟩
  simp [results, Tryz.results80, go_sem, *]
end Go.Proofs.YthobaffgllipfaaGreat
