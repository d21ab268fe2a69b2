/-
  nums: what each function answers.
-/
import Derived.Test.YthobaffgllipfaaGreatRows
import Derived.Test.YthobaffgllipfaaGreatBase
import Derived.Test.YthobaffgllipfaaGreatMg3
import Derived.Test.YthobaffgllipfaaGreatValA
import Derived.Test.YthobaffgllipfaaGreatValB
import Derived.Test.YthobaffgllipfaaGreatDecS
import Derived.Test.YthobaffgllipfaaGreatValC
import Derived.Test.YthobaffgllipfaaGreatAddrC
import Derived.Test.YthobaffgllipfaaGreatMg9
import Derived.Test.YthobaffgllipfaaGreatMapK
import Derived.Test.YthobaffgllipfaaGreatDMod
import Derived.Test.YthobaffgllipfaaGreatDFlo
import Derived.Test.YthobaffgllipfaaGreatProg
import Derived.Test.YthobaffgllipfaaGreatMg12
import Derived.Test.YthobaffgllipfaaGreatDRnd
import Derived.Test.YthobaffgllipfaaGreatMg14
import Derived.Test.YthobaffgllipfaaGreatKnuth
import Derived.Test.YthobaffgllipfaaGreatDDiv
import Derived.Test.YthobaffgllipfaaGreatMg17
import Derived.Test.YthobaffgllipfaaGreatNDoA
import Derived.Test.YthobaffgllipfaaGreatNDoB
import Derived.Deep.RegionWith
import Derived.WalkSpells
import Derived.WalkLawsBesides
import Derived.StillTactics
import Derived.Laws.Pointers
import Derived.Deep.RegionHeld3
import Derived.Deep.QuietTactic
import Derived.BigQuiet
import Derived.RowKit3
import Derived.Lib.Hide
import Derived.Lib.OthersKept
import Derived.OwnWalk
import Derived.Lib.IndexLaws
import Derived.Lib.ItoaMem
import Derived.WalkKit
import Derived.ProofKit
import Derived.OpenShut
import Derived.Carry
import Derived.ChangeSame
import Derived.Deep.Draws
import Derived.Maps.OwnSet
import Derived.Maps.AppendAt
import Derived.Laws.BitsAllLaws
import Derived.Shelf.Small.Bits
import Derived.Shelf.Strconv.Itoa0
import Derived.Shelf.Bits.Mul64
import Derived.Lib.TrimByte
import Derived.Lib.Bytealg
import Derived.Lib.SlTrimSet
import Derived.Lib.ParseIntB
import Derived.Shelf.Strings.SlTrimAscii
import Derived.Lib.SmallJoins
namespace Go.Proofs.YthobaffgllipfaaGreat
open Go.RowKit

set_option maxRecDepth 100000 in
set_option maxHeartbeats 1000000 in
theorem do_ABS (x : Int) (hx : -9223372036854775807 ≤ x ∧ x ≤ 9223372036854775807) (w : World) (gb n cap : Nat) (hg : gb < w.heap.size) (hn : 1 ≤ n) (_hcap : n ≤ cap) (c0 : w.cell? ⟨gb, 0, none⟩ = some (.int .i64 x)) : Calls Tryz.prog 31 #[.slice (some ⟨gb, 0, none⟩) n cap] w fun e w' => e = .returned (.agg #[.int .i64 (numT (max x (-x))), .int .i64 (numN (max x (-x))), .string ⟨#[]⟩, .bool false, .int .i64 (numF (max x (-x)))]) ∧ Below w.heap.size w w' := by
  have hne : gb ≠ w.heap.size := by omega
  have hi0 : (0 : Int) < (n : Int) := by omega
  have hj0 : 0 < n := by omega
  have hneg : IntKind.i64.wrap (-x) = -x := IntWalk.i64_in _ (by omega)
  go_enter Tryz.func31, Tryz.ntmps31
  go_wp2_with fail
  first | (go_loud (go_region_held3 (fun w' => w'.cell? ⟨gb, 0, none⟩ = some (.int .i64 x) ∧ ResAt w' (w.heap.size) 5 ∧ Below w.heap.size w w' ∧ w.heap.size + 1 ≤ w'.heap.size)
    (first | (go_split_ands; exact ⟨(by simp [go_sem, *]), (by first | (with_reducible exact ResAt.drew (ResAt.new5 _ _ _ _ _ _ _)) | (repeat (first | (with_reducible assumption) | (with_reducible refine ResAt.setCell ?_ _ _) | (with_reducible refine ResAt.drew ?_)))), (by (repeat (first | (with_reducible exact Below.refl _ _) | (with_reducible refine Below.alloc ?_ (by first | omega | (dsimp only; omega) | (simp <;> omega)) _) | (with_reducible refine Below.setCell ?_ (by first | omega | (dsimp only; omega) | (simp <;> omega)) _) | (with_reducible refine Below.drew ?_) | (with_reducible refine below_drewN ?_ _) | (with_reducible refine Below.trans ?_ (Below.mono (by assumption) (by first | omega | (dsimp only; omega) | (simp <;> omega))))))), (by first | (simp; done) | (simp; omega))⟩) | (exact ⟨(by simp [go_sem, *]), (by first | (with_reducible exact ResAt.drew (ResAt.new5 _ _ _ _ _ _ _)) | (repeat (first | (with_reducible assumption) | (with_reducible refine ResAt.setCell ?_ _ _) | (with_reducible refine ResAt.drew ?_)))), (by (repeat (first | (with_reducible exact Below.refl _ _) | (with_reducible refine Below.alloc ?_ (by first | omega | (dsimp only; omega) | (simp <;> omega)) _) | (with_reducible refine Below.setCell ?_ (by first | omega | (dsimp only; omega) | (simp <;> omega)) _) | (with_reducible refine Below.drew ?_) | (with_reducible refine below_drewN ?_ _) | (with_reducible refine Below.trans ?_ (Below.mono (by assumption) (by first | omega | (dsimp only; omega) | (simp <;> omega))))))), (by first | (simp; done) | (simp; omega))⟩) | (go_split_ands; exact ⟨(by rw [hb.cell (by dsimp only; omega)]; assumption), (ResAt.below (by assumption) hb (by omega)), (Below.trans (by assumption) (hb.mono (by omega))), (by have := hb.size; omega)⟩))
    (first | (go_at_call 32; refine (vnum_any (max x (-x)) (by omega) _).mono ?_; rintro e w1 ⟨rfl, hb⟩)))) | fail "region"
  go_split_ands
  go_wp2
  try simp only [resAt_setCell] at *
  refine bodyPost_ret (v := .agg #[.int .i64 (numT (max x (-x))), .int .i64 (numN (max x (-x))), .string ⟨#[]⟩, .bool false, .int .i64 (numF (max x (-x)))]) ?_ rfl ⟨rfl, by first | assumption | (go_split_ands; first | assumption | ((repeat (first | (with_reducible exact Below.refl _ _) | (with_reducible refine Below.alloc ?_ (by first | omega | (dsimp only; omega) | (simp <;> omega)) _) | (with_reducible refine Below.setCell ?_ (by first | omega | (dsimp only; omega) | (simp <;> omega)) _) | (with_reducible refine Below.drew ?_) | (with_reducible refine below_drewN ?_ _) | (with_reducible refine Below.trans ?_ (Below.mono (by assumption) (by first | omega | (dsimp only; omega) | (simp <;> omega)))))); done)) | ((repeat (first | (with_reducible exact Below.refl _ _) | (with_reducible refine Below.alloc ?_ (by first | omega | (dsimp only; omega) | (simp <;> omega)) _) | (with_reducible refine Below.setCell ?_ (by first | omega | (dsimp only; omega) | (simp <;> omega)) _) | (with_reducible refine Below.drew ?_) | (with_reducible refine below_drewN ?_ _) | (with_reducible refine Below.trans ?_ (Below.mono (by assumption) (by first | omega | (dsimp only; omega) | (simp <;> omega)))))); done)⟩
  simp [results, Tryz.results31, go_sem, *]
theorem told_c (x : Int) (hx : -9223372036854775808 ≤ x ∧ x ≤ 9223372036854775807) (c : Int) (w : World) : Calls Tryz.prog 35 #[.int .i64 x, .int .i64 c] w fun e w' => e = .returned (.agg #[.int .i64 (toldL x c).t, .int .i64 (toldL x c).n, .string (toldL x c).s, .bool (toldL x c).b, .int .i64 (toldL x c).c]) ∧ Below w.heap.size w w' := ntold_any x hx c w
theorem whole_c (z : Int) (n : Nat) (hz : z = (n : Int)) (hn : n < 18446744073709551616) (low : Bool) (w : World) : Calls Tryz.prog 85 #[.int .u64 z, .bool low] w fun e w' => e = .returned (.agg #[.int .i64 (wholeL n low).t, .int .i64 (wholeL n low).n, .string (wholeL n low).s, .bool (wholeL n low).b, .int .i64 (wholeL n low).c]) ∧ Below w.heap.size w w' := nwhole_at z n hz hn low w
theorem exV_in (n : Int) : -9223372036854775808 ≤ exV n ∧ exV n ≤ 9223372036854775807 := by unfold exV; split <;> omega
theorem subV_in (a b : Int) : -9223372036854775808 ≤ subV a b ∧ subV a b ≤ 9223372036854775807 := by
  unfold subV; split
  · omega
  · exact exV_in _
theorem nfloorV_in (x s : Int) : -9223372036854775808 ≤ nfloorV x s ∧ nfloorV x s ≤ 9223372036854775807 := by
  unfold nfloorV; split
  · omega
  · split
    · omega
    · exact subV_in _ _
theorem nfloorV_ne (x s : Int) : -9223372036854775807 ≤ nfloorV x s := by
  have e : ∀ n, -9223372036854775807 ≤ exV n := fun n => by unfold exV; split <;> omega
  unfold nfloorV; split
  · omega
  · split
    · omega
    · unfold subV; split
      · omega
      · exact e _
theorem floorV_in (x : Int) : -9223372036854775808 ≤ floorV x ∧ floorV x ≤ 9223372036854775807 := by
  unfold floorV; split
  · omega
  · exact subV_in _ _
theorem sqrtV_in (x : Int) (hx : x ≤ 9223372036854775807) : -9223372036854775808 ≤ sqrtV x ∧ sqrtV x ≤ 9223372036854775807 := by
  unfold sqrtV; split
  · omega
  · have := sqN_small x.toNat (by omega)
    omega
theorem wholeV_in (x : Int) (hx : -9223372036854775808 ≤ x ∧ x ≤ 9223372036854775807) : -9223372036854775808 ≤ wholeV x ∧ wholeV x ≤ 9223372036854775807 := by
  unfold wholeV; split
  · have h3 : (x.tdiv 10000).natAbs = x.natAbs / 10000 := Int.natAbs_tdiv x 10000
    omega
  · omega
def signL (x : Int) : VL := if 0 < x then numL 10000 else if x < 0 then numL (-10000) else numL 0
def quotL (x y : Int) : VL := if y = 0 then errL 3 else wholeL (x.natAbs / y.natAbs) (decide (x < 0) != decide (y < 0))
def clampL (x a b : Int) : VL := if b < a then errL 8 else numL (min (max x a) b)
def oddL (x : Int) : VL := if wholeB x = true then ⟨3, 0, ⟨#[]⟩, decide ((wholeV x).tmod 2 ≠ 0), 0⟩ else errL 8
set_option maxRecDepth 100000 in
set_option maxHeartbeats 1000000 in
theorem do_SIGNp (x : Int) (hx : -9223372036854775807 ≤ x ∧ x ≤ 9223372036854775807) (h : 0 < x) (w : World) (gb n cap : Nat) (hg : gb < w.heap.size) (hn : 1 ≤ n) (_hcap : n ≤ cap) (c0 : w.cell? ⟨gb, 0, none⟩ = some (.int .i64 x)) : Calls Tryz.prog 33 #[.slice (some ⟨gb, 0, none⟩) n cap] w fun e w' => e = .returned (.agg #[.int .i64 (numT 10000), .int .i64 (numN 10000), .string ⟨#[]⟩, .bool false, .int .i64 (numF 10000)]) ∧ Below w.heap.size w w' := by
  have hne : gb ≠ w.heap.size := by omega
  have hi0 : (0 : Int) < (n : Int) := by omega
  have hj0 : 0 < n := by omega
  go_enter Tryz.func33, Tryz.ntmps33
  go_wp2_with (go_at_call 32; refine (vnum_any (10000) (by omega) _).mono ?_; rintro e w1 ⟨rfl, hb⟩; obtain ⟨hc, hf, hz⟩ := bkeep hb (w.heap.size + 1) (by first | omega | (simp <;> omega)))
  try simp only [resAt_setCell] at *
  refine bodyPost_ret (v := .agg #[.int .i64 (numT 10000), .int .i64 (numN 10000), .string ⟨#[]⟩, .bool false, .int .i64 (numF 10000)]) ?_ rfl ⟨rfl, by first | assumption | (go_split_ands; first | assumption | ((repeat (first | (with_reducible exact Below.refl _ _) | (with_reducible refine Below.alloc ?_ (by first | omega | (dsimp only; omega) | (simp <;> omega)) _) | (with_reducible refine Below.setCell ?_ (by first | omega | (dsimp only; omega) | (simp <;> omega)) _) | (with_reducible refine Below.drew ?_) | (with_reducible refine below_drewN ?_ _) | (with_reducible refine Below.trans ?_ (Below.mono (by assumption) (by first | omega | (dsimp only; omega) | (simp <;> omega)))))); done)) | ((repeat (first | (with_reducible exact Below.refl _ _) | (with_reducible refine Below.alloc ?_ (by first | omega | (dsimp only; omega) | (simp <;> omega)) _) | (with_reducible refine Below.setCell ?_ (by first | omega | (dsimp only; omega) | (simp <;> omega)) _) | (with_reducible refine Below.drew ?_) | (with_reducible refine below_drewN ?_ _) | (with_reducible refine Below.trans ?_ (Below.mono (by assumption) (by first | omega | (dsimp only; omega) | (simp <;> omega)))))); done)⟩
  simp [results, Tryz.results33, go_sem, *]
set_option maxRecDepth 100000 in
set_option maxHeartbeats 1000000 in
theorem do_SIGNn (x : Int) (hx : -9223372036854775807 ≤ x ∧ x ≤ 9223372036854775807) (h : x < 0) (w : World) (gb n cap : Nat) (hg : gb < w.heap.size) (hn : 1 ≤ n) (_hcap : n ≤ cap) (c0 : w.cell? ⟨gb, 0, none⟩ = some (.int .i64 x)) : Calls Tryz.prog 33 #[.slice (some ⟨gb, 0, none⟩) n cap] w fun e w' => e = .returned (.agg #[.int .i64 (numT (-10000)), .int .i64 (numN (-10000)), .string ⟨#[]⟩, .bool false, .int .i64 (numF (-10000))]) ∧ Below w.heap.size w w' := by
  have hne : gb ≠ w.heap.size := by omega
  have hi0 : (0 : Int) < (n : Int) := by omega
  have hj0 : 0 < n := by omega
  go_enter Tryz.func33, Tryz.ntmps33
  go_wp2_with (go_at_call 32; refine (vnum_any ((-10000)) (by omega) _).mono ?_; rintro e w1 ⟨rfl, hb⟩; obtain ⟨hc, hf, hz⟩ := bkeep hb (w.heap.size + 1) (by first | omega | (simp <;> omega)))
  try simp only [resAt_setCell] at *
  refine bodyPost_ret (v := .agg #[.int .i64 (numT (-10000)), .int .i64 (numN (-10000)), .string ⟨#[]⟩, .bool false, .int .i64 (numF (-10000))]) ?_ rfl ⟨rfl, by first | assumption | (go_split_ands; first | assumption | ((repeat (first | (with_reducible exact Below.refl _ _) | (with_reducible refine Below.alloc ?_ (by first | omega | (dsimp only; omega) | (simp <;> omega)) _) | (with_reducible refine Below.setCell ?_ (by first | omega | (dsimp only; omega) | (simp <;> omega)) _) | (with_reducible refine Below.drew ?_) | (with_reducible refine below_drewN ?_ _) | (with_reducible refine Below.trans ?_ (Below.mono (by assumption) (by first | omega | (dsimp only; omega) | (simp <;> omega)))))); done)) | ((repeat (first | (with_reducible exact Below.refl _ _) | (with_reducible refine Below.alloc ?_ (by first | omega | (dsimp only; omega) | (simp <;> omega)) _) | (with_reducible refine Below.setCell ?_ (by first | omega | (dsimp only; omega) | (simp <;> omega)) _) | (with_reducible refine Below.drew ?_) | (with_reducible refine below_drewN ?_ _) | (with_reducible refine Below.trans ?_ (Below.mono (by assumption) (by first | omega | (dsimp only; omega) | (simp <;> omega)))))); done)⟩
  simp [results, Tryz.results33, go_sem, *]
set_option maxRecDepth 100000 in
set_option maxHeartbeats 1000000 in
theorem do_SIGNz (x : Int) (hx : -9223372036854775807 ≤ x ∧ x ≤ 9223372036854775807) (h : x = 0) (w : World) (gb n cap : Nat) (hg : gb < w.heap.size) (hn : 1 ≤ n) (_hcap : n ≤ cap) (c0 : w.cell? ⟨gb, 0, none⟩ = some (.int .i64 x)) : Calls Tryz.prog 33 #[.slice (some ⟨gb, 0, none⟩) n cap] w fun e w' => e = .returned (.agg #[.int .i64 (numT 0), .int .i64 (numN 0), .string ⟨#[]⟩, .bool false, .int .i64 (numF 0)]) ∧ Below w.heap.size w w' := by
  have hne : gb ≠ w.heap.size := by omega
  have hi0 : (0 : Int) < (n : Int) := by omega
  have hj0 : 0 < n := by omega
  subst h
  go_enter Tryz.func33, Tryz.ntmps33
  go_wp2_with (go_at_call 32; refine (vnum_any (0) (by omega) _).mono ?_; rintro e w1 ⟨rfl, hb⟩; obtain ⟨hc, hf, hz⟩ := bkeep hb (w.heap.size + 1) (by first | omega | (simp <;> omega)))
  try simp only [resAt_setCell] at *
  refine bodyPost_ret (v := .agg #[.int .i64 (numT 0), .int .i64 (numN 0), .string ⟨#[]⟩, .bool false, .int .i64 (numF 0)]) ?_ rfl ⟨rfl, by first | assumption | (go_split_ands; first | assumption | ((repeat (first | (with_reducible exact Below.refl _ _) | (with_reducible refine Below.alloc ?_ (by first | omega | (dsimp only; omega) | (simp <;> omega)) _) | (with_reducible refine Below.setCell ?_ (by first | omega | (dsimp only; omega) | (simp <;> omega)) _) | (with_reducible refine Below.drew ?_) | (with_reducible refine below_drewN ?_ _) | (with_reducible refine Below.trans ?_ (Below.mono (by assumption) (by first | omega | (dsimp only; omega) | (simp <;> omega)))))); done)) | ((repeat (first | (with_reducible exact Below.refl _ _) | (with_reducible refine Below.alloc ?_ (by first | omega | (dsimp only; omega) | (simp <;> omega)) _) | (with_reducible refine Below.setCell ?_ (by first | omega | (dsimp only; omega) | (simp <;> omega)) _) | (with_reducible refine Below.drew ?_) | (with_reducible refine below_drewN ?_ _) | (with_reducible refine Below.trans ?_ (Below.mono (by assumption) (by first | omega | (dsimp only; omega) | (simp <;> omega)))))); done)⟩
  simp [results, Tryz.results33, go_sem, *]
set_option maxRecDepth 100000 in
set_option maxHeartbeats 1000000 in
theorem do_INT (x : Int) (hx : -9223372036854775807 ≤ x ∧ x ≤ 9223372036854775807) (w : World) (gb n cap : Nat) (hg : gb < w.heap.size) (hn : 1 ≤ n) (_hcap : n ≤ cap) (c0 : w.cell? ⟨gb, 0, none⟩ = some (.int .i64 x)) : Calls Tryz.prog 34 #[.slice (some ⟨gb, 0, none⟩) n cap] w fun e w' => e = .returned (.agg #[.int .i64 (toldL (floorV x) (floorC x)).t, .int .i64 (toldL (floorV x) (floorC x)).n, .string (toldL (floorV x) (floorC x)).s, .bool (toldL (floorV x) (floorC x)).b, .int .i64 (toldL (floorV x) (floorC x)).c]) ∧ Below w.heap.size w w' := by
  have hne : gb ≠ w.heap.size := by omega
  have hi0 : (0 : Int) < (n : Int) := by omega
  have hj0 : 0 < n := by omega
  go_enter Tryz.func34, Tryz.ntmps34
  go_wp2_with fail
  refine (floor_any x (by omega) _).mono ?_
  rintro e w' ⟨rfl, rfl⟩
  go_wp2_with (go_at_call 35; refine (told_c (floorV x) (floorV_in x) (floorC x) _).mono ?_; rintro e w1 ⟨rfl, hb⟩; obtain ⟨hc, hf, hz⟩ := bkeep hb (w.heap.size + 1) (by first | omega | (simp <;> omega)))
  try simp only [resAt_setCell] at *
  refine bodyPost_ret (v := .agg #[.int .i64 (toldL (floorV x) (floorC x)).t, .int .i64 (toldL (floorV x) (floorC x)).n, .string (toldL (floorV x) (floorC x)).s, .bool (toldL (floorV x) (floorC x)).b, .int .i64 (toldL (floorV x) (floorC x)).c]) ?_ rfl ⟨rfl, by first | assumption | (go_split_ands; first | assumption | ((repeat (first | (with_reducible exact Below.refl _ _) | (with_reducible refine Below.alloc ?_ (by first | omega | (dsimp only; omega) | (simp <;> omega)) _) | (with_reducible refine Below.setCell ?_ (by first | omega | (dsimp only; omega) | (simp <;> omega)) _) | (with_reducible refine Below.drew ?_) | (with_reducible refine below_drewN ?_ _) | (with_reducible refine Below.trans ?_ (Below.mono (by assumption) (by first | omega | (dsimp only; omega) | (simp <;> omega)))))); done)) | ((repeat (first | (with_reducible exact Below.refl _ _) | (with_reducible refine Below.alloc ?_ (by first | omega | (dsimp only; omega) | (simp <;> omega)) _) | (with_reducible refine Below.setCell ?_ (by first | omega | (dsimp only; omega) | (simp <;> omega)) _) | (with_reducible refine Below.drew ?_) | (with_reducible refine below_drewN ?_ _) | (with_reducible refine Below.trans ?_ (Below.mono (by assumption) (by first | omega | (dsimp only; omega) | (simp <;> omega)))))); done)⟩
  simp [results, Tryz.results34, go_sem, *]
set_option maxRecDepth 100000 in
set_option maxHeartbeats 1000000 in
theorem do_SQRT (x : Int) (hx : -9223372036854775807 ≤ x ∧ x ≤ 9223372036854775807) (w : World) (gb n cap : Nat) (hg : gb < w.heap.size) (hn : 1 ≤ n) (_hcap : n ≤ cap) (c0 : w.cell? ⟨gb, 0, none⟩ = some (.int .i64 x)) : Calls Tryz.prog 47 #[.slice (some ⟨gb, 0, none⟩) n cap] w fun e w' => e = .returned (.agg #[.int .i64 (toldL (sqrtV x) (sqrtC x)).t, .int .i64 (toldL (sqrtV x) (sqrtC x)).n, .string (toldL (sqrtV x) (sqrtC x)).s, .bool (toldL (sqrtV x) (sqrtC x)).b, .int .i64 (toldL (sqrtV x) (sqrtC x)).c]) ∧ Below w.heap.size w w' := by
  have hne : gb ≠ w.heap.size := by omega
  have hi0 : (0 : Int) < (n : Int) := by omega
  have hj0 : 0 < n := by omega
  go_enter Tryz.func47, Tryz.ntmps47
  go_wp2_with fail
  refine (sqrt_any x (by omega) _).mono ?_
  rintro e w' ⟨rfl, rfl⟩
  go_wp2_with (go_at_call 35; refine (told_c (sqrtV x) (sqrtV_in x (by omega)) (sqrtC x) _).mono ?_; rintro e w1 ⟨rfl, hb⟩; obtain ⟨hc, hf, hz⟩ := bkeep hb (w.heap.size + 1) (by first | omega | (simp <;> omega)))
  try simp only [resAt_setCell] at *
  refine bodyPost_ret (v := .agg #[.int .i64 (toldL (sqrtV x) (sqrtC x)).t, .int .i64 (toldL (sqrtV x) (sqrtC x)).n, .string (toldL (sqrtV x) (sqrtC x)).s, .bool (toldL (sqrtV x) (sqrtC x)).b, .int .i64 (toldL (sqrtV x) (sqrtC x)).c]) ?_ rfl ⟨rfl, by first | assumption | (go_split_ands; first | assumption | ((repeat (first | (with_reducible exact Below.refl _ _) | (with_reducible refine Below.alloc ?_ (by first | omega | (dsimp only; omega) | (simp <;> omega)) _) | (with_reducible refine Below.setCell ?_ (by first | omega | (dsimp only; omega) | (simp <;> omega)) _) | (with_reducible refine Below.drew ?_) | (with_reducible refine below_drewN ?_ _) | (with_reducible refine Below.trans ?_ (Below.mono (by assumption) (by first | omega | (dsimp only; omega) | (simp <;> omega)))))); done)) | ((repeat (first | (with_reducible exact Below.refl _ _) | (with_reducible refine Below.alloc ?_ (by first | omega | (dsimp only; omega) | (simp <;> omega)) _) | (with_reducible refine Below.setCell ?_ (by first | omega | (dsimp only; omega) | (simp <;> omega)) _) | (with_reducible refine Below.drew ?_) | (with_reducible refine below_drewN ?_ _) | (with_reducible refine Below.trans ?_ (Below.mono (by assumption) (by first | omega | (dsimp only; omega) | (simp <;> omega)))))); done)⟩
  simp [results, Tryz.results47, go_sem, *]
set_option maxRecDepth 100000 in
set_option maxHeartbeats 1000000 in
theorem do_FLOOR (x : Int) (hx : -9223372036854775807 ≤ x ∧ x ≤ 9223372036854775807) (y : Int) (hy : -9223372036854775807 ≤ y ∧ y ≤ 9223372036854775807) (w : World) (gb n cap : Nat) (hg : gb < w.heap.size) (hn : 2 ≤ n) (_hcap : n ≤ cap) (c0 : w.cell? ⟨gb, 0, none⟩ = some (.int .i64 x)) (c1 : w.cell? ⟨gb, 1, none⟩ = some (.int .i64 y)) : Calls Tryz.prog 40 #[.slice (some ⟨gb, 0, none⟩) n cap] w fun e w' => e = .returned (.agg #[.int .i64 (toldL (nfloorV x y) (nfloorC x y)).t, .int .i64 (toldL (nfloorV x y) (nfloorC x y)).n, .string (toldL (nfloorV x y) (nfloorC x y)).s, .bool (toldL (nfloorV x y) (nfloorC x y)).b, .int .i64 (toldL (nfloorV x y) (nfloorC x y)).c]) ∧ Below w.heap.size w w' := by
  have hne : gb ≠ w.heap.size := by omega
  have hi0 : (0 : Int) < (n : Int) := by omega
  have hj0 : 0 < n := by omega
  have hi1 : (1 : Int) < (n : Int) := by omega
  have hj1 : 1 < n := by omega
  go_enter Tryz.func40, Tryz.ntmps40
  go_wp2_with fail
  first | (go_loud (go_region_held3 (fun w' => w'.cell? ⟨gb, 0, none⟩ = some (.int .i64 x) ∧ w'.cell? ⟨gb, 1, none⟩ = some (.int .i64 y) ∧ ResAt w' (w.heap.size) 5 ∧ Below w.heap.size w w' ∧ w.heap.size + 1 ≤ w'.heap.size)
    (first | (go_split_ands; exact ⟨(by simp [go_sem, *]), (by simp [go_sem, *]), (by first | (with_reducible exact ResAt.drew (ResAt.new5 _ _ _ _ _ _ _)) | (repeat (first | (with_reducible assumption) | (with_reducible refine ResAt.setCell ?_ _ _) | (with_reducible refine ResAt.drew ?_)))), (by (repeat (first | (with_reducible exact Below.refl _ _) | (with_reducible refine Below.alloc ?_ (by first | omega | (dsimp only; omega) | (simp <;> omega)) _) | (with_reducible refine Below.setCell ?_ (by first | omega | (dsimp only; omega) | (simp <;> omega)) _) | (with_reducible refine Below.drew ?_) | (with_reducible refine below_drewN ?_ _) | (with_reducible refine Below.trans ?_ (Below.mono (by assumption) (by first | omega | (dsimp only; omega) | (simp <;> omega))))))), (by first | (simp; done) | (simp; omega))⟩) | (exact ⟨(by simp [go_sem, *]), (by simp [go_sem, *]), (by first | (with_reducible exact ResAt.drew (ResAt.new5 _ _ _ _ _ _ _)) | (repeat (first | (with_reducible assumption) | (with_reducible refine ResAt.setCell ?_ _ _) | (with_reducible refine ResAt.drew ?_)))), (by (repeat (first | (with_reducible exact Below.refl _ _) | (with_reducible refine Below.alloc ?_ (by first | omega | (dsimp only; omega) | (simp <;> omega)) _) | (with_reducible refine Below.setCell ?_ (by first | omega | (dsimp only; omega) | (simp <;> omega)) _) | (with_reducible refine Below.drew ?_) | (with_reducible refine below_drewN ?_ _) | (with_reducible refine Below.trans ?_ (Below.mono (by assumption) (by first | omega | (dsimp only; omega) | (simp <;> omega))))))), (by first | (simp; done) | (simp; omega))⟩) | (go_split_ands; exact ⟨(by rw [hb.cell (by dsimp only; omega)]; assumption), (by rw [hb.cell (by dsimp only; omega)]; assumption), (ResAt.below (by assumption) hb (by omega)), (Below.trans (by assumption) (hb.mono (by omega))), (by have := hb.size; omega)⟩))
    (first | (go_at_call 41; refine (nfloor_any x y (by omega) (by omega) _).mono ?_; rintro e w1 ⟨rfl, rfl⟩) | (go_at_call 35; refine (told_c (nfloorV x y) (nfloorV_in x y) (nfloorC x y) _).mono ?_; rintro e w1 ⟨rfl, hb⟩)))) | fail "region"
  go_split_ands
  go_wp2
  try simp only [resAt_setCell] at *
  refine bodyPost_ret (v := .agg #[.int .i64 (toldL (nfloorV x y) (nfloorC x y)).t, .int .i64 (toldL (nfloorV x y) (nfloorC x y)).n, .string (toldL (nfloorV x y) (nfloorC x y)).s, .bool (toldL (nfloorV x y) (nfloorC x y)).b, .int .i64 (toldL (nfloorV x y) (nfloorC x y)).c]) ?_ rfl ⟨rfl, by first | assumption | (go_split_ands; first | assumption | ((repeat (first | (with_reducible exact Below.refl _ _) | (with_reducible refine Below.alloc ?_ (by first | omega | (dsimp only; omega) | (simp <;> omega)) _) | (with_reducible refine Below.setCell ?_ (by first | omega | (dsimp only; omega) | (simp <;> omega)) _) | (with_reducible refine Below.drew ?_) | (with_reducible refine below_drewN ?_ _) | (with_reducible refine Below.trans ?_ (Below.mono (by assumption) (by first | omega | (dsimp only; omega) | (simp <;> omega)))))); done)) | ((repeat (first | (with_reducible exact Below.refl _ _) | (with_reducible refine Below.alloc ?_ (by first | omega | (dsimp only; omega) | (simp <;> omega)) _) | (with_reducible refine Below.setCell ?_ (by first | omega | (dsimp only; omega) | (simp <;> omega)) _) | (with_reducible refine Below.drew ?_) | (with_reducible refine below_drewN ?_ _) | (with_reducible refine Below.trans ?_ (Below.mono (by assumption) (by first | omega | (dsimp only; omega) | (simp <;> omega)))))); done)⟩
  simp [results, Tryz.results40, go_sem, *]
set_option maxRecDepth 100000 in
set_option maxHeartbeats 1000000 in
theorem do_MOD (x : Int) (hx : -9223372036854775807 ≤ x ∧ x ≤ 9223372036854775807) (y : Int) (hy : -9223372036854775807 ≤ y ∧ y ≤ 9223372036854775807) (w : World) (gb n cap : Nat) (hg : gb < w.heap.size) (hn : 2 ≤ n) (_hcap : n ≤ cap) (c0 : w.cell? ⟨gb, 0, none⟩ = some (.int .i64 x)) (c1 : w.cell? ⟨gb, 1, none⟩ = some (.int .i64 y)) : Calls Tryz.prog 43 #[.slice (some ⟨gb, 0, none⟩) n cap] w fun e w' => e = .returned (.agg #[.int .i64 (toldL (modV x y) (modC x y)).t, .int .i64 (toldL (modV x y) (modC x y)).n, .string (toldL (modV x y) (modC x y)).s, .bool (toldL (modV x y) (modC x y)).b, .int .i64 (toldL (modV x y) (modC x y)).c]) ∧ Below w.heap.size w w' := by
  have hne : gb ≠ w.heap.size := by omega
  have hi0 : (0 : Int) < (n : Int) := by omega
  have hj0 : 0 < n := by omega
  have hi1 : (1 : Int) < (n : Int) := by omega
  have hj1 : 1 < n := by omega
  go_enter Tryz.func43, Tryz.ntmps43
  go_wp2_with fail
  first | (go_loud (go_region_held3 (fun w' => w'.cell? ⟨gb, 0, none⟩ = some (.int .i64 x) ∧ w'.cell? ⟨gb, 1, none⟩ = some (.int .i64 y) ∧ ResAt w' (w.heap.size) 5 ∧ Below w.heap.size w w' ∧ w.heap.size + 1 ≤ w'.heap.size)
    (first | (go_split_ands; exact ⟨(by simp [go_sem, *]), (by simp [go_sem, *]), (by first | (with_reducible exact ResAt.drew (ResAt.new5 _ _ _ _ _ _ _)) | (repeat (first | (with_reducible assumption) | (with_reducible refine ResAt.setCell ?_ _ _) | (with_reducible refine ResAt.drew ?_)))), (by (repeat (first | (with_reducible exact Below.refl _ _) | (with_reducible refine Below.alloc ?_ (by first | omega | (dsimp only; omega) | (simp <;> omega)) _) | (with_reducible refine Below.setCell ?_ (by first | omega | (dsimp only; omega) | (simp <;> omega)) _) | (with_reducible refine Below.drew ?_) | (with_reducible refine below_drewN ?_ _) | (with_reducible refine Below.trans ?_ (Below.mono (by assumption) (by first | omega | (dsimp only; omega) | (simp <;> omega))))))), (by first | (simp; done) | (simp; omega))⟩) | (exact ⟨(by simp [go_sem, *]), (by simp [go_sem, *]), (by first | (with_reducible exact ResAt.drew (ResAt.new5 _ _ _ _ _ _ _)) | (repeat (first | (with_reducible assumption) | (with_reducible refine ResAt.setCell ?_ _ _) | (with_reducible refine ResAt.drew ?_)))), (by (repeat (first | (with_reducible exact Below.refl _ _) | (with_reducible refine Below.alloc ?_ (by first | omega | (dsimp only; omega) | (simp <;> omega)) _) | (with_reducible refine Below.setCell ?_ (by first | omega | (dsimp only; omega) | (simp <;> omega)) _) | (with_reducible refine Below.drew ?_) | (with_reducible refine below_drewN ?_ _) | (with_reducible refine Below.trans ?_ (Below.mono (by assumption) (by first | omega | (dsimp only; omega) | (simp <;> omega))))))), (by first | (simp; done) | (simp; omega))⟩) | (go_split_ands; exact ⟨(by rw [hb.cell (by dsimp only; omega)]; assumption), (by rw [hb.cell (by dsimp only; omega)]; assumption), (ResAt.below (by assumption) hb (by omega)), (Below.trans (by assumption) (hb.mono (by omega))), (by have := hb.size; omega)⟩))
    (first | (go_at_call 44; refine (mod_any x y (by omega) (by omega) _).mono ?_; rintro e w1 ⟨rfl, rfl⟩) | (go_at_call 35; refine (told_c (modV x y) (modV_in x y (by omega) (by omega)) (modC x y) _).mono ?_; rintro e w1 ⟨rfl, hb⟩)))) | fail "region"
  go_split_ands
  go_wp2
  try simp only [resAt_setCell] at *
  refine bodyPost_ret (v := .agg #[.int .i64 (toldL (modV x y) (modC x y)).t, .int .i64 (toldL (modV x y) (modC x y)).n, .string (toldL (modV x y) (modC x y)).s, .bool (toldL (modV x y) (modC x y)).b, .int .i64 (toldL (modV x y) (modC x y)).c]) ?_ rfl ⟨rfl, by first | assumption | (go_split_ands; first | assumption | ((repeat (first | (with_reducible exact Below.refl _ _) | (with_reducible refine Below.alloc ?_ (by first | omega | (dsimp only; omega) | (simp <;> omega)) _) | (with_reducible refine Below.setCell ?_ (by first | omega | (dsimp only; omega) | (simp <;> omega)) _) | (with_reducible refine Below.drew ?_) | (with_reducible refine below_drewN ?_ _) | (with_reducible refine Below.trans ?_ (Below.mono (by assumption) (by first | omega | (dsimp only; omega) | (simp <;> omega)))))); done)) | ((repeat (first | (with_reducible exact Below.refl _ _) | (with_reducible refine Below.alloc ?_ (by first | omega | (dsimp only; omega) | (simp <;> omega)) _) | (with_reducible refine Below.setCell ?_ (by first | omega | (dsimp only; omega) | (simp <;> omega)) _) | (with_reducible refine Below.drew ?_) | (with_reducible refine below_drewN ?_ _) | (with_reducible refine Below.trans ?_ (Below.mono (by assumption) (by first | omega | (dsimp only; omega) | (simp <;> omega)))))); done)⟩
  simp [results, Tryz.results43, go_sem, *]
set_option maxRecDepth 100000 in
set_option maxHeartbeats 1000000 in
theorem do_CEIL (x : Int) (hx : -9223372036854775807 ≤ x ∧ x ≤ 9223372036854775807) (y : Int) (hy : -9223372036854775807 ≤ y ∧ y ≤ 9223372036854775807) (w : World) (gb n cap : Nat) (hg : gb < w.heap.size) (hn : 2 ≤ n) (_hcap : n ≤ cap) (c0 : w.cell? ⟨gb, 0, none⟩ = some (.int .i64 x)) (c1 : w.cell? ⟨gb, 1, none⟩ = some (.int .i64 y)) : Calls Tryz.prog 42 #[.slice (some ⟨gb, 0, none⟩) n cap] w fun e w' => e = .returned (.agg #[.int .i64 (toldL (-(nfloorV (-x) y)) (nfloorC (-x) y)).t, .int .i64 (toldL (-(nfloorV (-x) y)) (nfloorC (-x) y)).n, .string (toldL (-(nfloorV (-x) y)) (nfloorC (-x) y)).s, .bool (toldL (-(nfloorV (-x) y)) (nfloorC (-x) y)).b, .int .i64 (toldL (-(nfloorV (-x) y)) (nfloorC (-x) y)).c]) ∧ Below w.heap.size w w' := by
  have hne : gb ≠ w.heap.size := by omega
  have hi0 : (0 : Int) < (n : Int) := by omega
  have hj0 : 0 < n := by omega
  have hi1 : (1 : Int) < (n : Int) := by omega
  have hj1 : 1 < n := by omega
  have hneg : IntKind.i64.wrap (-x) = -x := IntWalk.i64_in _ (by omega)
  have hnv := nfloorV_ne (-x) y
  have hnv2 := nfloorV_in (-x) y
  go_enter Tryz.func42, Tryz.ntmps42
  go_wp2_with fail
  first | (go_loud (go_region_held3 (fun w' => w'.cell? ⟨gb, 0, none⟩ = some (.int .i64 x) ∧ w'.cell? ⟨gb, 1, none⟩ = some (.int .i64 y) ∧ ResAt w' (w.heap.size) 5 ∧ Below w.heap.size w w' ∧ w.heap.size + 1 ≤ w'.heap.size)
    (first | (go_split_ands; exact ⟨(by simp [go_sem, *]), (by simp [go_sem, *]), (by first | (with_reducible exact ResAt.drew (ResAt.new5 _ _ _ _ _ _ _)) | (repeat (first | (with_reducible assumption) | (with_reducible refine ResAt.setCell ?_ _ _) | (with_reducible refine ResAt.drew ?_)))), (by (repeat (first | (with_reducible exact Below.refl _ _) | (with_reducible refine Below.alloc ?_ (by first | omega | (dsimp only; omega) | (simp <;> omega)) _) | (with_reducible refine Below.setCell ?_ (by first | omega | (dsimp only; omega) | (simp <;> omega)) _) | (with_reducible refine Below.drew ?_) | (with_reducible refine below_drewN ?_ _) | (with_reducible refine Below.trans ?_ (Below.mono (by assumption) (by first | omega | (dsimp only; omega) | (simp <;> omega))))))), (by first | (simp; done) | (simp; omega))⟩) | (exact ⟨(by simp [go_sem, *]), (by simp [go_sem, *]), (by first | (with_reducible exact ResAt.drew (ResAt.new5 _ _ _ _ _ _ _)) | (repeat (first | (with_reducible assumption) | (with_reducible refine ResAt.setCell ?_ _ _) | (with_reducible refine ResAt.drew ?_)))), (by (repeat (first | (with_reducible exact Below.refl _ _) | (with_reducible refine Below.alloc ?_ (by first | omega | (dsimp only; omega) | (simp <;> omega)) _) | (with_reducible refine Below.setCell ?_ (by first | omega | (dsimp only; omega) | (simp <;> omega)) _) | (with_reducible refine Below.drew ?_) | (with_reducible refine below_drewN ?_ _) | (with_reducible refine Below.trans ?_ (Below.mono (by assumption) (by first | omega | (dsimp only; omega) | (simp <;> omega))))))), (by first | (simp; done) | (simp; omega))⟩) | (go_split_ands; exact ⟨(by rw [hb.cell (by dsimp only; omega)]; assumption), (by rw [hb.cell (by dsimp only; omega)]; assumption), (ResAt.below (by assumption) hb (by omega)), (Below.trans (by assumption) (hb.mono (by omega))), (by have := hb.size; omega)⟩))
    (first | (go_at_call 41; refine (nfloor_any (-x) y (by omega) (by omega) _).mono ?_; rintro e w1 ⟨rfl, rfl⟩)))) | fail "region"
  go_split_ands
  go_wp2_with (go_at_call 35; refine (told_c (-(nfloorV (-x) y)) (by omega) (nfloorC (-x) y) _).mono ?_; rintro e w2 ⟨rfl, hb2⟩; obtain ⟨hc, hf, hz⟩ := bkeep hb2 (w.heap.size + 1) (by omega); have hr2 := ResAt.below (R := w.heap.size) (k := 5) (by assumption) hb2 (by omega); have hq2 := Below.trans (B := w.heap.size) (by assumption) (hb2.mono (by omega)); clear hc hf)
  refine bodyPost_ret (v := .agg #[.int .i64 (toldL (-(nfloorV (-x) y)) (nfloorC (-x) y)).t, .int .i64 (toldL (-(nfloorV (-x) y)) (nfloorC (-x) y)).n, .string (toldL (-(nfloorV (-x) y)) (nfloorC (-x) y)).s, .bool (toldL (-(nfloorV (-x) y)) (nfloorC (-x) y)).b, .int .i64 (toldL (-(nfloorV (-x) y)) (nfloorC (-x) y)).c]) ?_ rfl ⟨rfl, by (repeat (first | (with_reducible exact Below.refl _ _) | (with_reducible refine Below.alloc ?_ (by first | omega | (dsimp only; omega) | (simp <;> omega)) _) | (with_reducible refine Below.setCell ?_ (by first | omega | (dsimp only; omega) | (simp <;> omega)) _) | (with_reducible refine Below.drew ?_) | (with_reducible refine below_drewN ?_ _) | (with_reducible refine Below.trans ?_ (Below.mono (by assumption) (by first | omega | (dsimp only; omega) | (simp <;> omega))))))⟩
  simp [results, Tryz.results42, go_sem, *]
set_option maxRecDepth 100000 in
set_option maxHeartbeats 1000000 in
theorem do_CLAMP0 (x : Int) (hx : -9223372036854775807 ≤ x ∧ x ≤ 9223372036854775807) (y : Int) (hy : -9223372036854775807 ≤ y ∧ y ≤ 9223372036854775807) (z : Int) (hz : -9223372036854775807 ≤ z ∧ z ≤ 9223372036854775807) (h : z < y) (w : World) (gb n cap : Nat) (hg : gb < w.heap.size) (hn : 3 ≤ n) (_hcap : n ≤ cap) (c0 : w.cell? ⟨gb, 0, none⟩ = some (.int .i64 x)) (c1 : w.cell? ⟨gb, 1, none⟩ = some (.int .i64 y)) (c2 : w.cell? ⟨gb, 2, none⟩ = some (.int .i64 z)) : Calls Tryz.prog 52 #[.slice (some ⟨gb, 0, none⟩) n cap] w fun e w' => e = .returned (.agg #[.int .i64 4, .int .i64 0, .string ⟨#[]⟩, .bool false, .int .i64 (errC 8)]) ∧ Below w.heap.size w w' := by
  have hne : gb ≠ w.heap.size := by omega
  have hi0 : (0 : Int) < (n : Int) := by omega
  have hj0 : 0 < n := by omega
  have hi1 : (1 : Int) < (n : Int) := by omega
  have hj1 : 1 < n := by omega
  have hi2 : (2 : Int) < (n : Int) := by omega
  have hj2 : 2 < n := by omega
  go_enter Tryz.func52, Tryz.ntmps52
  go_wp2_with fail
  first | (go_loud (go_region_held3 (fun w' => w'.cell? ⟨gb, 0, none⟩ = some (.int .i64 x) ∧ w'.cell? ⟨gb, 1, none⟩ = some (.int .i64 y) ∧ w'.cell? ⟨gb, 2, none⟩ = some (.int .i64 z) ∧ ResAt w' (w.heap.size) 5 ∧ Below w.heap.size w w' ∧ w.heap.size + 1 ≤ w'.heap.size)
    (first | (go_split_ands; exact ⟨(by simp [go_sem, *]), (by simp [go_sem, *]), (by simp [go_sem, *]), (by first | (with_reducible exact ResAt.drew (ResAt.new5 _ _ _ _ _ _ _)) | (repeat (first | (with_reducible assumption) | (with_reducible refine ResAt.setCell ?_ _ _) | (with_reducible refine ResAt.drew ?_)))), (by (repeat (first | (with_reducible exact Below.refl _ _) | (with_reducible refine Below.alloc ?_ (by first | omega | (dsimp only; omega) | (simp <;> omega)) _) | (with_reducible refine Below.setCell ?_ (by first | omega | (dsimp only; omega) | (simp <;> omega)) _) | (with_reducible refine Below.drew ?_) | (with_reducible refine below_drewN ?_ _) | (with_reducible refine Below.trans ?_ (Below.mono (by assumption) (by first | omega | (dsimp only; omega) | (simp <;> omega))))))), (by first | (simp; done) | (simp; omega))⟩) | (exact ⟨(by simp [go_sem, *]), (by simp [go_sem, *]), (by simp [go_sem, *]), (by first | (with_reducible exact ResAt.drew (ResAt.new5 _ _ _ _ _ _ _)) | (repeat (first | (with_reducible assumption) | (with_reducible refine ResAt.setCell ?_ _ _) | (with_reducible refine ResAt.drew ?_)))), (by (repeat (first | (with_reducible exact Below.refl _ _) | (with_reducible refine Below.alloc ?_ (by first | omega | (dsimp only; omega) | (simp <;> omega)) _) | (with_reducible refine Below.setCell ?_ (by first | omega | (dsimp only; omega) | (simp <;> omega)) _) | (with_reducible refine Below.drew ?_) | (with_reducible refine below_drewN ?_ _) | (with_reducible refine Below.trans ?_ (Below.mono (by assumption) (by first | omega | (dsimp only; omega) | (simp <;> omega))))))), (by first | (simp; done) | (simp; omega))⟩) | (go_split_ands; exact ⟨(by rw [hb.cell (by dsimp only; omega)]; assumption), (by rw [hb.cell (by dsimp only; omega)]; assumption), (by rw [hb.cell (by dsimp only; omega)]; assumption), (ResAt.below (by assumption) hb (by omega)), (Below.trans (by assumption) (hb.mono (by omega))), (by have := hb.size; omega)⟩))
    (first | fail))) | fail "region"
  go_split_ands
  go_wp2_with (go_at_call 8; refine (verr_any 8 _).mono ?_; rintro e w2 ⟨rfl, hb2⟩; obtain ⟨hc, hf, hz⟩ := bkeep hb2 (w.heap.size + 1) (by omega); have hr2 := ResAt.below (R := w.heap.size) (k := 5) (by assumption) hb2 (by omega); have hq2 := Below.trans (B := w.heap.size) (by assumption) (hb2.mono (by omega)); clear hc hf)
  try simp only [resAt_setCell] at *
  refine bodyPost_ret (v := .agg #[.int .i64 4, .int .i64 0, .string ⟨#[]⟩, .bool false, .int .i64 (errC 8)]) ?_ rfl ⟨rfl, by first | assumption | (go_split_ands; first | assumption | ((repeat (first | (with_reducible exact Below.refl _ _) | (with_reducible refine Below.alloc ?_ (by first | omega | (dsimp only; omega) | (simp <;> omega)) _) | (with_reducible refine Below.setCell ?_ (by first | omega | (dsimp only; omega) | (simp <;> omega)) _) | (with_reducible refine Below.drew ?_) | (with_reducible refine below_drewN ?_ _) | (with_reducible refine Below.trans ?_ (Below.mono (by assumption) (by first | omega | (dsimp only; omega) | (simp <;> omega)))))); done)) | ((repeat (first | (with_reducible exact Below.refl _ _) | (with_reducible refine Below.alloc ?_ (by first | omega | (dsimp only; omega) | (simp <;> omega)) _) | (with_reducible refine Below.setCell ?_ (by first | omega | (dsimp only; omega) | (simp <;> omega)) _) | (with_reducible refine Below.drew ?_) | (with_reducible refine below_drewN ?_ _) | (with_reducible refine Below.trans ?_ (Below.mono (by assumption) (by first | omega | (dsimp only; omega) | (simp <;> omega)))))); done)⟩
  simp [results, Tryz.results52, go_sem, *]
set_option maxRecDepth 100000 in
set_option maxHeartbeats 1000000 in
theorem do_CLAMP (x : Int) (hx : -9223372036854775807 ≤ x ∧ x ≤ 9223372036854775807) (y : Int) (hy : -9223372036854775807 ≤ y ∧ y ≤ 9223372036854775807) (z : Int) (hz : -9223372036854775807 ≤ z ∧ z ≤ 9223372036854775807) (h : ¬ z < y) (w : World) (gb n cap : Nat) (hg : gb < w.heap.size) (hn : 3 ≤ n) (_hcap : n ≤ cap) (c0 : w.cell? ⟨gb, 0, none⟩ = some (.int .i64 x)) (c1 : w.cell? ⟨gb, 1, none⟩ = some (.int .i64 y)) (c2 : w.cell? ⟨gb, 2, none⟩ = some (.int .i64 z)) : Calls Tryz.prog 52 #[.slice (some ⟨gb, 0, none⟩) n cap] w fun e w' => e = .returned (.agg #[.int .i64 (numT (min (max x y) z)), .int .i64 (numN (min (max x y) z)), .string ⟨#[]⟩, .bool false, .int .i64 (numF (min (max x y) z))]) ∧ Below w.heap.size w w' := by
  have hne : gb ≠ w.heap.size := by omega
  have hi0 : (0 : Int) < (n : Int) := by omega
  have hj0 : 0 < n := by omega
  have hi1 : (1 : Int) < (n : Int) := by omega
  have hj1 : 1 < n := by omega
  have hi2 : (2 : Int) < (n : Int) := by omega
  have hj2 : 2 < n := by omega
  go_enter Tryz.func52, Tryz.ntmps52
  go_wp2_with fail
  first | (go_loud (go_region_held3 (fun w' => w'.cell? ⟨gb, 0, none⟩ = some (.int .i64 x) ∧ w'.cell? ⟨gb, 1, none⟩ = some (.int .i64 y) ∧ w'.cell? ⟨gb, 2, none⟩ = some (.int .i64 z) ∧ ResAt w' (w.heap.size) 5 ∧ Below w.heap.size w w' ∧ w.heap.size + 1 ≤ w'.heap.size)
    (first | (go_split_ands; exact ⟨(by simp [go_sem, *]), (by simp [go_sem, *]), (by simp [go_sem, *]), (by first | (with_reducible exact ResAt.drew (ResAt.new5 _ _ _ _ _ _ _)) | (repeat (first | (with_reducible assumption) | (with_reducible refine ResAt.setCell ?_ _ _) | (with_reducible refine ResAt.drew ?_)))), (by (repeat (first | (with_reducible exact Below.refl _ _) | (with_reducible refine Below.alloc ?_ (by first | omega | (dsimp only; omega) | (simp <;> omega)) _) | (with_reducible refine Below.setCell ?_ (by first | omega | (dsimp only; omega) | (simp <;> omega)) _) | (with_reducible refine Below.drew ?_) | (with_reducible refine below_drewN ?_ _) | (with_reducible refine Below.trans ?_ (Below.mono (by assumption) (by first | omega | (dsimp only; omega) | (simp <;> omega))))))), (by first | (simp; done) | (simp; omega))⟩) | (exact ⟨(by simp [go_sem, *]), (by simp [go_sem, *]), (by simp [go_sem, *]), (by first | (with_reducible exact ResAt.drew (ResAt.new5 _ _ _ _ _ _ _)) | (repeat (first | (with_reducible assumption) | (with_reducible refine ResAt.setCell ?_ _ _) | (with_reducible refine ResAt.drew ?_)))), (by (repeat (first | (with_reducible exact Below.refl _ _) | (with_reducible refine Below.alloc ?_ (by first | omega | (dsimp only; omega) | (simp <;> omega)) _) | (with_reducible refine Below.setCell ?_ (by first | omega | (dsimp only; omega) | (simp <;> omega)) _) | (with_reducible refine Below.drew ?_) | (with_reducible refine below_drewN ?_ _) | (with_reducible refine Below.trans ?_ (Below.mono (by assumption) (by first | omega | (dsimp only; omega) | (simp <;> omega))))))), (by first | (simp; done) | (simp; omega))⟩) | (go_split_ands; exact ⟨(by rw [hb.cell (by dsimp only; omega)]; assumption), (by rw [hb.cell (by dsimp only; omega)]; assumption), (by rw [hb.cell (by dsimp only; omega)]; assumption), (ResAt.below (by assumption) hb (by omega)), (Below.trans (by assumption) (hb.mono (by omega))), (by have := hb.size; omega)⟩))
    (first | fail))) | fail "region"
  go_split_ands
  go_wp2_with fail
  first | (go_loud (go_region_held3 (fun w' => w'.cell? ⟨gb, 0, none⟩ = some (.int .i64 x) ∧ w'.cell? ⟨gb, 1, none⟩ = some (.int .i64 y) ∧ w'.cell? ⟨gb, 2, none⟩ = some (.int .i64 z) ∧ ResAt w' (w.heap.size) 5 ∧ Below w.heap.size w w' ∧ w.heap.size + 1 ≤ w'.heap.size)
    (first | (go_split_ands; exact ⟨(by simp [go_sem, *]), (by simp [go_sem, *]), (by simp [go_sem, *]), (by first | (with_reducible exact ResAt.drew (ResAt.new5 _ _ _ _ _ _ _)) | (repeat (first | (with_reducible assumption) | (with_reducible refine ResAt.setCell ?_ _ _) | (with_reducible refine ResAt.drew ?_)))), (by (repeat (first | (with_reducible exact Below.refl _ _) | (with_reducible refine Below.alloc ?_ (by first | omega | (dsimp only; omega) | (simp <;> omega)) _) | (with_reducible refine Below.setCell ?_ (by first | omega | (dsimp only; omega) | (simp <;> omega)) _) | (with_reducible refine Below.drew ?_) | (with_reducible refine below_drewN ?_ _) | (with_reducible refine Below.trans ?_ (Below.mono (by assumption) (by first | omega | (dsimp only; omega) | (simp <;> omega))))))), (by first | (simp; done) | (simp; omega))⟩) | (exact ⟨(by simp [go_sem, *]), (by simp [go_sem, *]), (by simp [go_sem, *]), (by first | (with_reducible exact ResAt.drew (ResAt.new5 _ _ _ _ _ _ _)) | (repeat (first | (with_reducible assumption) | (with_reducible refine ResAt.setCell ?_ _ _) | (with_reducible refine ResAt.drew ?_)))), (by (repeat (first | (with_reducible exact Below.refl _ _) | (with_reducible refine Below.alloc ?_ (by first | omega | (dsimp only; omega) | (simp <;> omega)) _) | (with_reducible refine Below.setCell ?_ (by first | omega | (dsimp only; omega) | (simp <;> omega)) _) | (with_reducible refine Below.drew ?_) | (with_reducible refine below_drewN ?_ _) | (with_reducible refine Below.trans ?_ (Below.mono (by assumption) (by first | omega | (dsimp only; omega) | (simp <;> omega))))))), (by first | (simp; done) | (simp; omega))⟩) | (go_split_ands; exact ⟨(by rw [hb.cell (by dsimp only; omega)]; assumption), (by rw [hb.cell (by dsimp only; omega)]; assumption), (by rw [hb.cell (by dsimp only; omega)]; assumption), (ResAt.below (by assumption) hb (by omega)), (Below.trans (by assumption) (hb.mono (by omega))), (by have := hb.size; omega)⟩))
    (first | (go_at_call 32; refine (vnum_any (min (max x y) z) (by omega) _).mono ?_; rintro e w1 ⟨rfl, hb⟩)))) | fail "region"
  go_split_ands
  go_wp2
  try simp only [resAt_setCell] at *
  refine bodyPost_ret (v := .agg #[.int .i64 (numT (min (max x y) z)), .int .i64 (numN (min (max x y) z)), .string ⟨#[]⟩, .bool false, .int .i64 (numF (min (max x y) z))]) ?_ rfl ⟨rfl, by first | assumption | (go_split_ands; first | assumption | ((repeat (first | (with_reducible exact Below.refl _ _) | (with_reducible refine Below.alloc ?_ (by first | omega | (dsimp only; omega) | (simp <;> omega)) _) | (with_reducible refine Below.setCell ?_ (by first | omega | (dsimp only; omega) | (simp <;> omega)) _) | (with_reducible refine Below.drew ?_) | (with_reducible refine below_drewN ?_ _) | (with_reducible refine Below.trans ?_ (Below.mono (by assumption) (by first | omega | (dsimp only; omega) | (simp <;> omega)))))); done)) | ((repeat (first | (with_reducible exact Below.refl _ _) | (with_reducible refine Below.alloc ?_ (by first | omega | (dsimp only; omega) | (simp <;> omega)) _) | (with_reducible refine Below.setCell ?_ (by first | omega | (dsimp only; omega) | (simp <;> omega)) _) | (with_reducible refine Below.drew ?_) | (with_reducible refine below_drewN ?_ _) | (with_reducible refine Below.trans ?_ (Below.mono (by assumption) (by first | omega | (dsimp only; omega) | (simp <;> omega)))))); done)⟩
  simp [results, Tryz.results52, go_sem, *]
set_option maxRecDepth 100000 in
set_option maxHeartbeats 1000000 in
theorem do_ODD0 (x : Int) (hx : -9223372036854775807 ≤ x ∧ x ≤ 9223372036854775807) (v : Int) (h : wholeB x = false) (hv : wholeV x = v) (w : World) (gb n cap : Nat) (hg : gb < w.heap.size) (hn : 1 ≤ n) (_hcap : n ≤ cap) (c0 : w.cell? ⟨gb, 0, none⟩ = some (.int .i64 x)) : Calls Tryz.prog 53 #[.slice (some ⟨gb, 0, none⟩) n cap] w fun e w' => e = .returned (.agg #[.int .i64 4, .int .i64 0, .string ⟨#[]⟩, .bool false, .int .i64 (errC 8)]) ∧ Below w.heap.size w w' := by
  have hne : gb ≠ w.heap.size := by omega
  have hi0 : (0 : Int) < (n : Int) := by omega
  have hj0 : 0 < n := by omega
  have H := whole_any x (by omega) (w.alloc (.cells #[.int .i64 0, .int .i64 0, .string ⟨#[]⟩, .bool false, .int .i64 0] 26))
  rw [h, hv] at H
  have H' := Lib.hid H
  clear H h hv
  go_enter Tryz.func53, Tryz.ntmps53
  go_wp2_with fail
  refine H'.out.mono ?_
  rintro e w' ⟨rfl, rfl⟩
  go_wp2_with (go_at_call 8; refine (verr_any 8 _).mono ?_; rintro e w1 ⟨rfl, hb⟩; obtain ⟨hc, hf, hz⟩ := bkeep hb (w.heap.size + 1) (by first | omega | (simp <;> omega)))
  try simp only [resAt_setCell] at *
  refine bodyPost_ret (v := .agg #[.int .i64 4, .int .i64 0, .string ⟨#[]⟩, .bool false, .int .i64 (errC 8)]) ?_ rfl ⟨rfl, by first | assumption | (go_split_ands; first | assumption | ((repeat (first | (with_reducible exact Below.refl _ _) | (with_reducible refine Below.alloc ?_ (by first | omega | (dsimp only; omega) | (simp <;> omega)) _) | (with_reducible refine Below.setCell ?_ (by first | omega | (dsimp only; omega) | (simp <;> omega)) _) | (with_reducible refine Below.drew ?_) | (with_reducible refine below_drewN ?_ _) | (with_reducible refine Below.trans ?_ (Below.mono (by assumption) (by first | omega | (dsimp only; omega) | (simp <;> omega)))))); done)) | ((repeat (first | (with_reducible exact Below.refl _ _) | (with_reducible refine Below.alloc ?_ (by first | omega | (dsimp only; omega) | (simp <;> omega)) _) | (with_reducible refine Below.setCell ?_ (by first | omega | (dsimp only; omega) | (simp <;> omega)) _) | (with_reducible refine Below.drew ?_) | (with_reducible refine below_drewN ?_ _) | (with_reducible refine Below.trans ?_ (Below.mono (by assumption) (by first | omega | (dsimp only; omega) | (simp <;> omega)))))); done)⟩
  simp [results, Tryz.results53, go_sem, *]
theorem and_one (v : Int) (_hv : -9223372036854775808 ≤ v ∧ v ≤ 9223372036854775807) : bits .and .i64 v 1 = if v % 2 = 1 then 1 else 0 := by
  have e : bits .and .i64 v 1 = (BitVec.ofInt 64 v &&& 1#64).toInt := by
    unfold bits
    show IntKind.i64.wrap ((BitVec.ofInt 64 v &&& BitVec.ofInt 64 1).toNat : Int) = _
    rw [BitVec.toInt_eq_toNat_bmod]
    have h := (BitVec.ofInt 64 v &&& 1#64).isLt
    show IntKind.i64.wrap ((BitVec.ofInt 64 v &&& 1#64).toNat : Int) = _
    generalize (BitVec.ofInt 64 v &&& 1#64).toNat = n at *
    rw [IntKind.wrap_i64, Int.bmod_def]
    omega
  have hm : (BitVec.ofInt 64 v &&& 1#64).toNat = (BitVec.ofInt 64 v).toNat % 2 := by
    rw [BitVec.toNat_and]; exact Nat.and_one_is_mod _
  have ht : (BitVec.ofInt 64 v).toNat = (v % 18446744073709551616).toNat := by rw [BitVec.toNat_ofInt]; rfl
  rw [e, BitVec.toInt_eq_toNat_bmod, hm, ht, Int.bmod_def]
  split <;> omega
set_option maxRecDepth 100000 in
set_option maxHeartbeats 1000000 in
theorem do_ODDY (x : Int) (hx : -9223372036854775807 ≤ x ∧ x ≤ 9223372036854775807) (v : Int) (h : wholeB x = true) (hv : wholeV x = v) (ho : decide (v % 2 = 1) = true) (w : World) (gb n cap : Nat) (hg : gb < w.heap.size) (hn : 1 ≤ n) (_hcap : n ≤ cap) (c0 : w.cell? ⟨gb, 0, none⟩ = some (.int .i64 x)) : Calls Tryz.prog 53 #[.slice (some ⟨gb, 0, none⟩) n cap] w fun e w' => e = .returned (.agg #[.int .i64 3, .int .i64 0, .string ⟨#[]⟩, .bool true, .int .i64 0]) ∧ Below w.heap.size w w' := by
  have hne : gb ≠ w.heap.size := by omega
  have hi0 : (0 : Int) < (n : Int) := by omega
  have hj0 : 0 < n := by omega
  have hvb : -9223372036854775808 ≤ v ∧ v ≤ 9223372036854775807 := by rw [← hv]; exact wholeV_in x (by omega)
  have ha := and_one v hvb
  rw [show (if v % 2 = 1 then (1 : Int) else 0) = 1 by simp at ho; first | rw [if_pos ho] | rw [if_neg ho]] at ha
  have H := whole_any x (by omega) (w.alloc (.cells #[.int .i64 0, .int .i64 0, .string ⟨#[]⟩, .bool false, .int .i64 0] 26))
  rw [h, hv] at H
  have H' := Lib.hid H
  clear H h hv ho
  go_enter Tryz.func53, Tryz.ntmps53
  go_wp2_with fail
  refine H'.out.mono ?_
  rintro e w' ⟨rfl, rfl⟩
  go_wp2_with (go_at_call 92; refine (vtruth_any true _).mono ?_; rintro e w1 ⟨rfl, hb⟩; obtain ⟨hc, hf, hz⟩ := bkeep hb (w.heap.size + 1) (by first | omega | (simp <;> omega)))
  try simp only [resAt_setCell] at *
  refine bodyPost_ret (v := .agg #[.int .i64 3, .int .i64 0, .string ⟨#[]⟩, .bool true, .int .i64 0]) ?_ rfl ⟨rfl, by first | assumption | (go_split_ands; first | assumption | ((repeat (first | (with_reducible exact Below.refl _ _) | (with_reducible refine Below.alloc ?_ (by first | omega | (dsimp only; omega) | (simp <;> omega)) _) | (with_reducible refine Below.setCell ?_ (by first | omega | (dsimp only; omega) | (simp <;> omega)) _) | (with_reducible refine Below.drew ?_) | (with_reducible refine below_drewN ?_ _) | (with_reducible refine Below.trans ?_ (Below.mono (by assumption) (by first | omega | (dsimp only; omega) | (simp <;> omega)))))); done)) | ((repeat (first | (with_reducible exact Below.refl _ _) | (with_reducible refine Below.alloc ?_ (by first | omega | (dsimp only; omega) | (simp <;> omega)) _) | (with_reducible refine Below.setCell ?_ (by first | omega | (dsimp only; omega) | (simp <;> omega)) _) | (with_reducible refine Below.drew ?_) | (with_reducible refine below_drewN ?_ _) | (with_reducible refine Below.trans ?_ (Below.mono (by assumption) (by first | omega | (dsimp only; omega) | (simp <;> omega)))))); done)⟩
  simp [results, Tryz.results53, go_sem, *]
set_option maxRecDepth 100000 in
set_option maxHeartbeats 1000000 in
theorem do_ODDN (x : Int) (hx : -9223372036854775807 ≤ x ∧ x ≤ 9223372036854775807) (v : Int) (h : wholeB x = true) (hv : wholeV x = v) (ho : decide (v % 2 = 1) = false) (w : World) (gb n cap : Nat) (hg : gb < w.heap.size) (hn : 1 ≤ n) (_hcap : n ≤ cap) (c0 : w.cell? ⟨gb, 0, none⟩ = some (.int .i64 x)) : Calls Tryz.prog 53 #[.slice (some ⟨gb, 0, none⟩) n cap] w fun e w' => e = .returned (.agg #[.int .i64 3, .int .i64 0, .string ⟨#[]⟩, .bool false, .int .i64 0]) ∧ Below w.heap.size w w' := by
  have hne : gb ≠ w.heap.size := by omega
  have hi0 : (0 : Int) < (n : Int) := by omega
  have hj0 : 0 < n := by omega
  have hvb : -9223372036854775808 ≤ v ∧ v ≤ 9223372036854775807 := by rw [← hv]; exact wholeV_in x (by omega)
  have ha := and_one v hvb
  rw [show (if v % 2 = 1 then (1 : Int) else 0) = 0 by simp at ho; first | rw [if_pos ho] | rw [if_neg ho]] at ha
  have H := whole_any x (by omega) (w.alloc (.cells #[.int .i64 0, .int .i64 0, .string ⟨#[]⟩, .bool false, .int .i64 0] 26))
  rw [h, hv] at H
  have H' := Lib.hid H
  clear H h hv ho
  go_enter Tryz.func53, Tryz.ntmps53
  go_wp2_with fail
  refine H'.out.mono ?_
  rintro e w' ⟨rfl, rfl⟩
  go_wp2_with (go_at_call 92; refine (vtruth_any false _).mono ?_; rintro e w1 ⟨rfl, hb⟩; obtain ⟨hc, hf, hz⟩ := bkeep hb (w.heap.size + 1) (by first | omega | (simp <;> omega)))
  try simp only [resAt_setCell] at *
  refine bodyPost_ret (v := .agg #[.int .i64 3, .int .i64 0, .string ⟨#[]⟩, .bool false, .int .i64 0]) ?_ rfl ⟨rfl, by first | assumption | (go_split_ands; first | assumption | ((repeat (first | (with_reducible exact Below.refl _ _) | (with_reducible refine Below.alloc ?_ (by first | omega | (dsimp only; omega) | (simp <;> omega)) _) | (with_reducible refine Below.setCell ?_ (by first | omega | (dsimp only; omega) | (simp <;> omega)) _) | (with_reducible refine Below.drew ?_) | (with_reducible refine below_drewN ?_ _) | (with_reducible refine Below.trans ?_ (Below.mono (by assumption) (by first | omega | (dsimp only; omega) | (simp <;> omega)))))); done)) | ((repeat (first | (with_reducible exact Below.refl _ _) | (with_reducible refine Below.alloc ?_ (by first | omega | (dsimp only; omega) | (simp <;> omega)) _) | (with_reducible refine Below.setCell ?_ (by first | omega | (dsimp only; omega) | (simp <;> omega)) _) | (with_reducible refine Below.drew ?_) | (with_reducible refine below_drewN ?_ _) | (with_reducible refine Below.trans ?_ (Below.mono (by assumption) (by first | omega | (dsimp only; omega) | (simp <;> omega)))))); done)⟩
  simp [results, Tryz.results53, go_sem, *]
end Go.Proofs.YthobaffgllipfaaGreat
