/-
  the document's nums: functions of one number, of two.
-/
import Derived.Test.YthobaffgllipfaaGreatRows
import Derived.Test.YthobaffgllipfaaGreatBase
import Derived.Test.YthobaffgllipfaaGreatMapK
import Derived.Test.YthobaffgllipfaaGreatNFind
import Derived.Test.YthobaffgllipfaaGreatMg3
import Derived.Test.YthobaffgllipfaaGreatValA
import Derived.Test.YthobaffgllipfaaGreatValB
import Derived.Test.YthobaffgllipfaaGreatDecS
import Derived.Test.YthobaffgllipfaaGreatValC
import Derived.Test.YthobaffgllipfaaGreatAddrC
import Derived.Test.YthobaffgllipfaaGreatMg9
import Derived.Test.YthobaffgllipfaaGreatDMod
import Derived.Test.YthobaffgllipfaaGreatDFlo
import Derived.Test.YthobaffgllipfaaGreatProg
import Derived.Test.YthobaffgllipfaaGreatMg12
import Derived.Test.YthobaffgllipfaaGreatDRnd
import Derived.Test.YthobaffgllipfaaGreatMg14
import Derived.Test.YthobaffgllipfaaGreatKnuth
import Derived.Test.YthobaffgllipfaaGreatDDiv
import Derived.Test.YthobaffgllipfaaGreatMg17
import Derived.Test.YthobaffgllipfaaGreatNDoA
import Derived.Test.YthobaffgllipfaaGreatNDoB
import Derived.Test.YthobaffgllipfaaGreatNDoC
import Derived.Test.YthobaffgllipfaaGreatMg21
import Derived.Test.YthobaffgllipfaaGreatNCall
import Derived.Test.YthobaffgllipfaaGreatValL
import Derived.Test.YthobaffgllipfaaGreatNCallK
import Derived.Test.YthobaffgllipfaaGreatNCallB
import Derived.Test.YthobaffgllipfaaGreatNDoF
import Derived.Test.YthobaffgllipfaaGreatMg27
import Derived.Test.YthobaffgllipfaaGreatNDoQ
import Derived.Test.YthobaffgllipfaaGreatNDoP
import Derived.Test.YthobaffgllipfaaGreatNDoAt2
import Derived.Test.YthobaffgllipfaaGreatDPowB
import Derived.Test.YthobaffgllipfaaGreatDPowC
import Derived.Test.YthobaffgllipfaaGreatNDoAt3
import Derived.Test.YthobaffgllipfaaGreatR8A
import Derived.Test.YthobaffgllipfaaGreatR8B
import Derived.Test.YthobaffgllipfaaGreatMg36
import Derived.Test.YthobaffgllipfaaGreatRGrD
import Derived.Test.YthobaffgllipfaaGreatMg38
import Derived.Test.YthobaffgllipfaaGreatMg39
import Derived.Test.YthobaffgllipfaaGreatRQuo
import Derived.Test.YthobaffgllipfaaGreatRPow
import Derived.Test.YthobaffgllipfaaGreatRPowJ
import Derived.WalkSpells
import Derived.WalkLawsBesides
import Derived.StillTactics
import Derived.Laws.Pointers
import Derived.Deep.RegionHeld3
import Derived.Deep.QuietTactic
import Derived.BigQuiet
import Derived.RowKit3
import Derived.Lib.Hide
import Derived.Lib.OthersKept
import Derived.OwnWalk
import Derived.Lib.IndexLaws
import Derived.Lib.ItoaMem
import Derived.WalkKit
import Derived.ProofKit
import Derived.OpenShut
import Derived.Carry
import Derived.ChangeSame
import Derived.Deep.Draws
import Derived.Maps.OwnSet
import Derived.Maps.AppendAt
import Derived.Laws.EntriesVeiled
import Derived.Laws.BitsAllLaws
import Derived.Shelf.Small.Bits
import Derived.Shelf.Strconv.Itoa0
import Derived.Shelf.Bits.Mul64
import Derived.Lib.TrimByte
import Derived.Lib.Bytealg
import Derived.Lib.SlTrimSet
import Derived.Lib.ParseIntB
import Derived.Shelf.Strings.SlTrimAscii
import Derived.Lib.SmallJoins
import Derived.Deep.RegionWith
import Derived.Laws.Externs
import Derived.Laws.AppendOwnNone
namespace Go.Proofs.YthobaffgllipfaaGreat
open Go.RowKit

set_option maxRecDepth 100000 in
set_option maxHeartbeats 1000000 in
theorem r8abs_n (x : Int) (hx : -9223372036854775807 ≤ x ∧ x ≤ 9223372036854775807) (h : x < 0) (w : World) : Calls Tryz.prog 19 #[.string ⟨#[65, 66, 83]⟩, .int .i64 x] w fun e w' => e = .returned (.agg #[.int .i64 (numT (-x)), .int .i64 (numN (-x)), .string ⟨#[]⟩, .bool false, .int .i64 (numF (-x))]) ∧ Below w.heap.size w w' := by
  have hneg : IntKind.i64.wrap (-x) = -x := IntWalk.i64_in _ (by omega)
  go_enter Tryz.func19, Tryz.ntmps19
  go_wp2_with (go_at_call 18; refine (rvnum_any (-x) (by first | assumption | omega) _).mono ?_; rintro e w1 ⟨rfl, hb⟩; obtain ⟨hc, hf, hz⟩ := bkeep hb (w.heap.size + 1) (by first | omega | (simp <;> omega)))
  refine bodyPost_ret (v := .agg #[.int .i64 (numT (-x)), .int .i64 (numN (-x)), .string ⟨#[]⟩, .bool false, .int .i64 (numF (-x))]) ?_ rfl ⟨rfl, by (repeat (first | (with_reducible exact Below.refl _ _) | (with_reducible refine Below.alloc ?_ (by first | omega | (dsimp only; omega) | (simp <;> omega)) _) | (with_reducible refine Below.setCell ?_ (by first | omega | (dsimp only; omega) | (simp <;> omega)) _) | (with_reducible refine Below.drew ?_) | (with_reducible refine below_drewN ?_ _) | (with_reducible refine Below.trans ?_ (Below.mono (by assumption) (by first | omega | (dsimp only; omega) | (simp <;> omega))))))⟩
  simp [results, Tryz.results19, go_sem, *]
set_option maxRecDepth 100000 in
set_option maxHeartbeats 1000000 in
theorem r8abs_p (x : Int) (hx : -9223372036854775807 ≤ x ∧ x ≤ 9223372036854775807) (h : ¬ x < 0) (w : World) : Calls Tryz.prog 19 #[.string ⟨#[65, 66, 83]⟩, .int .i64 x] w fun e w' => e = .returned (.agg #[.int .i64 (numT x), .int .i64 (numN x), .string ⟨#[]⟩, .bool false, .int .i64 (numF x)]) ∧ Below w.heap.size w w' := by
  go_enter Tryz.func19, Tryz.ntmps19
  go_wp2_with (go_at_call 18; refine (rvnum_any x (by first | assumption | omega) _).mono ?_; rintro e w1 ⟨rfl, hb⟩; obtain ⟨hc, hf, hz⟩ := bkeep hb (w.heap.size + 1) (by first | omega | (simp <;> omega)))
  refine bodyPost_ret (v := .agg #[.int .i64 (numT x), .int .i64 (numN x), .string ⟨#[]⟩, .bool false, .int .i64 (numF x)]) ?_ rfl ⟨rfl, by (repeat (first | (with_reducible exact Below.refl _ _) | (with_reducible refine Below.alloc ?_ (by first | omega | (dsimp only; omega) | (simp <;> omega)) _) | (with_reducible refine Below.setCell ?_ (by first | omega | (dsimp only; omega) | (simp <;> omega)) _) | (with_reducible refine Below.drew ?_) | (with_reducible refine below_drewN ?_ _) | (with_reducible refine Below.trans ?_ (Below.mono (by assumption) (by first | omega | (dsimp only; omega) | (simp <;> omega))))))⟩
  simp [results, Tryz.results19, go_sem, *]
theorem r8one_ABS (x : Int) (hx : -9223372036854775807 ≤ x ∧ x ≤ 9223372036854775807) (w : World) : Calls Tryz.prog 19 #[.string ⟨#[65, 66, 83]⟩, .int .i64 x] w fun e w' => e = .returned (.agg #[.int .i64 (numL (max x (-x))).t, .int .i64 (numL (max x (-x))).n, .string (numL (max x (-x))).s, .bool (numL (max x (-x))).b, .int .i64 (numL (max x (-x))).c]) ∧ Below w.heap.size w w' := by
  by_cases h : x < 0
  · have e : max x (-x) = -x := by omega
    rw [e]; exact r8abs_n x hx h w
  · have e : max x (-x) = x := by omega
    rw [e]; exact r8abs_p x hx h w
set_option maxRecDepth 100000 in
set_option maxHeartbeats 1000000 in
theorem r8sign_p (x : Int) (_hx : -9223372036854775807 ≤ x ∧ x ≤ 9223372036854775807) (h : 0 < x) (w : World) : Calls Tryz.prog 19 #[.string ⟨#[83, 73, 71, 78]⟩, .int .i64 x] w fun e w' => e = .returned (.agg #[.int .i64 (numT 10000), .int .i64 (numN 10000), .string ⟨#[]⟩, .bool false, .int .i64 (numF 10000)]) ∧ Below w.heap.size w w' := by
  go_enter Tryz.func19, Tryz.ntmps19
  go_wp2_with (go_at_call 18; refine (rvnum_any 10000 (by first | assumption | omega) _).mono ?_; rintro e w1 ⟨rfl, hb⟩; obtain ⟨hc, hf, hz⟩ := bkeep hb (w.heap.size + 1) (by first | omega | (simp <;> omega)))
  refine bodyPost_ret (v := .agg #[.int .i64 (numT 10000), .int .i64 (numN 10000), .string ⟨#[]⟩, .bool false, .int .i64 (numF 10000)]) ?_ rfl ⟨rfl, by (repeat (first | (with_reducible exact Below.refl _ _) | (with_reducible refine Below.alloc ?_ (by first | omega | (dsimp only; omega) | (simp <;> omega)) _) | (with_reducible refine Below.setCell ?_ (by first | omega | (dsimp only; omega) | (simp <;> omega)) _) | (with_reducible refine Below.drew ?_) | (with_reducible refine below_drewN ?_ _) | (with_reducible refine Below.trans ?_ (Below.mono (by assumption) (by first | omega | (dsimp only; omega) | (simp <;> omega))))))⟩
  simp [results, Tryz.results19, go_sem, *]
set_option maxRecDepth 100000 in
set_option maxHeartbeats 1000000 in
theorem r8sign_n (x : Int) (hx : -9223372036854775807 ≤ x ∧ x ≤ 9223372036854775807) (h : x < 0) (w : World) : Calls Tryz.prog 19 #[.string ⟨#[83, 73, 71, 78]⟩, .int .i64 x] w fun e w' => e = .returned (.agg #[.int .i64 (numT (-10000)), .int .i64 (numN (-10000)), .string ⟨#[]⟩, .bool false, .int .i64 (numF (-10000))]) ∧ Below w.heap.size w w' := by
  have h2 : ¬ 0 < x := by omega
  go_enter Tryz.func19, Tryz.ntmps19
  go_wp2_with (go_at_call 18; refine (rvnum_any (-10000) (by first | assumption | omega) _).mono ?_; rintro e w1 ⟨rfl, hb⟩; obtain ⟨hc, hf, hz⟩ := bkeep hb (w.heap.size + 1) (by first | omega | (simp <;> omega)))
  refine bodyPost_ret (v := .agg #[.int .i64 (numT (-10000)), .int .i64 (numN (-10000)), .string ⟨#[]⟩, .bool false, .int .i64 (numF (-10000))]) ?_ rfl ⟨rfl, by (repeat (first | (with_reducible exact Below.refl _ _) | (with_reducible refine Below.alloc ?_ (by first | omega | (dsimp only; omega) | (simp <;> omega)) _) | (with_reducible refine Below.setCell ?_ (by first | omega | (dsimp only; omega) | (simp <;> omega)) _) | (with_reducible refine Below.drew ?_) | (with_reducible refine below_drewN ?_ _) | (with_reducible refine Below.trans ?_ (Below.mono (by assumption) (by first | omega | (dsimp only; omega) | (simp <;> omega))))))⟩
  simp [results, Tryz.results19, go_sem, *]
set_option maxRecDepth 100000 in
set_option maxHeartbeats 1000000 in
theorem r8sign_z (x : Int) (hx : -9223372036854775807 ≤ x ∧ x ≤ 9223372036854775807) (h : x = 0) (w : World) : Calls Tryz.prog 19 #[.string ⟨#[83, 73, 71, 78]⟩, .int .i64 x] w fun e w' => e = .returned (.agg #[.int .i64 (numT 0), .int .i64 (numN 0), .string ⟨#[]⟩, .bool false, .int .i64 (numF 0)]) ∧ Below w.heap.size w w' := by
  subst h
  go_enter Tryz.func19, Tryz.ntmps19
  go_wp2_with (go_at_call 18; refine (rvnum_any 0 (by first | assumption | omega) _).mono ?_; rintro e w1 ⟨rfl, hb⟩; obtain ⟨hc, hf, hz⟩ := bkeep hb (w.heap.size + 1) (by first | omega | (simp <;> omega)))
  refine bodyPost_ret (v := .agg #[.int .i64 (numT 0), .int .i64 (numN 0), .string ⟨#[]⟩, .bool false, .int .i64 (numF 0)]) ?_ rfl ⟨rfl, by (repeat (first | (with_reducible exact Below.refl _ _) | (with_reducible refine Below.alloc ?_ (by first | omega | (dsimp only; omega) | (simp <;> omega)) _) | (with_reducible refine Below.setCell ?_ (by first | omega | (dsimp only; omega) | (simp <;> omega)) _) | (with_reducible refine Below.drew ?_) | (with_reducible refine below_drewN ?_ _) | (with_reducible refine Below.trans ?_ (Below.mono (by assumption) (by first | omega | (dsimp only; omega) | (simp <;> omega))))))⟩
  simp [results, Tryz.results19, go_sem, *]
theorem r8one_SIGN (x : Int) (hx : -9223372036854775807 ≤ x ∧ x ≤ 9223372036854775807) (w : World) : Calls Tryz.prog 19 #[.string ⟨#[83, 73, 71, 78]⟩, .int .i64 x] w fun e w' => e = .returned (.agg #[.int .i64 (signL x).t, .int .i64 (signL x).n, .string (signL x).s, .bool (signL x).b, .int .i64 (signL x).c]) ∧ Below w.heap.size w w' := by
  unfold signL
  by_cases h : 0 < x
  · rw [if_pos h]; exact r8sign_p x hx h w
  by_cases h2 : x < 0
  · rw [if_neg h, if_pos h2]; exact r8sign_n x hx h2 w
  · rw [if_neg h, if_neg h2]; exact r8sign_z x hx (by omega) w
set_option maxRecDepth 100000 in
set_option maxHeartbeats 1000000 in
theorem r8one_INT (x : Int) (hx : -9223372036854775807 ≤ x ∧ x ≤ 9223372036854775807) (w : World) : Calls Tryz.prog 19 #[.string ⟨#[73, 78, 84]⟩, .int .i64 x] w fun e w' => e = .returned (.agg #[.int .i64 (toldL (floorV x) (floorC x)).t, .int .i64 (toldL (floorV x) (floorC x)).n, .string (toldL (floorV x) (floorC x)).s, .bool (toldL (floorV x) (floorC x)).b, .int .i64 (toldL (floorV x) (floorC x)).c]) ∧ Below w.heap.size w w' := by
  go_enter Tryz.func19, Tryz.ntmps19
  go_wp2_with (first | (go_at_call 62; refine (rfloor_any x (by omega) _).mono ?_; rintro e w1 ⟨rfl, rfl⟩) | (go_at_call 61; refine (r8told_any (floorV x) (floorV_in x) (floorC x) _).mono ?_; rintro e w1 ⟨rfl, hb⟩; obtain ⟨hc, hf, hz⟩ := bkeep hb (w.heap.size + 1) (by first | omega | (simp <;> omega))))
  refine bodyPost_ret (v := .agg #[.int .i64 (toldL (floorV x) (floorC x)).t, .int .i64 (toldL (floorV x) (floorC x)).n, .string (toldL (floorV x) (floorC x)).s, .bool (toldL (floorV x) (floorC x)).b, .int .i64 (toldL (floorV x) (floorC x)).c]) ?_ rfl ⟨rfl, by (repeat (first | (with_reducible exact Below.refl _ _) | (with_reducible refine Below.alloc ?_ (by first | omega | (dsimp only; omega) | (simp <;> omega)) _) | (with_reducible refine Below.setCell ?_ (by first | omega | (dsimp only; omega) | (simp <;> omega)) _) | (with_reducible refine Below.drew ?_) | (with_reducible refine below_drewN ?_ _) | (with_reducible refine Below.trans ?_ (Below.mono (by assumption) (by first | omega | (dsimp only; omega) | (simp <;> omega))))))⟩
  simp [results, Tryz.results19, go_sem, *]
set_option maxRecDepth 100000 in
set_option maxHeartbeats 1000000 in
theorem r8one_SQRT (x : Int) (hx : -9223372036854775807 ≤ x ∧ x ≤ 9223372036854775807) (w : World) : Calls Tryz.prog 19 #[.string ⟨#[83, 81, 82, 84]⟩, .int .i64 x] w fun e w' => e = .returned (.agg #[.int .i64 (toldL (sqrtV x) (sqrtC x)).t, .int .i64 (toldL (sqrtV x) (sqrtC x)).n, .string (toldL (sqrtV x) (sqrtC x)).s, .bool (toldL (sqrtV x) (sqrtC x)).b, .int .i64 (toldL (sqrtV x) (sqrtC x)).c]) ∧ Below w.heap.size w w' := by
  go_enter Tryz.func19, Tryz.ntmps19
  go_wp2_with (first | (go_at_call 63; refine (rsqrt_any x (by omega) _).mono ?_; rintro e w1 ⟨rfl, hb⟩; obtain ⟨hc, hf, hz⟩ := bkeep hb (w.heap.size + 1) (by first | omega | (simp <;> omega))) | (go_at_call 61; refine (r8told_any (sqrtV x) (sqrtV_in x (by omega)) (sqrtC x) _).mono ?_; rintro e w1 ⟨rfl, hb⟩; obtain ⟨hc, hf, hz⟩ := bkeep hb (w.heap.size + 1) (by first | omega | (simp <;> omega))))
  refine bodyPost_ret (v := .agg #[.int .i64 (toldL (sqrtV x) (sqrtC x)).t, .int .i64 (toldL (sqrtV x) (sqrtC x)).n, .string (toldL (sqrtV x) (sqrtC x)).s, .bool (toldL (sqrtV x) (sqrtC x)).b, .int .i64 (toldL (sqrtV x) (sqrtC x)).c]) ?_ rfl ⟨rfl, by (repeat (first | (with_reducible exact Below.refl _ _) | (with_reducible refine Below.alloc ?_ (by first | omega | (dsimp only; omega) | (simp <;> omega)) _) | (with_reducible refine Below.setCell ?_ (by first | omega | (dsimp only; omega) | (simp <;> omega)) _) | (with_reducible refine Below.drew ?_) | (with_reducible refine below_drewN ?_ _) | (with_reducible refine Below.trans ?_ (Below.mono (by assumption) (by first | omega | (dsimp only; omega) | (simp <;> omega))))))⟩
  simp [results, Tryz.results19, go_sem, *]
set_option maxRecDepth 100000 in
set_option maxHeartbeats 1000000 in
theorem r8one_FACT (x : Int) (hx : -9223372036854775807 ≤ x ∧ x ≤ 9223372036854775807) (w : World) : Calls Tryz.prog 19 #[.string ⟨#[70, 65, 67, 84]⟩, .int .i64 x] w fun e w' => e = .returned (.agg #[.int .i64 (factL x).t, .int .i64 (factL x).n, .string (factL x).s, .bool (factL x).b, .int .i64 (factL x).c]) ∧ Below w.heap.size w w' := by
  go_enter Tryz.func19, Tryz.ntmps19
  go_wp2_with (go_at_call 64; refine (r8fact_any x hx _).mono ?_; rintro e w1 ⟨rfl, hb⟩; obtain ⟨hc, hf, hz⟩ := bkeep hb (w.heap.size + 1) (by first | omega | (simp <;> omega)))
  refine bodyPost_ret (v := .agg #[.int .i64 (factL x).t, .int .i64 (factL x).n, .string (factL x).s, .bool (factL x).b, .int .i64 (factL x).c]) ?_ rfl ⟨rfl, by (repeat (first | (with_reducible exact Below.refl _ _) | (with_reducible refine Below.alloc ?_ (by first | omega | (dsimp only; omega) | (simp <;> omega)) _) | (with_reducible refine Below.setCell ?_ (by first | omega | (dsimp only; omega) | (simp <;> omega)) _) | (with_reducible refine Below.drew ?_) | (with_reducible refine below_drewN ?_ _) | (with_reducible refine Below.trans ?_ (Below.mono (by assumption) (by first | omega | (dsimp only; omega) | (simp <;> omega))))))⟩
  simp [results, Tryz.results19, go_sem, *]
set_option maxRecDepth 100000 in
set_option maxHeartbeats 1000000 in
theorem r8odd_no (x : Int) (_hx : -9223372036854775807 ≤ x ∧ x ≤ 9223372036854775807) (m : Int) (hm : x.tmod 10000 = m) (h4 : (m != 0) = true) (w : World) : Calls Tryz.prog 19 #[.string ⟨#[79, 68, 68]⟩, .int .i64 x] w fun e w' => e = .returned (.agg #[.int .i64 4, .int .i64 0, .string ⟨#[]⟩, .bool false, .int .i64 (errC 8)]) ∧ Below w.heap.size w w' := by
  have hmr : -10000 < m ∧ m < 10000 := by have := tmod_lt x 10000 (by omega); omega
  go_enter Tryz.func19, Tryz.ntmps19
  go_wp2_with (go_at_call 14; refine (rverr_any 8 _).mono ?_; rintro e w1 ⟨rfl, hb⟩; obtain ⟨hc, hf, hz⟩ := bkeep hb (w.heap.size + 1) (by first | omega | (simp <;> omega)))
  refine bodyPost_ret (v := .agg #[.int .i64 4, .int .i64 0, .string ⟨#[]⟩, .bool false, .int .i64 (errC 8)]) ?_ rfl ⟨rfl, by (repeat (first | (with_reducible exact Below.refl _ _) | (with_reducible refine Below.alloc ?_ (by first | omega | (dsimp only; omega) | (simp <;> omega)) _) | (with_reducible refine Below.setCell ?_ (by first | omega | (dsimp only; omega) | (simp <;> omega)) _) | (with_reducible refine Below.drew ?_) | (with_reducible refine below_drewN ?_ _) | (with_reducible refine Below.trans ?_ (Below.mono (by assumption) (by first | omega | (dsimp only; omega) | (simp <;> omega))))))⟩
  simp [results, Tryz.results19, go_sem, *]
set_option maxRecDepth 100000 in
set_option maxHeartbeats 1000000 in
theorem r8odd_yes (x : Int) (_hx : -9223372036854775807 ≤ x ∧ x ≤ 9223372036854775807) (hm : x.tmod 10000 = 0) (q : Int) (hq : x.tdiv 10000 = q) (hqb : -9223372036854775808 ≤ q ∧ q ≤ 9223372036854775807) (z : Bool) (hz : (q.tmod 2 != 0) = z) (w : World) : Calls Tryz.prog 19 #[.string ⟨#[79, 68, 68]⟩, .int .i64 x] w fun e w' => e = .returned (.agg #[.int .i64 3, .int .i64 0, .string ⟨#[]⟩, .bool z, .int .i64 0]) ∧ Below w.heap.size w w' := by
  have hw : IntKind.i64.wrap q = q := IntWalk.i64_in _ (by omega)
  have hq2 := tmod_lt q 2 (by omega)
  go_enter Tryz.func19, Tryz.ntmps19
  go_wp2_with (go_at_call 65; refine (rvtruth_any z _).mono ?_; rintro e w1 ⟨rfl, hb⟩; obtain ⟨hc, hf, hz⟩ := bkeep hb (w.heap.size + 1) (by first | omega | (simp <;> omega)))
  refine bodyPost_ret (v := .agg #[.int .i64 3, .int .i64 0, .string ⟨#[]⟩, .bool z, .int .i64 0]) ?_ rfl ⟨rfl, by (repeat (first | (with_reducible exact Below.refl _ _) | (with_reducible refine Below.alloc ?_ (by first | omega | (dsimp only; omega) | (simp <;> omega)) _) | (with_reducible refine Below.setCell ?_ (by first | omega | (dsimp only; omega) | (simp <;> omega)) _) | (with_reducible refine Below.drew ?_) | (with_reducible refine below_drewN ?_ _) | (with_reducible refine Below.trans ?_ (Below.mono (by assumption) (by first | omega | (dsimp only; omega) | (simp <;> omega))))))⟩
  simp [results, Tryz.results19, go_sem, *]
theorem r8one_ODD (x : Int) (hx : -9223372036854775807 ≤ x ∧ x ≤ 9223372036854775807) (w : World) : Calls Tryz.prog 19 #[.string ⟨#[79, 68, 68]⟩, .int .i64 x] w fun e w' => e = .returned (.agg #[.int .i64 (oddL x).t, .int .i64 (oddL x).n, .string (oddL x).s, .bool (oddL x).b, .int .i64 (oddL x).c]) ∧ Below w.heap.size w w' := by
  unfold oddL
  by_cases hm : x.tmod 10000 = 0
  · have hb : wholeB x = true := by rw [whole_eq x hx.1]; simp [hm]
    have hv : wholeV x = x.tdiv 10000 := by unfold wholeV; rw [if_pos ⟨by omega, hm⟩]
    have h4 := Int.mul_tdiv_add_tmod x 10000
    rw [if_pos hb, hv]
    refine r8odd_yes x hx hm _ rfl (by omega) _ ?_ w
    rw [Bool.eq_iff_iff]; simp
  · have hb : wholeB x = false := by rw [whole_eq x hx.1]; simp [hm]
    rw [if_neg (by rw [hb]; simp)]
    exact r8odd_no x hx _ rfl (by simpa using hm) w
set_option maxRecDepth 100000 in
set_option maxHeartbeats 1000000 in
theorem r8round_no (x : Int) (_hx : -9223372036854775807 ≤ x ∧ x ≤ 9223372036854775807) (y : Int) (_hy : -9223372036854775807 ≤ y ∧ y ≤ 9223372036854775807) (m : Int) (hm : y.tmod 10000 = m) (h4 : (m != 0) = true) (w : World) : Calls Tryz.prog 20 #[.string ⟨#[82, 79, 85, 78, 68]⟩, .int .i64 x, .int .i64 y] w fun e w' => e = .returned (.agg #[.int .i64 4, .int .i64 0, .string ⟨#[]⟩, .bool false, .int .i64 (errC 8)]) ∧ Below w.heap.size w w' := by
  have hmr : -10000 < m ∧ m < 10000 := by have := tmod_lt y 10000 (by omega); omega
  go_enter Tryz.func20, Tryz.ntmps20
  go_wp2_with (go_at_call 14; refine (rverr_any 8 _).mono ?_; rintro e w1 ⟨rfl, hb⟩; obtain ⟨hc, hf, hz⟩ := bkeep hb (w.heap.size + 1) (by first | omega | (simp <;> omega)))
  refine bodyPost_ret (v := .agg #[.int .i64 4, .int .i64 0, .string ⟨#[]⟩, .bool false, .int .i64 (errC 8)]) ?_ rfl ⟨rfl, by (repeat (first | (with_reducible exact Below.refl _ _) | (with_reducible refine Below.alloc ?_ (by first | omega | (dsimp only; omega) | (simp <;> omega)) _) | (with_reducible refine Below.setCell ?_ (by first | omega | (dsimp only; omega) | (simp <;> omega)) _) | (with_reducible refine Below.drew ?_) | (with_reducible refine below_drewN ?_ _) | (with_reducible refine Below.trans ?_ (Below.mono (by assumption) (by first | omega | (dsimp only; omega) | (simp <;> omega))))))⟩
  simp [results, Tryz.results20, go_sem, *]
set_option maxRecDepth 100000 in
set_option maxHeartbeats 1000000 in
theorem r8round_yes (x : Int) (hx : -9223372036854775807 ≤ x ∧ x ≤ 9223372036854775807) (y : Int) (_hy : -9223372036854775807 ≤ y ∧ y ≤ 9223372036854775807) (hm : y.tmod 10000 = 0) (q : Int) (hq : y.tdiv 10000 = q) (hqb : -9223372036854775808 ≤ q ∧ q ≤ 9223372036854775807) (w : World) : Calls Tryz.prog 20 #[.string ⟨#[82, 79, 85, 78, 68]⟩, .int .i64 x, .int .i64 y] w fun e w' => e = .returned (.agg #[.int .i64 (toldL (roundV x q) (roundC x q)).t, .int .i64 (toldL (roundV x q) (roundC x q)).n, .string (toldL (roundV x q) (roundC x q)).s, .bool (toldL (roundV x q) (roundC x q)).b, .int .i64 (toldL (roundV x q) (roundC x q)).c]) ∧ Below w.heap.size w w' := by
  have hw : IntKind.i64.wrap q = q := IntWalk.i64_in _ (by omega)
  go_enter Tryz.func20, Tryz.ntmps20
  go_wp2_with (first | (go_at_call 67; refine (rround_any x (by omega) q (by omega) _).mono ?_; rintro e w1 ⟨rfl, hb⟩; obtain ⟨hc, hf, hz⟩ := bkeep hb (w.heap.size + 1) (by first | omega | (simp <;> omega))) | (go_at_call 61; refine (r8told_any (roundV x q) (roundV_in x q (by omega)) (roundC x q) _).mono ?_; rintro e w1 ⟨rfl, hb⟩; obtain ⟨hc, hf, hz⟩ := bkeep hb (w.heap.size + 1) (by first | omega | (simp <;> omega))))
  refine bodyPost_ret (v := .agg #[.int .i64 (toldL (roundV x q) (roundC x q)).t, .int .i64 (toldL (roundV x q) (roundC x q)).n, .string (toldL (roundV x q) (roundC x q)).s, .bool (toldL (roundV x q) (roundC x q)).b, .int .i64 (toldL (roundV x q) (roundC x q)).c]) ?_ rfl ⟨rfl, by (repeat (first | (with_reducible exact Below.refl _ _) | (with_reducible refine Below.alloc ?_ (by first | omega | (dsimp only; omega) | (simp <;> omega)) _) | (with_reducible refine Below.setCell ?_ (by first | omega | (dsimp only; omega) | (simp <;> omega)) _) | (with_reducible refine Below.drew ?_) | (with_reducible refine below_drewN ?_ _) | (with_reducible refine Below.trans ?_ (Below.mono (by assumption) (by first | omega | (dsimp only; omega) | (simp <;> omega))))))⟩
  simp [results, Tryz.results20, go_sem, *]
theorem r8two_ROUND (x : Int) (hx : -9223372036854775807 ≤ x ∧ x ≤ 9223372036854775807) (y : Int) (hy : -9223372036854775807 ≤ y ∧ y ≤ 9223372036854775807) (w : World) : Calls Tryz.prog 20 #[.string ⟨#[82, 79, 85, 78, 68]⟩, .int .i64 x, .int .i64 y] w fun e w' => e = .returned (.agg #[.int .i64 (if wholeB y = true then toldL (roundV x (wholeV y)) (roundC x (wholeV y)) else errL 8).t, .int .i64 (if wholeB y = true then toldL (roundV x (wholeV y)) (roundC x (wholeV y)) else errL 8).n, .string (if wholeB y = true then toldL (roundV x (wholeV y)) (roundC x (wholeV y)) else errL 8).s, .bool (if wholeB y = true then toldL (roundV x (wholeV y)) (roundC x (wholeV y)) else errL 8).b, .int .i64 (if wholeB y = true then toldL (roundV x (wholeV y)) (roundC x (wholeV y)) else errL 8).c]) ∧ Below w.heap.size w w' := by
  by_cases hm : y.tmod 10000 = 0
  · have hb : wholeB y = true := by rw [whole_eq y hy.1]; simp [hm]
    have hv : wholeV y = y.tdiv 10000 := by unfold wholeV; rw [if_pos ⟨by omega, hm⟩]
    have h4 := Int.mul_tdiv_add_tmod y 10000
    rw [if_pos hb, hv]
    exact r8round_yes x hx y hy hm _ rfl (by omega) w
  · have hb : wholeB y = false := by rw [whole_eq y hy.1]; simp [hm]
    rw [if_neg (by rw [hb]; simp)]
    exact r8round_no x hx y hy _ rfl (by simpa using hm) w
set_option maxRecDepth 100000 in
set_option maxHeartbeats 1000000 in
theorem r8power_no (x : Int) (_hx : -9223372036854775807 ≤ x ∧ x ≤ 9223372036854775807) (y : Int) (_hy : -9223372036854775807 ≤ y ∧ y ≤ 9223372036854775807) (m : Int) (hm : y.tmod 10000 = m) (h4 : (m != 0) = true) (w : World) : Calls Tryz.prog 20 #[.string ⟨#[80, 79, 87, 69, 82]⟩, .int .i64 x, .int .i64 y] w fun e w' => e = .returned (.agg #[.int .i64 4, .int .i64 0, .string ⟨#[]⟩, .bool false, .int .i64 (errC 8)]) ∧ Below w.heap.size w w' := by
  have hmr : -10000 < m ∧ m < 10000 := by have := tmod_lt y 10000 (by omega); omega
  go_enter Tryz.func20, Tryz.ntmps20
  go_wp2_with (go_at_call 14; refine (rverr_any 8 _).mono ?_; rintro e w1 ⟨rfl, hb⟩; obtain ⟨hc, hf, hz⟩ := bkeep hb (w.heap.size + 1) (by first | omega | (simp <;> omega)))
  refine bodyPost_ret (v := .agg #[.int .i64 4, .int .i64 0, .string ⟨#[]⟩, .bool false, .int .i64 (errC 8)]) ?_ rfl ⟨rfl, by (repeat (first | (with_reducible exact Below.refl _ _) | (with_reducible refine Below.alloc ?_ (by first | omega | (dsimp only; omega) | (simp <;> omega)) _) | (with_reducible refine Below.setCell ?_ (by first | omega | (dsimp only; omega) | (simp <;> omega)) _) | (with_reducible refine Below.drew ?_) | (with_reducible refine below_drewN ?_ _) | (with_reducible refine Below.trans ?_ (Below.mono (by assumption) (by first | omega | (dsimp only; omega) | (simp <;> omega))))))⟩
  simp [results, Tryz.results20, go_sem, *]
set_option maxRecDepth 100000 in
set_option maxHeartbeats 1000000 in
theorem r8power_yes (x : Int) (hx : -9223372036854775807 ≤ x ∧ x ≤ 9223372036854775807) (y : Int) (_hy : -9223372036854775807 ≤ y ∧ y ≤ 9223372036854775807) (hm : y.tmod 10000 = 0) (q : Int) (hq : y.tdiv 10000 = q) (hqb : -9223372036854775808 ≤ q ∧ q ≤ 9223372036854775807) (w : World) : Calls Tryz.prog 20 #[.string ⟨#[80, 79, 87, 69, 82]⟩, .int .i64 x, .int .i64 y] w fun e w' => e = .returned (.agg #[.int .i64 (toldL (powerV x q) (powerC x q)).t, .int .i64 (toldL (powerV x q) (powerC x q)).n, .string (toldL (powerV x q) (powerC x q)).s, .bool (toldL (powerV x q) (powerC x q)).b, .int .i64 (toldL (powerV x q) (powerC x q)).c]) ∧ Below w.heap.size w w' := by
  have hw : IntKind.i64.wrap q = q := IntWalk.i64_in _ (by omega)
  go_enter Tryz.func20, Tryz.ntmps20
  go_wp2_with (first | (go_at_call 68; refine (rpower_any x q (by omega) _).mono ?_; rintro e w1 ⟨rfl, hb⟩; obtain ⟨hc, hf, hz⟩ := bkeep hb (w.heap.size + 1) (by first | omega | (simp <;> omega))) | (go_at_call 61; refine (r8told_any (powerV x q) (powerV_in x q) (powerC x q) _).mono ?_; rintro e w1 ⟨rfl, hb⟩; obtain ⟨hc, hf, hz⟩ := bkeep hb (w.heap.size + 1) (by first | omega | (simp <;> omega))))
  refine bodyPost_ret (v := .agg #[.int .i64 (toldL (powerV x q) (powerC x q)).t, .int .i64 (toldL (powerV x q) (powerC x q)).n, .string (toldL (powerV x q) (powerC x q)).s, .bool (toldL (powerV x q) (powerC x q)).b, .int .i64 (toldL (powerV x q) (powerC x q)).c]) ?_ rfl ⟨rfl, by (repeat (first | (with_reducible exact Below.refl _ _) | (with_reducible refine Below.alloc ?_ (by first | omega | (dsimp only; omega) | (simp <;> omega)) _) | (with_reducible refine Below.setCell ?_ (by first | omega | (dsimp only; omega) | (simp <;> omega)) _) | (with_reducible refine Below.drew ?_) | (with_reducible refine below_drewN ?_ _) | (with_reducible refine Below.trans ?_ (Below.mono (by assumption) (by first | omega | (dsimp only; omega) | (simp <;> omega))))))⟩
  simp [results, Tryz.results20, go_sem, *]
theorem r8two_POWER (x : Int) (hx : -9223372036854775807 ≤ x ∧ x ≤ 9223372036854775807) (y : Int) (hy : -9223372036854775807 ≤ y ∧ y ≤ 9223372036854775807) (w : World) : Calls Tryz.prog 20 #[.string ⟨#[80, 79, 87, 69, 82]⟩, .int .i64 x, .int .i64 y] w fun e w' => e = .returned (.agg #[.int .i64 (if wholeB y = true then toldL (powerV x (wholeV y)) (powerC x (wholeV y)) else errL 8).t, .int .i64 (if wholeB y = true then toldL (powerV x (wholeV y)) (powerC x (wholeV y)) else errL 8).n, .string (if wholeB y = true then toldL (powerV x (wholeV y)) (powerC x (wholeV y)) else errL 8).s, .bool (if wholeB y = true then toldL (powerV x (wholeV y)) (powerC x (wholeV y)) else errL 8).b, .int .i64 (if wholeB y = true then toldL (powerV x (wholeV y)) (powerC x (wholeV y)) else errL 8).c]) ∧ Below w.heap.size w w' := by
  by_cases hm : y.tmod 10000 = 0
  · have hb : wholeB y = true := by rw [whole_eq y hy.1]; simp [hm]
    have hv : wholeV y = y.tdiv 10000 := by unfold wholeV; rw [if_pos ⟨by omega, hm⟩]
    have h4 := Int.mul_tdiv_add_tmod y 10000
    rw [if_pos hb, hv]
    exact r8power_yes x hx y hy hm _ rfl (by omega) w
  · have hb : wholeB y = false := by rw [whole_eq y hy.1]; simp [hm]
    rw [if_neg (by rw [hb]; simp)]
    exact r8power_no x hx y hy _ rfl (by simpa using hm) w
set_option maxRecDepth 100000 in
set_option maxHeartbeats 1000000 in
theorem r8trunc_no (x : Int) (_hx : -9223372036854775807 ≤ x ∧ x ≤ 9223372036854775807) (y : Int) (_hy : -9223372036854775807 ≤ y ∧ y ≤ 9223372036854775807) (m : Int) (hm : y.tmod 10000 = m) (h4 : (m != 0) = true) (w : World) : Calls Tryz.prog 20 #[.string ⟨#[84, 82, 85, 78, 67]⟩, .int .i64 x, .int .i64 y] w fun e w' => e = .returned (.agg #[.int .i64 4, .int .i64 0, .string ⟨#[]⟩, .bool false, .int .i64 (errC 8)]) ∧ Below w.heap.size w w' := by
  have hmr : -10000 < m ∧ m < 10000 := by have := tmod_lt y 10000 (by omega); omega
  go_enter Tryz.func20, Tryz.ntmps20
  go_wp2_with (go_at_call 14; refine (rverr_any 8 _).mono ?_; rintro e w1 ⟨rfl, hb⟩; obtain ⟨hc, hf, hz⟩ := bkeep hb (w.heap.size + 1) (by first | omega | (simp <;> omega)))
  refine bodyPost_ret (v := .agg #[.int .i64 4, .int .i64 0, .string ⟨#[]⟩, .bool false, .int .i64 (errC 8)]) ?_ rfl ⟨rfl, by (repeat (first | (with_reducible exact Below.refl _ _) | (with_reducible refine Below.alloc ?_ (by first | omega | (dsimp only; omega) | (simp <;> omega)) _) | (with_reducible refine Below.setCell ?_ (by first | omega | (dsimp only; omega) | (simp <;> omega)) _) | (with_reducible refine Below.drew ?_) | (with_reducible refine below_drewN ?_ _) | (with_reducible refine Below.trans ?_ (Below.mono (by assumption) (by first | omega | (dsimp only; omega) | (simp <;> omega))))))⟩
  simp [results, Tryz.results20, go_sem, *]
set_option maxRecDepth 100000 in
set_option maxHeartbeats 1000000 in
theorem r8trunc_yes (x : Int) (hx : -9223372036854775807 ≤ x ∧ x ≤ 9223372036854775807) (y : Int) (_hy : -9223372036854775807 ≤ y ∧ y ≤ 9223372036854775807) (hm : y.tmod 10000 = 0) (q : Int) (hq : y.tdiv 10000 = q) (hqb : -9223372036854775808 ≤ q ∧ q ≤ 9223372036854775807) (w : World) : Calls Tryz.prog 20 #[.string ⟨#[84, 82, 85, 78, 67]⟩, .int .i64 x, .int .i64 y] w fun e w' => e = .returned (.agg #[.int .i64 (toldL (truncV x q) (0)).t, .int .i64 (toldL (truncV x q) (0)).n, .string (toldL (truncV x q) (0)).s, .bool (toldL (truncV x q) (0)).b, .int .i64 (toldL (truncV x q) (0)).c]) ∧ Below w.heap.size w w' := by
  have hw : IntKind.i64.wrap q = q := IntWalk.i64_in _ (by omega)
  go_enter Tryz.func20, Tryz.ntmps20
  go_wp2_with (go_at_call 66; refine (r8trunc_any x q (by omega) hqb _).mono ?_; rintro e w1 ⟨rfl, hb⟩; obtain ⟨hc, hf, hz⟩ := bkeep hb (w.heap.size + 1) (by first | omega | (simp <;> omega)))
  refine bodyPost_ret (v := .agg #[.int .i64 (toldL (truncV x q) (0)).t, .int .i64 (toldL (truncV x q) (0)).n, .string (toldL (truncV x q) (0)).s, .bool (toldL (truncV x q) (0)).b, .int .i64 (toldL (truncV x q) (0)).c]) ?_ rfl ⟨rfl, by (repeat (first | (with_reducible exact Below.refl _ _) | (with_reducible refine Below.alloc ?_ (by first | omega | (dsimp only; omega) | (simp <;> omega)) _) | (with_reducible refine Below.setCell ?_ (by first | omega | (dsimp only; omega) | (simp <;> omega)) _) | (with_reducible refine Below.drew ?_) | (with_reducible refine below_drewN ?_ _) | (with_reducible refine Below.trans ?_ (Below.mono (by assumption) (by first | omega | (dsimp only; omega) | (simp <;> omega))))))⟩
  simp [results, Tryz.results20, go_sem, *]
theorem r8two_TRUNC (x : Int) (hx : -9223372036854775807 ≤ x ∧ x ≤ 9223372036854775807) (y : Int) (hy : -9223372036854775807 ≤ y ∧ y ≤ 9223372036854775807) (w : World) : Calls Tryz.prog 20 #[.string ⟨#[84, 82, 85, 78, 67]⟩, .int .i64 x, .int .i64 y] w fun e w' => e = .returned (.agg #[.int .i64 (if wholeB y = true then toldL (truncV x (wholeV y)) (0) else errL 8).t, .int .i64 (if wholeB y = true then toldL (truncV x (wholeV y)) (0) else errL 8).n, .string (if wholeB y = true then toldL (truncV x (wholeV y)) (0) else errL 8).s, .bool (if wholeB y = true then toldL (truncV x (wholeV y)) (0) else errL 8).b, .int .i64 (if wholeB y = true then toldL (truncV x (wholeV y)) (0) else errL 8).c]) ∧ Below w.heap.size w w' := by
  by_cases hm : y.tmod 10000 = 0
  · have hb : wholeB y = true := by rw [whole_eq y hy.1]; simp [hm]
    have hv : wholeV y = y.tdiv 10000 := by unfold wholeV; rw [if_pos ⟨by omega, hm⟩]
    have h4 := Int.mul_tdiv_add_tmod y 10000
    rw [if_pos hb, hv]
    exact r8trunc_yes x hx y hy hm _ rfl (by omega) w
  · have hb : wholeB y = false := by rw [whole_eq y hy.1]; simp [hm]
    rw [if_neg (by rw [hb]; simp)]
    exact r8trunc_no x hx y hy _ rfl (by simpa using hm) w
set_option maxRecDepth 100000 in
set_option maxHeartbeats 1000000 in
theorem r8two_FLOOR (x : Int) (hx : -9223372036854775807 ≤ x ∧ x ≤ 9223372036854775807) (y : Int) (hy : -9223372036854775807 ≤ y ∧ y ≤ 9223372036854775807) (w : World) : Calls Tryz.prog 20 #[.string ⟨#[70, 76, 79, 79, 82]⟩, .int .i64 x, .int .i64 y] w fun e w' => e = .returned (.agg #[.int .i64 (toldL (nfloorV x y) (nfloorC x y)).t, .int .i64 (toldL (nfloorV x y) (nfloorC x y)).n, .string (toldL (nfloorV x y) (nfloorC x y)).s, .bool (toldL (nfloorV x y) (nfloorC x y)).b, .int .i64 (toldL (nfloorV x y) (nfloorC x y)).c]) ∧ Below w.heap.size w w' := by
  go_enter Tryz.func20, Tryz.ntmps20
  go_wp2_with (first | (go_at_call 69; refine (r8floor_any x y hx (by omega) _).mono ?_; rintro e w1 ⟨rfl, rfl⟩) | (go_at_call 61; refine (r8told_any (nfloorV x y) (nfloorV_in x y) (nfloorC x y) _).mono ?_; rintro e w1 ⟨rfl, hb⟩; obtain ⟨hc, hf, hz⟩ := bkeep hb (w.heap.size + 1) (by first | omega | (simp <;> omega))))
  refine bodyPost_ret (v := .agg #[.int .i64 (toldL (nfloorV x y) (nfloorC x y)).t, .int .i64 (toldL (nfloorV x y) (nfloorC x y)).n, .string (toldL (nfloorV x y) (nfloorC x y)).s, .bool (toldL (nfloorV x y) (nfloorC x y)).b, .int .i64 (toldL (nfloorV x y) (nfloorC x y)).c]) ?_ rfl ⟨rfl, by (repeat (first | (with_reducible exact Below.refl _ _) | (with_reducible refine Below.alloc ?_ (by first | omega | (dsimp only; omega) | (simp <;> omega)) _) | (with_reducible refine Below.setCell ?_ (by first | omega | (dsimp only; omega) | (simp <;> omega)) _) | (with_reducible refine Below.drew ?_) | (with_reducible refine below_drewN ?_ _) | (with_reducible refine Below.trans ?_ (Below.mono (by assumption) (by first | omega | (dsimp only; omega) | (simp <;> omega))))))⟩
  simp [results, Tryz.results20, go_sem, *]
set_option maxRecDepth 100000 in
set_option maxHeartbeats 1000000 in
theorem r8two_CEIL (x : Int) (hx : -9223372036854775807 ≤ x ∧ x ≤ 9223372036854775807) (y : Int) (hy : -9223372036854775807 ≤ y ∧ y ≤ 9223372036854775807) (w : World) : Calls Tryz.prog 20 #[.string ⟨#[67, 69, 73, 76]⟩, .int .i64 x, .int .i64 y] w fun e w' => e = .returned (.agg #[.int .i64 (toldL (-(nfloorV (-x) y)) (nfloorC (-x) y)).t, .int .i64 (toldL (-(nfloorV (-x) y)) (nfloorC (-x) y)).n, .string (toldL (-(nfloorV (-x) y)) (nfloorC (-x) y)).s, .bool (toldL (-(nfloorV (-x) y)) (nfloorC (-x) y)).b, .int .i64 (toldL (-(nfloorV (-x) y)) (nfloorC (-x) y)).c]) ∧ Below w.heap.size w w' := by
  have hneg : IntKind.i64.wrap (-x) = -x := IntWalk.i64_in _ (by omega)
  have hnv := nfloorV_ne (-x) y
  have hnv2 := nfloorV_in (-x) y
  go_enter Tryz.func20, Tryz.ntmps20
  go_wp2_with (first | (go_at_call 69; refine (r8floor_any (-x) y (by omega) (by omega) _).mono ?_; rintro e w1 ⟨rfl, rfl⟩) | (go_at_call 61; refine (r8told_any (-(nfloorV (-x) y)) (by omega) (nfloorC (-x) y) _).mono ?_; rintro e w1 ⟨rfl, hb⟩; obtain ⟨hc, hf, hz⟩ := bkeep hb (w.heap.size + 1) (by first | omega | (simp <;> omega))))
  refine bodyPost_ret (v := .agg #[.int .i64 (toldL (-(nfloorV (-x) y)) (nfloorC (-x) y)).t, .int .i64 (toldL (-(nfloorV (-x) y)) (nfloorC (-x) y)).n, .string (toldL (-(nfloorV (-x) y)) (nfloorC (-x) y)).s, .bool (toldL (-(nfloorV (-x) y)) (nfloorC (-x) y)).b, .int .i64 (toldL (-(nfloorV (-x) y)) (nfloorC (-x) y)).c]) ?_ rfl ⟨rfl, by (repeat (first | (with_reducible exact Below.refl _ _) | (with_reducible refine Below.alloc ?_ (by first | omega | (dsimp only; omega) | (simp <;> omega)) _) | (with_reducible refine Below.setCell ?_ (by first | omega | (dsimp only; omega) | (simp <;> omega)) _) | (with_reducible refine Below.drew ?_) | (with_reducible refine below_drewN ?_ _) | (with_reducible refine Below.trans ?_ (Below.mono (by assumption) (by first | omega | (dsimp only; omega) | (simp <;> omega))))))⟩
  simp [results, Tryz.results20, go_sem, *]
set_option maxRecDepth 100000 in
set_option maxHeartbeats 1000000 in
theorem r8two_MOD (x : Int) (hx : -9223372036854775807 ≤ x ∧ x ≤ 9223372036854775807) (y : Int) (hy : -9223372036854775807 ≤ y ∧ y ≤ 9223372036854775807) (w : World) : Calls Tryz.prog 20 #[.string ⟨#[77, 79, 68]⟩, .int .i64 x, .int .i64 y] w fun e w' => e = .returned (.agg #[.int .i64 (toldL (modV x y) (modC x y)).t, .int .i64 (toldL (modV x y) (modC x y)).n, .string (toldL (modV x y) (modC x y)).s, .bool (toldL (modV x y) (modC x y)).b, .int .i64 (toldL (modV x y) (modC x y)).c]) ∧ Below w.heap.size w w' := by
  go_enter Tryz.func20, Tryz.ntmps20
  go_wp2_with (first | (go_at_call 70; refine (rmod_any x y (by omega) (by omega) _).mono ?_; rintro e w1 ⟨rfl, rfl⟩) | (go_at_call 61; refine (r8told_any (modV x y) (modV_in x y (by omega) (by omega)) (modC x y) _).mono ?_; rintro e w1 ⟨rfl, hb⟩; obtain ⟨hc, hf, hz⟩ := bkeep hb (w.heap.size + 1) (by first | omega | (simp <;> omega))))
  refine bodyPost_ret (v := .agg #[.int .i64 (toldL (modV x y) (modC x y)).t, .int .i64 (toldL (modV x y) (modC x y)).n, .string (toldL (modV x y) (modC x y)).s, .bool (toldL (modV x y) (modC x y)).b, .int .i64 (toldL (modV x y) (modC x y)).c]) ?_ rfl ⟨rfl, by (repeat (first | (with_reducible exact Below.refl _ _) | (with_reducible refine Below.alloc ?_ (by first | omega | (dsimp only; omega) | (simp <;> omega)) _) | (with_reducible refine Below.setCell ?_ (by first | omega | (dsimp only; omega) | (simp <;> omega)) _) | (with_reducible refine Below.drew ?_) | (with_reducible refine below_drewN ?_ _) | (with_reducible refine Below.trans ?_ (Below.mono (by assumption) (by first | omega | (dsimp only; omega) | (simp <;> omega))))))⟩
  simp [results, Tryz.results20, go_sem, *]
set_option maxRecDepth 100000 in
set_option maxHeartbeats 1000000 in
theorem r8quot_no (x : Int) (_hx : -9223372036854775807 ≤ x ∧ x ≤ 9223372036854775807) (y : Int) (hy : y = 0) (w : World) : Calls Tryz.prog 20 #[.string ⟨#[81, 85, 79, 84]⟩, .int .i64 x, .int .i64 y] w fun e w' => e = .returned (.agg #[.int .i64 4, .int .i64 0, .string ⟨#[]⟩, .bool false, .int .i64 (errC 3)]) ∧ Below w.heap.size w w' := by
  subst hy
  go_enter Tryz.func20, Tryz.ntmps20
  go_wp2_with (go_at_call 14; refine (rverr_any 3 _).mono ?_; rintro e w1 ⟨rfl, hb⟩; obtain ⟨hc, hf, hz⟩ := bkeep hb (w.heap.size + 1) (by first | omega | (simp <;> omega)))
  refine bodyPost_ret (v := .agg #[.int .i64 4, .int .i64 0, .string ⟨#[]⟩, .bool false, .int .i64 (errC 3)]) ?_ rfl ⟨rfl, by (repeat (first | (with_reducible exact Below.refl _ _) | (with_reducible refine Below.alloc ?_ (by first | omega | (dsimp only; omega) | (simp <;> omega)) _) | (with_reducible refine Below.setCell ?_ (by first | omega | (dsimp only; omega) | (simp <;> omega)) _) | (with_reducible refine Below.drew ?_) | (with_reducible refine below_drewN ?_ _) | (with_reducible refine Below.trans ?_ (Below.mono (by assumption) (by first | omega | (dsimp only; omega) | (simp <;> omega))))))⟩
  simp [results, Tryz.results20, go_sem, *]
set_option maxRecDepth 100000 in
set_option maxHeartbeats 1000000 in
theorem r8quot_true (x : Int) (hx : -9223372036854775807 ≤ x ∧ x ≤ 9223372036854775807) (y : Int) (hy : -9223372036854775807 ≤ y ∧ y ≤ 9223372036854775807) (h : y ≠ 0) (m k q : Nat) (hm : x.natAbs = m) (hk : y.natAbs = k) (hq : m / k = q) (hs : (!(decide (x < 0) == decide (y < 0))) = true) (w : World) : Calls Tryz.prog 20 #[.string ⟨#[81, 85, 79, 84]⟩, .int .i64 x, .int .i64 y] w fun e w' => e = .returned (.agg #[.int .i64 (wholeL q true).t, .int .i64 (wholeL q true).n, .string (wholeL q true).s, .bool (wholeL q true).b, .int .i64 (wholeL q true).c]) ∧ Below w.heap.size w w' := by
  have HX := Lib.hid (fun w2 : World => r8size_any x (by omega) (by omega) m hm w2)
  have HY := Lib.hid (fun w2 : World => r8size_any y (by omega) (by omega) k hk w2)
  have hk0 : 0 < k := by omega
  have hqm : q ≤ m := by rw [← hq]; exact Nat.div_le_self _ _
  have hmb : m < 18446744073709551616 := by omega
  have hkb : ((k : Int) == 0) = false := by simp; omega
  have hk1 : ¬ k = 0 := by omega
  have hq2 : (m : Int) / (k : Int) = (q : Int) := by rw [← hq]; simp
  clear hm hk hq
  go_enter Tryz.func20, Tryz.ntmps20
  go_wp2_with fail
  refine (HX.out _).mono ?_
  rintro e w' ⟨rfl, rfl⟩
  go_wp2_with fail
  refine (HY.out _).mono ?_
  rintro e w' ⟨rfl, rfl⟩
  go_wp2_with fail
  with_reducible refine (r8whole_any q (by omega) true _).mono ?_
  rintro e w1 ⟨rfl, hb⟩
  obtain ⟨hc, hf, hz⟩ := bkeep hb (w.heap.size + 1) (by first | omega | (simp <;> omega))
  go_wp2
  refine bodyPost_ret (v := .agg #[.int .i64 (wholeL q true).t, .int .i64 (wholeL q true).n, .string (wholeL q true).s, .bool (wholeL q true).b, .int .i64 (wholeL q true).c]) ?_ rfl ⟨rfl, by (repeat (first | (with_reducible exact Below.refl _ _) | (with_reducible refine Below.alloc ?_ (by first | omega | (dsimp only; omega) | (simp <;> omega)) _) | (with_reducible refine Below.setCell ?_ (by first | omega | (dsimp only; omega) | (simp <;> omega)) _) | (with_reducible refine Below.drew ?_) | (with_reducible refine below_drewN ?_ _) | (with_reducible refine Below.trans ?_ (Below.mono (by assumption) (by first | omega | (dsimp only; omega) | (simp <;> omega))))))⟩
  simp [results, Tryz.results20, go_sem, *]
set_option maxRecDepth 100000 in
set_option maxHeartbeats 1000000 in
theorem r8quot_false (x : Int) (hx : -9223372036854775807 ≤ x ∧ x ≤ 9223372036854775807) (y : Int) (hy : -9223372036854775807 ≤ y ∧ y ≤ 9223372036854775807) (h : y ≠ 0) (m k q : Nat) (hm : x.natAbs = m) (hk : y.natAbs = k) (hq : m / k = q) (hs : (!(decide (x < 0) == decide (y < 0))) = false) (w : World) : Calls Tryz.prog 20 #[.string ⟨#[81, 85, 79, 84]⟩, .int .i64 x, .int .i64 y] w fun e w' => e = .returned (.agg #[.int .i64 (wholeL q false).t, .int .i64 (wholeL q false).n, .string (wholeL q false).s, .bool (wholeL q false).b, .int .i64 (wholeL q false).c]) ∧ Below w.heap.size w w' := by
  have HX := Lib.hid (fun w2 : World => r8size_any x (by omega) (by omega) m hm w2)
  have HY := Lib.hid (fun w2 : World => r8size_any y (by omega) (by omega) k hk w2)
  have hk0 : 0 < k := by omega
  have hqm : q ≤ m := by rw [← hq]; exact Nat.div_le_self _ _
  have hmb : m < 18446744073709551616 := by omega
  have hkb : ((k : Int) == 0) = false := by simp; omega
  have hk1 : ¬ k = 0 := by omega
  have hq2 : (m : Int) / (k : Int) = (q : Int) := by rw [← hq]; simp
  clear hm hk hq
  go_enter Tryz.func20, Tryz.ntmps20
  go_wp2_with fail
  refine (HX.out _).mono ?_
  rintro e w' ⟨rfl, rfl⟩
  go_wp2_with fail
  refine (HY.out _).mono ?_
  rintro e w' ⟨rfl, rfl⟩
  go_wp2_with fail
  with_reducible refine (r8whole_any q (by omega) false _).mono ?_
  rintro e w1 ⟨rfl, hb⟩
  obtain ⟨hc, hf, hz⟩ := bkeep hb (w.heap.size + 1) (by first | omega | (simp <;> omega))
  go_wp2
  refine bodyPost_ret (v := .agg #[.int .i64 (wholeL q false).t, .int .i64 (wholeL q false).n, .string (wholeL q false).s, .bool (wholeL q false).b, .int .i64 (wholeL q false).c]) ?_ rfl ⟨rfl, by (repeat (first | (with_reducible exact Below.refl _ _) | (with_reducible refine Below.alloc ?_ (by first | omega | (dsimp only; omega) | (simp <;> omega)) _) | (with_reducible refine Below.setCell ?_ (by first | omega | (dsimp only; omega) | (simp <;> omega)) _) | (with_reducible refine Below.drew ?_) | (with_reducible refine below_drewN ?_ _) | (with_reducible refine Below.trans ?_ (Below.mono (by assumption) (by first | omega | (dsimp only; omega) | (simp <;> omega))))))⟩
  simp [results, Tryz.results20, go_sem, *]
theorem r8two_QUOT (x : Int) (hx : -9223372036854775807 ≤ x ∧ x ≤ 9223372036854775807) (y : Int) (hy : -9223372036854775807 ≤ y ∧ y ≤ 9223372036854775807) (w : World) : Calls Tryz.prog 20 #[.string ⟨#[81, 85, 79, 84]⟩, .int .i64 x, .int .i64 y] w fun e w' => e = .returned (.agg #[.int .i64 (quotL x y).t, .int .i64 (quotL x y).n, .string (quotL x y).s, .bool (quotL x y).b, .int .i64 (quotL x y).c]) ∧ Below w.heap.size w w' := by
  unfold quotL
  by_cases h : y = 0
  · rw [if_pos h]; exact r8quot_no x hx y h w
  · rw [if_neg h]
    cases hs : (decide (x < 0) != decide (y < 0))
    · exact r8quot_false x hx y hy h _ _ _ rfl rfl rfl hs w
    · exact r8quot_true x hx y hy h _ _ _ rfl rfl rfl hs w
end Go.Proofs.YthobaffgllipfaaGreat
