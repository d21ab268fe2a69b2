/-
  What the law NumsParts calls.
-/
import Derived.Test.YthobaffgllipfaaRows
import Derived.Test.YthobaffgllipfaaBase
import Derived.Test.YthobaffgllipfaaMapK
import Derived.Test.YthobaffgllipfaaNFind
import Derived.Test.YthobaffgllipfaaDecA
import Derived.Test.YthobaffgllipfaaValA
import Derived.Test.YthobaffgllipfaaValB
import Derived.Test.YthobaffgllipfaaDecS
import Derived.Test.YthobaffgllipfaaValC
import Derived.Test.YthobaffgllipfaaAddrC
import Derived.Test.YthobaffgllipfaaAddrI
import Derived.Test.YthobaffgllipfaaArgK
import Derived.Test.YthobaffgllipfaaDMod
import Derived.Test.YthobaffgllipfaaDFlo
import Derived.Test.YthobaffgllipfaaProg
import Derived.Test.YthobaffgllipfaaShelf
import Derived.Test.YthobaffgllipfaaDPrint
import Derived.Test.YthobaffgllipfaaDRnd
import Derived.Test.YthobaffgllipfaaDSqr
import Derived.Test.YthobaffgllipfaaKnuth
import Derived.Test.YthobaffgllipfaaDDiv
import Derived.Test.YthobaffgllipfaaDecK
import Derived.Test.YthobaffgllipfaaDDivA
import Derived.Test.YthobaffgllipfaaNDoA
import Derived.Test.YthobaffgllipfaaNDoB
import Derived.Test.YthobaffgllipfaaNDoC
import Derived.Test.YthobaffgllipfaaNDoD
import Derived.Test.YthobaffgllipfaaNDoE
import Derived.Test.YthobaffgllipfaaNCall
import Derived.Test.YthobaffgllipfaaValE
import Derived.Test.YthobaffgllipfaaValF
import Derived.Test.YthobaffgllipfaaValL
import Derived.Test.YthobaffgllipfaaNCallK
import Derived.Test.YthobaffgllipfaaNCallB
import Derived.Test.YthobaffgllipfaaNDoF
import Derived.Test.YthobaffgllipfaaNDoG
import Derived.Test.YthobaffgllipfaaNDoQ
import Derived.Test.YthobaffgllipfaaNDoAt
import Derived.Test.YthobaffgllipfaaArgS
import Derived.Test.YthobaffgllipfaaNLaw
import Derived.Test.YthobaffgllipfaaNKn
import Derived.Test.YthobaffgllipfaaLNDivA
import Derived.Test.YthobaffgllipfaaNDoP
import Derived.Test.YthobaffgllipfaaNDoAt2
import Derived.WalkSpells
import Derived.WalkLawsBesides
import Derived.StillTactics
import Derived.Laws.Pointers
import Derived.Deep.RegionHeld3
import Derived.Deep.QuietTactic
import Derived.BigQuiet
import Derived.RowKit3
import Derived.Lib.Hide
import Derived.Lib.OthersKept
import Derived.OwnWalk
import Derived.Lib.IndexLaws
import Derived.Lib.ItoaMem
import Derived.WalkKit
import Derived.ProofKit
import Derived.OpenShut
import Derived.Carry
import Derived.ChangeSame
import Derived.Deep.Draws
import Derived.Maps.OwnSet
import Derived.Maps.AppendAt
import Derived.Laws.EntriesVeiled
import Derived.Laws.BitsAllLaws
import Derived.Shelf.Small.Bits
import Derived.Shelf.Strconv.Itoa0
import Derived.Shelf.Bits.Mul64
import Derived.Lib.TrimByte
import Derived.Lib.Bytealg
import Derived.Lib.SlTrimSet
import Derived.Lib.ParseIntB
import Derived.Shelf.Strings.SlTrimAscii
import Derived.Lib.SmallJoins
import Derived.Deep.RegionWith
namespace Go.Proofs.Ythobaffgllipfaa
open Go.RowKit

theorem lists_one {x : Int} (hx : -9223372036854775807 ≤ x ∧ x ≤ 9223372036854775807) : ∀ u ∈ [x], -9223372036854775807 ≤ u ∧ u ≤ 9223372036854775807 := by
  intro u hu; simp at hu; subst hu; exact hx
theorem lists_three {x y z : Int} (hx : -9223372036854775807 ≤ x ∧ x ≤ 9223372036854775807) (hy : -9223372036854775807 ≤ y ∧ y ≤ 9223372036854775807) (hz : -9223372036854775807 ≤ z ∧ z ≤ 9223372036854775807) : ∀ u ∈ [x, y, z], -9223372036854775807 ≤ u ∧ u ≤ 9223372036854775807 := by
  intro u hu; simp at hu; rcases hu with rfl | rfl | rfl; exact hx; exact hy; exact hz
theorem modM_range (x s : Int) (hs : 0 < s) : 0 ≤ modM x s ∧ modM x s < s := by
  have hr := tmod_lt x s (by omega)
  unfold modM
  by_cases h4 : x.tmod s = 0
  · rw [if_neg (by intro hh; exact hh.1 h4), h4]; omega
  by_cases h5 : x.tmod s < 0
  · rw [if_pos (by simp [h4, h5]; omega)]; omega
  · rw [if_neg (by simp [h5]; omega)]; omega
theorem num_told (z : Int) (h : z ≠ -9223372036854775808) : toldL z 0 = nuL z := by
  unfold toldL numL nuL numT numN numF
  simp [h]
theorem floor_num (x s : Int) (hx : -4611686018427387904 < x ∧ x < 4611686018427387904) (hs : 0 < s ∧ s < 4611686018427387904) : nfloorV x s = x - modM x s ∧ nfloorC x s = 0 ∧ modV x s = modM x s ∧ modC x s = 0 := by
  have hm := modM_range x s hs.1
  have h1 : modV x s = modM x s := by unfold modV; rw [if_neg (by omega)]
  have h2 : modC x s = 0 := by unfold modC; rw [if_neg (by omega), if_neg (by omega)]
  refine ⟨?_, ?_, h1, h2⟩
  · unfold nfloorV; rw [if_neg (by omega), if_neg (by omega), h1]
    unfold subV exV; rw [if_neg (by omega), if_pos (by omega)]
  · unfold nfloorC; rw [if_neg (by omega), if_neg (by omega), h1]
    unfold subC exC; rw [if_neg (by omega), if_pos (by omega)]
theorem call_FLOOR (x s : Int) (hx : -4611686018427387904 < x ∧ x < 4611686018427387904) (hs : 0 < s ∧ s < 4611686018427387904) (z : Int) (hz : x - modM x s = z) (w : World) (b : Nat) (c0 : w.cell? ⟨b, 0, none⟩ = some (.int .i64 x)) (c1 : w.cell? ⟨b, 1, none⟩ = some (.int .i64 s)) (hlt : b < w.heap.size) : Calls Try.prog 15 #[.string ⟨#[70, 76, 79, 79, 82]⟩, .slice (some ⟨b, 0, none⟩) 2 2] w fun e w' => e = .returned (.agg #[.int .i64 1, .int .i64 z, .string ⟨#[]⟩, .bool false, .int .i64 0]) ∧ Below w.heap.size w w' := by
  have hm := modM_range x s hs.1
  obtain ⟨e1, e2, e3, e4⟩ := floor_num x s hx hs
  subst hz
  exact lcall_n ⟨#[70, 76, 79, 79, 82]⟩ (by decide) [x, s] (lists_two (by omega) (by omega)) (by simp) _ _ (by rw [e1, e2]; exact num_told _ (by omega)) 2 rfl (by decide +kernel) (at_FLOOR x (by omega) s (by omega)) w b 2 hlt (cells2 c0 c1)
theorem call_CEIL (x s : Int) (hx : -4611686018427387904 < x ∧ x < 4611686018427387904) (hs : 0 < s ∧ s < 4611686018427387904) (z : Int) (hz : x + modM (-x) s = z) (w : World) (b : Nat) (c0 : w.cell? ⟨b, 0, none⟩ = some (.int .i64 x)) (c1 : w.cell? ⟨b, 1, none⟩ = some (.int .i64 s)) (hlt : b < w.heap.size) : Calls Try.prog 15 #[.string ⟨#[67, 69, 73, 76]⟩, .slice (some ⟨b, 0, none⟩) 2 2] w fun e w' => e = .returned (.agg #[.int .i64 1, .int .i64 z, .string ⟨#[]⟩, .bool false, .int .i64 0]) ∧ Below w.heap.size w w' := by
  have hm := modM_range (-x) s hs.1
  obtain ⟨e1, e2, e3, e4⟩ := floor_num (-x) s (by omega) hs
  subst hz
  exact lcall_n ⟨#[67, 69, 73, 76]⟩ (by decide) [x, s] (lists_two (by omega) (by omega)) (by simp) _ _ (by rw [e1, e2, show -(-x - modM (-x) s) = x + modM (-x) s by omega]; exact num_told _ (by omega)) 2 rfl (by decide +kernel) (at_CEIL x (by omega) s (by omega)) w b 2 hlt (cells2 c0 c1)
theorem call_MOD (x s : Int) (hx : -4611686018427387904 < x ∧ x < 4611686018427387904) (hs : 0 < s ∧ s < 4611686018427387904) (z : Int) (hz : modM x s = z) (w : World) (b : Nat) (c0 : w.cell? ⟨b, 0, none⟩ = some (.int .i64 x)) (c1 : w.cell? ⟨b, 1, none⟩ = some (.int .i64 s)) (hlt : b < w.heap.size) : Calls Try.prog 15 #[.string ⟨#[77, 79, 68]⟩, .slice (some ⟨b, 0, none⟩) 2 2] w fun e w' => e = .returned (.agg #[.int .i64 1, .int .i64 z, .string ⟨#[]⟩, .bool false, .int .i64 0]) ∧ Below w.heap.size w w' := by
  have hm := modM_range x s hs.1
  obtain ⟨e1, e2, e3, e4⟩ := floor_num x s hx hs
  subst hz
  exact lcall_n ⟨#[77, 79, 68]⟩ (by decide) [x, s] (lists_two (by omega) (by omega)) (by simp) _ _ (by rw [e3, e4]; exact num_told _ (by omega)) 2 rfl (by decide +kernel) (at_MOD x (by omega) s (by omega)) w b 2 hlt (cells2 c0 c1)
theorem call_TRUNC (x s : Int) (hx : -4611686018427387904 < x ∧ x < 4611686018427387904) (hs : 0 < s ∧ s < 4611686018427387904) (z : Int) (hz : x.tdiv 10000 * 10000 = z) (w : World) (b : Nat) (c0 : w.cell? ⟨b, 0, none⟩ = some (.int .i64 x)) (hlt : b < w.heap.size) : Calls Try.prog 15 #[.string ⟨#[84, 82, 85, 78, 67]⟩, .slice (some ⟨b, 0, none⟩) 1 1] w fun e w' => e = .returned (.agg #[.int .i64 1, .int .i64 z, .string ⟨#[]⟩, .bool false, .int .i64 0]) ∧ Below w.heap.size w w' := by
  have hm := tdiv_mul_in x 10000 (by omega) (by omega)
  have hq : (x.tdiv 10000 * 10000).natAbs ≤ x.natAbs := by rw [Int.natAbs_mul, Int.natAbs_tdiv]; exact Nat.div_mul_le_self _ _
  have ht : truncV x 0 = x.tdiv 10000 * 10000 := by unfold truncV; rw [if_neg (by omega), if_neg (by omega)]; rfl
  subst hz
  exact lcall_n ⟨#[84, 82, 85, 78, 67]⟩ (by decide) [x] (lists_one (by omega)) (by simp) _ _ (by rw [ht]; exact num_told _ (by omega)) 1 rfl (by decide +kernel) (at_TRUNC1 x (by omega)) w b 1 hlt (cells1 c0)
theorem call_CLAMP (x s : Int) (hx : -4611686018427387904 < x ∧ x < 4611686018427387904) (hs : 0 < s ∧ s < 4611686018427387904) (z : Int) (hz : min (max x (-s)) s = z) (w : World) (b : Nat) (c0 : w.cell? ⟨b, 0, none⟩ = some (.int .i64 x)) (c1 : w.cell? ⟨b, 1, none⟩ = some (.int .i64 (-s))) (c2 : w.cell? ⟨b, 2, none⟩ = some (.int .i64 s)) (hlt : b < w.heap.size) : Calls Try.prog 15 #[.string ⟨#[67, 76, 65, 77, 80]⟩, .slice (some ⟨b, 0, none⟩) 3 3] w fun e w' => e = .returned (.agg #[.int .i64 1, .int .i64 z, .string ⟨#[]⟩, .bool false, .int .i64 0]) ∧ Below w.heap.size w w' := by
  have hn : min (max x (-s)) s ≠ -9223372036854775808 := by omega
  have hc : clampL x (-s) s = nuL (min (max x (-s)) s) := by
    unfold clampL numL nuL numT numN numF
    rw [if_neg (by omega)]
    simp only [if_neg hn]
  subst hz
  exact lcall_n ⟨#[67, 76, 65, 77, 80]⟩ (by decide) [x, (-s), s] (lists_three (by omega) (by omega) (by omega)) (by simp) _ _ (hc) 3 rfl (by decide +kernel) (at_CLAMP x (by omega) (-s) (by omega) s (by omega)) w b 3 hlt (cells3 c0 c1 c2)
theorem call_QUOT (x s : Int) (hx : -4611686018427387904 < x ∧ x < 4611686018427387904) (hs : 0 < s ∧ s < 4611686018427387904) (r : VL) (hr : quotL x s = r) (w : World) (b : Nat) (c0 : w.cell? ⟨b, 0, none⟩ = some (.int .i64 x)) (c1 : w.cell? ⟨b, 1, none⟩ = some (.int .i64 s)) (hlt : b < w.heap.size) : Calls Try.prog 15 #[.string ⟨#[81, 85, 79, 84]⟩, .slice (some ⟨b, 0, none⟩) 2 2] w fun e w' => e = .returned (.agg #[.int .i64 (r).t, .int .i64 (r).n, .string (r).s, .bool (r).b, .int .i64 (r).c]) ∧ Below w.heap.size w w' := by
  subst hr
  exact lcall_any ⟨#[81, 85, 79, 84]⟩ (by decide) [x, s] (lists_two (by omega) (by omega)) (by simp) _ (show takesN ⟨#[81, 85, 79, 84]⟩ 2 false = true by decide +kernel) (at_QUOT x (by omega) s (by omega)) w b 2 hlt (cells2 c0 c1)
theorem call_QUOTn (x s : Int) (hx : -4611686018427387904 < x ∧ x < 4611686018427387904) (hs : 0 < s ∧ s < 4611686018427387904) (y : Int) (hr : quotL x s = nuL y) (w : World) (b : Nat) (c0 : w.cell? ⟨b, 0, none⟩ = some (.int .i64 x)) (c1 : w.cell? ⟨b, 1, none⟩ = some (.int .i64 s)) (hlt : b < w.heap.size) : Calls Try.prog 15 #[.string ⟨#[81, 85, 79, 84]⟩, .slice (some ⟨b, 0, none⟩) 2 2] w fun e w' => e = .returned (.agg #[.int .i64 1, .int .i64 y, .string ⟨#[]⟩, .bool false, .int .i64 0]) ∧ Below w.heap.size w w' :=
  call_QUOT x s hx hs _ hr w b c0 c1 hlt
end Go.Proofs.Ythobaffgllipfaa
