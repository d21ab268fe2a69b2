/-
  nums: each function behind its name.
-/
import Derived.Test.YthobaffgllipfaaGreatRows
import Derived.Test.YthobaffgllipfaaGreatBase
import Derived.Test.YthobaffgllipfaaGreatMapK
import Derived.Test.YthobaffgllipfaaGreatNFind
import Derived.Test.YthobaffgllipfaaGreatMg3
import Derived.Test.YthobaffgllipfaaGreatValA
import Derived.Test.YthobaffgllipfaaGreatValB
import Derived.Test.YthobaffgllipfaaGreatDecS
import Derived.Test.YthobaffgllipfaaGreatValC
import Derived.Test.YthobaffgllipfaaGreatAddrC
import Derived.Test.YthobaffgllipfaaGreatMg9
import Derived.Test.YthobaffgllipfaaGreatDMod
import Derived.Test.YthobaffgllipfaaGreatDFlo
import Derived.Test.YthobaffgllipfaaGreatProg
import Derived.Test.YthobaffgllipfaaGreatMg12
import Derived.Test.YthobaffgllipfaaGreatDRnd
import Derived.Test.YthobaffgllipfaaGreatMg14
import Derived.Test.YthobaffgllipfaaGreatKnuth
import Derived.Test.YthobaffgllipfaaGreatDDiv
import Derived.Test.YthobaffgllipfaaGreatMg17
import Derived.Test.YthobaffgllipfaaGreatNDoA
import Derived.Test.YthobaffgllipfaaGreatNDoB
import Derived.Test.YthobaffgllipfaaGreatNDoC
import Derived.Test.YthobaffgllipfaaGreatMg21
import Derived.Test.YthobaffgllipfaaGreatNCall
import Derived.Test.YthobaffgllipfaaGreatValL
import Derived.Test.YthobaffgllipfaaGreatNCallK
import Derived.Test.YthobaffgllipfaaGreatNCallB
import Derived.Test.YthobaffgllipfaaGreatNDoF
import Derived.Test.YthobaffgllipfaaGreatMg27
import Derived.Test.YthobaffgllipfaaGreatNDoQ
import Derived.Test.YthobaffgllipfaaGreatNDoP
import Derived.WalkSpells
import Derived.WalkLawsBesides
import Derived.StillTactics
import Derived.Laws.Pointers
import Derived.Deep.RegionHeld3
import Derived.Deep.QuietTactic
import Derived.BigQuiet
import Derived.RowKit3
import Derived.Lib.Hide
import Derived.Lib.OthersKept
import Derived.OwnWalk
import Derived.Lib.IndexLaws
import Derived.Lib.ItoaMem
import Derived.WalkKit
import Derived.ProofKit
import Derived.OpenShut
import Derived.Carry
import Derived.ChangeSame
import Derived.Deep.Draws
import Derived.Maps.OwnSet
import Derived.Maps.AppendAt
import Derived.Laws.EntriesVeiled
import Derived.Laws.BitsAllLaws
import Derived.Shelf.Small.Bits
import Derived.Shelf.Strconv.Itoa0
import Derived.Shelf.Bits.Mul64
import Derived.Lib.TrimByte
import Derived.Lib.Bytealg
import Derived.Lib.SlTrimSet
import Derived.Lib.ParseIntB
import Derived.Shelf.Strings.SlTrimAscii
import Derived.Lib.SmallJoins
import Derived.Deep.RegionWith
namespace Go.Proofs.YthobaffgllipfaaGreat
open Go.RowKit

theorem do_SIGN (x : Int) (hx : -9223372036854775807 ≤ x ∧ x ≤ 9223372036854775807) (w : World) (gb n cap : Nat) (hg : gb < w.heap.size) (hcap : n ≤ cap) (hn : 1 ≤ n) (c0 : w.cell? ⟨gb, 0, none⟩ = some (.int .i64 x)) : Calls Tryz.prog 33 #[.slice (some ⟨gb, 0, none⟩) n cap] w fun e w' => e = .returned (.agg #[.int .i64 (signL x).t, .int .i64 (signL x).n, .string (signL x).s, .bool (signL x).b, .int .i64 (signL x).c]) ∧ Below w.heap.size w w' := by
  unfold signL
  by_cases h : 0 < x
  · rw [if_pos h]; exact do_SIGNp x hx h w gb n cap hg hn hcap c0
  by_cases h2 : x < 0
  · rw [if_neg h, if_pos h2]; exact do_SIGNn x hx h2 w gb n cap hg hn hcap c0
  · rw [if_neg h, if_neg h2]; exact do_SIGNz x hx (by omega) w gb n cap hg hn hcap c0
theorem do_QUOT (x : Int) (hx : -9223372036854775807 ≤ x ∧ x ≤ 9223372036854775807) (y : Int) (hy : -9223372036854775807 ≤ y ∧ y ≤ 9223372036854775807) (w : World) (gb n cap : Nat) (hg : gb < w.heap.size) (hcap : n ≤ cap) (hn : 2 ≤ n) (c0 : w.cell? ⟨gb, 0, none⟩ = some (.int .i64 x)) (c1 : w.cell? ⟨gb, 1, none⟩ = some (.int .i64 y)) : Calls Tryz.prog 45 #[.slice (some ⟨gb, 0, none⟩) n cap] w fun e w' => e = .returned (.agg #[.int .i64 (quotL x y).t, .int .i64 (quotL x y).n, .string (quotL x y).s, .bool (quotL x y).b, .int .i64 (quotL x y).c]) ∧ Below w.heap.size w w' := by
  unfold quotL
  by_cases h : y = 0
  · rw [if_pos h]; exact do_QUOT0 x hx y hy h w gb n cap hg hn hcap c0 c1
  · rw [if_neg h]
    cases hs : (decide (x < 0) != decide (y < 0))
    · exact do_QUOTF x hx y hy _ _ _ rfl rfl rfl h hs w gb n cap hg hn hcap c0 c1
    · exact do_QUOTT x hx y hy _ _ _ rfl rfl rfl h hs w gb n cap hg hn hcap c0 c1
theorem do_CLAMPa (x : Int) (hx : -9223372036854775807 ≤ x ∧ x ≤ 9223372036854775807) (y : Int) (hy : -9223372036854775807 ≤ y ∧ y ≤ 9223372036854775807) (z : Int) (hz : -9223372036854775807 ≤ z ∧ z ≤ 9223372036854775807) (w : World) (gb n cap : Nat) (hg : gb < w.heap.size) (hcap : n ≤ cap) (hn : 3 ≤ n) (c0 : w.cell? ⟨gb, 0, none⟩ = some (.int .i64 x)) (c1 : w.cell? ⟨gb, 1, none⟩ = some (.int .i64 y)) (c2 : w.cell? ⟨gb, 2, none⟩ = some (.int .i64 z)) : Calls Tryz.prog 52 #[.slice (some ⟨gb, 0, none⟩) n cap] w fun e w' => e = .returned (.agg #[.int .i64 (clampL x y z).t, .int .i64 (clampL x y z).n, .string (clampL x y z).s, .bool (clampL x y z).b, .int .i64 (clampL x y z).c]) ∧ Below w.heap.size w w' := by
  unfold clampL
  by_cases h : z < y
  · rw [if_pos h]; exact do_CLAMP0 x hx y hy z hz h w gb n cap hg hn hcap c0 c1 c2
  · rw [if_neg h]; exact do_CLAMP x hx y hy z hz h w gb n cap hg hn hcap c0 c1 c2
theorem do_ODD (x : Int) (hx : -9223372036854775807 ≤ x ∧ x ≤ 9223372036854775807) (w : World) (gb n cap : Nat) (hg : gb < w.heap.size) (hcap : n ≤ cap) (hn : 1 ≤ n) (c0 : w.cell? ⟨gb, 0, none⟩ = some (.int .i64 x)) : Calls Tryz.prog 53 #[.slice (some ⟨gb, 0, none⟩) n cap] w fun e w' => e = .returned (.agg #[.int .i64 (oddL x).t, .int .i64 (oddL x).n, .string (oddL x).s, .bool (oddL x).b, .int .i64 (oddL x).c]) ∧ Below w.heap.size w w' := by
  unfold oddL
  have hvb := wholeV_in x (by omega)
  have ho : decide ((wholeV x).tmod 2 ≠ 0) = decide (wholeV x % 2 = 1) := by
    have h1 : ((wholeV x).tmod 2).natAbs = (wholeV x).natAbs % 2 := Int.natAbs_tmod _ 2
    have : ((wholeV x).tmod 2 ≠ 0) = (wholeV x % 2 = 1) := propext (by omega)
    simp only [this]
  rw [ho]
  cases h : wholeB x
  · rw [if_neg (by simp)]; exact do_ODD0 x hx _ h rfl w gb n cap hg hn hcap c0
  · rw [if_pos rfl]
    cases h2 : decide (wholeV x % 2 = 1)
    · exact do_ODDN x hx _ h rfl h2 w gb n cap hg hn hcap c0
    · exact do_ODDY x hx _ h rfl h2 w gb n cap hg hn hcap c0
theorem do_FACT (x : Int) (hx : -9223372036854775807 ≤ x ∧ x ≤ 9223372036854775807) (w : World) (gb n cap : Nat) (hg : gb < w.heap.size) (hcap : n ≤ cap) (hn : 1 ≤ n) (c0 : w.cell? ⟨gb, 0, none⟩ = some (.int .i64 x)) : Calls Tryz.prog 51 #[.slice (some ⟨gb, 0, none⟩) n cap] w fun e w' => e = .returned (.agg #[.int .i64 (factL x).t, .int .i64 (factL x).n, .string (factL x).s, .bool (factL x).b, .int .i64 (factL x).c]) ∧ Below w.heap.size w w' := by
  unfold factL
  cases h : wholeB x
  · rw [if_neg (by simp)]; exact do_FACT0 x hx _ h rfl w gb n cap hg hn hcap c0
  · by_cases h2 : 0 ≤ wholeV x
    · rw [if_pos ⟨rfl, h2⟩]
      obtain ⟨v, hv⟩ := Int.eq_ofNat_of_zero_le h2
      have ht : (wholeV x).toNat = v := by rw [hv]; rfl
      rw [ht]
      refine (do_FACT1 x hx v h hv w gb n cap hg hn hcap c0).mono fun e w' hh => ?_
      by_cases h3 : 922337203685477 < factN v
      · rw [if_pos h3]; exact ⟨hh.big h3, hh.bel⟩
      · rw [if_neg h3]; exact ⟨hh.fit h3, hh.bel⟩
    · rw [if_neg (by simp; omega)]; exact do_FACTn x hx _ h rfl (by omega) w gb n cap hg hn hcap c0
set_option maxRecDepth 100000 in
theorem at_SIGN (x : Int) (hx : -9223372036854775807 ≤ x ∧ x ≤ 9223372036854775807) : DoAt ⟨#[83, 73, 71, 78]⟩ [x] (signL x) := ⟨fun w b0 b1 b2 lo mo d h hb0 hb1 hb2 hc0 hc1 hc2 gb cap hg hcap hc => by
  have e : lookL nZero (nTab b0 b1 b2) ⟨#[83, 73, 71, 78]⟩ = .agg #[.int .i64 1, .int .i64 1, .func (.func 33) #[] #[]] := by kernel_rfl
  have hd := third_of (e.symm.trans h)
  exact ⟨33, #[], hd.symm, fun _ _ => by simp [go_sem], do_SIGN x hx w gb 1 cap hg hcap (by omega) (hc 0 x rfl)⟩⟩
set_option maxRecDepth 100000 in
theorem at_INT (x : Int) (hx : -9223372036854775807 ≤ x ∧ x ≤ 9223372036854775807) : DoAt ⟨#[73, 78, 84]⟩ [x] (toldL (floorV x) (floorC x)) := ⟨fun w b0 b1 b2 lo mo d h hb0 hb1 hb2 hc0 hc1 hc2 gb cap hg hcap hc => by
  have e : lookL nZero (nTab b0 b1 b2) ⟨#[73, 78, 84]⟩ = .agg #[.int .i64 1, .int .i64 1, .func (.func 34) #[] #[]] := by kernel_rfl
  have hd := third_of (e.symm.trans h)
  exact ⟨34, #[], hd.symm, fun _ _ => by simp [go_sem], do_INT x hx w gb 1 cap hg (by omega) hcap (hc 0 x rfl)⟩⟩
set_option maxRecDepth 100000 in
theorem at_SQRT (x : Int) (hx : -9223372036854775807 ≤ x ∧ x ≤ 9223372036854775807) : DoAt ⟨#[83, 81, 82, 84]⟩ [x] (toldL (sqrtV x) (sqrtC x)) := ⟨fun w b0 b1 b2 lo mo d h hb0 hb1 hb2 hc0 hc1 hc2 gb cap hg hcap hc => by
  have e : lookL nZero (nTab b0 b1 b2) ⟨#[83, 81, 82, 84]⟩ = .agg #[.int .i64 1, .int .i64 1, .func (.func 47) #[] #[]] := by kernel_rfl
  have hd := third_of (e.symm.trans h)
  exact ⟨47, #[], hd.symm, fun _ _ => by simp [go_sem], do_SQRT x hx w gb 1 cap hg (by omega) hcap (hc 0 x rfl)⟩⟩
set_option maxRecDepth 100000 in
theorem at_FACT (x : Int) (hx : -9223372036854775807 ≤ x ∧ x ≤ 9223372036854775807) : DoAt ⟨#[70, 65, 67, 84]⟩ [x] (factL x) := ⟨fun w b0 b1 b2 lo mo d h hb0 hb1 hb2 hc0 hc1 hc2 gb cap hg hcap hc => by
  have e : lookL nZero (nTab b0 b1 b2) ⟨#[70, 65, 67, 84]⟩ = .agg #[.int .i64 1, .int .i64 1, .func (.func 51) #[] #[]] := by kernel_rfl
  have hd := third_of (e.symm.trans h)
  exact ⟨51, #[], hd.symm, fun _ _ => by simp [go_sem], do_FACT x hx w gb 1 cap hg hcap (by omega) (hc 0 x rfl)⟩⟩
set_option maxRecDepth 100000 in
theorem at_ODD (x : Int) (hx : -9223372036854775807 ≤ x ∧ x ≤ 9223372036854775807) : DoAt ⟨#[79, 68, 68]⟩ [x] (oddL x) := ⟨fun w b0 b1 b2 lo mo d h hb0 hb1 hb2 hc0 hc1 hc2 gb cap hg hcap hc => by
  have e : lookL nZero (nTab b0 b1 b2) ⟨#[79, 68, 68]⟩ = .agg #[.int .i64 1, .int .i64 1, .func (.func 53) #[] #[]] := by kernel_rfl
  have hd := third_of (e.symm.trans h)
  exact ⟨53, #[], hd.symm, fun _ _ => by simp [go_sem], do_ODD x hx w gb 1 cap hg hcap (by omega) (hc 0 x rfl)⟩⟩
set_option maxRecDepth 100000 in
theorem at_FLOOR (x : Int) (hx : -9223372036854775807 ≤ x ∧ x ≤ 9223372036854775807) (y : Int) (hy : -9223372036854775807 ≤ y ∧ y ≤ 9223372036854775807) : DoAt ⟨#[70, 76, 79, 79, 82]⟩ [x, y] (toldL (nfloorV x y) (nfloorC x y)) := ⟨fun w b0 b1 b2 lo mo d h hb0 hb1 hb2 hc0 hc1 hc2 gb cap hg hcap hc => by
  have e : lookL nZero (nTab b0 b1 b2) ⟨#[70, 76, 79, 79, 82]⟩ = .agg #[.int .i64 2, .int .i64 2, .func (.func 40) #[] #[]] := by kernel_rfl
  have hd := third_of (e.symm.trans h)
  exact ⟨40, #[], hd.symm, fun _ _ => by simp [go_sem], do_FLOOR x hx y hy w gb 2 cap hg (by omega) hcap (hc 0 x rfl) (hc 1 y rfl)⟩⟩
set_option maxRecDepth 100000 in
theorem at_CEIL (x : Int) (hx : -9223372036854775807 ≤ x ∧ x ≤ 9223372036854775807) (y : Int) (hy : -9223372036854775807 ≤ y ∧ y ≤ 9223372036854775807) : DoAt ⟨#[67, 69, 73, 76]⟩ [x, y] (toldL (-(nfloorV (-x) y)) (nfloorC (-x) y)) := ⟨fun w b0 b1 b2 lo mo d h hb0 hb1 hb2 hc0 hc1 hc2 gb cap hg hcap hc => by
  have e : lookL nZero (nTab b0 b1 b2) ⟨#[67, 69, 73, 76]⟩ = .agg #[.int .i64 2, .int .i64 2, .func (.func 42) #[] #[]] := by kernel_rfl
  have hd := third_of (e.symm.trans h)
  exact ⟨42, #[], hd.symm, fun _ _ => by simp [go_sem], do_CEIL x hx y hy w gb 2 cap hg (by omega) hcap (hc 0 x rfl) (hc 1 y rfl)⟩⟩
set_option maxRecDepth 100000 in
theorem at_MOD (x : Int) (hx : -9223372036854775807 ≤ x ∧ x ≤ 9223372036854775807) (y : Int) (hy : -9223372036854775807 ≤ y ∧ y ≤ 9223372036854775807) : DoAt ⟨#[77, 79, 68]⟩ [x, y] (toldL (modV x y) (modC x y)) := ⟨fun w b0 b1 b2 lo mo d h hb0 hb1 hb2 hc0 hc1 hc2 gb cap hg hcap hc => by
  have e : lookL nZero (nTab b0 b1 b2) ⟨#[77, 79, 68]⟩ = .agg #[.int .i64 2, .int .i64 2, .func (.func 43) #[] #[]] := by kernel_rfl
  have hd := third_of (e.symm.trans h)
  exact ⟨43, #[], hd.symm, fun _ _ => by simp [go_sem], do_MOD x hx y hy w gb 2 cap hg (by omega) hcap (hc 0 x rfl) (hc 1 y rfl)⟩⟩
set_option maxRecDepth 100000 in
theorem at_QUOT (x : Int) (hx : -9223372036854775807 ≤ x ∧ x ≤ 9223372036854775807) (y : Int) (hy : -9223372036854775807 ≤ y ∧ y ≤ 9223372036854775807) : DoAt ⟨#[81, 85, 79, 84]⟩ [x, y] (quotL x y) := ⟨fun w b0 b1 b2 lo mo d h hb0 hb1 hb2 hc0 hc1 hc2 gb cap hg hcap hc => by
  have e : lookL nZero (nTab b0 b1 b2) ⟨#[81, 85, 79, 84]⟩ = .agg #[.int .i64 2, .int .i64 2, .func (.func 45) #[] #[]] := by kernel_rfl
  have hd := third_of (e.symm.trans h)
  exact ⟨45, #[], hd.symm, fun _ _ => by simp [go_sem], do_QUOT x hx y hy w gb 2 cap hg hcap (by omega) (hc 0 x rfl) (hc 1 y rfl)⟩⟩
set_option maxRecDepth 100000 in
theorem at_CLAMP (x : Int) (hx : -9223372036854775807 ≤ x ∧ x ≤ 9223372036854775807) (y : Int) (hy : -9223372036854775807 ≤ y ∧ y ≤ 9223372036854775807) (z : Int) (hz : -9223372036854775807 ≤ z ∧ z ≤ 9223372036854775807) : DoAt ⟨#[67, 76, 65, 77, 80]⟩ [x, y, z] (clampL x y z) := ⟨fun w b0 b1 b2 lo mo d h hb0 hb1 hb2 hc0 hc1 hc2 gb cap hg hcap hc => by
  have e : lookL nZero (nTab b0 b1 b2) ⟨#[67, 76, 65, 77, 80]⟩ = .agg #[.int .i64 3, .int .i64 3, .func (.func 52) #[] #[]] := by kernel_rfl
  have hd := third_of (e.symm.trans h)
  exact ⟨52, #[], hd.symm, fun _ _ => by simp [go_sem], do_CLAMPa x hx y hy z hz w gb 3 cap hg hcap (by omega) (hc 0 x rfl) (hc 1 y rfl) (hc 2 z rfl)⟩⟩
set_option maxRecDepth 100000 in
theorem at_TRUNC1 (x : Int) (hx : -9223372036854775807 ≤ x ∧ x ≤ 9223372036854775807) : DoAt ⟨#[84, 82, 85, 78, 67]⟩ [x] (toldL (truncV x 0) 0) := ⟨fun w b0 b1 b2 lo mo d h hb0 hb1 hb2 hc0 hc1 hc2 gb cap hg hcap hc => by
  have e : lookL nZero (nTab b0 b1 b2) ⟨#[84, 82, 85, 78, 67]⟩ = .agg #[.int .i64 1, .int .i64 2, .func (.func 80) #[] #[.pointer (some ⟨b0, 0, none⟩)]] := by kernel_rfl
  have hd := third_of (e.symm.trans h)
  exact ⟨80, #[.pointer (some ⟨b0, 0, none⟩)], hd.symm, fun _ _ => by simp [go_sem], do_TRUNC1 x hx b0 w gb cap hg hcap (hc 0 x rfl) hb0 hc0⟩⟩
set_option maxRecDepth 100000 in
theorem at_ROUND1 (x : Int) (hx : -9223372036854775807 ≤ x ∧ x ≤ 9223372036854775807) : DoAt ⟨#[82, 79, 85, 78, 68]⟩ [x] (toldL (roundV x 0) (roundC x 0)) := ⟨fun w b0 b1 b2 lo mo d h hb0 hb1 hb2 hc0 hc1 hc2 gb cap hg hcap hc => by
  have e : lookL nZero (nTab b0 b1 b2) ⟨#[82, 79, 85, 78, 68]⟩ = .agg #[.int .i64 1, .int .i64 2, .func (.func 80) #[] #[.pointer (some ⟨b1, 0, none⟩)]] := by kernel_rfl
  have hd := third_of (e.symm.trans h)
  exact ⟨80, #[.pointer (some ⟨b1, 0, none⟩)], hd.symm, fun _ _ => by simp [go_sem], do_ROUND1 x hx b1 w gb cap hg hcap (hc 0 x rfl) hb1 hc1⟩⟩
end Go.Proofs.YthobaffgllipfaaGreat
