/-
  GCD and LCM of two.
-/
import Derived.Test.YthobaffgllipfaaRows
import Derived.Test.YthobaffgllipfaaBase
import Derived.Test.YthobaffgllipfaaMapK
import Derived.Test.YthobaffgllipfaaNFind
import Derived.Test.YthobaffgllipfaaDecA
import Derived.Test.YthobaffgllipfaaValA
import Derived.Test.YthobaffgllipfaaValB
import Derived.Test.YthobaffgllipfaaDecS
import Derived.Test.YthobaffgllipfaaValC
import Derived.Test.YthobaffgllipfaaAddrC
import Derived.Test.YthobaffgllipfaaAddrI
import Derived.Test.YthobaffgllipfaaArgK
import Derived.Test.YthobaffgllipfaaDMod
import Derived.Test.YthobaffgllipfaaDFlo
import Derived.Test.YthobaffgllipfaaProg
import Derived.Test.YthobaffgllipfaaShelf
import Derived.Test.YthobaffgllipfaaDPrint
import Derived.Test.YthobaffgllipfaaDRnd
import Derived.Test.YthobaffgllipfaaDSqr
import Derived.Test.YthobaffgllipfaaKnuth
import Derived.Test.YthobaffgllipfaaDDiv
import Derived.Test.YthobaffgllipfaaDecK
import Derived.Test.YthobaffgllipfaaDDivA
import Derived.Test.YthobaffgllipfaaNDoA
import Derived.Test.YthobaffgllipfaaNDoB
import Derived.Test.YthobaffgllipfaaNDoC
import Derived.Test.YthobaffgllipfaaNDoD
import Derived.Test.YthobaffgllipfaaNDoE
import Derived.Test.YthobaffgllipfaaNCall
import Derived.Test.YthobaffgllipfaaValE
import Derived.Test.YthobaffgllipfaaValF
import Derived.Test.YthobaffgllipfaaValL
import Derived.Test.YthobaffgllipfaaNCallK
import Derived.Test.YthobaffgllipfaaNCallB
import Derived.Test.YthobaffgllipfaaNDoF
import Derived.Test.YthobaffgllipfaaNDoG
import Derived.Test.YthobaffgllipfaaNDoQ
import Derived.Test.YthobaffgllipfaaNDoAt
import Derived.Test.YthobaffgllipfaaArgS
import Derived.Test.YthobaffgllipfaaNLaw
import Derived.Test.YthobaffgllipfaaNKn
import Derived.WalkSpells
import Derived.WalkLawsBesides
import Derived.StillTactics
import Derived.Laws.Pointers
import Derived.Deep.RegionHeld3
import Derived.Deep.QuietTactic
import Derived.BigQuiet
import Derived.RowKit3
import Derived.Lib.Hide
import Derived.Lib.OthersKept
import Derived.OwnWalk
import Derived.Lib.IndexLaws
import Derived.Lib.ItoaMem
import Derived.WalkKit
import Derived.ProofKit
import Derived.OpenShut
import Derived.Carry
import Derived.ChangeSame
import Derived.Deep.Draws
import Derived.Maps.OwnSet
import Derived.Maps.AppendAt
import Derived.Laws.EntriesVeiled
import Derived.Laws.BitsAllLaws
import Derived.Shelf.Small.Bits
import Derived.Shelf.Strconv.Itoa0
import Derived.Shelf.Bits.Mul64
import Derived.Lib.TrimByte
import Derived.Lib.Bytealg
import Derived.Lib.SlTrimSet
import Derived.Lib.ParseIntB
import Derived.Shelf.Strings.SlTrimAscii
import Derived.Lib.SmallJoins
import Derived.Deep.RegionWith
namespace Go.Proofs.Ythobaffgllipfaa
open Go.RowKit

theorem do_LCM (l : List Int) (hl : ∀ x ∈ l, -9223372036854775807 ≤ x ∧ x ≤ 9223372036854775807) (hlen : l.length ≤ 1099511627776) (h1 : 1 ≤ l.length) (w : World) (gb cap : Nat) (hg : gb < w.heap.size) (hcap : l.length ≤ cap) (hc : ∀ (j : Nat) (x : Int), l[j]? = some x → w.cell? ⟨gb, j, none⟩ = some (.int .i64 x)) : Calls Try.prog 43 #[.slice (some ⟨gb, 0, none⟩) l.length cap] w fun e w' => e = .returned (.agg #[.int .i64 (lcmL l).t, .int .i64 (lcmL l).n, .string (lcmL l).s, .bool (lcmL l).b, .int .i64 (lcmL l).c]) ∧ Below w.heap.size w w' := by
  unfold lcmL
  cases h : allWhole l
  · exact do_LCM0 l hl hlen w gb cap hg hcap hc h
  · cases h2 : (wholesN l).any (fun y => ((0 : Int) == (y : Int)))
    · refine (do_LCM1 l hl hlen w gb cap hg hcap hc h1 h h2 (fun x hx => by
        unfold wholesN at hx
        obtain ⟨y, hy, rfl⟩ := List.mem_map.1 hx
        have := hl y hy
        omega)).mono fun e w' hh => ?_
      rw [if_pos rfl, if_neg (by simp)]
      by_cases h3 : 922337203685477 < lcmFold (wholesN l)
      · rw [if_pos h3]; exact ⟨hh.big h3, hh.bel⟩
      · rw [if_neg h3]; exact ⟨hh.fit h3, hh.bel⟩
    · rw [if_pos rfl, if_pos rfl]
      exact do_LCMz l hl hlen w gb cap hg hcap hc h1 h h2
set_option maxRecDepth 100000 in
theorem at_LCM (l : List Int) (hl : ∀ x ∈ l, -9223372036854775807 ≤ x ∧ x ≤ 9223372036854775807) (hlen : l.length ≤ 1099511627776) (h1 : 1 ≤ l.length) : DoAt ⟨#[76, 67, 77]⟩ l (lcmL l) := ⟨fun w b0 b1 b2 lo mo d h hb0 hb1 hb2 hc0 hc1 hc2 gb cap hg hcap hc => by
  have e : lookL nZero (nTab b0 b1 b2) ⟨#[76, 67, 77]⟩ = .agg #[.int .i64 1, .int .i64 16, .func (.func 43) #[] #[]] := by kernel_rfl
  have hd := third_of (e.symm.trans h)
  exact ⟨43, #[], hd.symm, fun _ _ => by simp [go_sem], do_LCM l hl hlen h1 w gb cap hg hcap hc⟩⟩
theorem whole_mul (A : Int) : wholeB (A * 10000) = true ∧ (A * 10000).natAbs / 10000 = A.natAbs := by
  unfold wholeB
  have h1 : (A * 10000).tmod 10000 = 0 := Int.mul_tmod_left A 10000
  constructor
  · simp [h1]; omega
  · omega
theorem gcd_two (A B : Int) (hA : -100000 < A ∧ A < 100000) (hB : -100000 < B ∧ B < 100000) : gcdL [A * 10000, B * 10000] = nuL ((Nat.gcd A.natAbs B.natAbs : Nat) * 10000) := by
  obtain ⟨a1, a2⟩ := whole_mul A
  obtain ⟨b1, b2⟩ := whole_mul B
  have hle : Nat.gcd A.natAbs B.natAbs ≤ 100000 := by
    rcases Nat.eq_zero_or_pos A.natAbs with h | h
    · rw [h, Nat.gcd_zero_left]; omega
    · have := Nat.gcd_le_left B.natAbs h; omega
  unfold gcdL
  rw [if_pos (by simp [allWhole, a1, b1])]
  show wholeL (([A * 10000, B * 10000].map fun x => x.natAbs / 10000).foldl Nat.gcd 0) false = _
  simp only [List.map_cons, List.map_nil, a2, b2, List.foldl_cons, List.foldl_nil, Nat.gcd_zero_left]
  generalize Nat.gcd A.natAbs B.natAbs = G at *
  unfold wholeL numL nuL numT numN numF
  have hg : ¬ ((G : Int) * 10000 = -9223372036854775808) := by omega
  rw [if_neg (by omega)]
  simp only [Bool.false_eq_true, if_false, hg]
theorem lcm_two (A B : Int) (hA : -100000 < A ∧ A < 100000) (hB : -100000 < B ∧ B < 100000) : lcmL [A * 10000, B * 10000] = nuL ((Nat.lcm A.natAbs B.natAbs : Nat) * 10000) := by
  obtain ⟨a1, a2⟩ := whole_mul A
  obtain ⟨b1, b2⟩ := whole_mul B
  have hle : Nat.lcm A.natAbs B.natAbs ≤ 10000000000 := by
    have h1 : Nat.lcm A.natAbs B.natAbs ≤ A.natAbs * B.natAbs := by unfold Nat.lcm; exact Nat.div_le_self _ _
    have h2 : A.natAbs * B.natAbs ≤ 100000 * 100000 := Nat.mul_le_mul (by omega) (by omega)
    omega
  have hw : wholesN [A * 10000, B * 10000] = [A.natAbs, B.natAbs] := by simp only [wholesN, List.map_cons, List.map_nil, a2, b2]
  unfold lcmL
  rw [if_pos (by simp [allWhole, a1, b1]), hw]
  have hf : lcmFold [A.natAbs, B.natAbs] = Nat.lcm A.natAbs B.natAbs := by unfold lcmFold; simp only [List.foldl_cons, List.foldl_nil, Nat.lcm_one_left]
  rw [hf]
  by_cases h0 : A = 0 ∨ B = 0
  · rw [if_pos (by rcases h0 with rfl | rfl <;> simp)]
    have : Nat.lcm A.natAbs B.natAbs = 0 := by
      rcases h0 with rfl | rfl
      · exact Nat.lcm_zero_left _
      · exact Nat.lcm_zero_right _
    rw [this]; rfl
  · rw [if_neg (by simp only [List.any_cons, List.any_nil, Bool.or_false, Bool.or_eq_true, beq_iff_eq, not_or]; omega)]
    generalize Nat.lcm A.natAbs B.natAbs = G at *
    rw [if_neg (by omega)]
    unfold wholeL numL nuL numT numN numF
    have hg : ¬ ((G : Int) * 10000 = -9223372036854775808) := by omega
    rw [if_neg (by omega)]
    simp only [Bool.false_eq_true, if_false, hg]
theorem call_two (key : ByteArray) (hs : key.size ≤ 9223372036854775807) (ht : takesN key 2 false = true) (x y z : Int) (hx : -9223372036854775807 ≤ x ∧ x ≤ 9223372036854775807) (hy : -9223372036854775807 ≤ y ∧ y ≤ 9223372036854775807) (r : VL) (hr : r = nuL z) (hD : DoAt key [x, y] r) (w : World) (b : Nat) (hc0 : w.cell? ⟨b, 0, none⟩ = some (.int .i64 x)) (hc1 : w.cell? ⟨b, 1, none⟩ = some (.int .i64 y)) (hlt : b < w.heap.size) : Calls Try.prog 15 #[.string key, .slice (some ⟨b, 0, none⟩) 2 2] w fun e w' => e = .returned (.agg #[.int .i64 1, .int .i64 z, .string ⟨#[]⟩, .bool false, .int .i64 0]) ∧ Below w.heap.size w w' :=
  lcall_n key hs [x, y] (by intro u hu; simp at hu; rcases hu with rfl | rfl; exact hx; exact hy) (by simp) z r hr 2 rfl ht hD w b 2 hlt (cells2 hc0 hc1)
theorem lists_two {x y : Int} (hx : -9223372036854775807 ≤ x ∧ x ≤ 9223372036854775807) (hy : -9223372036854775807 ≤ y ∧ y ≤ 9223372036854775807) : ∀ u ∈ [x, y], -9223372036854775807 ≤ u ∧ u ≤ 9223372036854775807 := by
  intro u hu; simp at hu; rcases hu with rfl | rfl; exact hx; exact hy
theorem gcd_call (A B : Int) (hA : -100000 < A ∧ A < 100000) (hB : -100000 < B ∧ B < 100000) (x y z : Int) (hx : x = A * 10000) (hy : y = B * 10000) (hz : ((Nat.gcd A.natAbs B.natAbs : Nat) : Int) * 10000 = z) (w : World) (b : Nat) (hc0 : w.cell? ⟨b, 0, none⟩ = some (.int .i64 x)) (hc1 : w.cell? ⟨b, 1, none⟩ = some (.int .i64 y)) (hlt : b < w.heap.size) : Calls Try.prog 15 #[.string ⟨#[71, 67, 68]⟩, .slice (some ⟨b, 0, none⟩) 2 2] w fun e w' => e = .returned (.agg #[.int .i64 1, .int .i64 z, .string ⟨#[]⟩, .bool false, .int .i64 0]) ∧ Below w.heap.size w w' := by
  subst hx hy
  exact call_two ⟨#[71, 67, 68]⟩ (by decide) (by decide +kernel) _ _ z (by omega) (by omega) _ (by rw [← hz]; exact gcd_two A B hA hB) (at_GCD _ (lists_two (by omega) (by omega)) (by simp) (by simp)) w b hc0 hc1 hlt
theorem lcm_call (A B : Int) (hA : -100000 < A ∧ A < 100000) (hB : -100000 < B ∧ B < 100000) (x y z : Int) (hx : x = A * 10000) (hy : y = B * 10000) (hz : ((Nat.lcm A.natAbs B.natAbs : Nat) : Int) * 10000 = z) (w : World) (b : Nat) (hc0 : w.cell? ⟨b, 0, none⟩ = some (.int .i64 x)) (hc1 : w.cell? ⟨b, 1, none⟩ = some (.int .i64 y)) (hlt : b < w.heap.size) : Calls Try.prog 15 #[.string ⟨#[76, 67, 77]⟩, .slice (some ⟨b, 0, none⟩) 2 2] w fun e w' => e = .returned (.agg #[.int .i64 1, .int .i64 z, .string ⟨#[]⟩, .bool false, .int .i64 0]) ∧ Below w.heap.size w w' := by
  subst hx hy
  exact call_two ⟨#[76, 67, 77]⟩ (by decide) (by decide +kernel) _ _ z (by omega) (by omega) _ (by rw [← hz]; exact lcm_two A B hA hB) (at_LCM _ (lists_two (by omega) (by omega)) (by simp) (by simp)) w b hc0 hc1 hlt
end Go.Proofs.Ythobaffgllipfaa
