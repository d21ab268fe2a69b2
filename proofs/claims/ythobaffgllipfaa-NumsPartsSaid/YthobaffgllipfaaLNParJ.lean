/-
  The walk of the law NumsParts.
-/
import Derived.Test.YthobaffgllipfaaRows
import Derived.Test.YthobaffgllipfaaBase
import Derived.Test.YthobaffgllipfaaMapK
import Derived.Test.YthobaffgllipfaaNFind
import Derived.Test.YthobaffgllipfaaDecA
import Derived.Test.YthobaffgllipfaaValA
import Derived.Test.YthobaffgllipfaaValB
import Derived.Test.YthobaffgllipfaaDecS
import Derived.Test.YthobaffgllipfaaValC
import Derived.Test.YthobaffgllipfaaAddrC
import Derived.Test.YthobaffgllipfaaAddrI
import Derived.Test.YthobaffgllipfaaArgK
import Derived.Test.YthobaffgllipfaaDMod
import Derived.Test.YthobaffgllipfaaDFlo
import Derived.Test.YthobaffgllipfaaProg
import Derived.Test.YthobaffgllipfaaShelf
import Derived.Test.YthobaffgllipfaaDPrint
import Derived.Test.YthobaffgllipfaaDRnd
import Derived.Test.YthobaffgllipfaaDSqr
import Derived.Test.YthobaffgllipfaaKnuth
import Derived.Test.YthobaffgllipfaaDDiv
import Derived.Test.YthobaffgllipfaaDecK
import Derived.Test.YthobaffgllipfaaDDivA
import Derived.Test.YthobaffgllipfaaNDoA
import Derived.Test.YthobaffgllipfaaNDoB
import Derived.Test.YthobaffgllipfaaNDoC
import Derived.Test.YthobaffgllipfaaNDoD
import Derived.Test.YthobaffgllipfaaNDoE
import Derived.Test.YthobaffgllipfaaNCall
import Derived.Test.YthobaffgllipfaaValE
import Derived.Test.YthobaffgllipfaaValF
import Derived.Test.YthobaffgllipfaaValL
import Derived.Test.YthobaffgllipfaaNCallK
import Derived.Test.YthobaffgllipfaaNCallB
import Derived.Test.YthobaffgllipfaaNDoF
import Derived.Test.YthobaffgllipfaaNDoG
import Derived.Test.YthobaffgllipfaaNDoQ
import Derived.Test.YthobaffgllipfaaNDoAt
import Derived.Test.YthobaffgllipfaaArgS
import Derived.Test.YthobaffgllipfaaNLaw
import Derived.Test.YthobaffgllipfaaNKn
import Derived.Test.YthobaffgllipfaaLNDivA
import Derived.Test.YthobaffgllipfaaNDoP
import Derived.Test.YthobaffgllipfaaNDoAt2
import Derived.Test.YthobaffgllipfaaLNParA
import Derived.Test.YthobaffgllipfaaLNParO
import Derived.Test.YthobaffgllipfaaLNParPX
import Derived.Test.YthobaffgllipfaaLNParPQ
import Derived.Test.YthobaffgllipfaaLNParPE
import Derived.Test.YthobaffgllipfaaLNParNX
import Derived.Test.YthobaffgllipfaaLNParNQ
import Derived.Test.YthobaffgllipfaaLNParNE
import Derived.WalkSpells
import Derived.WalkLawsBesides
import Derived.StillTactics
import Derived.Laws.Pointers
import Derived.Deep.RegionHeld3
import Derived.Deep.QuietTactic
import Derived.BigQuiet
import Derived.RowKit3
import Derived.Lib.Hide
import Derived.Lib.OthersKept
import Derived.OwnWalk
import Derived.Lib.IndexLaws
import Derived.Lib.ItoaMem
import Derived.WalkKit
import Derived.ProofKit
import Derived.OpenShut
import Derived.Carry
import Derived.ChangeSame
import Derived.Deep.Draws
import Derived.Maps.OwnSet
import Derived.Maps.AppendAt
import Derived.Laws.EntriesVeiled
import Derived.Laws.BitsAllLaws
import Derived.Shelf.Small.Bits
import Derived.Shelf.Strconv.Itoa0
import Derived.Shelf.Bits.Mul64
import Derived.Lib.TrimByte
import Derived.Lib.Bytealg
import Derived.Lib.SlTrimSet
import Derived.Lib.ParseIntB
import Derived.Shelf.Strings.SlTrimAscii
import Derived.Lib.SmallJoins
import Derived.Deep.RegionWith
namespace Go.Proofs.Ythobaffgllipfaa
open Go.RowKit

theorem quot_num (x s : Int) (hx : 0 ≤ x ∧ x < 4611686018427387904) (hs : 0 < s ∧ s < 4611686018427387904) : (quotL x s).t ≠ 1 ∨ ∃ Q : Int, quotL x s = nuL (Q * 10000) ∧ (0 ≤ Q ∧ Q ≤ 922337203685477) ∧ Q * s + modM x s = x := by
  have hq : quotL x s = wholeL (x.natAbs / s.natAbs) false := by
    unfold quotL; rw [if_neg (by omega)]
    have : (decide (x < 0) != decide (s < 0)) = false := by simp; omega
    rw [this]
  by_cases h : 922337203685477 < x.natAbs / s.natAbs
  · left
    rw [hq]; unfold wholeL; rw [if_pos h]; simp [errL]
  · right
    have hQ : ((x.natAbs / s.natAbs : Nat) : Int) ≤ 922337203685477 := by
      have h5 : x.natAbs / s.natAbs ≤ 922337203685477 := by omega
      generalize x.natAbs / s.natAbs = q at h5 ⊢
      omega
    refine ⟨((x.natAbs / s.natAbs : Nat) : Int), ?_, ⟨Int.natCast_nonneg _, hQ⟩, ?_⟩
    · rw [hq]; unfold wholeL numL nuL numT numN numF
      have hg : ¬ (((x.natAbs / s.natAbs : Nat) : Int) * 10000 = -9223372036854775808) := by
        generalize x.natAbs / s.natAbs = q at *
        omega
      rw [if_neg h]
      simp only [Bool.false_eq_true, if_false, hg]
    · have h1 : ((x.natAbs / s.natAbs : Nat) : Int) = x / s := by
        rw [Int.natCast_ediv]
        congr 1
        · omega
        · omega
      have h2 : modM x s = x % s := by
        have ht : x.tmod s = x % s := Int.tmod_eq_emod_of_nonneg hx.1
        have hn := Int.emod_nonneg x (show s ≠ 0 by omega)
        unfold modM
        rw [ht]
        by_cases h4 : x % s = 0
        · rw [if_neg (by intro hh; exact hh.1 h4)]
        · rw [if_neg (by
            have a1 : decide (x % s < 0) = false := decide_eq_false (by omega)
            have a2 : decide (s < 0) = false := decide_eq_false (by omega)
            rw [a1, a2]; simp)]
      rw [h1, h2, Int.mul_comm]
      have := Int.mul_ediv_add_emod x s
      omega
theorem walk_NumsParts (x s0 : Int) (w : World) : Calls Try.prog 5 #[.int .i64 x, .int .i64 s0] w fun e w' => e = .returned (.bool true) ∧ Below w.heap.size w w' := by
  by_cases o0 : x ≤ -4611686018427387904
  · exact parts_out0 x s0 (decide_eq_true o0) w
  by_cases o1 : 4611686018427387904 ≤ x
  · exact parts_out1 x s0 (decide_eq_false o0) (decide_eq_true o1) w
  by_cases o2 : s0 ≤ -4611686018427387904
  · exact parts_out2 x s0 (decide_eq_false o0) (decide_eq_false o1) (decide_eq_true o2) w
  by_cases o3 : 4611686018427387904 ≤ s0
  · exact parts_out3 x s0 (decide_eq_false o0) (decide_eq_false o1) (decide_eq_false o2) (decide_eq_true o3) w
  by_cases o4 : s0 = 0
  · exact parts_out4 x s0 (decide_eq_false o0) (decide_eq_false o1) (decide_eq_false o2) (decide_eq_false o3) (by simpa using o4) w
  have hx : -4611686018427387904 < x ∧ x < 4611686018427387904 := by omega
  by_cases hn : s0 < 0
  · have hs : 0 < -s0 ∧ -s0 < 4611686018427387904 := by omega
    by_cases hx0 : x < 0
    · exact parts_nx x s0 (-s0) hx hs hn rfl hx0 _ rfl w
    · rcases quot_num x (-s0) (by omega) hs with h | ⟨Q, h1, h2, h3⟩
      · exact parts_ne x s0 (-s0) hx hs hn rfl (by omega) _ rfl h w
      · exact parts_nq x s0 (-s0) hx hs hn rfl (by omega) _ rfl Q h1 h2 h3 w
  · have hs : 0 < s0 ∧ s0 < 4611686018427387904 := by omega
    by_cases hx0 : x < 0
    · exact parts_px x s0 s0 hx hs (by omega) rfl hx0 _ rfl w
    · rcases quot_num x s0 (by omega) hs with h | ⟨Q, h1, h2, h3⟩
      · exact parts_pe x s0 s0 hx hs (by omega) rfl (by omega) _ rfl h w
      · exact parts_pq x s0 s0 hx hs (by omega) rfl (by omega) _ rfl Q h1 h2 h3 w
end Go.Proofs.Ythobaffgllipfaa
