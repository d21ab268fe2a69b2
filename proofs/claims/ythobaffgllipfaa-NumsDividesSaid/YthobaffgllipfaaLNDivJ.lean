/-
  The walk of the law NumsDivides.
-/
import Derived.Test.YthobaffgllipfaaRows
import Derived.Test.YthobaffgllipfaaBase
import Derived.Test.YthobaffgllipfaaMapK
import Derived.Test.YthobaffgllipfaaNFind
import Derived.Test.YthobaffgllipfaaDecA
import Derived.Test.YthobaffgllipfaaValA
import Derived.Test.YthobaffgllipfaaValB
import Derived.Test.YthobaffgllipfaaDecS
import Derived.Test.YthobaffgllipfaaValC
import Derived.Test.YthobaffgllipfaaAddrC
import Derived.Test.YthobaffgllipfaaAddrI
import Derived.Test.YthobaffgllipfaaArgK
import Derived.Test.YthobaffgllipfaaDMod
import Derived.Test.YthobaffgllipfaaDFlo
import Derived.Test.YthobaffgllipfaaProg
import Derived.Test.YthobaffgllipfaaShelf
import Derived.Test.YthobaffgllipfaaDPrint
import Derived.Test.YthobaffgllipfaaDRnd
import Derived.Test.YthobaffgllipfaaDSqr
import Derived.Test.YthobaffgllipfaaKnuth
import Derived.Test.YthobaffgllipfaaDDiv
import Derived.Test.YthobaffgllipfaaDecK
import Derived.Test.YthobaffgllipfaaDDivA
import Derived.Test.YthobaffgllipfaaNDoA
import Derived.Test.YthobaffgllipfaaNDoB
import Derived.Test.YthobaffgllipfaaNDoC
import Derived.Test.YthobaffgllipfaaNDoD
import Derived.Test.YthobaffgllipfaaNDoE
import Derived.Test.YthobaffgllipfaaNCall
import Derived.Test.YthobaffgllipfaaValE
import Derived.Test.YthobaffgllipfaaValF
import Derived.Test.YthobaffgllipfaaValL
import Derived.Test.YthobaffgllipfaaNCallK
import Derived.Test.YthobaffgllipfaaNCallB
import Derived.Test.YthobaffgllipfaaNDoF
import Derived.Test.YthobaffgllipfaaNDoAt
import Derived.Test.YthobaffgllipfaaArgS
import Derived.Test.YthobaffgllipfaaNLaw
import Derived.Test.YthobaffgllipfaaNKn
import Derived.Test.YthobaffgllipfaaLNDivA
import Derived.Test.YthobaffgllipfaaLNDiv0
import Derived.Test.YthobaffgllipfaaLNDivN
import Derived.Test.YthobaffgllipfaaLNDivP
import Derived.WalkSpells
import Derived.WalkLawsBesides
import Derived.StillTactics
import Derived.Laws.Pointers
import Derived.Deep.RegionHeld3
import Derived.Deep.QuietTactic
import Derived.BigQuiet
import Derived.RowKit3
import Derived.Lib.Hide
import Derived.Lib.OthersKept
import Derived.OwnWalk
import Derived.Lib.IndexLaws
import Derived.Lib.ItoaMem
import Derived.WalkKit
import Derived.ProofKit
import Derived.OpenShut
import Derived.Carry
import Derived.ChangeSame
import Derived.Deep.Draws
import Derived.Maps.OwnSet
import Derived.Maps.AppendAt
import Derived.Laws.EntriesVeiled
import Derived.Laws.BitsAllLaws
import Derived.Shelf.Small.Bits
import Derived.Shelf.Strconv.Itoa0
import Derived.Shelf.Bits.Mul64
import Derived.Lib.TrimByte
import Derived.Lib.Bytealg
import Derived.Lib.SlTrimSet
import Derived.Lib.ParseIntB
import Derived.Shelf.Strings.SlTrimAscii
import Derived.Lib.SmallJoins
import Derived.Deep.RegionWith
namespace Go.Proofs.Ythobaffgllipfaa
open Go.RowKit

theorem walk_NumsDivides (a b : Int) (ha : -9223372036854775808 ≤ a ∧ a ≤ 9223372036854775807) (hb : -9223372036854775808 ≤ b ∧ b ≤ 9223372036854775807) (w : World) : Calls Try.prog 6 #[.int .i64 a, .int .i64 b] w fun e w' => e = .returned (.bool true) ∧ Below w.heap.size w w' := by
  obtain ⟨A, hA⟩ : ∃ A, a.tmod 100000 = A := ⟨_, rfl⟩
  obtain ⟨B, hB⟩ : ∃ B, b.tmod 100000 = B := ⟨_, rfl⟩
  have hAb : -99999 ≤ A ∧ A ≤ 99999 := by have := tmod_lt a 100000 (by omega); rw [hA] at this; omega
  have hBb : -99999 ≤ B ∧ B ≤ 99999 := by have := tmod_lt b 100000 (by omega); rw [hB] at this; omega
  have hGL := Nat.gcd_mul_lcm A.natAbs B.natAbs
  have hGA : ((Nat.gcd A.natAbs B.natAbs : Nat) : Int) ∣ A := Int.ofNat_dvd_left.2 (Nat.gcd_dvd_left _ _)
  have hGB : ((Nat.gcd A.natAbs B.natAbs : Nat) : Int) ∣ B := Int.ofNat_dvd_left.2 (Nat.gcd_dvd_right _ _)
  have hAL : A ∣ ((Nat.lcm A.natAbs B.natAbs : Nat) : Int) := Int.ofNat_dvd_right.2 (Nat.dvd_lcm_left _ _)
  have hBL : B ∣ ((Nat.lcm A.natAbs B.natAbs : Nat) : Int) := Int.ofNat_dvd_right.2 (Nat.dvd_lcm_right _ _)
  have hGle : Nat.gcd A.natAbs B.natAbs ≤ 100000 := by
    rcases Nat.eq_zero_or_pos A.natAbs with h | h
    · rw [h, Nat.gcd_zero_left]; omega
    · have := Nat.gcd_le_left B.natAbs h; omega
  have hm : A.natAbs * B.natAbs ≤ 99999 * 99999 := Nat.mul_le_mul (by omega) (by omega)
  have hLle : Nat.lcm A.natAbs B.natAbs ≤ 10000000000 := by
    have h1 : Nat.lcm A.natAbs B.natAbs ≤ A.natAbs * B.natAbs := by unfold Nat.lcm; exact Nat.div_le_self _ _
    omega
  by_cases h0 : A = 0 ∨ B = 0
  · have hl0 : Nat.lcm A.natAbs B.natAbs = 0 := by
      rcases h0 with rfl | rfl
      · exact Nat.lcm_zero_left _
      · exact Nat.lcm_zero_right _
    have hg0 : Nat.gcd A.natAbs B.natAbs = A.natAbs ∨ Nat.gcd A.natAbs B.natAbs = B.natAbs := by
      rcases h0 with rfl | rfl
      · right; exact Nat.gcd_zero_left _
      · left; exact Nat.gcd_zero_right _
    exact divides_0 a b ha hb A B _ _ _ _ hA hB hAb hBb rfl rfl rfl rfl (by omega) (by omega) h0 (by omega) (by omega) w
  · have hG0 : 0 < Nat.gcd A.natAbs B.natAbs := Nat.gcd_pos_of_pos_left _ (by omega)
    have hP : (A * B).natAbs = A.natAbs * B.natAbs := Int.natAbs_mul A B
    have d1 : (A * 10000).tmod (((Nat.gcd A.natAbs B.natAbs : Nat) : Int) * 10000) = 0 := Int.tmod_eq_zero_of_dvd (Int.mul_dvd_mul_right 10000 hGA)
    have d2 : (B * 10000).tmod (((Nat.gcd A.natAbs B.natAbs : Nat) : Int) * 10000) = 0 := Int.tmod_eq_zero_of_dvd (Int.mul_dvd_mul_right 10000 hGB)
    have d3 : (((Nat.lcm A.natAbs B.natAbs : Nat) : Int) * 10000).tmod (A * 10000) = 0 := Int.tmod_eq_zero_of_dvd (Int.mul_dvd_mul_right 10000 hAL)
    have d4 : (((Nat.lcm A.natAbs B.natAbs : Nat) : Int) * 10000).tmod (B * 10000) = 0 := Int.tmod_eq_zero_of_dvd (Int.mul_dvd_mul_right 10000 hBL)
    have hGL2 : ((Nat.gcd A.natAbs B.natAbs : Nat) : Int) * ((Nat.lcm A.natAbs B.natAbs : Nat) : Int) = ((A.natAbs * B.natAbs : Nat) : Int) := by rw [← Int.natCast_mul, hGL]
    have q1 : ((Nat.gcd A.natAbs B.natAbs : Nat) : Int) * 10000 / 10000 = ((Nat.gcd A.natAbs B.natAbs : Nat) : Int) := Int.mul_ediv_cancel _ (by omega)
    have q2 : ((Nat.lcm A.natAbs B.natAbs : Nat) : Int) * 10000 / 10000 = ((Nat.lcm A.natAbs B.natAbs : Nat) : Int) := Int.mul_ediv_cancel _ (by omega)
    by_cases hneg : A * B < 0
    · exact divides_n a b ha hb A B _ _ _ _ hA hB hAb hBb rfl rfl rfl rfl (by omega) (by omega) (by omega) (by omega) (by omega) 0 0 0 0 _ _ _ _ d1 d2 d3 d4 rfl rfl rfl rfl q1 q2 (by omega) (by omega) rfl rfl (by omega) (by rw [hGL2]; omega) hneg w
    · exact divides_p a b ha hb A B _ _ _ _ hA hB hAb hBb rfl rfl rfl rfl (by omega) (by omega) (by omega) (by omega) (by omega) 0 0 0 0 _ _ _ d1 d2 d3 d4 rfl rfl rfl rfl q1 q2 (by omega) (by omega) (by rw [hGL2]; omega) rfl (by omega) hneg w
end Go.Proofs.Ythobaffgllipfaa
