/-
  nums: trunc, floor.
-/
import Derived.Test.YthobaffgllipfaaGreatRows
import Derived.Test.YthobaffgllipfaaGreatBase
import Derived.Test.YthobaffgllipfaaGreatMg3
import Derived.Test.YthobaffgllipfaaGreatValA
import Derived.Test.YthobaffgllipfaaGreatValB
import Derived.Test.YthobaffgllipfaaGreatDecS
import Derived.Test.YthobaffgllipfaaGreatValC
import Derived.Test.YthobaffgllipfaaGreatAddrC
import Derived.Test.YthobaffgllipfaaGreatMg9
import Derived.Test.YthobaffgllipfaaGreatMapK
import Derived.Test.YthobaffgllipfaaGreatDMod
import Derived.Test.YthobaffgllipfaaGreatDFlo
import Derived.Test.YthobaffgllipfaaGreatProg
import Derived.Test.YthobaffgllipfaaGreatMg12
import Derived.Test.YthobaffgllipfaaGreatDRnd
import Derived.Test.YthobaffgllipfaaGreatMg14
import Derived.Test.YthobaffgllipfaaGreatKnuth
import Derived.Test.YthobaffgllipfaaGreatDDiv
import Derived.Test.YthobaffgllipfaaGreatMg17
import Derived.Test.YthobaffgllipfaaGreatNDoA
import Derived.WalkSpells
import Derived.WalkLawsBesides
import Derived.StillTactics
import Derived.Laws.Pointers
import Derived.Deep.RegionHeld3
import Derived.Deep.QuietTactic
import Derived.BigQuiet
import Derived.RowKit3
import Derived.Lib.Hide
import Derived.Lib.OthersKept
import Derived.OwnWalk
import Derived.Lib.IndexLaws
import Derived.Lib.ItoaMem
import Derived.WalkKit
import Derived.ProofKit
import Derived.OpenShut
import Derived.Carry
import Derived.ChangeSame
import Derived.Deep.Draws
import Derived.Maps.OwnSet
import Derived.Maps.AppendAt
import Derived.Laws.BitsAllLaws
import Derived.Shelf.Small.Bits
import Derived.Shelf.Strconv.Itoa0
import Derived.Shelf.Bits.Mul64
import Derived.Lib.TrimByte
import Derived.Lib.Bytealg
import Derived.Lib.SlTrimSet
import Derived.Lib.ParseIntB
import Derived.Shelf.Strings.SlTrimAscii
import Derived.Lib.SmallJoins
namespace Go.Proofs.YthobaffgllipfaaGreat
open Go.RowKit

def truncV (x n : Int) : Int := if 3 < n then x else if n < -14 then 0 else x.tdiv (10 ^ (4 - n).toNat) * 10 ^ (4 - n).toNat
set_option maxHeartbeats 1000000 in
theorem trunc_same (x n : Int) (_hx : -9223372036854775808 ≤ x ∧ x ≤ 9223372036854775807) (_hn : -9223372036854775808 ≤ n ∧ n ≤ 9223372036854775807) (h : 3 < n) (w : World) : Calls Tryz.prog 38 #[.int .i64 x, .int .i64 n] w fun e w' => e = .returned (.tuple #[.int .i64 x, .int .i64 0]) ∧ w = w' := by
  go_enter Tryz.func38, Tryz.ntmps38
  go_wp2
  go_ret2
  exact ⟨rfl, rfl⟩
set_option maxHeartbeats 1000000 in
theorem trunc_none (x n : Int) (_hx : -9223372036854775808 ≤ x ∧ x ≤ 9223372036854775807) (hn : -9223372036854775808 ≤ n ∧ n ≤ 9223372036854775807) (h : n < -14) (w : World) : Calls Tryz.prog 38 #[.int .i64 x, .int .i64 n] w fun e w' => e = .returned (.tuple #[.int .i64 0, .int .i64 0]) ∧ w = w' := by
  go_enter Tryz.func38, Tryz.ntmps38
  go_wp2
  go_ret2
  exact ⟨rfl, rfl⟩
theorem tdiv_mul_in (x u : Int) (hu : 0 < u) (hx : -9223372036854775808 ≤ x ∧ x ≤ 9223372036854775807) : -9223372036854775808 ≤ x.tdiv u * u ∧ x.tdiv u * u ≤ 9223372036854775807 ∧ -9223372036854775808 ≤ x.tdiv u ∧ x.tdiv u ≤ 9223372036854775807 := by
  have h1 := Int.mul_tdiv_add_tmod x u
  have h2 : (x.tmod u).natAbs = x.natAbs % u.natAbs := Int.natAbs_tmod x u
  have h3 : (x.tdiv u).natAbs = x.natAbs / u.natAbs := Int.natAbs_tdiv x u
  have h4 : x.natAbs / u.natAbs ≤ x.natAbs := Nat.div_le_self _ _
  have h5 : x.natAbs % u.natAbs ≤ x.natAbs := Nat.mod_le _ _
  have h6 : (x.tdiv u * u).natAbs = x.natAbs / u.natAbs * u.natAbs := by rw [Int.natAbs_mul, h3]
  have h7 : x.natAbs / u.natAbs * u.natAbs ≤ x.natAbs := Nat.div_mul_le_self _ _
  have h8 : 0 ≤ x → 0 ≤ x.tdiv u * u := fun h => Int.mul_nonneg (Int.tdiv_nonneg h (by omega)) (by omega)
  have h9 : x.tdiv u * u = x - x.tmod u := by rw [Int.mul_comm]; omega
  have h10 : x < 0 → x.tmod u ≤ 0 := fun h => by
    have e := Int.neg_tmod x u
    have := Int.tmod_nonneg (a := -x) u (by omega)
    omega
  have h11 : x < 0 → x.tdiv u ≤ 0 := fun h => by
    have e := Int.neg_tdiv x u
    have := Int.tdiv_nonneg (a := -x) (b := u) (by omega) (by omega)
    omega
  have h12 : 0 ≤ x → 0 ≤ x.tdiv u := fun h => Int.tdiv_nonneg h (by omega)
  omega
theorem pow10_le (e : Nat) (h : e ≤ 18) : (1 : Int) ≤ 10 ^ e ∧ (10 : Int) ^ e ≤ 1000000000000000000 := by
  have : e = 0 ∨ e = 1 ∨ e = 2 ∨ e = 3 ∨ e = 4 ∨ e = 5 ∨ e = 6 ∨ e = 7 ∨ e = 8 ∨ e = 9 ∨ e = 10 ∨ e = 11 ∨ e = 12 ∨ e = 13 ∨ e = 14 ∨ e = 15 ∨ e = 16 ∨ e = 17 ∨ e = 18 := by omega
  rcases this with rfl | rfl | rfl | rfl | rfl | rfl | rfl | rfl | rfl | rfl | rfl | rfl | rfl | rfl | rfl | rfl | rfl | rfl | rfl <;> decide
set_option maxHeartbeats 1000000 in
theorem trunc_mid (x n : Int) (hx : -9223372036854775808 ≤ x ∧ x ≤ 9223372036854775807) (hn : -9223372036854775808 ≤ n ∧ n ≤ 9223372036854775807) (e : Nat) (he : 4 - n = (e : Int)) (h1 : 1 ≤ e) (h2 : e ≤ 18) (u : Int) (hu : (10 : Int) ^ e = u) (w : World) : Calls Tryz.prog 38 #[.int .i64 x, .int .i64 n] w fun e' w' => e' = .returned (.tuple #[.int .i64 (x.tdiv u * u), .int .i64 0]) ∧ w = w' := by
  have hub := pow10_le e h2
  rw [hu] at hub
  have hq := tdiv_mul_in x u (by omega) hx
  have hn1 : ¬ 3 < n := by omega
  have hn2 : ¬ n < -14 := by omega
  have hw1 : IntKind.i64.wrap (x.tdiv u) = x.tdiv u := IntWalk.i64_in _ (by omega)
  have hw2 : IntKind.i64.wrap (x.tdiv u * u) = x.tdiv u * u := IntWalk.i64_in _ (by omega)
  have hw3 : wrap64 (x.tdiv u * u) = x.tdiv u * u := by unfold wrap64; omega
  have hu0 : (u == 0) = false := by simp; omega
  have hu1 : u ≠ 0 := by omega
  have hu' := Lib.hid hu
  have he' := Lib.hid he
  clear hu he hq
  go_enter Tryz.func38, Tryz.ntmps38
  go_wp2
  go_loop [6, 14] (fun uv iv => ∃ (k : Nat), k ≤ e ∧ iv = .int .i64 (k : Int) ∧ uv = .int .i64 (10 ^ k)) (fun _ iv => e - (intOf iv).toNat)
  case atStart => exact ⟨0, by omega, rfl, rfl⟩
  case round =>
    obtain ⟨k, hk, rfl, rfl⟩ := hrel
    by_cases hlt : k < e
    · have hp := pow10_le k (by omega)
      have hp2 := pow10_le (k + 1) (by omega)
      have hps : (10 : Int) ^ k * 10 = 10 ^ (k + 1) := (Int.pow_succ 10 k).symm
      have hlt2 : (k : Int) < 4 - n := by rw [he'.out]; omega
      have hps' := Lib.hid hps
      obtain ⟨p, hpe⟩ : ∃ p, (10 : Int) ^ k = p := ⟨_, rfl⟩
      rw [hpe] at hp hps ⊢
      have hps2 := Lib.hid hps
      clear hps hps'
      rw [← hps2.out] at hp2
      go_wp2
      go_round
      case rel => exact ⟨k + 1, by omega, by go_num, by rw [← hps2.out]⟩
      case measure => simp [intOf]; omega
    · obtain rfl : k = e := by omega
      have hlt2 : ¬ (k : Int) < 4 - n := by rw [he'.out]; omega
      rw [hu'.out]
      go_wp2
      go_ret2
      exact ⟨rfl, rfl⟩
theorem trunc_any (x n : Int) (hx : -9223372036854775808 ≤ x ∧ x ≤ 9223372036854775807) (hn : -9223372036854775808 ≤ n ∧ n ≤ 9223372036854775807) (w : World) : Calls Tryz.prog 38 #[.int .i64 x, .int .i64 n] w fun e w' => e = .returned (.tuple #[.int .i64 (truncV x n), .int .i64 0]) ∧ w = w' := by
  unfold truncV
  by_cases h : 3 < n
  · rw [if_pos h]; exact trunc_same x n hx hn h w
  by_cases h2 : n < -14
  · rw [if_neg h, if_pos h2]; exact trunc_none x n hx hn h2 w
  rw [if_neg h, if_neg h2]
  exact trunc_mid x n hx hn (4 - n).toNat (by omega) (by omega) (by omega) _ rfl w
def nfloorV (x s : Int) : Int := if s ≤ 0 then 0 else if modC x s ≠ 0 then 0 else subV x (modV x s)
def nfloorC (x s : Int) : Int := if s ≤ 0 then 8 else if modC x s ≠ 0 then modC x s else subC x (modV x s)
theorem modV_in (x s : Int) (_hx : -9223372036854775808 ≤ x ∧ x ≤ 9223372036854775807) (hs : -9223372036854775808 ≤ s ∧ s ≤ 9223372036854775807) : -9223372036854775808 ≤ modV x s ∧ modV x s ≤ 9223372036854775807 := by
  unfold modV
  split
  · omega
  · rename_i h
    have := tmod_lt x s (by omega)
    have h2 : (x.tmod s).natAbs = x.natAbs % s.natAbs := Int.natAbs_tmod x s
    unfold modM
    split
    · rename_i h3
      have h4 := h3.2
      by_cases h5 : x.tmod s < 0 <;> by_cases h6 : s < 0 <;> simp [h5, h6] at h4 <;> omega
    · omega
set_option maxHeartbeats 1000000 in
theorem nfloor_low (x s : Int) (_hx : -9223372036854775808 ≤ x ∧ x ≤ 9223372036854775807) (_hs : -9223372036854775808 ≤ s ∧ s ≤ 9223372036854775807) (h : s ≤ 0) (w : World) : Calls Tryz.prog 41 #[.int .i64 x, .int .i64 s] w fun e w' => e = .returned (.tuple #[.int .i64 0, .int .i64 8]) ∧ w = w' := by
  go_enter Tryz.func41, Tryz.ntmps41
  go_wp2
  go_ret2
  exact ⟨rfl, rfl⟩
set_option maxHeartbeats 1000000 in
theorem nfloor_bad (x s : Int) (hx : -9223372036854775808 ≤ x ∧ x ≤ 9223372036854775807) (hs : -9223372036854775808 ≤ s ∧ s ≤ 9223372036854775807) (h : 0 < s) (c : Int) (hc : modC x s = c) (hc2 : (c != 0) = true) (w : World) : Calls Tryz.prog 41 #[.int .i64 x, .int .i64 s] w fun e w' => e = .returned (.tuple #[.int .i64 0, .int .i64 c]) ∧ w = w' := by
  have D := mod_any x s hx hs w
  rw [hc] at D
  have D' := Lib.hid D
  clear D hc
  go_enter Tryz.func41, Tryz.ntmps41
  go_wp2_with fail
  refine D'.out.mono ?_
  rintro e w' ⟨rfl, rfl⟩
  go_wp2
  go_ret2
  exact ⟨rfl, rfl⟩
set_option maxHeartbeats 1000000 in
theorem nfloor_yes (x s : Int) (hx : -9223372036854775808 ≤ x ∧ x ≤ 9223372036854775807) (hs : -9223372036854775808 ≤ s ∧ s ≤ 9223372036854775807) (h : 0 < s) (m : Int) (hm : modV x s = m) (hc : modC x s = 0) (w : World) : Calls Tryz.prog 41 #[.int .i64 x, .int .i64 s] w fun e w' => e = .returned (.tuple #[.int .i64 (subV x m), .int .i64 (subC x m)]) ∧ w = w' := by
  have hmb := modV_in x s hx hs
  rw [hm] at hmb
  have D := mod_any x s hx hs w
  rw [hc, hm] at D
  have D' := Lib.hid D
  clear D hc hm
  go_enter Tryz.func41, Tryz.ntmps41
  go_wp2_with fail
  refine D'.out.mono ?_
  rintro e w' ⟨rfl, rfl⟩
  go_wp2_with fail
  refine (sub_any x m hx hmb _).mono ?_
  rintro e w' ⟨rfl, rfl⟩
  go_wp2
  go_ret2
  exact ⟨rfl, rfl⟩
theorem nfloor_any (x s : Int) (hx : -9223372036854775808 ≤ x ∧ x ≤ 9223372036854775807) (hs : -9223372036854775808 ≤ s ∧ s ≤ 9223372036854775807) (w : World) : Calls Tryz.prog 41 #[.int .i64 x, .int .i64 s] w fun e w' => e = .returned (.tuple #[.int .i64 (nfloorV x s), .int .i64 (nfloorC x s)]) ∧ w = w' := by
  unfold nfloorV nfloorC
  by_cases h : s ≤ 0
  · rw [if_pos h, if_pos h]; exact nfloor_low x s hx hs h w
  by_cases h2 : modC x s = 0
  · rw [if_neg h, if_neg h, if_neg (by simpa using h2), if_neg (by simpa using h2)]; exact nfloor_yes x s hx hs (by omega) _ rfl h2 w
  · rw [if_neg h, if_neg h, if_pos h2, if_pos h2]; exact nfloor_bad x s hx hs (by omega) _ rfl (by simpa using h2) w
end Go.Proofs.YthobaffgllipfaaGreat
