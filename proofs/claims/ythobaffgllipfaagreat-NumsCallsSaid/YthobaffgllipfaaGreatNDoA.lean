/-
  nums: numbers, faults, wholes.
-/
import Derived.Test.YthobaffgllipfaaGreatRows
import Derived.Test.YthobaffgllipfaaGreatBase
import Derived.Test.YthobaffgllipfaaGreatMg3
import Derived.Test.YthobaffgllipfaaGreatValA
import Derived.Test.YthobaffgllipfaaGreatValB
import Derived.Test.YthobaffgllipfaaGreatDecS
import Derived.Test.YthobaffgllipfaaGreatValC
import Derived.Test.YthobaffgllipfaaGreatAddrC
import Derived.Test.YthobaffgllipfaaGreatMg9
import Derived.Test.YthobaffgllipfaaGreatMapK
import Derived.Test.YthobaffgllipfaaGreatDMod
import Derived.Test.YthobaffgllipfaaGreatDFlo
import Derived.Test.YthobaffgllipfaaGreatProg
import Derived.Test.YthobaffgllipfaaGreatMg12
import Derived.Test.YthobaffgllipfaaGreatDRnd
import Derived.Test.YthobaffgllipfaaGreatMg14
import Derived.Test.YthobaffgllipfaaGreatKnuth
import Derived.Test.YthobaffgllipfaaGreatDDiv
import Derived.Test.YthobaffgllipfaaGreatMg17
import Derived.WalkSpells
import Derived.WalkLawsBesides
import Derived.StillTactics
import Derived.Laws.Pointers
import Derived.Deep.RegionHeld3
import Derived.Deep.QuietTactic
import Derived.BigQuiet
import Derived.RowKit3
import Derived.Lib.Hide
import Derived.Lib.OthersKept
import Derived.OwnWalk
import Derived.Lib.IndexLaws
import Derived.Lib.ItoaMem
import Derived.WalkKit
import Derived.ProofKit
import Derived.OpenShut
import Derived.Carry
import Derived.ChangeSame
import Derived.Deep.Draws
import Derived.Maps.OwnSet
import Derived.Maps.AppendAt
import Derived.Laws.BitsAllLaws
import Derived.Shelf.Small.Bits
import Derived.Shelf.Strconv.Itoa0
import Derived.Shelf.Bits.Mul64
import Derived.Lib.TrimByte
import Derived.Lib.Bytealg
import Derived.Lib.SlTrimSet
import Derived.Lib.ParseIntB
import Derived.Shelf.Strings.SlTrimAscii
import Derived.Lib.SmallJoins
namespace Go.Proofs.YthobaffgllipfaaGreat
open Go.RowKit

def VL.val (v : VL) : Value := .agg #[.int .i64 v.t, .int .i64 v.n, .string v.s, .bool v.b, .int .i64 v.c]
def errL (c : Int) : VL := ⟨4, 0, ⟨#[]⟩, false, errC c⟩
def numL (x : Int) : VL := ⟨numT x, numN x, ⟨#[]⟩, false, numF x⟩
theorem verr_any (c : Int) (w : World) : Calls Tryz.prog 8 #[.int .i64 c] w fun e w' => e = .returned (.agg #[.int .i64 4, .int .i64 0, .string ⟨#[]⟩, .bool false, .int .i64 (errC c)]) ∧ Below w.heap.size w w' := by
  unfold errC
  by_cases h : 1 ≤ c ∧ c ≤ 8
  · rw [if_pos h]; exact verr_yes c h w
  · rw [if_neg h]; exact verr_no c h w
theorem vnum_any (x : Int) (hx : -9223372036854775808 ≤ x ∧ x ≤ 9223372036854775807) (w : World) : Calls Tryz.prog 32 #[.int .i64 x] w fun e w' => e = .returned (.agg #[.int .i64 (numT x), .int .i64 (numN x), .string ⟨#[]⟩, .bool false, .int .i64 (numF x)]) ∧ Below w.heap.size w w' := by
  unfold numT numN numF
  by_cases h : x = -9223372036854775808
  · rw [if_pos h, if_pos h, if_pos h]; exact vnum_no x hx h w
  · rw [if_neg h, if_neg h, if_neg h]; exact vnum_yes x hx h w
/-- a number, or what is wrong -/
def toldL (x c : Int) : VL := if c ≠ 0 then errL c else numL x
set_option maxRecDepth 100000 in
set_option maxHeartbeats 400000 in
theorem ntold_no (x : Int) (_hx : -9223372036854775808 ≤ x ∧ x ≤ 9223372036854775807) (c : Int) (h : c ≠ 0) (w : World) : Calls Tryz.prog 35 #[.int .i64 x, .int .i64 c] w fun e w' => e = .returned (.agg #[.int .i64 4, .int .i64 0, .string ⟨#[]⟩, .bool false, .int .i64 (errC c)]) ∧ Below w.heap.size w w' := by
  go_enter Tryz.func35, Tryz.ntmps35
  go_wp2_with (go_at_call 8; refine (verr_any c _).mono ?_; rintro e w1 ⟨rfl, hb⟩; obtain ⟨hc, hf, hz⟩ := bkeep hb (w.heap.size + 1) (by first | omega | (simp <;> omega)))
  refine bodyPost_ret (v := .agg #[.int .i64 4, .int .i64 0, .string ⟨#[]⟩, .bool false, .int .i64 (errC c)]) ?_ rfl ⟨rfl, by (repeat (first | (with_reducible exact Below.refl _ _) | (with_reducible refine Below.alloc ?_ (by first | omega | (dsimp only; omega) | (simp <;> omega)) _) | (with_reducible refine Below.setCell ?_ (by first | omega | (dsimp only; omega) | (simp <;> omega)) _) | (with_reducible refine Below.drew ?_) | (with_reducible refine below_drewN ?_ _) | (with_reducible refine Below.trans ?_ (Below.mono (by assumption) (by first | omega | (dsimp only; omega) | (simp <;> omega))))))⟩
  simp [results, Tryz.results35, go_sem, *]
set_option maxRecDepth 100000 in
set_option maxHeartbeats 400000 in
theorem ntold_yes (x : Int) (hx : -9223372036854775808 ≤ x ∧ x ≤ 9223372036854775807) (w : World) : Calls Tryz.prog 35 #[.int .i64 x, .int .i64 0] w fun e w' => e = .returned (.agg #[.int .i64 (numT x), .int .i64 (numN x), .string ⟨#[]⟩, .bool false, .int .i64 (numF x)]) ∧ Below w.heap.size w w' := by
  go_enter Tryz.func35, Tryz.ntmps35
  go_wp2_with (go_at_call 32; refine (vnum_any x (by first | assumption | omega) _).mono ?_; rintro e w1 ⟨rfl, hb⟩; obtain ⟨hc, hf, hz⟩ := bkeep hb (w.heap.size + 1) (by first | omega | (simp <;> omega)))
  refine bodyPost_ret (v := .agg #[.int .i64 (numT x), .int .i64 (numN x), .string ⟨#[]⟩, .bool false, .int .i64 (numF x)]) ?_ rfl ⟨rfl, by (repeat (first | (with_reducible exact Below.refl _ _) | (with_reducible refine Below.alloc ?_ (by first | omega | (dsimp only; omega) | (simp <;> omega)) _) | (with_reducible refine Below.setCell ?_ (by first | omega | (dsimp only; omega) | (simp <;> omega)) _) | (with_reducible refine Below.drew ?_) | (with_reducible refine below_drewN ?_ _) | (with_reducible refine Below.trans ?_ (Below.mono (by assumption) (by first | omega | (dsimp only; omega) | (simp <;> omega))))))⟩
  simp [results, Tryz.results35, go_sem, *]
theorem ntold_any (x : Int) (hx : -9223372036854775808 ≤ x ∧ x ≤ 9223372036854775807) (c : Int) (w : World) : Calls Tryz.prog 35 #[.int .i64 x, .int .i64 c] w fun e w' => e = .returned (toldL x c).val ∧ Below w.heap.size w w' := by
  unfold toldL
  by_cases h : c = 0
  · subst h; rw [if_neg (by simp)]; exact ntold_yes x hx w
  · rw [if_pos h]; exact ntold_no x hx c h w
set_option maxHeartbeats 400000 in
theorem nsize_any (x : Int) (hx : -9223372036854775808 ≤ x ∧ x ≤ 9223372036854775807) (h : x ≠ -9223372036854775808) (m : Nat) (hm : x.natAbs = m) (w : World) : Calls Tryz.prog 86 #[.int .i64 x] w fun e w' => e = .returned (.int .u64 (m : Int)) ∧ w = w' := by
  have e1 : IntKind.i64.wrap (-x) = -x := IntWalk.i64_in _ (by omega)
  have e2 : wrap64 (-x) = -x := by unfold wrap64; omega
  have hmm : Hid (max x (-x) = (m : Int)) := Lib.hid (by omega)
  clear hm
  go_enter Tryz.func86, Tryz.ntmps86
  go_wp2
  go_ret
  exact ⟨congrArg (fun z => Ending.returned (Value.int .u64 z)) hmm.out, rfl⟩
theorem nsize_at (x z : Int) (hx : -9223372036854775808 ≤ x ∧ x ≤ 9223372036854775807) (h : x ≠ -9223372036854775808) (hz : z = (x.natAbs : Int)) (w : World) : Calls Tryz.prog 86 #[.int .i64 x] w fun e w' => e = .returned (.int .u64 z) ∧ w = w' := by
  subst hz; exact nsize_any x hx h _ rfl w
def wholeL (n : Nat) (low : Bool) : VL := if 922337203685477 < n then errL 2 else numL (if low then -((n : Int) * 10000) else (n : Int) * 10000)
set_option maxRecDepth 100000 in
set_option maxHeartbeats 400000 in
theorem nwhole_no (n : Nat) (hn : n < 18446744073709551616) (h : 922337203685477 < n) (low : Bool) (w : World) : Calls Tryz.prog 85 #[.int .u64 (n : Int), .bool low] w fun e w' => e = .returned (.agg #[.int .i64 4, .int .i64 0, .string ⟨#[]⟩, .bool false, .int .i64 (errC 2)]) ∧ Below w.heap.size w w' := by
  go_enter Tryz.func85, Tryz.ntmps85
  go_wp2_with (go_at_call 8; refine (verr_any 2 _).mono ?_; rintro e w1 ⟨rfl, hb⟩; obtain ⟨hc, hf, hz⟩ := bkeep hb (w.heap.size + 1) (by first | omega | (simp <;> omega)))
  refine bodyPost_ret (v := .agg #[.int .i64 4, .int .i64 0, .string ⟨#[]⟩, .bool false, .int .i64 (errC 2)]) ?_ rfl ⟨rfl, by (repeat (first | (with_reducible exact Below.refl _ _) | (with_reducible refine Below.alloc ?_ (by first | omega | (dsimp only; omega) | (simp <;> omega)) _) | (with_reducible refine Below.setCell ?_ (by first | omega | (dsimp only; omega) | (simp <;> omega)) _) | (with_reducible refine Below.drew ?_) | (with_reducible refine below_drewN ?_ _) | (with_reducible refine Below.trans ?_ (Below.mono (by assumption) (by first | omega | (dsimp only; omega) | (simp <;> omega))))))⟩
  simp [results, Tryz.results85, go_sem, *]
set_option maxRecDepth 100000 in
set_option maxHeartbeats 400000 in
theorem nwhole_lo (n : Nat) (h : n ≤ 922337203685477) (w : World) : Calls Tryz.prog 85 #[.int .u64 (n : Int), .bool true] w fun e w' => e = .returned (.agg #[.int .i64 (numT (-((n : Int) * 10000))), .int .i64 (numN (-((n : Int) * 10000))), .string ⟨#[]⟩, .bool false, .int .i64 (numF (-((n : Int) * 10000)))]) ∧ Below w.heap.size w w' := by
  go_enter Tryz.func85, Tryz.ntmps85
  go_wp2_with (go_at_call 32; refine (vnum_any (-((n : Int) * 10000)) (by first | assumption | omega) _).mono ?_; rintro e w1 ⟨rfl, hb⟩; obtain ⟨hc, hf, hz⟩ := bkeep hb (w.heap.size + 1) (by first | omega | (simp <;> omega)))
  refine bodyPost_ret (v := .agg #[.int .i64 (numT (-((n : Int) * 10000))), .int .i64 (numN (-((n : Int) * 10000))), .string ⟨#[]⟩, .bool false, .int .i64 (numF (-((n : Int) * 10000)))]) ?_ rfl ⟨rfl, by (repeat (first | (with_reducible exact Below.refl _ _) | (with_reducible refine Below.alloc ?_ (by first | omega | (dsimp only; omega) | (simp <;> omega)) _) | (with_reducible refine Below.setCell ?_ (by first | omega | (dsimp only; omega) | (simp <;> omega)) _) | (with_reducible refine Below.drew ?_) | (with_reducible refine below_drewN ?_ _) | (with_reducible refine Below.trans ?_ (Below.mono (by assumption) (by first | omega | (dsimp only; omega) | (simp <;> omega))))))⟩
  simp [results, Tryz.results85, go_sem, *]
set_option maxRecDepth 100000 in
set_option maxHeartbeats 400000 in
theorem nwhole_hi (n : Nat) (h : n ≤ 922337203685477) (w : World) : Calls Tryz.prog 85 #[.int .u64 (n : Int), .bool false] w fun e w' => e = .returned (.agg #[.int .i64 (numT ((n : Int) * 10000)), .int .i64 (numN ((n : Int) * 10000)), .string ⟨#[]⟩, .bool false, .int .i64 (numF ((n : Int) * 10000))]) ∧ Below w.heap.size w w' := by
  go_enter Tryz.func85, Tryz.ntmps85
  go_wp2_with (go_at_call 32; refine (vnum_any ((n : Int) * 10000) (by first | assumption | omega) _).mono ?_; rintro e w1 ⟨rfl, hb⟩; obtain ⟨hc, hf, hz⟩ := bkeep hb (w.heap.size + 1) (by first | omega | (simp <;> omega)))
  refine bodyPost_ret (v := .agg #[.int .i64 (numT ((n : Int) * 10000)), .int .i64 (numN ((n : Int) * 10000)), .string ⟨#[]⟩, .bool false, .int .i64 (numF ((n : Int) * 10000))]) ?_ rfl ⟨rfl, by (repeat (first | (with_reducible exact Below.refl _ _) | (with_reducible refine Below.alloc ?_ (by first | omega | (dsimp only; omega) | (simp <;> omega)) _) | (with_reducible refine Below.setCell ?_ (by first | omega | (dsimp only; omega) | (simp <;> omega)) _) | (with_reducible refine Below.drew ?_) | (with_reducible refine below_drewN ?_ _) | (with_reducible refine Below.trans ?_ (Below.mono (by assumption) (by first | omega | (dsimp only; omega) | (simp <;> omega))))))⟩
  simp [results, Tryz.results85, go_sem, *]
theorem nwhole_any (n : Nat) (hn : n < 18446744073709551616) (low : Bool) (w : World) : Calls Tryz.prog 85 #[.int .u64 (n : Int), .bool low] w fun e w' => e = .returned (wholeL n low).val ∧ Below w.heap.size w w' := by
  unfold wholeL
  by_cases h : 922337203685477 < n
  · rw [if_pos h]; exact nwhole_no n hn h low w
  · rw [if_neg h]
    cases low
    · exact nwhole_hi n (by omega) w
    · exact nwhole_lo n (by omega) w
theorem nwhole_at (z : Int) (n : Nat) (hz : z = (n : Int)) (hn : n < 18446744073709551616) (low : Bool) (w : World) : Calls Tryz.prog 85 #[.int .u64 z, .bool low] w fun e w' => e = .returned (wholeL n low).val ∧ Below w.heap.size w w' := by
  subst hz; exact nwhole_any n hn low w
set_option maxHeartbeats 400000 in
theorem ngcd_zero (a : Nat) (w : World) : Calls Tryz.prog 90 #[.int .u64 (a : Int), .int .u64 0] w fun e w' => e = .returned (.int .u64 (a : Int)) ∧ w = w' := by
  go_enter Tryz.func90, Tryz.ntmps90
  go_wp2_with fail
  go_ret
  exact ⟨rfl, rfl⟩
theorem ngcd_any : ∀ (b a : Nat) (_ : a < 18446744073709551616) (_ : b < 18446744073709551616) (w : World), Calls Tryz.prog 90 #[.int .u64 (a : Int), .int .u64 (b : Int)] w fun e w' => e = .returned (.int .u64 ((Nat.gcd a b : Nat) : Int)) ∧ w = w' := by
  intro b
  induction b using Nat.strongRecOn with
  | ind b ih =>
    intro a ha hb w
    by_cases h0 : b = 0
    · subst h0
      rw [Nat.gcd_zero_right]
      exact ngcd_zero a w
    · have hb0 : 0 < b := by omega
      have hb1 : ((b : Int) == 0) = false := by simp; omega
      have hlt := Nat.mod_lt a hb0
      have ih' := Lib.hid (ih (a % b) hlt b hb (by omega))
      have hg : Nat.gcd b (a % b) = Nat.gcd a b := by rw [Nat.gcd_comm a b, Nat.gcd_rec b a, Nat.gcd_comm]
      rw [hg] at ih'
      clear ih hg
      go_enter Tryz.func90, Tryz.ntmps90
      go_wp2_with fail
      refine (ih'.out _).mono ?_
      rintro e w' ⟨rfl, rfl⟩
      go_wp2_with fail
      go_ret
      exact ⟨rfl, rfl⟩
end Go.Proofs.YthobaffgllipfaaGreat
