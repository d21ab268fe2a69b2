/-
  the document's nums: numbers, wholes, GCD of two, TRUNC, FLOOR.
-/
import Derived.Test.YthobaffgllipfaaGreatRows
import Derived.Test.YthobaffgllipfaaGreatBase
import Derived.Test.YthobaffgllipfaaGreatMapK
import Derived.Test.YthobaffgllipfaaGreatNFind
import Derived.Test.YthobaffgllipfaaGreatMg3
import Derived.Test.YthobaffgllipfaaGreatValA
import Derived.Test.YthobaffgllipfaaGreatValB
import Derived.Test.YthobaffgllipfaaGreatDecS
import Derived.Test.YthobaffgllipfaaGreatValC
import Derived.Test.YthobaffgllipfaaGreatAddrC
import Derived.Test.YthobaffgllipfaaGreatMg9
import Derived.Test.YthobaffgllipfaaGreatDMod
import Derived.Test.YthobaffgllipfaaGreatDFlo
import Derived.Test.YthobaffgllipfaaGreatProg
import Derived.Test.YthobaffgllipfaaGreatMg12
import Derived.Test.YthobaffgllipfaaGreatDRnd
import Derived.Test.YthobaffgllipfaaGreatMg14
import Derived.Test.YthobaffgllipfaaGreatKnuth
import Derived.Test.YthobaffgllipfaaGreatDDiv
import Derived.Test.YthobaffgllipfaaGreatMg17
import Derived.Test.YthobaffgllipfaaGreatNDoA
import Derived.Test.YthobaffgllipfaaGreatNDoB
import Derived.Test.YthobaffgllipfaaGreatNDoC
import Derived.Test.YthobaffgllipfaaGreatMg21
import Derived.Test.YthobaffgllipfaaGreatNCall
import Derived.Test.YthobaffgllipfaaGreatValL
import Derived.Test.YthobaffgllipfaaGreatNCallK
import Derived.Test.YthobaffgllipfaaGreatNCallB
import Derived.Test.YthobaffgllipfaaGreatNDoF
import Derived.Test.YthobaffgllipfaaGreatMg27
import Derived.Test.YthobaffgllipfaaGreatNDoQ
import Derived.Test.YthobaffgllipfaaGreatNDoP
import Derived.Test.YthobaffgllipfaaGreatNDoAt2
import Derived.Test.YthobaffgllipfaaGreatDPowB
import Derived.Test.YthobaffgllipfaaGreatDPowC
import Derived.Test.YthobaffgllipfaaGreatNDoAt3
import Derived.WalkSpells
import Derived.WalkLawsBesides
import Derived.StillTactics
import Derived.Laws.Pointers
import Derived.Deep.RegionHeld3
import Derived.Deep.QuietTactic
import Derived.BigQuiet
import Derived.RowKit3
import Derived.Lib.Hide
import Derived.Lib.OthersKept
import Derived.OwnWalk
import Derived.Lib.IndexLaws
import Derived.Lib.ItoaMem
import Derived.WalkKit
import Derived.ProofKit
import Derived.OpenShut
import Derived.Carry
import Derived.ChangeSame
import Derived.Deep.Draws
import Derived.Maps.OwnSet
import Derived.Maps.AppendAt
import Derived.Laws.EntriesVeiled
import Derived.Laws.BitsAllLaws
import Derived.Shelf.Small.Bits
import Derived.Shelf.Strconv.Itoa0
import Derived.Shelf.Bits.Mul64
import Derived.Lib.TrimByte
import Derived.Lib.Bytealg
import Derived.Lib.SlTrimSet
import Derived.Lib.ParseIntB
import Derived.Shelf.Strings.SlTrimAscii
import Derived.Lib.SmallJoins
import Derived.Deep.RegionWith
import Derived.Laws.Externs
namespace Go.Proofs.YthobaffgllipfaaGreat
open Go.RowKit

theorem rverr_any (c : Int) (w : World) : Calls Tryz.prog 14 #[.int .i64 c] w fun e w' => e = .returned (.agg #[.int .i64 4, .int .i64 0, .string ⟨#[]⟩, .bool false, .int .i64 (errC c)]) ∧ Below w.heap.size w w' := by
  unfold errC
  by_cases h : 1 ≤ c ∧ c ≤ 8
  · rw [if_pos h]; exact rverr_yes c h w
  · rw [if_neg h]; exact rverr_no c h w
theorem rvnum_any (x : Int) (hx : -9223372036854775808 ≤ x ∧ x ≤ 9223372036854775807) (w : World) : Calls Tryz.prog 18 #[.int .i64 x] w fun e w' => e = .returned (.agg #[.int .i64 (numT x), .int .i64 (numN x), .string ⟨#[]⟩, .bool false, .int .i64 (numF x)]) ∧ Below w.heap.size w w' := by
  unfold numT numN numF
  by_cases h : x = -9223372036854775808
  · rw [if_pos h, if_pos h, if_pos h]; exact rvnum_no x hx h w
  · rw [if_neg h, if_neg h, if_neg h]; exact rvnum_yes x hx h w
set_option maxRecDepth 100000 in
set_option maxHeartbeats 400000 in
theorem r8told_no (x : Int) (_hx : -9223372036854775808 ≤ x ∧ x ≤ 9223372036854775807) (c : Int) (h : c ≠ 0) (w : World) : Calls Tryz.prog 61 #[.int .i64 x, .int .i64 c] w fun e w' => e = .returned (.agg #[.int .i64 4, .int .i64 0, .string ⟨#[]⟩, .bool false, .int .i64 (errC c)]) ∧ Below w.heap.size w w' := by
  go_enter Tryz.func61, Tryz.ntmps61
  go_wp2_with (go_at_call 14; refine (rverr_any c _).mono ?_; rintro e w1 ⟨rfl, hb⟩; obtain ⟨hc, hf, hz⟩ := bkeep hb (w.heap.size + 1) (by first | omega | (simp <;> omega)))
  refine bodyPost_ret (v := .agg #[.int .i64 4, .int .i64 0, .string ⟨#[]⟩, .bool false, .int .i64 (errC c)]) ?_ rfl ⟨rfl, by (repeat (first | (with_reducible exact Below.refl _ _) | (with_reducible refine Below.alloc ?_ (by first | omega | (dsimp only; omega) | (simp <;> omega)) _) | (with_reducible refine Below.setCell ?_ (by first | omega | (dsimp only; omega) | (simp <;> omega)) _) | (with_reducible refine Below.drew ?_) | (with_reducible refine below_drewN ?_ _) | (with_reducible refine Below.trans ?_ (Below.mono (by assumption) (by first | omega | (dsimp only; omega) | (simp <;> omega))))))⟩
  simp [results, Tryz.results61, go_sem, *]
set_option maxRecDepth 100000 in
set_option maxHeartbeats 400000 in
theorem r8told_yes (x : Int) (hx : -9223372036854775808 ≤ x ∧ x ≤ 9223372036854775807) (w : World) : Calls Tryz.prog 61 #[.int .i64 x, .int .i64 0] w fun e w' => e = .returned (.agg #[.int .i64 (numT x), .int .i64 (numN x), .string ⟨#[]⟩, .bool false, .int .i64 (numF x)]) ∧ Below w.heap.size w w' := by
  go_enter Tryz.func61, Tryz.ntmps61
  go_wp2_with (go_at_call 18; refine (rvnum_any x (by first | assumption | omega) _).mono ?_; rintro e w1 ⟨rfl, hb⟩; obtain ⟨hc, hf, hz⟩ := bkeep hb (w.heap.size + 1) (by first | omega | (simp <;> omega)))
  refine bodyPost_ret (v := .agg #[.int .i64 (numT x), .int .i64 (numN x), .string ⟨#[]⟩, .bool false, .int .i64 (numF x)]) ?_ rfl ⟨rfl, by (repeat (first | (with_reducible exact Below.refl _ _) | (with_reducible refine Below.alloc ?_ (by first | omega | (dsimp only; omega) | (simp <;> omega)) _) | (with_reducible refine Below.setCell ?_ (by first | omega | (dsimp only; omega) | (simp <;> omega)) _) | (with_reducible refine Below.drew ?_) | (with_reducible refine below_drewN ?_ _) | (with_reducible refine Below.trans ?_ (Below.mono (by assumption) (by first | omega | (dsimp only; omega) | (simp <;> omega))))))⟩
  simp [results, Tryz.results61, go_sem, *]
theorem r8told_any (x : Int) (hx : -9223372036854775808 ≤ x ∧ x ≤ 9223372036854775807) (c : Int) (w : World) : Calls Tryz.prog 61 #[.int .i64 x, .int .i64 c] w fun e w' => e = .returned (.agg #[.int .i64 (toldL x c).t, .int .i64 (toldL x c).n, .string (toldL x c).s, .bool (toldL x c).b, .int .i64 (toldL x c).c]) ∧ Below w.heap.size w w' := by
  unfold toldL
  by_cases h : c = 0
  · subst h; rw [if_neg (by simp)]; exact r8told_yes x hx w
  · rw [if_pos h]; exact r8told_no x hx c h w
set_option maxHeartbeats 400000 in
theorem r8size_any (x : Int) (hx : -9223372036854775808 ≤ x ∧ x ≤ 9223372036854775807) (h : x ≠ -9223372036854775808) (m : Nat) (hm : x.natAbs = m) (w : World) : Calls Tryz.prog 58 #[.int .i64 x] w fun e w' => e = .returned (.int .u64 (m : Int)) ∧ w = w' := by
  have e1 : IntKind.i64.wrap (-x) = -x := IntWalk.i64_in _ (by omega)
  have e2 : wrap64 (-x) = -x := by unfold wrap64; omega
  by_cases h0 : x < 0
  · have hmm : Hid (-x = (m : Int)) := Lib.hid (by omega)
    clear hm
    go_enter Tryz.func58, Tryz.ntmps58
    go_wp2
    go_ret
    exact ⟨congrArg (fun z => Ending.returned (Value.int .u64 z)) hmm.out, rfl⟩
  · have hmm : Hid (x = (m : Int)) := Lib.hid (by omega)
    clear hm
    go_enter Tryz.func58, Tryz.ntmps58
    go_wp2
    go_ret
    exact ⟨congrArg (fun z => Ending.returned (Value.int .u64 z)) hmm.out, rfl⟩
set_option maxRecDepth 100000 in
set_option maxHeartbeats 400000 in
theorem r8whole_no (n : Nat) (hn : n < 18446744073709551616) (h : 922337203685477 < n) (low : Bool) (w : World) : Calls Tryz.prog 59 #[.int .u64 (n : Int), .bool low] w fun e w' => e = .returned (.agg #[.int .i64 4, .int .i64 0, .string ⟨#[]⟩, .bool false, .int .i64 (errC 2)]) ∧ Below w.heap.size w w' := by
  go_enter Tryz.func59, Tryz.ntmps59
  go_wp2_with (go_at_call 14; refine (rverr_any 2 _).mono ?_; rintro e w1 ⟨rfl, hb⟩; obtain ⟨hc, hf, hz⟩ := bkeep hb (w.heap.size + 1) (by first | omega | (simp <;> omega)))
  refine bodyPost_ret (v := .agg #[.int .i64 4, .int .i64 0, .string ⟨#[]⟩, .bool false, .int .i64 (errC 2)]) ?_ rfl ⟨rfl, by (repeat (first | (with_reducible exact Below.refl _ _) | (with_reducible refine Below.alloc ?_ (by first | omega | (dsimp only; omega) | (simp <;> omega)) _) | (with_reducible refine Below.setCell ?_ (by first | omega | (dsimp only; omega) | (simp <;> omega)) _) | (with_reducible refine Below.drew ?_) | (with_reducible refine below_drewN ?_ _) | (with_reducible refine Below.trans ?_ (Below.mono (by assumption) (by first | omega | (dsimp only; omega) | (simp <;> omega))))))⟩
  simp [results, Tryz.results59, go_sem, *]
set_option maxRecDepth 100000 in
set_option maxHeartbeats 400000 in
theorem r8whole_lo (n : Nat) (h : n ≤ 922337203685477) (w : World) : Calls Tryz.prog 59 #[.int .u64 (n : Int), .bool true] w fun e w' => e = .returned (.agg #[.int .i64 (numT (-(n : Int) * 10000)), .int .i64 (numN (-(n : Int) * 10000)), .string ⟨#[]⟩, .bool false, .int .i64 (numF (-(n : Int) * 10000))]) ∧ Below w.heap.size w w' := by
  go_enter Tryz.func59, Tryz.ntmps59
  go_wp2_with (go_at_call 18; refine (rvnum_any (-(n : Int) * 10000) (by first | assumption | omega) _).mono ?_; rintro e w1 ⟨rfl, hb⟩; obtain ⟨hc, hf, hz⟩ := bkeep hb (w.heap.size + 1) (by first | omega | (simp <;> omega)))
  refine bodyPost_ret (v := .agg #[.int .i64 (numT (-(n : Int) * 10000)), .int .i64 (numN (-(n : Int) * 10000)), .string ⟨#[]⟩, .bool false, .int .i64 (numF (-(n : Int) * 10000))]) ?_ rfl ⟨rfl, by (repeat (first | (with_reducible exact Below.refl _ _) | (with_reducible refine Below.alloc ?_ (by first | omega | (dsimp only; omega) | (simp <;> omega)) _) | (with_reducible refine Below.setCell ?_ (by first | omega | (dsimp only; omega) | (simp <;> omega)) _) | (with_reducible refine Below.drew ?_) | (with_reducible refine below_drewN ?_ _) | (with_reducible refine Below.trans ?_ (Below.mono (by assumption) (by first | omega | (dsimp only; omega) | (simp <;> omega))))))⟩
  simp [results, Tryz.results59, go_sem, *]
set_option maxRecDepth 100000 in
set_option maxHeartbeats 400000 in
theorem r8whole_hi (n : Nat) (h : n ≤ 922337203685477) (w : World) : Calls Tryz.prog 59 #[.int .u64 (n : Int), .bool false] w fun e w' => e = .returned (.agg #[.int .i64 (numT ((n : Int) * 10000)), .int .i64 (numN ((n : Int) * 10000)), .string ⟨#[]⟩, .bool false, .int .i64 (numF ((n : Int) * 10000))]) ∧ Below w.heap.size w w' := by
  go_enter Tryz.func59, Tryz.ntmps59
  go_wp2_with (go_at_call 18; refine (rvnum_any ((n : Int) * 10000) (by first | assumption | omega) _).mono ?_; rintro e w1 ⟨rfl, hb⟩; obtain ⟨hc, hf, hz⟩ := bkeep hb (w.heap.size + 1) (by first | omega | (simp <;> omega)))
  refine bodyPost_ret (v := .agg #[.int .i64 (numT ((n : Int) * 10000)), .int .i64 (numN ((n : Int) * 10000)), .string ⟨#[]⟩, .bool false, .int .i64 (numF ((n : Int) * 10000))]) ?_ rfl ⟨rfl, by (repeat (first | (with_reducible exact Below.refl _ _) | (with_reducible refine Below.alloc ?_ (by first | omega | (dsimp only; omega) | (simp <;> omega)) _) | (with_reducible refine Below.setCell ?_ (by first | omega | (dsimp only; omega) | (simp <;> omega)) _) | (with_reducible refine Below.drew ?_) | (with_reducible refine below_drewN ?_ _) | (with_reducible refine Below.trans ?_ (Below.mono (by assumption) (by first | omega | (dsimp only; omega) | (simp <;> omega))))))⟩
  simp [results, Tryz.results59, go_sem, *]
theorem r8whole_any (n : Nat) (hn : n < 18446744073709551616) (low : Bool) (w : World) : Calls Tryz.prog 59 #[.int .u64 (n : Int), .bool low] w fun e w' => e = .returned (.agg #[.int .i64 (wholeL n low).t, .int .i64 (wholeL n low).n, .string (wholeL n low).s, .bool (wholeL n low).b, .int .i64 (wholeL n low).c]) ∧ Below w.heap.size w w' := by
  unfold wholeL
  by_cases h : 922337203685477 < n
  · rw [if_pos h]; exact r8whole_no n hn h low w
  · rw [if_neg h]
    cases low
    · exact r8whole_hi n (by omega) w
    · have e : -((n : Int) * 10000) = -(n : Int) * 10000 := by omega
      rw [if_pos rfl, e]
      exact r8whole_lo n (by omega) w
set_option maxHeartbeats 1000000 in
theorem r8gcd_any (a b : Nat) (ha : a < 18446744073709551616) (hb : b < 18446744073709551616) (G : Nat) (hG : Nat.gcd a b = G) (w : World) : Calls Tryz.prog 57 #[.int .u64 (a : Int), .int .u64 (b : Int)] w fun e w' => e = .returned (.int .u64 (G : Int)) ∧ w = w' := by
  have hG' := Lib.hid hG
  clear hG
  go_enter Tryz.func57, Tryz.ntmps57
  go_wp2
  go_loop [0, 1] (fun x y => ∃ (p q : Nat), p < 18446744073709551616 ∧ q < 18446744073709551616 ∧ Hid (Nat.gcd p q = G) ∧ x = .int .u64 (p : Int) ∧ y = .int .u64 (q : Int)) (fun _ y => (intOf y).toNat)
  case atStart => exact ⟨a, b, ha, hb, hG', rfl, rfl⟩
  case round =>
    obtain ⟨p, q, hp, hq, hg, rfl, rfl⟩ := hrel
    by_cases h0 : 0 < q
    · have hb1 : ((q : Int) == 0) = false := by simp; omega
      have hlt := Nat.mod_lt p h0
      have hg2 : Nat.gcd q (p % q) = Nat.gcd p q := by rw [Nat.gcd_comm p q, Nat.gcd_rec q p, Nat.gcd_comm]
      have hg2' := Lib.hid (hg2.trans hg.out)
      clear hg2
      have hm : (p : Int) % (q : Int) = ((p % q : Nat) : Int) := (Int.natCast_emod p q).symm
      go_wp2
      go_round
      case rel => exact ⟨q, p % q, hq, by omega, hg2', rfl, by first | rfl | go_num | simp [hm]⟩
      case measure => simp [intOf]; omega
    · obtain rfl : q = 0 := by omega
      have hgg : p = G := by rw [← hg.out, Nat.gcd_zero_right]
      subst hgg
      go_wp2
      go_ret
      exact ⟨rfl, rfl⟩
set_option maxRecDepth 100000 in
set_option maxHeartbeats 400000 in
theorem r8trunc_same (x n : Int) (hx : -9223372036854775808 ≤ x ∧ x ≤ 9223372036854775807) (_hn : -9223372036854775808 ≤ n ∧ n ≤ 9223372036854775807) (h : 3 < n) (w : World) : Calls Tryz.prog 66 #[.int .i64 x, .int .i64 n] w fun e w' => e = .returned (.agg #[.int .i64 (numT x), .int .i64 (numN x), .string ⟨#[]⟩, .bool false, .int .i64 (numF x)]) ∧ Below w.heap.size w w' := by
  go_enter Tryz.func66, Tryz.ntmps66
  go_wp2_with (go_at_call 18; refine (rvnum_any x (by first | assumption | omega) _).mono ?_; rintro e w1 ⟨rfl, hb⟩; obtain ⟨hc, hf, hz⟩ := bkeep hb (w.heap.size + 1) (by first | omega | (simp <;> omega)))
  refine bodyPost_ret (v := .agg #[.int .i64 (numT x), .int .i64 (numN x), .string ⟨#[]⟩, .bool false, .int .i64 (numF x)]) ?_ rfl ⟨rfl, by (repeat (first | (with_reducible exact Below.refl _ _) | (with_reducible refine Below.alloc ?_ (by first | omega | (dsimp only; omega) | (simp <;> omega)) _) | (with_reducible refine Below.setCell ?_ (by first | omega | (dsimp only; omega) | (simp <;> omega)) _) | (with_reducible refine Below.drew ?_) | (with_reducible refine below_drewN ?_ _) | (with_reducible refine Below.trans ?_ (Below.mono (by assumption) (by first | omega | (dsimp only; omega) | (simp <;> omega))))))⟩
  simp [results, Tryz.results66, go_sem, *]
set_option maxRecDepth 100000 in
set_option maxHeartbeats 400000 in
theorem r8trunc_none (x n : Int) (_hx : -9223372036854775808 ≤ x ∧ x ≤ 9223372036854775807) (hn : -9223372036854775808 ≤ n ∧ n ≤ 9223372036854775807) (h : n < -14) (w : World) : Calls Tryz.prog 66 #[.int .i64 x, .int .i64 n] w fun e w' => e = .returned (.agg #[.int .i64 (numT 0), .int .i64 (numN 0), .string ⟨#[]⟩, .bool false, .int .i64 (numF 0)]) ∧ Below w.heap.size w w' := by
  go_enter Tryz.func66, Tryz.ntmps66
  go_wp2_with (go_at_call 18; refine (rvnum_any 0 (by first | assumption | omega) _).mono ?_; rintro e w1 ⟨rfl, hb⟩; obtain ⟨hc, hf, hz⟩ := bkeep hb (w.heap.size + 1) (by first | omega | (simp <;> omega)))
  refine bodyPost_ret (v := .agg #[.int .i64 (numT 0), .int .i64 (numN 0), .string ⟨#[]⟩, .bool false, .int .i64 (numF 0)]) ?_ rfl ⟨rfl, by (repeat (first | (with_reducible exact Below.refl _ _) | (with_reducible refine Below.alloc ?_ (by first | omega | (dsimp only; omega) | (simp <;> omega)) _) | (with_reducible refine Below.setCell ?_ (by first | omega | (dsimp only; omega) | (simp <;> omega)) _) | (with_reducible refine Below.drew ?_) | (with_reducible refine below_drewN ?_ _) | (with_reducible refine Below.trans ?_ (Below.mono (by assumption) (by first | omega | (dsimp only; omega) | (simp <;> omega))))))⟩
  simp [results, Tryz.results66, go_sem, *]
set_option maxRecDepth 100000 in
set_option maxHeartbeats 1000000 in
theorem r8trunc_mid (x n : Int) (hx : -9223372036854775808 ≤ x ∧ x ≤ 9223372036854775807) (hn : -9223372036854775808 ≤ n ∧ n ≤ 9223372036854775807) (e : Nat) (he : 4 - n = (e : Int)) (h1 : 1 ≤ e) (h2 : e ≤ 18) (u : Int) (hu : (10 : Int) ^ e = u) (w : World) : Calls Tryz.prog 66 #[.int .i64 x, .int .i64 n] w fun e' w' => e' = .returned (.agg #[.int .i64 (numT (x.tdiv u * u)), .int .i64 (numN (x.tdiv u * u)), .string ⟨#[]⟩, .bool false, .int .i64 (numF (x.tdiv u * u))]) ∧ Below w.heap.size w w' := by
  have hub := pow10_le e h2
  rw [hu] at hub
  have hq := tdiv_mul_in x u (by omega) hx
  have hn1 : ¬ 3 < n := by omega
  have hn2 : ¬ n < -14 := by omega
  have h9 : x - x.tmod u = x.tdiv u * u := by have := Int.mul_tdiv_add_tmod x u; rw [Int.mul_comm]; omega
  have hu0 : (u == 0) = false := by simp; omega
  have hu1 : u ≠ 0 := by omega
  obtain ⟨m, hm⟩ : ∃ m, x.tmod u = m := ⟨_, rfl⟩
  rw [hm] at h9
  have hmb : m.natAbs < u.natAbs := by rw [← hm, Int.natAbs_tmod]; exact Nat.mod_lt _ (by omega)
  have hw2 : IntKind.i64.wrap (x - m) = x - m := IntWalk.i64_in _ (by omega)
  have hx2 : -9223372036854775808 ≤ x - m ∧ x - m ≤ 9223372036854775807 := by omega
  have h9' := Lib.hid h9
  have hu' := Lib.hid hu
  have he' := Lib.hid he
  clear hu he hq h9
  have b0 : Below w.heap.size w (w.alloc (.cells #[.int .i64 0, .int .i64 0, .string ⟨#[]⟩, .bool false, .int .i64 0] 26)) := (Below.refl _ _).alloc (Nat.le_refl _) _
  go_enter Tryz.func66, Tryz.ntmps66
  go_wp2
  go_loop [5, 6] (fun uv iv => ∃ (k : Nat), k ≤ e ∧ iv = .int .i64 (4 - (k : Int)) ∧ uv = .int .i64 (10 ^ k)) (fun _ iv => (intOf iv - n).toNat)
  case atStart => exact ⟨0, by omega, rfl, rfl⟩
  case round =>
    obtain ⟨k, hk, rfl, rfl⟩ := hrel
    by_cases hlt : k < e
    · have hp := pow10_le k (by omega)
      have hp2 := pow10_le (k + 1) (by omega)
      have hps : (10 : Int) * 10 ^ k = 10 ^ (k + 1) := by rw [Int.pow_succ, Int.mul_comm]
      have hlt2 : n < 4 - (k : Int) := by have := he'.out; omega
      obtain ⟨p, hpe⟩ : ∃ p, (10 : Int) ^ k = p := ⟨_, rfl⟩
      rw [hpe] at hp hps ⊢
      have hps2 := Lib.hid hps
      clear hps
      rw [← hps2.out] at hp2
      go_wp2
      go_round
      case rel => exact ⟨k + 1, by omega, by first | go_num | (congr 1; omega), by rw [← hps2.out]⟩
      case measure => simp [intOf]; omega
    · obtain rfl : k = e := by omega
      have hlt2 : ¬ n < 4 - (k : Int) := by have := he'.out; omega
      rw [hu'.out]
      go_wp2_with (go_at_call 18; refine (rvnum_any (x - m) (by first | assumption | omega) _).mono ?_; rintro e w1 ⟨rfl, hb⟩; obtain ⟨hc, hf, hz⟩ := bkeep hb (w.heap.size + 1) (by first | omega | (simp <;> omega)))
      refine bodyPost_ret (v := .agg #[.int .i64 (numT (x - m)), .int .i64 (numN (x - m)), .string ⟨#[]⟩, .bool false, .int .i64 (numF (x - m))]) ?_ rfl ⟨by rw [h9'.out], by (repeat (first | (with_reducible exact Below.refl _ _) | (with_reducible refine Below.alloc ?_ (by first | omega | (dsimp only; omega) | (simp <;> omega)) _) | (with_reducible refine Below.setCell ?_ (by first | omega | (dsimp only; omega) | (simp <;> omega)) _) | (with_reducible refine Below.drew ?_) | (with_reducible refine below_drewN ?_ _) | (with_reducible refine Below.trans ?_ (Below.mono (by assumption) (by first | omega | (dsimp only; omega) | (simp <;> omega))))))⟩
      simp [results, Tryz.results66, go_sem, *]
theorem r8trunc_any (x n : Int) (hx : -9223372036854775808 ≤ x ∧ x ≤ 9223372036854775807) (hn : -9223372036854775808 ≤ n ∧ n ≤ 9223372036854775807) (w : World) : Calls Tryz.prog 66 #[.int .i64 x, .int .i64 n] w fun e w' => e = .returned (.agg #[.int .i64 (toldL (truncV x n) 0).t, .int .i64 (toldL (truncV x n) 0).n, .string (toldL (truncV x n) 0).s, .bool (toldL (truncV x n) 0).b, .int .i64 (toldL (truncV x n) 0).c]) ∧ Below w.heap.size w w' := by
  unfold truncV toldL
  rw [if_neg (by simp)]
  by_cases h : 3 < n
  · rw [if_pos h]; exact r8trunc_same x n hx hn h w
  by_cases h2 : n < -14
  · rw [if_neg h, if_pos h2]; exact r8trunc_none x n hx hn h2 w
  · rw [if_neg h, if_neg h2]
    obtain ⟨e, he⟩ := Int.eq_ofNat_of_zero_le (show 0 ≤ 4 - n by omega)
    have ht : (4 - n).toNat = e := by omega
    rw [ht]
    exact r8trunc_mid x n hx hn e he (by omega) (by omega) _ rfl w
set_option maxHeartbeats 1000000 in
theorem r8floor_no (x s : Int) (hs : s ≤ 0) (w : World) : Calls Tryz.prog 69 #[.int .i64 x, .int .i64 s] w fun e w' => e = .returned (.tuple #[.int .i64 0, .int .i64 8]) ∧ w = w' := by
  go_enter Tryz.func69, Tryz.ntmps69
  go_wp2
  go_ret2
  exact ⟨rfl, rfl⟩
set_option maxHeartbeats 1000000 in
theorem r8floor_yes (x s : Int) (hx : -9223372036854775807 ≤ x ∧ x ≤ 9223372036854775807) (hs : -9223372036854775808 ≤ s ∧ s ≤ 9223372036854775807) (h : 0 < s) (w : World) : Calls Tryz.prog 69 #[.int .i64 x, .int .i64 s] w fun e w' => e = .returned (.tuple #[.int .i64 (subV x (modV x s)), .int .i64 (subC x (modV x s))]) ∧ w = w' := by
  have hm := modV_in x s (by omega) hs
  go_enter Tryz.func69, Tryz.ntmps69
  go_wp2_with (first | (go_at_call 70; refine (rmod_any x s (by omega) hs _).mono ?_; rintro e w1 ⟨rfl, rfl⟩) | (go_at_call 97; refine (rsub_any x (modV x s) (by omega) (by omega) _).mono ?_; rintro e w1 ⟨rfl, rfl⟩))
  go_ret2
  exact ⟨rfl, rfl⟩
theorem r8floor_any (x s : Int) (hx : -9223372036854775807 ≤ x ∧ x ≤ 9223372036854775807) (hs : -9223372036854775808 ≤ s ∧ s ≤ 9223372036854775807) (w : World) : Calls Tryz.prog 69 #[.int .i64 x, .int .i64 s] w fun e w' => e = .returned (.tuple #[.int .i64 (nfloorV x s), .int .i64 (nfloorC x s)]) ∧ w = w' := by
  unfold nfloorV nfloorC
  by_cases h : s ≤ 0
  · rw [if_pos h, if_pos h]; exact r8floor_no x s h w
  · have hc : modC x s = 0 := by unfold modC; rw [if_neg (by omega), if_neg (by omega)]
    rw [if_neg h, if_neg h, if_neg (by simp [hc]), if_neg (by simp [hc])]
    exact r8floor_yes x s hx hs (by omega) w
end Go.Proofs.YthobaffgllipfaaGreat
