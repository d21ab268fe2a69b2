/-
  the document's nums: FACT, GCD, LCM.
-/
import Derived.Test.YthobaffgllipfaaGreatRows
import Derived.Test.YthobaffgllipfaaGreatBase
import Derived.Test.YthobaffgllipfaaGreatMapK
import Derived.Test.YthobaffgllipfaaGreatNFind
import Derived.Test.YthobaffgllipfaaGreatMg3
import Derived.Test.YthobaffgllipfaaGreatValA
import Derived.Test.YthobaffgllipfaaGreatValB
import Derived.Test.YthobaffgllipfaaGreatDecS
import Derived.Test.YthobaffgllipfaaGreatValC
import Derived.Test.YthobaffgllipfaaGreatAddrC
import Derived.Test.YthobaffgllipfaaGreatMg9
import Derived.Test.YthobaffgllipfaaGreatDMod
import Derived.Test.YthobaffgllipfaaGreatDFlo
import Derived.Test.YthobaffgllipfaaGreatProg
import Derived.Test.YthobaffgllipfaaGreatMg12
import Derived.Test.YthobaffgllipfaaGreatDRnd
import Derived.Test.YthobaffgllipfaaGreatMg14
import Derived.Test.YthobaffgllipfaaGreatKnuth
import Derived.Test.YthobaffgllipfaaGreatDDiv
import Derived.Test.YthobaffgllipfaaGreatMg17
import Derived.Test.YthobaffgllipfaaGreatNDoA
import Derived.Test.YthobaffgllipfaaGreatNDoB
import Derived.Test.YthobaffgllipfaaGreatNDoC
import Derived.Test.YthobaffgllipfaaGreatMg21
import Derived.Test.YthobaffgllipfaaGreatNCall
import Derived.Test.YthobaffgllipfaaGreatValL
import Derived.Test.YthobaffgllipfaaGreatNCallK
import Derived.Test.YthobaffgllipfaaGreatNCallB
import Derived.Test.YthobaffgllipfaaGreatNDoF
import Derived.Test.YthobaffgllipfaaGreatMg27
import Derived.Test.YthobaffgllipfaaGreatNDoQ
import Derived.Test.YthobaffgllipfaaGreatNDoP
import Derived.Test.YthobaffgllipfaaGreatNDoAt2
import Derived.Test.YthobaffgllipfaaGreatDPowB
import Derived.Test.YthobaffgllipfaaGreatDPowC
import Derived.Test.YthobaffgllipfaaGreatNDoAt3
import Derived.Test.YthobaffgllipfaaGreatR8A
import Derived.WalkSpells
import Derived.WalkLawsBesides
import Derived.StillTactics
import Derived.Laws.Pointers
import Derived.Deep.RegionHeld3
import Derived.Deep.QuietTactic
import Derived.BigQuiet
import Derived.RowKit3
import Derived.Lib.Hide
import Derived.Lib.OthersKept
import Derived.OwnWalk
import Derived.Lib.IndexLaws
import Derived.Lib.ItoaMem
import Derived.WalkKit
import Derived.ProofKit
import Derived.OpenShut
import Derived.Carry
import Derived.ChangeSame
import Derived.Deep.Draws
import Derived.Maps.OwnSet
import Derived.Maps.AppendAt
import Derived.Laws.EntriesVeiled
import Derived.Laws.BitsAllLaws
import Derived.Shelf.Small.Bits
import Derived.Shelf.Strconv.Itoa0
import Derived.Shelf.Bits.Mul64
import Derived.Lib.TrimByte
import Derived.Lib.Bytealg
import Derived.Lib.SlTrimSet
import Derived.Lib.ParseIntB
import Derived.Shelf.Strings.SlTrimAscii
import Derived.Lib.SmallJoins
import Derived.Deep.RegionWith
import Derived.Laws.Externs
namespace Go.Proofs.YthobaffgllipfaaGreat
open Go.RowKit

set_option maxRecDepth 100000 in
set_option maxHeartbeats 400000 in
theorem r8fact_neg (x : Int) (h : x < 0) (w : World) : Calls Tryz.prog 64 #[.int .i64 x] w fun e w' => e = .returned (.agg #[.int .i64 4, .int .i64 0, .string ⟨#[]⟩, .bool false, .int .i64 (errC 8)]) ∧ Below w.heap.size w w' := by
  go_enter Tryz.func64, Tryz.ntmps64
  go_wp2_with (go_at_call 14; refine (rverr_any 8 _).mono ?_; rintro e w1 ⟨rfl, hb⟩; obtain ⟨hc, hf, hz⟩ := bkeep hb (w.heap.size + 1) (by first | omega | (simp <;> omega)))
  refine bodyPost_ret (v := .agg #[.int .i64 4, .int .i64 0, .string ⟨#[]⟩, .bool false, .int .i64 (errC 8)]) ?_ rfl ⟨rfl, by (repeat (first | (with_reducible exact Below.refl _ _) | (with_reducible refine Below.alloc ?_ (by first | omega | (dsimp only; omega) | (simp <;> omega)) _) | (with_reducible refine Below.setCell ?_ (by first | omega | (dsimp only; omega) | (simp <;> omega)) _) | (with_reducible refine Below.drew ?_) | (with_reducible refine below_drewN ?_ _) | (with_reducible refine Below.trans ?_ (Below.mono (by assumption) (by first | omega | (dsimp only; omega) | (simp <;> omega))))))⟩
  simp [results, Tryz.results64, go_sem, *]
set_option maxRecDepth 100000 in
set_option maxHeartbeats 400000 in
theorem r8fact_part (x : Int) (_hx : -9223372036854775808 ≤ x ∧ x ≤ 9223372036854775807) (h : 0 ≤ x) (m : Int) (hm : x.tmod 10000 = m) (h4 : (m != 0) = true) (w : World) : Calls Tryz.prog 64 #[.int .i64 x] w fun e w' => e = .returned (.agg #[.int .i64 4, .int .i64 0, .string ⟨#[]⟩, .bool false, .int .i64 (errC 8)]) ∧ Below w.heap.size w w' := by
  have hr := tmod_lt x 10000 (by omega)
  rw [hm] at hr
  have hr1 : -10000 < m ∧ m < 10000 := by omega
  have hm2 : x % 10000 = m := by rw [← hm, Int.tmod_eq_emod_of_nonneg h]
  clear hr
  go_enter Tryz.func64, Tryz.ntmps64
  go_wp2_with (go_at_call 14; refine (rverr_any 8 _).mono ?_; rintro e w1 ⟨rfl, hb⟩; obtain ⟨hc, hf, hz⟩ := bkeep hb (w.heap.size + 1) (by first | omega | (simp <;> omega)))
  refine bodyPost_ret (v := .agg #[.int .i64 4, .int .i64 0, .string ⟨#[]⟩, .bool false, .int .i64 (errC 8)]) ?_ rfl ⟨rfl, by (repeat (first | (with_reducible exact Below.refl _ _) | (with_reducible refine Below.alloc ?_ (by first | omega | (dsimp only; omega) | (simp <;> omega)) _) | (with_reducible refine Below.setCell ?_ (by first | omega | (dsimp only; omega) | (simp <;> omega)) _) | (with_reducible refine Below.drew ?_) | (with_reducible refine below_drewN ?_ _) | (with_reducible refine Below.trans ?_ (Below.mono (by assumption) (by first | omega | (dsimp only; omega) | (simp <;> omega))))))⟩
  simp [results, Tryz.results64, go_sem, *]
/-- what fact answers -/
structure RFactAt (v : Nat) (w : World) (e : Ending) (w' : World) : Prop where
  big : 922337203685477 < factN v → e = .returned (.agg #[.int .i64 4, .int .i64 0, .string ⟨#[]⟩, .bool false, .int .i64 (errC 2)])
  fit : ¬ 922337203685477 < factN v → e = .returned (.agg #[.int .i64 (wholeL (factN v) false).t, .int .i64 (wholeL (factN v) false).n, .string (wholeL (factN v) false).s, .bool (wholeL (factN v) false).b, .int .i64 (wholeL (factN v) false).c])
  bel : Below w.heap.size w w'
set_option maxRecDepth 100000 in
set_option maxHeartbeats 2000000 in
theorem r8fact_yes (v : Nat) (hv : v ≤ 922337203685477) (w : World) : Calls Tryz.prog 64 #[.int .i64 ((v : Int) * 10000)] w (RFactAt v w) := by
  have HS : ∀ w2 : World, Calls Tryz.prog 58 #[.int .i64 ((v : Int) * 10000)] w2 fun e w' => e = .returned (.int .u64 ((v : Int) * 10000)) ∧ w2 = w' := fun w2 => by
    have := r8size_any ((v : Int) * 10000) (by omega) (by omega) (v * 10000) (by omega) w2
    rw [show ((v * 10000 : Nat) : Int) = (v : Int) * 10000 from by omega] at this
    exact this
  have HS := Lib.hid HS
  have hm0 : ((v : Int) * 10000).tmod 10000 = 0 := by rw [Int.tmod_eq_emod_of_nonneg (by omega)]; omega
  have hm1 : ((v : Int) * 10000) % 10000 = 0 := by omega
  have hd1 : ((v : Int) * 10000) / 10000 = (v : Int) := by omega
  have hx1 : ¬ (v : Int) * 10000 < 0 := by omega
  have b0 : Below w.heap.size w (w.alloc (.cells #[.int .i64 0, .int .i64 0, .string ⟨#[]⟩, .bool false, .int .i64 0] 26)) := (Below.refl _ _).alloc (Nat.le_refl _) _
  go_enter Tryz.func64, Tryz.ntmps64
  go_wp2
  go_loop [3, 4] (fun pv iv => ∃ (k p : Nat), 1 ≤ k ∧ k ≤ v + 1 ∧ (v = 0 → k = 1) ∧ (1 ≤ v → k ≤ v) ∧ iv = .int .u64 ((k : Int) + 1) ∧ pv = .int .u64 (p : Int) ∧ Hid (factN k = p) ∧ p ≤ 922337203685477) (fun _ iv => (v + 2 - (intOf iv).toNat))
  case atStart => exact ⟨1, 1, by omega, by omega, by omega, by omega, rfl, rfl, Lib.hid rfl, by omega⟩
  case round =>
    obtain ⟨k, p, hk1, hk2, hk3, hk4, rfl, rfl, hp, hpb⟩ := hrel
    by_cases hlt : k + 1 ≤ v
    · have hlt1 : (k : Int) + 1 ≤ (v : Int) := by omega
      have hk0 : 0 < (k : Int) + 1 := by omega
      have hnz : ((k : Int) + 1 == 0) = false := by simp; omega
      have hfs : factN (k + 1) = (k + 1) * p := by rw [← hp.out]; rfl
      obtain ⟨q, hq⟩ : ∃ q, 922337203685477 / (k + 1) = q := ⟨_, rfl⟩
      have hqi : (922337203685477 : Int) / ((k : Int) + 1) = (q : Int) := by rw [← hq]; simp
      have hqb : q ≤ 922337203685477 := by rw [← hq]; exact Nat.div_le_self _ _
      have hpos := factN_pos k
      rw [hp.out] at hpos
      by_cases hb : 922337203685477 < (k + 1) * p
      · have hqp : q < p := by
          rcases Nat.lt_or_ge q p with h | h
          · exact h
          · exfalso
            have h1 : (k + 1) * p ≤ (k + 1) * q := Nat.mul_le_mul_left _ h
            have h2 : (k + 1) * q ≤ 922337203685477 := by rw [← hq]; exact Nat.mul_div_le _ _
            omega
        have hbig := Lib.hid (show 922337203685477 < factN v from Nat.lt_of_lt_of_le (by rw [hfs]; exact hb) (factN_mono _ _ hlt))
        have hqp2 : (q : Int) < (p : Int) := by omega
        clear hfs hq hb hp
        go_wp2_with (first | (go_at_call 58; refine HS.out _ |>.mono ?_; rintro e w' ⟨rfl, rfl⟩) | (go_at_call 14; refine (rverr_any 2 _).mono ?_; rintro e w1 ⟨rfl, hb⟩; obtain ⟨hc, hf, hz⟩ := bkeep hb (w.heap.size + 1) (by first | omega | (simp <;> omega))))
        refine bodyPost_ret (v := .agg #[.int .i64 4, .int .i64 0, .string ⟨#[]⟩, .bool false, .int .i64 (errC 2)]) ?_ rfl ⟨fun _ => rfl, fun h => absurd hbig.out h, by (repeat (first | (with_reducible exact Below.refl _ _) | (with_reducible refine Below.alloc ?_ (by first | omega | (dsimp only; omega) | (simp <;> omega)) _) | (with_reducible refine Below.setCell ?_ (by first | omega | (dsimp only; omega) | (simp <;> omega)) _) | (with_reducible refine Below.drew ?_) | (with_reducible refine below_drewN ?_ _) | (with_reducible refine Below.trans ?_ (Below.mono (by assumption) (by first | omega | (dsimp only; omega) | (simp <;> omega))))))⟩
        simp [results, Tryz.results64, go_sem, *]
      · have hqp : ¬ q < p := by
          intro h
          have h1 : 922337203685477 < (k + 1) * (q + 1) := by rw [← hq]; exact Nat.lt_mul_div_succ _ (by omega)
          have h2 : (k + 1) * (q + 1) ≤ (k + 1) * p := Nat.mul_le_mul_left _ h
          omega
        have hqp2 : ¬ (q : Int) < (p : Int) := by omega
        obtain ⟨y, hy⟩ : ∃ y, (k + 1) * p = y := ⟨_, rfl⟩
        have hyi : (p : Int) * ((k : Int) + 1) = (y : Int) := by rw [← hy, Nat.mul_comm]; simp
        have hyb : y ≤ 922337203685477 := by omega
        have hfs' := Lib.hid (hfs.trans hy)
        clear hfs hq hb hp hy
        go_wp2_with (go_at_call 58; refine HS.out _ |>.mono ?_; rintro e w' ⟨rfl, rfl⟩)
        go_round
        case rel => exact ⟨k + 1, y, by omega, by omega, by omega, by omega, by go_num, by first | rfl | (simp [hyi]; done), hfs', hyb⟩
        case measure => simp [intOf]; omega
    · have hlt1 : ¬ (k : Int) + 1 ≤ (v : Int) := by omega
      have hfv : factN v = p := by
        rw [← hp.out]
        rcases Nat.eq_zero_or_pos v with h | h
        · rw [hk3 h, h]; rfl
        · have : k = v := by have := hk4 h; omega
          rw [this]
      have hfv' := Lib.hid hfv
      clear hfv hp
      go_wp2_with (first | (go_at_call 58; refine HS.out _ |>.mono ?_; rintro e w' ⟨rfl, rfl⟩) | (go_at_call 59; refine (r8whole_any p (by omega) false _).mono ?_; rintro e w1 ⟨rfl, hb⟩; obtain ⟨hc, hf, hz⟩ := bkeep hb (w.heap.size + 1) (by first | omega | (simp <;> omega))))
      refine bodyPost_ret (v := .agg #[.int .i64 (wholeL p false).t, .int .i64 (wholeL p false).n, .string (wholeL p false).s, .bool (wholeL p false).b, .int .i64 (wholeL p false).c]) ?_ rfl ⟨fun h => absurd h (by rw [hfv'.out]; omega), fun _ => by rw [hfv'.out], by (repeat (first | (with_reducible exact Below.refl _ _) | (with_reducible refine Below.alloc ?_ (by first | omega | (dsimp only; omega) | (simp <;> omega)) _) | (with_reducible refine Below.setCell ?_ (by first | omega | (dsimp only; omega) | (simp <;> omega)) _) | (with_reducible refine Below.drew ?_) | (with_reducible refine below_drewN ?_ _) | (with_reducible refine Below.trans ?_ (Below.mono (by assumption) (by first | omega | (dsimp only; omega) | (simp <;> omega))))))⟩
      simp [results, Tryz.results64, go_sem, *]
theorem r8fact_any (x : Int) (hx : -9223372036854775807 ≤ x ∧ x ≤ 9223372036854775807) (w : World) : Calls Tryz.prog 64 #[.int .i64 x] w fun e w' => e = .returned (.agg #[.int .i64 (factL x).t, .int .i64 (factL x).n, .string (factL x).s, .bool (factL x).b, .int .i64 (factL x).c]) ∧ Below w.heap.size w w' := by
  unfold factL
  by_cases h0 : x < 0
  · have : ¬ (wholeB x = true ∧ 0 ≤ wholeV x) := by
      rintro ⟨h1, h2⟩
      unfold wholeB at h1
      simp at h1
      have h3 : wholeV x = x.tdiv 10000 := by unfold wholeV; rw [if_pos h1]
      have h4 := Int.mul_tdiv_add_tmod x 10000
      omega
    rw [if_neg this]
    exact r8fact_neg x h0 w
  by_cases hm : x.tmod 10000 = 0
  · have hb : wholeB x = true := by unfold wholeB; simp [hm]; omega
    have hv : wholeV x = x.tdiv 10000 := by unfold wholeV; rw [if_pos ⟨by omega, hm⟩]
    have h4 := Int.mul_tdiv_add_tmod x 10000
    have h5 : 0 ≤ wholeV x := by omega
    rw [if_pos ⟨hb, h5⟩]
    obtain ⟨v, hv2⟩ := Int.eq_ofNat_of_zero_le h5
    have hxv : x = (v : Int) * 10000 := by omega
    rw [hv2]
    have ht : ((v : Nat) : Int).toNat = v := by omega
    rw [ht, hxv]
    refine (r8fact_yes v (by omega) w).mono fun e w' hh => ?_
    by_cases h3 : 922337203685477 < factN v
    · rw [if_pos h3]; exact ⟨hh.big h3, hh.bel⟩
    · rw [if_neg h3]; exact ⟨hh.fit h3, hh.bel⟩
  · have : ¬ (wholeB x = true ∧ 0 ≤ wholeV x) := by
      rintro ⟨h1, h2⟩
      unfold wholeB at h1
      simp at h1
      exact hm h1.2
    rw [if_neg this]
    exact r8fact_part x (by omega) (by omega) _ rfl (by simpa using hm) w
theorem whole_div (x : Int) (_h : x.tmod 10000 = 0) : (x.natAbs : Int) / 10000 = ((x.natAbs / 10000 : Nat) : Int) := by simp
theorem zero_whole (x : Int) (h : x.tmod 10000 = 0) : (x.natAbs / 10000 = 0) ↔ x = 0 := by
  have h2 : (x.tmod 10000).natAbs = x.natAbs % 10000 := Int.natAbs_tmod x 10000
  omega
theorem whole_eq (x : Int) (hx : -9223372036854775807 ≤ x) : wholeB x = decide (x.tmod 10000 = 0) := by
  unfold wholeB
  have : x ≠ -9223372036854775808 := by omega
  simp [this]
theorem gcdL_no (l : List Int) (h : allWhole l = false) : gcdL l = errL 8 := by unfold gcdL; rw [if_neg (by rw [h]; simp)]
theorem lcmL_no (l : List Int) (h : allWhole l = false) : lcmL l = errL 8 := by unfold lcmL; rw [if_neg (by rw [h]; simp)]
theorem any_zero (l : List Int) (h : ∀ x ∈ l, x.tmod 10000 = 0) : ((wholesN l).any fun y => ((0 : Int) == (y : Int))) = l.any fun x => decide (x = 0) := by
  unfold wholesN
  rw [List.any_map, Bool.eq_iff_iff, List.any_eq_true, List.any_eq_true]
  constructor
  · rintro ⟨x, hx, h2⟩
    have := (zero_whole x (h x hx)).1 (by simp at h2; omega)
    exact ⟨x, hx, by simpa using this⟩
  · rintro ⟨x, hx, h2⟩
    have := (zero_whole x (h x hx)).2 (by simpa using h2)
    exact ⟨x, hx, by simp; omega⟩
set_option maxRecDepth 100000 in
set_option maxHeartbeats 4000000 in
theorem r8many_GCD (l : List Int) (hl : ∀ x ∈ l, -9223372036854775807 ≤ x ∧ x ≤ 9223372036854775807) (hlen : l.length ≤ 1649267441664) (w : World) (gb cap : Nat) (hg : gb < w.heap.size) (_hcap : l.length ≤ cap) (hc : ∀ (j : Nat) (x : Int), l[j]? = some x → w.cell? ⟨gb, j, none⟩ = some (.int .i64 x)) : Calls Tryz.prog 17 #[.string ⟨#[71, 67, 68]⟩, .slice (some ⟨gb, 0, none⟩) l.length cap] w fun e w' => e = .returned (.agg #[.int .i64 (gcdL l).t, .int .i64 (gcdL l).n, .string (gcdL l).s, .bool (gcdL l).b, .int .i64 (gcdL l).c]) ∧ Below w.heap.size w w' := by
  have hcC := Lib.hid hc
  have hlC := Lib.hid hl
  clear hc hl
  have b0 : Below w.heap.size w (w.alloc (.cells #[.int .i64 0, .int .i64 0, .string ⟨#[]⟩, .bool false, .int .i64 0] 26)) := (Below.refl _ _).alloc (Nat.le_refl _) _
  go_enter Tryz.func17, Tryz.ntmps17
  go_wp2
  go_loop [5, 7, 8] (fun gv zv iv => ∃ (k G : Nat), k ≤ l.length ∧ iv = .int .i64 (k : Int) ∧ Hid (∀ x ∈ l.take k, x.tmod 10000 = 0) ∧ Hid (((wholesN l).take k).foldl Nat.gcd 0 = G) ∧ G ≤ 922337203685477 ∧ gv = .int .u64 (G : Int) ∧ zv = .bool ((l.take k).any fun x => decide (x = 0))) (fun _ _ iv => l.length - (intOf iv).toNat)
  case atStart => exact ⟨0, 0, Nat.zero_le _, rfl, Lib.hid (by simp), Lib.hid rfl, by omega, rfl, rfl⟩
  case round =>
    obtain ⟨k, G, hk, rfl, hall, hG, hGb, rfl, rfl⟩ := hrel
    by_cases hlt : k < l.length
    · obtain ⟨x, hx⟩ : ∃ x, l[k]? = some x := ⟨_, List.getElem?_eq_getElem hlt⟩
      have hxm := List.mem_of_getElem? hx
      have hxb := hlC.out x hxm
      have hck : (w.alloc (.cells #[.int .i64 0, .int .i64 0, .string ⟨#[]⟩, .bool false, .int .i64 0] 26)).cell? ⟨gb, k, none⟩ = some (.int .i64 x) := (b0.cell (p := ⟨gb, k, none⟩) hg).trans (hcC.out k x hx)
      have hkl : (k : Int) < (l.length : Int) := by omega
      have hts : l.take (k + 1) = l.take k ++ [x] := by rw [List.take_add_one, hx]; rfl
      have htw : (wholesN l).take (k + 1) = (wholesN l).take k ++ [x.natAbs / 10000] := by
        rw [List.take_add_one]
        unfold wholesN
        rw [List.getElem?_map, hx]; rfl
      have hts' := Lib.hid hts
      have htw' := Lib.hid htw
      have hxm' := Lib.hid hxm
      have hne : gb ≠ w.heap.size := by omega
      clear hx hts htw hxm
      obtain ⟨m, hm⟩ : ∃ m, x.tmod 10000 = m := ⟨_, rfl⟩
      have hmr : -10000 < m ∧ m < 10000 := by have := tmod_lt x 10000 (by omega); omega
      by_cases hm0 : m = 0
      · subst hm0
        have hm' := Lib.hid hm
        have HS := Lib.hid (fun w2 : World => r8size_any x (by omega) (by omega) x.natAbs rfl w2)
        have hdv := whole_div x hm
        obtain ⟨q, hq⟩ : ∃ q, x.natAbs / 10000 = q := ⟨_, rfl⟩
        have hqb : q ≤ 922337203685477 := by omega
        have hnb : x.natAbs < 18446744073709551616 := by omega
        obtain ⟨n, hn⟩ : ∃ n, x.natAbs = n := ⟨_, rfl⟩
        have hz := zero_whole x hm
        rw [hq] at hz hdv
        rw [hn] at HS hdv hnb
        have hz' := Lib.hid hz
        have HG := Lib.hid (fun w2 : World => r8gcd_any G q (by omega) (by omega) _ rfl w2)
        obtain ⟨G2, hG2⟩ : ∃ G2, Nat.gcd G q = G2 := ⟨_, rfl⟩
        rw [hG2] at HG
        have hG2b : G2 ≤ 922337203685477 := by
          rw [← hG2]
          rcases Nat.eq_zero_or_pos q with h | h
          · subst h; rw [Nat.gcd_zero_right]; exact hGb
          · exact Nat.le_trans (Nat.le_of_dvd h (Nat.gcd_dvd_right G q)) hqb
        have hfold := Lib.hid (show ((wholesN l).take (k + 1)).foldl Nat.gcd 0 = G2 from by rw [htw'.out, List.foldl_append, hG.out, hq]; exact hG2)
        have hallN := Lib.hid (show ∀ y ∈ l.take (k + 1), y.tmod 10000 = 0 from fun y hy => by
          rw [hts'.out] at hy
          rcases List.mem_append.1 hy with h | h
          · exact hall.out y h
          · simp at h; subst h; exact hm'.out)
        clear hz hq hn hG2
        cases hzz : (l.take k).any fun x => decide (x = 0)
        · have hzN := Lib.hid (show (l.take (k + 1)).any (fun x => decide (x = 0)) = decide (x = 0) from by rw [hts'.out, List.any_append, hzz]; simp)
          go_wp2_with (first | (go_at_call 58; refine (HS.out _).mono ?_; rintro e w' ⟨rfl, rfl⟩) | (go_at_call 57; refine (HG.out _).mono ?_; rintro e w' ⟨rfl, rfl⟩))
          go_round
          case rel => exact ⟨k + 1, G2, by omega, by go_num, hallN, hfold, hG2b, rfl, by first | (rw [hzN.out]; done) | (rw [hzN.out]; simp; done) | (rw [hzN.out, Value.bool.injEq, Bool.eq_iff_iff]; simp)⟩
          case measure => simp [intOf]; omega
        · have hzN := Lib.hid (show (l.take (k + 1)).any (fun x => decide (x = 0)) = true from by rw [hts'.out, List.any_append, hzz]; simp)
          go_wp2_with (first | (go_at_call 58; refine (HS.out _).mono ?_; rintro e w' ⟨rfl, rfl⟩) | (go_at_call 57; refine (HG.out _).mono ?_; rintro e w' ⟨rfl, rfl⟩))
          go_round
          case rel => exact ⟨k + 1, G2, by omega, by go_num, hallN, hfold, hG2b, rfl, by first | (rw [hzN.out]; done) | (rw [hzN.out]; simp; done) | (rw [hzN.out, Value.bool.injEq, Bool.eq_iff_iff]; simp)⟩
          case measure => simp [intOf]; omega
      · have hno := Lib.hid (show allWhole l = false from by
          unfold allWhole
          rw [List.all_eq_false]
          exact ⟨x, hxm'.out, by rw [whole_eq x hxb.1]; simp [hm, hm0]⟩)
        have h4 : (m != 0) = true := by simpa using hm0
        clear hm0
        go_wp2_with (go_at_call 14; refine (rverr_any 8 _).mono ?_; rintro e w1 ⟨rfl, hb⟩; obtain ⟨hc, hf, hz⟩ := bkeep hb (w.heap.size + 1) (by first | omega | (simp <;> omega)))
        refine bodyPost_ret (v := .agg #[.int .i64 4, .int .i64 0, .string ⟨#[]⟩, .bool false, .int .i64 (errC 8)]) ?_ rfl ⟨by rw [gcdL_no l hno.out]; rfl, by (repeat (first | (with_reducible exact Below.refl _ _) | (with_reducible refine Below.alloc ?_ (by first | omega | (dsimp only; omega) | (simp <;> omega)) _) | (with_reducible refine Below.setCell ?_ (by first | omega | (dsimp only; omega) | (simp <;> omega)) _) | (with_reducible refine Below.drew ?_) | (with_reducible refine below_drewN ?_ _) | (with_reducible refine Below.trans ?_ (Below.mono (by assumption) (by first | omega | (dsimp only; omega) | (simp <;> omega))))))⟩
        simp [results, Tryz.results17, go_sem, *]
    · obtain rfl : k = l.length := by omega
      rw [List.take_length] at hall ⊢
      have hGa := Lib.hid (show (wholesN l).foldl Nat.gcd 0 = G from by rw [← hG.out, List.take_of_length_le (by simp [wholesN])])
      have hyes := Lib.hid (show allWhole l = true from by
        unfold allWhole
        rw [List.all_eq_true]
        intro x hx
        rw [whole_eq x (hlC.out x hx).1]
        simp [hall.out x hx])
      clear hG
      have hres := Lib.hid (show gcdL l = wholeL G false from by unfold gcdL; rw [if_pos hyes.out, hGa.out])
      clear hall
      go_wp2_with (go_at_call 59; refine (r8whole_any G (by omega) false _).mono ?_; rintro e w1 ⟨rfl, hb⟩; obtain ⟨hc, hf, hz⟩ := bkeep hb (w.heap.size + 1) (by first | omega | (simp <;> omega)))
      refine bodyPost_ret (v := .agg #[.int .i64 (wholeL G false).t, .int .i64 (wholeL G false).n, .string (wholeL G false).s, .bool (wholeL G false).b, .int .i64 (wholeL G false).c]) ?_ rfl ⟨by rw [hres.out], by (repeat (first | (with_reducible exact Below.refl _ _) | (with_reducible refine Below.alloc ?_ (by first | omega | (dsimp only; omega) | (simp <;> omega)) _) | (with_reducible refine Below.setCell ?_ (by first | omega | (dsimp only; omega) | (simp <;> omega)) _) | (with_reducible refine Below.drew ?_) | (with_reducible refine below_drewN ?_ _) | (with_reducible refine Below.trans ?_ (Below.mono (by assumption) (by first | omega | (dsimp only; omega) | (simp <;> omega))))))⟩
      simp [results, Tryz.results17, go_sem, *]
set_option maxRecDepth 100000 in
set_option maxHeartbeats 8000000 in
theorem r8many_LCM (l : List Int) (hl : ∀ x ∈ l, -9223372036854775807 ≤ x ∧ x ≤ 9223372036854775807) (hlen : l.length ≤ 1649267441664) (w : World) (gb cap : Nat) (hg : gb < w.heap.size) (_hcap : l.length ≤ cap) (hc : ∀ (j : Nat) (x : Int), l[j]? = some x → w.cell? ⟨gb, j, none⟩ = some (.int .i64 x)) : Calls Tryz.prog 17 #[.string ⟨#[76, 67, 77]⟩, .slice (some ⟨gb, 0, none⟩) l.length cap] w fun e w' => e = .returned (.agg #[.int .i64 (lcmL l).t, .int .i64 (lcmL l).n, .string (lcmL l).s, .bool (lcmL l).b, .int .i64 (lcmL l).c]) ∧ Below w.heap.size w w' := by
  have hcC := Lib.hid hc
  have hlC := Lib.hid hl
  clear hc hl
  have b0 : Below w.heap.size w (w.alloc (.cells #[.int .i64 0, .int .i64 0, .string ⟨#[]⟩, .bool false, .int .i64 0] 26)) := (Below.refl _ _).alloc (Nat.le_refl _) _
  go_enter Tryz.func17, Tryz.ntmps17
  go_wp2
  go_loop [5, 7, 8] (fun gv zv iv => ∃ (k G : Nat), k ≤ l.length ∧ iv = .int .i64 (k : Int) ∧ Hid (∀ x ∈ l.take k, x.tmod 10000 = 0) ∧ Hid (((wholesN l).take k).foldl Nat.gcd 0 = G) ∧ G ≤ 922337203685477 ∧ gv = .int .u64 (G : Int) ∧ zv = .bool ((l.take k).any fun x => decide (x = 0))) (fun _ _ iv => l.length - (intOf iv).toNat)
  case atStart => exact ⟨0, 0, Nat.zero_le _, rfl, Lib.hid (by simp), Lib.hid rfl, by omega, rfl, rfl⟩
  case round =>
    obtain ⟨k, G, hk, rfl, hall, hG, hGb, rfl, rfl⟩ := hrel
    by_cases hlt : k < l.length
    · obtain ⟨x, hx⟩ : ∃ x, l[k]? = some x := ⟨_, List.getElem?_eq_getElem hlt⟩
      have hxm := List.mem_of_getElem? hx
      have hxb := hlC.out x hxm
      have hck : (w.alloc (.cells #[.int .i64 0, .int .i64 0, .string ⟨#[]⟩, .bool false, .int .i64 0] 26)).cell? ⟨gb, k, none⟩ = some (.int .i64 x) := (b0.cell (p := ⟨gb, k, none⟩) hg).trans (hcC.out k x hx)
      have hkl : (k : Int) < (l.length : Int) := by omega
      have hts : l.take (k + 1) = l.take k ++ [x] := by rw [List.take_add_one, hx]; rfl
      have htw : (wholesN l).take (k + 1) = (wholesN l).take k ++ [x.natAbs / 10000] := by
        rw [List.take_add_one]
        unfold wholesN
        rw [List.getElem?_map, hx]; rfl
      have hts' := Lib.hid hts
      have htw' := Lib.hid htw
      have hxm' := Lib.hid hxm
      have hne : gb ≠ w.heap.size := by omega
      clear hx hts htw hxm
      obtain ⟨m, hm⟩ : ∃ m, x.tmod 10000 = m := ⟨_, rfl⟩
      have hmr : -10000 < m ∧ m < 10000 := by have := tmod_lt x 10000 (by omega); omega
      by_cases hm0 : m = 0
      · subst hm0
        have hm' := Lib.hid hm
        have HS := Lib.hid (fun w2 : World => r8size_any x (by omega) (by omega) x.natAbs rfl w2)
        have hdv := whole_div x hm
        obtain ⟨q, hq⟩ : ∃ q, x.natAbs / 10000 = q := ⟨_, rfl⟩
        have hqb : q ≤ 922337203685477 := by omega
        have hnb : x.natAbs < 18446744073709551616 := by omega
        obtain ⟨n, hn⟩ : ∃ n, x.natAbs = n := ⟨_, rfl⟩
        have hz := zero_whole x hm
        rw [hq] at hz hdv
        rw [hn] at HS hdv hnb
        have hz' := Lib.hid hz
        have HG := Lib.hid (fun w2 : World => r8gcd_any G q (by omega) (by omega) _ rfl w2)
        obtain ⟨G2, hG2⟩ : ∃ G2, Nat.gcd G q = G2 := ⟨_, rfl⟩
        rw [hG2] at HG
        have hG2b : G2 ≤ 922337203685477 := by
          rw [← hG2]
          rcases Nat.eq_zero_or_pos q with h | h
          · subst h; rw [Nat.gcd_zero_right]; exact hGb
          · exact Nat.le_trans (Nat.le_of_dvd h (Nat.gcd_dvd_right G q)) hqb
        have hfold := Lib.hid (show ((wholesN l).take (k + 1)).foldl Nat.gcd 0 = G2 from by rw [htw'.out, List.foldl_append, hG.out, hq]; exact hG2)
        have hallN := Lib.hid (show ∀ y ∈ l.take (k + 1), y.tmod 10000 = 0 from fun y hy => by
          rw [hts'.out] at hy
          rcases List.mem_append.1 hy with h | h
          · exact hall.out y h
          · simp at h; subst h; exact hm'.out)
        clear hz hq hn hG2
        cases hzz : (l.take k).any fun x => decide (x = 0)
        · have hzN := Lib.hid (show (l.take (k + 1)).any (fun x => decide (x = 0)) = decide (x = 0) from by rw [hts'.out, List.any_append, hzz]; simp)
          go_wp2_with (first | (go_at_call 58; refine (HS.out _).mono ?_; rintro e w' ⟨rfl, rfl⟩) | (go_at_call 57; refine (HG.out _).mono ?_; rintro e w' ⟨rfl, rfl⟩))
          go_round
          case rel => exact ⟨k + 1, G2, by omega, by go_num, hallN, hfold, hG2b, rfl, by first | (rw [hzN.out]; done) | (rw [hzN.out]; simp; done) | (rw [hzN.out, Value.bool.injEq, Bool.eq_iff_iff]; simp)⟩
          case measure => simp [intOf]; omega
        · have hzN := Lib.hid (show (l.take (k + 1)).any (fun x => decide (x = 0)) = true from by rw [hts'.out, List.any_append, hzz]; simp)
          go_wp2_with (first | (go_at_call 58; refine (HS.out _).mono ?_; rintro e w' ⟨rfl, rfl⟩) | (go_at_call 57; refine (HG.out _).mono ?_; rintro e w' ⟨rfl, rfl⟩))
          go_round
          case rel => exact ⟨k + 1, G2, by omega, by go_num, hallN, hfold, hG2b, rfl, by first | (rw [hzN.out]; done) | (rw [hzN.out]; simp; done) | (rw [hzN.out, Value.bool.injEq, Bool.eq_iff_iff]; simp)⟩
          case measure => simp [intOf]; omega
      · have hno := Lib.hid (show allWhole l = false from by
          unfold allWhole
          rw [List.all_eq_false]
          exact ⟨x, hxm'.out, by rw [whole_eq x hxb.1]; simp [hm, hm0]⟩)
        have h4 : (m != 0) = true := by simpa using hm0
        clear hm0
        go_wp2_with (go_at_call 14; refine (rverr_any 8 _).mono ?_; rintro e w1 ⟨rfl, hb⟩; obtain ⟨hc, hf, hz⟩ := bkeep hb (w.heap.size + 1) (by first | omega | (simp <;> omega)))
        refine bodyPost_ret (v := .agg #[.int .i64 4, .int .i64 0, .string ⟨#[]⟩, .bool false, .int .i64 (errC 8)]) ?_ rfl ⟨by rw [lcmL_no l hno.out]; rfl, by (repeat (first | (with_reducible exact Below.refl _ _) | (with_reducible refine Below.alloc ?_ (by first | omega | (dsimp only; omega) | (simp <;> omega)) _) | (with_reducible refine Below.setCell ?_ (by first | omega | (dsimp only; omega) | (simp <;> omega)) _) | (with_reducible refine Below.drew ?_) | (with_reducible refine below_drewN ?_ _) | (with_reducible refine Below.trans ?_ (Below.mono (by assumption) (by first | omega | (dsimp only; omega) | (simp <;> omega))))))⟩
        simp [results, Tryz.results17, go_sem, *]
    · obtain rfl : k = l.length := by omega
      rw [List.take_length] at hall ⊢
      have hGa := Lib.hid (show (wholesN l).foldl Nat.gcd 0 = G from by rw [← hG.out, List.take_of_length_le (by simp [wholesN])])
      have hyes := Lib.hid (show allWhole l = true from by
        unfold allWhole
        rw [List.all_eq_true]
        intro x hx
        rw [whole_eq x (hlC.out x hx).1]
        simp [hall.out x hx])
      clear hG
      have haz := any_zero l hall.out
      cases hzz : l.any fun x => decide (x = 0)
      · rw [hzz] at haz
        have hpos : Hid (∀ x ∈ wholesN l, 0 < x) := Lib.hid (fun x hx => by
          rw [List.any_eq_false] at haz
          have := haz x hx
          simp at this
          omega)
        have hlcm := Lib.hid (show lcmL l = if 922337203685477 < lcmFold (wholesN l) then errL 2 else wholeL (lcmFold (wholesN l)) false from by unfold lcmL; rw [if_pos hyes.out, haz, if_neg (by simp)])
        have hall' := Lib.hid hall.out
        clear haz hall
        go_wp2
        go_loop [6, 9] (fun mv iv => ∃ (k d : Nat), k ≤ l.length ∧ iv = .int .i64 (k : Int) ∧ Hid (((wholesN l).take k).foldl Nat.lcm 1 = d) ∧ 0 < d ∧ d ≤ 922337203685477 ∧ mv = .int .u64 (d : Int)) (fun _ iv => l.length - (intOf iv).toNat)
        case atStart => exact ⟨0, 1, Nat.zero_le _, rfl, Lib.hid rfl, by omega, by omega, rfl⟩
        case round =>
          obtain ⟨k, d, hk, rfl, hd, hd0, hdb, rfl⟩ := hrel
          by_cases hlt : k < l.length
          · obtain ⟨x, hx⟩ : ∃ x, l[k]? = some x := ⟨_, List.getElem?_eq_getElem hlt⟩
            have hxm := List.mem_of_getElem? hx
            have hxb := hlC.out x hxm
            have hck : (w.alloc (.cells #[.int .i64 0, .int .i64 0, .string ⟨#[]⟩, .bool false, .int .i64 0] 26)).cell? ⟨gb, k, none⟩ = some (.int .i64 x) := (b0.cell (p := ⟨gb, k, none⟩) hg).trans (hcC.out k x hx)
            have hkl : (k : Int) < (l.length : Int) := by omega
            have hxw : (wholesN l)[k]? = some (x.natAbs / 10000) := by unfold wholesN; rw [List.getElem?_map, hx]; rfl
            have hm := hall'.out x hxm
            have HS := Lib.hid (fun w2 : World => r8size_any x (by omega) (by omega) x.natAbs rfl w2)
            have hdv := whole_div x hm
            obtain ⟨y, hy⟩ : ∃ y, x.natAbs / 10000 = y := ⟨_, rfl⟩
            have hyb : y ≤ 922337203685477 := by omega
            have hnb : x.natAbs < 18446744073709551616 := by omega
            obtain ⟨n, hn⟩ : ∃ n, x.natAbs = n := ⟨_, rfl⟩
            rw [hy] at hdv hxw
            rw [hn] at HS hdv hnb
            have hyp := hpos.out y (List.mem_of_getElem? hxw)
            have hts : ((wholesN l).take (k + 1)).foldl Nat.lcm 1 = Nat.lcm d y := by rw [List.take_add_one, hxw, Option.toList_some, List.foldl_append, hd.out]; rfl
            have hsplit : lcmFold (wholesN l) = ((wholesN l).drop (k + 1)).foldl Nat.lcm (Nat.lcm d y) := by
              unfold lcmFold; rw [← hts, ← List.foldl_append, List.take_append_drop]
            have hge : Nat.lcm d y ≤ lcmFold (wholesN l) := by
              rw [hsplit]; exact lcm_fold_le _ _ (Nat.lcm_pos hd0 hyp) (fun z hz => hpos.out z (List.mem_of_mem_drop hz))
            obtain ⟨r, hr⟩ : ∃ r, Nat.gcd d y = r := ⟨_, rfl⟩
            have HG := Lib.hid (fun w2 : World => r8gcd_any d y (by omega) (by omega) r hr w2)
            have hrp : 0 < r := by rw [← hr]; exact Nat.gcd_pos_of_pos_left y hd0
            have hrl : r ≤ y := by rw [← hr]; exact Nat.le_of_dvd hyp (Nat.gcd_dvd_right d y)
            obtain ⟨q, hq⟩ : ∃ q, y / r = q := ⟨_, rfl⟩
            have hqx : q ≤ y := by rw [← hq]; exact Nat.div_le_self _ _
            have hqp : 0 < q := by rw [← hq]; exact Nat.div_pos hrl hrp
            have hdq : d * q = Nat.lcm d y := by
              rw [← hq, Nat.lcm, hr, Nat.mul_div_assoc]
              rw [← hr]; exact Nat.gcd_dvd_right d y
            have hq2 : (y : Int) / (r : Int) = (q : Int) := by rw [← Int.natCast_ediv, hq]
            have hr0 : ((r : Int) == 0) = false := by simp; omega
            have hr1 : ¬ r = 0 := by omega
            have hq0 : ((q : Int) == 0) = false := by simp; omega
            have hq1 : ¬ q = 0 := by omega
            obtain ⟨u, hu⟩ : ∃ u, 922337203685477 / q = u := ⟨_, rfl⟩
            have hui : (922337203685477 : Int) / (q : Int) = (u : Int) := by rw [← hu]; simp
            have hub : u ≤ 922337203685477 := by rw [← hu]; exact Nat.div_le_self _ _
            obtain ⟨z, hz⟩ : ∃ z, d * q = z := ⟨_, rfl⟩
            have hzi : (d : Int) * (q : Int) = (z : Int) := by rw [← hz]; simp
            have hne : gb ≠ w.heap.size := by omega
            by_cases hbig : 922337203685477 < z
            · have hud : u < d := by
                rcases Nat.lt_or_ge u d with h | h
                · exact h
                · exfalso
                  have h1 : d * q ≤ u * q := Nat.mul_le_mul_right _ h
                  have h2 : u * q ≤ 922337203685477 := by rw [← hu]; exact Nat.div_mul_le_self _ _
                  omega
              have hud2 : (u : Int) < (d : Int) := by omega
              have hres := Lib.hid (show lcmL l = errL 2 from by rw [hlcm.out, if_pos (by omega)])
              clear hx hxm hxw hm hd hts hsplit hge hr hq hdq hu hz hbig hy hn
              go_wp2_with (first | (go_at_call 58; refine (HS.out _).mono ?_; rintro e w' ⟨rfl, rfl⟩) | (go_at_call 57; refine (HG.out _).mono ?_; rintro e w' ⟨rfl, rfl⟩) | (go_at_call 14; refine (rverr_any 2 _).mono ?_; rintro e w1 ⟨rfl, hb⟩; obtain ⟨hc, hf, hz⟩ := bkeep hb (w.heap.size + 1) (by first | omega | (simp <;> omega))))
              refine bodyPost_ret (v := .agg #[.int .i64 4, .int .i64 0, .string ⟨#[]⟩, .bool false, .int .i64 (errC 2)]) ?_ rfl ⟨by rw [hres.out]; rfl, by (repeat (first | (with_reducible exact Below.refl _ _) | (with_reducible refine Below.alloc ?_ (by first | omega | (dsimp only; omega) | (simp <;> omega)) _) | (with_reducible refine Below.setCell ?_ (by first | omega | (dsimp only; omega) | (simp <;> omega)) _) | (with_reducible refine Below.drew ?_) | (with_reducible refine below_drewN ?_ _) | (with_reducible refine Below.trans ?_ (Below.mono (by assumption) (by first | omega | (dsimp only; omega) | (simp <;> omega))))))⟩
              simp [results, Tryz.results17, go_sem, *]
            · have hud : ¬ u < d := by
                intro h
                have h1 : 922337203685477 < q * (u + 1) := by rw [← hu]; exact Nat.lt_mul_div_succ _ hqp
                have h2 : q * (u + 1) ≤ q * d := Nat.mul_le_mul_left _ h
                rw [Nat.mul_comm] at hz
                omega
              have hud2 : ¬ (u : Int) < (d : Int) := by omega
              have hzb : z ≤ 922337203685477 := by omega
              have hz0 : 0 < z := by rw [← hz]; exact Nat.mul_pos hd0 hqp
              have hts' := Lib.hid (hts.trans (hdq.symm.trans hz))
              clear hx hxm hxw hm hd hts hsplit hge hr hq hdq hu hz hbig hy hn
              go_wp2_with (first | (go_at_call 58; refine (HS.out _).mono ?_; rintro e w' ⟨rfl, rfl⟩) | (go_at_call 57; refine (HG.out _).mono ?_; rintro e w' ⟨rfl, rfl⟩))
              go_round
              case rel => exact ⟨k + 1, z, by omega, by go_num, hts', hz0, hzb, by first | rfl | (simp [hzi]; done)⟩
              case measure => simp [intOf]; omega
          · obtain rfl : k = l.length := by omega
            have hdG : lcmFold (wholesN l) = d := by rw [← hd.out, List.take_of_length_le (by simp [wholesN])]; rfl
            have hres := Lib.hid (show lcmL l = wholeL d false from by rw [hlcm.out, hdG, if_neg (by omega)])
            clear hd hdG
            go_wp2_with (go_at_call 59; refine (r8whole_any d (by omega) false _).mono ?_; rintro e w1 ⟨rfl, hb⟩; obtain ⟨hc, hf, hz⟩ := bkeep hb (w.heap.size + 1) (by first | omega | (simp <;> omega)))
            refine bodyPost_ret (v := .agg #[.int .i64 (wholeL d false).t, .int .i64 (wholeL d false).n, .string (wholeL d false).s, .bool (wholeL d false).b, .int .i64 (wholeL d false).c]) ?_ rfl ⟨by rw [hres.out], by (repeat (first | (with_reducible exact Below.refl _ _) | (with_reducible refine Below.alloc ?_ (by first | omega | (dsimp only; omega) | (simp <;> omega)) _) | (with_reducible refine Below.setCell ?_ (by first | omega | (dsimp only; omega) | (simp <;> omega)) _) | (with_reducible refine Below.drew ?_) | (with_reducible refine below_drewN ?_ _) | (with_reducible refine Below.trans ?_ (Below.mono (by assumption) (by first | omega | (dsimp only; omega) | (simp <;> omega))))))⟩
            simp [results, Tryz.results17, go_sem, *]
      · rw [hzz] at haz
        have hres := Lib.hid (show lcmL l = numL 0 from by unfold lcmL; rw [if_pos hyes.out, haz, if_pos rfl])
        clear haz hall
        go_wp2_with (go_at_call 18; refine (rvnum_any 0 (by first | assumption | omega) _).mono ?_; rintro e w1 ⟨rfl, hb⟩; obtain ⟨hc, hf, hz⟩ := bkeep hb (w.heap.size + 1) (by first | omega | (simp <;> omega)))
        refine bodyPost_ret (v := .agg #[.int .i64 (numT 0), .int .i64 (numN 0), .string ⟨#[]⟩, .bool false, .int .i64 (numF 0)]) ?_ rfl ⟨by rw [hres.out]; rfl, by (repeat (first | (with_reducible exact Below.refl _ _) | (with_reducible refine Below.alloc ?_ (by first | omega | (dsimp only; omega) | (simp <;> omega)) _) | (with_reducible refine Below.setCell ?_ (by first | omega | (dsimp only; omega) | (simp <;> omega)) _) | (with_reducible refine Below.drew ?_) | (with_reducible refine below_drewN ?_ _) | (with_reducible refine Below.trans ?_ (Below.mono (by assumption) (by first | omega | (dsimp only; omega) | (simp <;> omega))))))⟩
        simp [results, Tryz.results17, go_sem, *]
end Go.Proofs.YthobaffgllipfaaGreat
