/-
  nums: FACT; nums: each function behind its name.
-/
import Derived.Test.YthobaffgllipfaaGreatRows
import Derived.Test.YthobaffgllipfaaGreatBase
import Derived.Test.YthobaffgllipfaaGreatMg3
import Derived.Test.YthobaffgllipfaaGreatValA
import Derived.Test.YthobaffgllipfaaGreatValB
import Derived.Test.YthobaffgllipfaaGreatDecS
import Derived.Test.YthobaffgllipfaaGreatValC
import Derived.Test.YthobaffgllipfaaGreatAddrC
import Derived.Test.YthobaffgllipfaaGreatMg9
import Derived.Test.YthobaffgllipfaaGreatMapK
import Derived.Test.YthobaffgllipfaaGreatDMod
import Derived.Test.YthobaffgllipfaaGreatDFlo
import Derived.Test.YthobaffgllipfaaGreatProg
import Derived.Test.YthobaffgllipfaaGreatMg12
import Derived.Test.YthobaffgllipfaaGreatDRnd
import Derived.Test.YthobaffgllipfaaGreatMg14
import Derived.Test.YthobaffgllipfaaGreatKnuth
import Derived.Test.YthobaffgllipfaaGreatDDiv
import Derived.Test.YthobaffgllipfaaGreatMg17
import Derived.Test.YthobaffgllipfaaGreatNDoA
import Derived.Test.YthobaffgllipfaaGreatNDoB
import Derived.Test.YthobaffgllipfaaGreatNDoC
import Derived.Test.YthobaffgllipfaaGreatNFind
import Derived.Test.YthobaffgllipfaaGreatMg21
import Derived.Test.YthobaffgllipfaaGreatNCall
import Derived.Test.YthobaffgllipfaaGreatValL
import Derived.Test.YthobaffgllipfaaGreatNCallK
import Derived.Test.YthobaffgllipfaaGreatNCallB
import Derived.Test.YthobaffgllipfaaGreatNDoF
import Derived.Test.YthobaffgllipfaaGreatNDoQ
import Derived.WalkSpells
import Derived.WalkLawsBesides
import Derived.StillTactics
import Derived.Laws.Pointers
import Derived.Deep.RegionHeld3
import Derived.Deep.QuietTactic
import Derived.BigQuiet
import Derived.RowKit3
import Derived.Lib.Hide
import Derived.Lib.OthersKept
import Derived.OwnWalk
import Derived.Lib.IndexLaws
import Derived.Lib.ItoaMem
import Derived.WalkKit
import Derived.ProofKit
import Derived.OpenShut
import Derived.Carry
import Derived.ChangeSame
import Derived.Deep.Draws
import Derived.Maps.OwnSet
import Derived.Maps.AppendAt
import Derived.Laws.BitsAllLaws
import Derived.Shelf.Small.Bits
import Derived.Shelf.Strconv.Itoa0
import Derived.Shelf.Bits.Mul64
import Derived.Lib.TrimByte
import Derived.Lib.Bytealg
import Derived.Lib.SlTrimSet
import Derived.Lib.ParseIntB
import Derived.Shelf.Strings.SlTrimAscii
import Derived.Lib.SmallJoins
import Derived.Deep.RegionWith
import Derived.Laws.EntriesVeiled
namespace Go.Proofs.YthobaffgllipfaaGreat
open Go.RowKit

def factN : Nat → Nat
  | 0 => 1
  | n + 1 => (n + 1) * factN n
theorem factN_pos : ∀ n, 0 < factN n
  | 0 => by decide
  | n + 1 => Nat.mul_pos (by omega) (factN_pos n)
theorem factN_mono : ∀ (k n : Nat), n ≤ k → factN n ≤ factN k
  | 0, n, h => by obtain rfl : n = 0 := by omega
                  exact Nat.le_refl _
  | k + 1, n, h => by
    rcases Nat.lt_or_eq_of_le h with h1 | rfl
    · exact Nat.le_trans (factN_mono k n (by omega)) (by rw [show factN (k + 1) = (k + 1) * factN k from rfl]; exact Nat.le_mul_of_pos_left _ (Nat.succ_pos k))
    · exact Nat.le_refl _
theorem factN_small (n : Nat) (h : factN n ≤ 922337203685477) : n ≤ 17 := by
  rcases Nat.lt_or_ge 17 n with h1 | h1
  · have := factN_mono n 18 h1
    have e : factN 18 = 6402373705728000 := by decide
    omega
  · exact h1
def factL (x : Int) : VL := if wholeB x = true ∧ 0 ≤ wholeV x then (if 922337203685477 < factN (wholeV x).toNat then errL 2 else wholeL (factN (wholeV x).toNat) false) else errL 8
set_option maxRecDepth 100000 in
set_option maxHeartbeats 1000000 in
theorem do_FACT0 (x : Int) (hx : -9223372036854775807 ≤ x ∧ x ≤ 9223372036854775807) (v : Int) (h : wholeB x = false) (hv : wholeV x = v) (w : World) (gb n cap : Nat) (hg : gb < w.heap.size) (hn : 1 ≤ n) (_hcap : n ≤ cap) (c0 : w.cell? ⟨gb, 0, none⟩ = some (.int .i64 x)) : Calls Tryz.prog 51 #[.slice (some ⟨gb, 0, none⟩) n cap] w fun e w' => e = .returned (.agg #[.int .i64 4, .int .i64 0, .string ⟨#[]⟩, .bool false, .int .i64 (errC 8)]) ∧ Below w.heap.size w w' := by
  have hne : gb ≠ w.heap.size := by omega
  have hi0 : (0 : Int) < (n : Int) := by omega
  have hj0 : 0 < n := by omega
  have H := whole_any x (by omega) (w.alloc (.cells #[.int .i64 0, .int .i64 0, .string ⟨#[]⟩, .bool false, .int .i64 0] 26))
  rw [h, hv] at H
  have H' := Lib.hid H
  clear H h hv
  go_enter Tryz.func51, Tryz.ntmps51
  go_wp2_with fail
  refine H'.out.mono ?_
  rintro e w' ⟨rfl, rfl⟩
  go_wp2_with (go_at_call 8; refine (verr_any 8 _).mono ?_; rintro e w1 ⟨rfl, hb⟩; obtain ⟨hc, hf, hz⟩ := bkeep hb (w.heap.size + 1) (by first | omega | (simp <;> omega)))
  try simp only [resAt_setCell] at *
  refine bodyPost_ret (v := .agg #[.int .i64 4, .int .i64 0, .string ⟨#[]⟩, .bool false, .int .i64 (errC 8)]) ?_ rfl ⟨rfl, by first | assumption | (go_split_ands; first | assumption | ((repeat (first | (with_reducible exact Below.refl _ _) | (with_reducible refine Below.alloc ?_ (by first | omega | (dsimp only; omega) | (simp <;> omega)) _) | (with_reducible refine Below.setCell ?_ (by first | omega | (dsimp only; omega) | (simp <;> omega)) _) | (with_reducible refine Below.drew ?_) | (with_reducible refine below_drewN ?_ _) | (with_reducible refine Below.trans ?_ (Below.mono (by assumption) (by first | omega | (dsimp only; omega) | (simp <;> omega)))))); done)) | ((repeat (first | (with_reducible exact Below.refl _ _) | (with_reducible refine Below.alloc ?_ (by first | omega | (dsimp only; omega) | (simp <;> omega)) _) | (with_reducible refine Below.setCell ?_ (by first | omega | (dsimp only; omega) | (simp <;> omega)) _) | (with_reducible refine Below.drew ?_) | (with_reducible refine below_drewN ?_ _) | (with_reducible refine Below.trans ?_ (Below.mono (by assumption) (by first | omega | (dsimp only; omega) | (simp <;> omega)))))); done)⟩
  simp [results, Tryz.results51, go_sem, *]
set_option maxRecDepth 100000 in
set_option maxHeartbeats 1000000 in
theorem do_FACTn (x : Int) (hx : -9223372036854775807 ≤ x ∧ x ≤ 9223372036854775807) (v : Int) (h : wholeB x = true) (hv : wholeV x = v) (hn2 : v < 0) (w : World) (gb n cap : Nat) (hg : gb < w.heap.size) (hn : 1 ≤ n) (_hcap : n ≤ cap) (c0 : w.cell? ⟨gb, 0, none⟩ = some (.int .i64 x)) : Calls Tryz.prog 51 #[.slice (some ⟨gb, 0, none⟩) n cap] w fun e w' => e = .returned (.agg #[.int .i64 4, .int .i64 0, .string ⟨#[]⟩, .bool false, .int .i64 (errC 8)]) ∧ Below w.heap.size w w' := by
  have hne : gb ≠ w.heap.size := by omega
  have hi0 : (0 : Int) < (n : Int) := by omega
  have hj0 : 0 < n := by omega
  have H := whole_any x (by omega) (w.alloc (.cells #[.int .i64 0, .int .i64 0, .string ⟨#[]⟩, .bool false, .int .i64 0] 26))
  rw [h, hv] at H
  have H' := Lib.hid H
  clear H h hv
  go_enter Tryz.func51, Tryz.ntmps51
  go_wp2_with fail
  refine H'.out.mono ?_
  rintro e w' ⟨rfl, rfl⟩
  go_wp2_with (go_at_call 8; refine (verr_any 8 _).mono ?_; rintro e w1 ⟨rfl, hb⟩; obtain ⟨hc, hf, hz⟩ := bkeep hb (w.heap.size + 1) (by first | omega | (simp <;> omega)))
  try simp only [resAt_setCell] at *
  refine bodyPost_ret (v := .agg #[.int .i64 4, .int .i64 0, .string ⟨#[]⟩, .bool false, .int .i64 (errC 8)]) ?_ rfl ⟨rfl, by first | assumption | (go_split_ands; first | assumption | ((repeat (first | (with_reducible exact Below.refl _ _) | (with_reducible refine Below.alloc ?_ (by first | omega | (dsimp only; omega) | (simp <;> omega)) _) | (with_reducible refine Below.setCell ?_ (by first | omega | (dsimp only; omega) | (simp <;> omega)) _) | (with_reducible refine Below.drew ?_) | (with_reducible refine below_drewN ?_ _) | (with_reducible refine Below.trans ?_ (Below.mono (by assumption) (by first | omega | (dsimp only; omega) | (simp <;> omega)))))); done)) | ((repeat (first | (with_reducible exact Below.refl _ _) | (with_reducible refine Below.alloc ?_ (by first | omega | (dsimp only; omega) | (simp <;> omega)) _) | (with_reducible refine Below.setCell ?_ (by first | omega | (dsimp only; omega) | (simp <;> omega)) _) | (with_reducible refine Below.drew ?_) | (with_reducible refine below_drewN ?_ _) | (with_reducible refine Below.trans ?_ (Below.mono (by assumption) (by first | omega | (dsimp only; omega) | (simp <;> omega)))))); done)⟩
  simp [results, Tryz.results51, go_sem, *]
/-- what FACT answers of a whole number that is not below nought -/
structure FactAt (n : Nat) (w : World) (e : Ending) (w' : World) : Prop where
  big : 922337203685477 < factN n → e = .returned (.agg #[.int .i64 4, .int .i64 0, .string ⟨#[]⟩, .bool false, .int .i64 (errC 2)])
  fit : ¬ 922337203685477 < factN n → e = .returned (.agg #[.int .i64 (wholeL (factN n) false).t, .int .i64 (wholeL (factN n) false).n, .string (wholeL (factN n) false).s, .bool (wholeL (factN n) false).b, .int .i64 (wholeL (factN n) false).c])
  bel : Below w.heap.size w w'
set_option maxRecDepth 100000 in
set_option maxHeartbeats 4000000 in
theorem do_FACT1 (x : Int) (hx : -9223372036854775807 ≤ x ∧ x ≤ 9223372036854775807) (v : Nat) (h : wholeB x = true) (hv : wholeV x = (v : Int)) (w : World) (gb n cap : Nat) (hg : gb < w.heap.size) (hn : 1 ≤ n) (_hcap : n ≤ cap) (c0 : w.cell? ⟨gb, 0, none⟩ = some (.int .i64 x)) : Calls Tryz.prog 51 #[.slice (some ⟨gb, 0, none⟩) n cap] w (FactAt v w) := by
  have hne : gb ≠ w.heap.size := by omega
  have hi0 : (0 : Int) < (n : Int) := by omega
  have hj0 : 0 < n := by omega
  have hvb := wholeV_in x (by omega)
  rw [hv] at hvb
  have H := whole_any x (by omega) (w.alloc (.cells #[.int .i64 0, .int .i64 0, .string ⟨#[]⟩, .bool false, .int .i64 0] 26))
  rw [h, hv] at H
  have H' := Lib.hid H
  clear H h hv
  go_enter Tryz.func51, Tryz.ntmps51
  go_wp2_with fail
  refine H'.out.mono ?_
  rintro e w' ⟨rfl, rfl⟩
  go_wp2
  go_loop [5, 6] (fun p i => ∃ k : Nat, 1 ≤ k ∧ (k ≤ v ∨ k = 1) ∧ i = .int .i64 ((k : Int) + 1) ∧ ∃ d : Nat, Hid (factN k = d) ∧ d ≤ 922337203685477 ∧ p = .int .u64 (d : Int)) (fun _ i => v + 1 - (intOf i).toNat)
  case atStart => exact ⟨1, by omega, .inr rfl, rfl, 1, Lib.hid rfl, by omega, rfl⟩
  case round =>
    obtain ⟨k, hk1, hk, rfl, d, hd, hdb, rfl⟩ := hrel
    have hk17 := factN_small k (by rw [hd.out]; exact hdb)
    by_cases hlt : k < v
    · have hle : (k : Int) + 1 ≤ (v : Int) := by omega
      have hfs : factN (k + 1) = (k + 1) * d := by rw [← hd.out]; rfl
      obtain ⟨y, hy⟩ : ∃ y, (k + 1) * d = y := ⟨_, rfl⟩
      have hyb : y ≤ 18 * 922337203685477 := by rw [← hy]; exact Nat.mul_le_mul (by omega) hdb
      have hmul : IntKind.u64.wrap ((d : Int) * ((k : Int) + 1)) = (y : Int) := by
        have : (d : Int) * ((k : Int) + 1) = (y : Int) := by rw [← hy]; push_cast; rw [Int.mul_comm]
        rw [this]; exact wrapN y |>.trans (by rw [Nat.mod_eq_of_lt (by omega)])
      rw [hy] at hfs
      have hfs' := Lib.hid hfs
      have hcv : IntKind.u64.wrap ((k : Int) + 1) = (k : Int) + 1 := by rw [IntKind.wrap_u64]; omega
      clear hfs hy hd
      by_cases hbig : 922337203685477 < y
      · have hge : 922337203685477 < factN v := by have := factN_mono v (k + 1) hlt; have := hfs'.out; omega
        have hge' := Lib.hid hge
        clear hge
        go_wp2_with (go_at_call 8; refine (verr_any 2 _).mono ?_; rintro e w1 ⟨rfl, hb⟩; obtain ⟨hc, hf, hz⟩ := bkeep hb (w.heap.size + 1) (by first | omega | (simp <;> omega)))
        refine bodyPost_ret (v := .agg #[.int .i64 4, .int .i64 0, .string ⟨#[]⟩, .bool false, .int .i64 (errC 2)]) ?_ rfl ⟨fun _ => rfl, fun h => absurd hge'.out h, by (repeat (first | (with_reducible exact Below.refl _ _) | (with_reducible refine Below.alloc ?_ (by first | omega | (dsimp only; omega) | (simp <;> omega)) _) | (with_reducible refine Below.setCell ?_ (by first | omega | (dsimp only; omega) | (simp <;> omega)) _) | (with_reducible refine Below.drew ?_) | (with_reducible refine below_drewN ?_ _) | (with_reducible refine Below.trans ?_ (Below.mono (by assumption) (by first | omega | (dsimp only; omega) | (simp <;> omega))))))⟩
        simp [results, Tryz.results51, go_sem, *]
      · go_wp2
        go_round
        case rel => exact ⟨k + 1, by omega, .inl hlt, by go_num, y, hfs', by omega, rfl⟩
        case measure => simp [intOf]; omega
    · have hle : ¬ (k : Int) + 1 ≤ (v : Int) := by omega
      have hfv : factN v = d := by
        rw [← hd.out]
        rcases hk with h | rfl
        · obtain rfl : k = v := by omega
          rfl
        · have : v = 0 ∨ v = 1 := by omega
          rcases this with rfl | rfl <;> rfl
      have hfv' := Lib.hid hfv
      clear hfv hd
      go_wp2_with (go_at_call 85; refine (whole_c (d : Int) d rfl (by omega) false _).mono ?_; rintro e w1 ⟨rfl, hb⟩; obtain ⟨hc, hf, hz⟩ := bkeep hb (w.heap.size + 1) (by first | omega | (simp <;> omega)))
      refine bodyPost_ret (v := .agg #[.int .i64 (wholeL d false).t, .int .i64 (wholeL d false).n, .string (wholeL d false).s, .bool (wholeL d false).b, .int .i64 (wholeL d false).c]) ?_ rfl ⟨fun h => absurd h (by rw [hfv'.out]; omega), fun _ => by rw [hfv'.out], by (repeat (first | (with_reducible exact Below.refl _ _) | (with_reducible refine Below.alloc ?_ (by first | omega | (dsimp only; omega) | (simp <;> omega)) _) | (with_reducible refine Below.setCell ?_ (by first | omega | (dsimp only; omega) | (simp <;> omega)) _) | (with_reducible refine Below.drew ?_) | (with_reducible refine below_drewN ?_ _) | (with_reducible refine Below.trans ?_ (Below.mono (by assumption) (by first | omega | (dsimp only; omega) | (simp <;> omega))))))⟩
      simp [results, Tryz.results51, go_sem, *]
end Go.Proofs.YthobaffgllipfaaGreat
namespace Go.Proofs.YthobaffgllipfaaGreat
open Go.RowKit

theorem do_GCD (l : List Int) (hl : ∀ x ∈ l, -9223372036854775807 ≤ x ∧ x ≤ 9223372036854775807) (hlen : l.length ≤ 1649267441664) (h1 : 1 ≤ l.length) (w : World) (gb cap : Nat) (hg : gb < w.heap.size) (hcap : l.length ≤ cap) (hc : ∀ (j : Nat) (x : Int), l[j]? = some x → w.cell? ⟨gb, j, none⟩ = some (.int .i64 x)) : Calls Tryz.prog 49 #[.slice (some ⟨gb, 0, none⟩) l.length cap] w fun e w' => e = .returned (.agg #[.int .i64 (gcdL l).t, .int .i64 (gcdL l).n, .string (gcdL l).s, .bool (gcdL l).b, .int .i64 (gcdL l).c]) ∧ Below w.heap.size w w' := by
  unfold gcdL
  cases h : allWhole l
  · exact do_GCD0 l hl hlen w gb cap hg hcap hc h
  · exact do_GCD1 l hl hlen w gb cap hg hcap hc h1 h _ rfl (fun x hx => by
      unfold wholesN at hx
      obtain ⟨y, hy, rfl⟩ := List.mem_map.1 hx
      have := hl y hy
      omega)
theorem third_of {a b c a' b' c' : Value} (h : Value.agg #[a, b, c] = Value.agg #[a', b', c']) : c = c' := by
  injection h with h
  injection h with h
  injection h with _ h
  injection h with _ h
  injection h with h _
set_option maxRecDepth 100000 in
theorem at_ABS (x : Int) (hx : -9223372036854775807 ≤ x ∧ x ≤ 9223372036854775807) : DoAt ⟨#[65, 66, 83]⟩ [x] (numL (max x (-x))) := ⟨fun w b0 b1 b2 lo mo d h hb0 hb1 hb2 hc0 hc1 hc2 gb cap hg hcap hc => by
  have e : lookL nZero (nTab b0 b1 b2) ⟨#[65, 66, 83]⟩ = .agg #[.int .i64 1, .int .i64 1, .func (.func 31) #[] #[]] := by kernel_rfl
  have hd := third_of (e.symm.trans h)
  exact ⟨31, #[], hd.symm, fun _ _ => by simp [go_sem], do_ABS x hx w gb 1 cap hg (by omega) hcap (hc 0 x rfl)⟩⟩
set_option maxRecDepth 100000 in
theorem at_GCD (l : List Int) (hl : ∀ x ∈ l, -9223372036854775807 ≤ x ∧ x ≤ 9223372036854775807) (hlen : l.length ≤ 1649267441664) (h1 : 1 ≤ l.length) : DoAt ⟨#[71, 67, 68]⟩ l (gcdL l) := ⟨fun w b0 b1 b2 lo mo d h hb0 hb1 hb2 hc0 hc1 hc2 gb cap hg hcap hc => by
  have e : lookL nZero (nTab b0 b1 b2) ⟨#[71, 67, 68]⟩ = .agg #[.int .i64 1, .int .i64 16, .func (.func 49) #[] #[]] := by kernel_rfl
  have hd := third_of (e.symm.trans h)
  exact ⟨49, #[], hd.symm, fun _ _ => by simp [go_sem], do_GCD l hl hlen h1 w gb cap hg hcap hc⟩⟩
end Go.Proofs.YthobaffgllipfaaGreat
