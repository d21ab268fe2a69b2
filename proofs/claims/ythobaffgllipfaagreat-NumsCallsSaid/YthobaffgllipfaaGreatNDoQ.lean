/-
  nums: QUOT.
-/
import Derived.Test.YthobaffgllipfaaGreatRows
import Derived.Test.YthobaffgllipfaaGreatBase
import Derived.Test.YthobaffgllipfaaGreatMg3
import Derived.Test.YthobaffgllipfaaGreatValA
import Derived.Test.YthobaffgllipfaaGreatValB
import Derived.Test.YthobaffgllipfaaGreatDecS
import Derived.Test.YthobaffgllipfaaGreatValC
import Derived.Test.YthobaffgllipfaaGreatAddrC
import Derived.Test.YthobaffgllipfaaGreatMg9
import Derived.Test.YthobaffgllipfaaGreatMapK
import Derived.Test.YthobaffgllipfaaGreatDMod
import Derived.Test.YthobaffgllipfaaGreatDFlo
import Derived.Test.YthobaffgllipfaaGreatProg
import Derived.Test.YthobaffgllipfaaGreatMg12
import Derived.Test.YthobaffgllipfaaGreatDRnd
import Derived.Test.YthobaffgllipfaaGreatMg14
import Derived.Test.YthobaffgllipfaaGreatKnuth
import Derived.Test.YthobaffgllipfaaGreatDDiv
import Derived.Test.YthobaffgllipfaaGreatMg17
import Derived.Test.YthobaffgllipfaaGreatNDoA
import Derived.Test.YthobaffgllipfaaGreatNDoB
import Derived.Test.YthobaffgllipfaaGreatNDoC
import Derived.Deep.RegionWith
import Derived.WalkSpells
import Derived.WalkLawsBesides
import Derived.StillTactics
import Derived.Laws.Pointers
import Derived.Deep.RegionHeld3
import Derived.Deep.QuietTactic
import Derived.BigQuiet
import Derived.RowKit3
import Derived.Lib.Hide
import Derived.Lib.OthersKept
import Derived.OwnWalk
import Derived.Lib.IndexLaws
import Derived.Lib.ItoaMem
import Derived.WalkKit
import Derived.ProofKit
import Derived.OpenShut
import Derived.Carry
import Derived.ChangeSame
import Derived.Deep.Draws
import Derived.Maps.OwnSet
import Derived.Maps.AppendAt
import Derived.Laws.BitsAllLaws
import Derived.Shelf.Small.Bits
import Derived.Shelf.Strconv.Itoa0
import Derived.Shelf.Bits.Mul64
import Derived.Lib.TrimByte
import Derived.Lib.Bytealg
import Derived.Lib.SlTrimSet
import Derived.Lib.ParseIntB
import Derived.Shelf.Strings.SlTrimAscii
import Derived.Lib.SmallJoins
namespace Go.Proofs.YthobaffgllipfaaGreat
open Go.RowKit

set_option maxRecDepth 100000 in
set_option maxHeartbeats 1000000 in
theorem do_QUOT0 (x : Int) (hx : -9223372036854775807 ≤ x ∧ x ≤ 9223372036854775807) (y : Int) (hy : -9223372036854775807 ≤ y ∧ y ≤ 9223372036854775807) (h : y = 0) (w : World) (gb n cap : Nat) (hg : gb < w.heap.size) (hn : 2 ≤ n) (_hcap : n ≤ cap) (_c0 : w.cell? ⟨gb, 0, none⟩ = some (.int .i64 x)) (c1 : w.cell? ⟨gb, 1, none⟩ = some (.int .i64 y)) : Calls Tryz.prog 45 #[.slice (some ⟨gb, 0, none⟩) n cap] w fun e w' => e = .returned (.agg #[.int .i64 4, .int .i64 0, .string ⟨#[]⟩, .bool false, .int .i64 (errC 3)]) ∧ Below w.heap.size w w' := by
  have hne : gb ≠ w.heap.size := by omega
  have hi0 : (0 : Int) < (n : Int) := by omega
  have hj0 : 0 < n := by omega
  have hi1 : (1 : Int) < (n : Int) := by omega
  have hj1 : 1 < n := by omega
  subst h
  go_enter Tryz.func45, Tryz.ntmps45
  go_wp2_with (go_at_call 8; refine (verr_any 3 _).mono ?_; rintro e w1 ⟨rfl, hb⟩; obtain ⟨hc, hf, hz⟩ := bkeep hb (w.heap.size + 1) (by first | omega | (simp <;> omega)))
  try simp only [resAt_setCell] at *
  refine bodyPost_ret (v := .agg #[.int .i64 4, .int .i64 0, .string ⟨#[]⟩, .bool false, .int .i64 (errC 3)]) ?_ rfl ⟨rfl, by first | assumption | (go_split_ands; first | assumption | ((repeat (first | (with_reducible exact Below.refl _ _) | (with_reducible refine Below.alloc ?_ (by first | omega | (dsimp only; omega) | (simp <;> omega)) _) | (with_reducible refine Below.setCell ?_ (by first | omega | (dsimp only; omega) | (simp <;> omega)) _) | (with_reducible refine Below.drew ?_) | (with_reducible refine below_drewN ?_ _) | (with_reducible refine Below.trans ?_ (Below.mono (by assumption) (by first | omega | (dsimp only; omega) | (simp <;> omega)))))); done)) | ((repeat (first | (with_reducible exact Below.refl _ _) | (with_reducible refine Below.alloc ?_ (by first | omega | (dsimp only; omega) | (simp <;> omega)) _) | (with_reducible refine Below.setCell ?_ (by first | omega | (dsimp only; omega) | (simp <;> omega)) _) | (with_reducible refine Below.drew ?_) | (with_reducible refine below_drewN ?_ _) | (with_reducible refine Below.trans ?_ (Below.mono (by assumption) (by first | omega | (dsimp only; omega) | (simp <;> omega)))))); done)⟩
  simp [results, Tryz.results45, go_sem, *]
theorem nsize_sel (x y : Int) (m k : Nat) (hx : -9223372036854775807 ≤ x ∧ x ≤ 9223372036854775807) (hy : -9223372036854775807 ≤ y ∧ y ≤ 9223372036854775807) (hm : Hid (x.natAbs = m)) (hk : Hid (y.natAbs = k)) (z : Int) (r : Nat) (h : (z = x ∧ r = m) ∨ (z = y ∧ r = k)) (w : World) : Calls Tryz.prog 86 #[.int .i64 z] w fun e w' => e = .returned (.int .u64 (r : Int)) ∧ w = w' := by
  rcases h with ⟨rfl, rfl⟩ | ⟨rfl, rfl⟩
  · exact nsize_any z (by omega) (by omega) r hm.out w
  · exact nsize_any z (by omega) (by omega) r hk.out w
set_option maxRecDepth 100000 in
set_option maxHeartbeats 1000000 in
theorem do_QUOTT (x : Int) (hx : -9223372036854775807 ≤ x ∧ x ≤ 9223372036854775807) (y : Int) (hy : -9223372036854775807 ≤ y ∧ y ≤ 9223372036854775807) (m k q : Nat) (hm : x.natAbs = m) (hk : y.natAbs = k) (hq : m / k = q) (h : y ≠ 0) (hs : (decide (x < 0) != decide (y < 0)) = true) (w : World) (gb n cap : Nat) (hg : gb < w.heap.size) (hn : 2 ≤ n) (_hcap : n ≤ cap) (c0 : w.cell? ⟨gb, 0, none⟩ = some (.int .i64 x)) (c1 : w.cell? ⟨gb, 1, none⟩ = some (.int .i64 y)) : Calls Tryz.prog 45 #[.slice (some ⟨gb, 0, none⟩) n cap] w fun e w' => e = .returned (.agg #[.int .i64 (wholeL q true).t, .int .i64 (wholeL q true).n, .string (wholeL q true).s, .bool (wholeL q true).b, .int .i64 (wholeL q true).c]) ∧ Below w.heap.size w w' := by
  have hne : gb ≠ w.heap.size := by omega
  have hi0 : (0 : Int) < (n : Int) := by omega
  have hj0 : 0 < n := by omega
  have hi1 : (1 : Int) < (n : Int) := by omega
  have hj1 : 1 < n := by omega
  have hx5 : -9223372036854775808 ≤ x ∧ x ≤ 9223372036854775807 := by omega
  have hx6 : x ≠ -9223372036854775808 := by omega
  have hy5 : -9223372036854775808 ≤ y ∧ y ≤ 9223372036854775807 := by omega
  have hy6 : y ≠ -9223372036854775808 := by omega
  have hyb : (y == 0) = false := by simpa using h
  have hx0 := xor_sign x y (by omega) (by omega)
  rw [hs] at hx0
  have hx1 : bits .xor .i64 x y < 0 := by simpa using hx0
  obtain ⟨zx, hzx⟩ : ∃ zx, bits .xor .i64 x y = zx := ⟨_, rfl⟩
  rw [hzx] at hx1
  have hx2 : decide (zx < 0) = true := by simpa using hx1
  have hk0 : 0 < k := by omega
  have hkb : ((k : Int) == 0) = false := by simp; omega
  have hkb2 : (k == 0) = false := by simp; omega
  have hkb3 : ¬ k = 0 := by omega
  have hqb : q ≤ 9223372036854775807 := by have := Nat.div_le_self m k; omega
  have hm' := Lib.hid hm
  have hk' := Lib.hid hk
  have hq1 : IntKind.u64.wrap ((m : Int).tdiv (k : Int)) = (q : Int) := by
    rw [Int.tdiv_eq_ediv_of_nonneg (by omega), ← Int.natCast_ediv, hq]; exact wrapN q |>.trans (by rw [Nat.mod_eq_of_lt (by omega)])
  have hq4 : q < 18446744073709551616 := by omega
  have hq3 : IntKind.u64.wrap (q : Int) = (q : Int) := by rw [IntKind.wrap_u64]; omega
  have hq2 : (m : Int) / (k : Int) = (q : Int) := by rw [← Int.natCast_ediv, hq]
  clear hm hk hq hx0 hs h
  go_enter Tryz.func45, Tryz.ntmps45
  go_wp2_with fail
  first | (go_loud (go_region_held3 (fun w' => w'.cell? ⟨gb, 0, none⟩ = some (.int .i64 x) ∧ w'.cell? ⟨gb, 1, none⟩ = some (.int .i64 y) ∧ ResAt w' (w.heap.size) 5 ∧ Below w.heap.size w w' ∧ w.heap.size + 1 ≤ w'.heap.size)
    (first | (go_split_ands; exact ⟨(by simp [go_sem, *]), (by simp [go_sem, *]), (by first | (with_reducible exact ResAt.drew (ResAt.new5 _ _ _ _ _ _ _)) | (repeat (first | (with_reducible assumption) | (with_reducible refine ResAt.setCell ?_ _ _) | (with_reducible refine ResAt.drew ?_)))), (by (repeat (first | (with_reducible exact Below.refl _ _) | (with_reducible refine Below.alloc ?_ (by first | omega | (dsimp only; omega) | (simp <;> omega)) _) | (with_reducible refine Below.setCell ?_ (by first | omega | (dsimp only; omega) | (simp <;> omega)) _) | (with_reducible refine Below.drew ?_) | (with_reducible refine below_drewN ?_ _) | (with_reducible refine Below.trans ?_ (Below.mono (by assumption) (by first | omega | (dsimp only; omega) | (simp <;> omega))))))), (by first | (simp; done) | (simp; omega))⟩) | (exact ⟨(by simp [go_sem, *]), (by simp [go_sem, *]), (by first | (with_reducible exact ResAt.drew (ResAt.new5 _ _ _ _ _ _ _)) | (repeat (first | (with_reducible assumption) | (with_reducible refine ResAt.setCell ?_ _ _) | (with_reducible refine ResAt.drew ?_)))), (by (repeat (first | (with_reducible exact Below.refl _ _) | (with_reducible refine Below.alloc ?_ (by first | omega | (dsimp only; omega) | (simp <;> omega)) _) | (with_reducible refine Below.setCell ?_ (by first | omega | (dsimp only; omega) | (simp <;> omega)) _) | (with_reducible refine Below.drew ?_) | (with_reducible refine below_drewN ?_ _) | (with_reducible refine Below.trans ?_ (Below.mono (by assumption) (by first | omega | (dsimp only; omega) | (simp <;> omega))))))), (by first | (simp; done) | (simp; omega))⟩) | (go_split_ands; exact ⟨(by rw [hb.cell (by dsimp only; omega)]; assumption), (by rw [hb.cell (by dsimp only; omega)]; assumption), (ResAt.below (by assumption) hb (by omega)), (Below.trans (by assumption) (hb.mono (by omega))), (by have := hb.size; omega)⟩))
    (first | (go_at_call 86; (with_reducible refine (nsize_any x hx5 hx6 m hm'.out _).mono ?_); rintro e w1 ⟨rfl, rfl⟩) | (go_at_call 86; (with_reducible refine (nsize_any y hy5 hy6 k hk'.out _).mono ?_); rintro e w1 ⟨rfl, rfl⟩) | (go_at_call 85; (with_reducible refine (whole_c (q : Int) q rfl hq4 true _).mono ?_); rintro e w1 ⟨rfl, hb⟩)))) | fail "region"
  go_split_ands
  go_wp2
  try simp only [resAt_setCell] at *
  refine bodyPost_ret (v := .agg #[.int .i64 (wholeL q true).t, .int .i64 (wholeL q true).n, .string (wholeL q true).s, .bool (wholeL q true).b, .int .i64 (wholeL q true).c]) ?_ rfl ⟨rfl, by first | assumption | (go_split_ands; first | assumption | ((repeat (first | (with_reducible exact Below.refl _ _) | (with_reducible refine Below.alloc ?_ (by first | omega | (dsimp only; omega) | (simp <;> omega)) _) | (with_reducible refine Below.setCell ?_ (by first | omega | (dsimp only; omega) | (simp <;> omega)) _) | (with_reducible refine Below.drew ?_) | (with_reducible refine below_drewN ?_ _) | (with_reducible refine Below.trans ?_ (Below.mono (by assumption) (by first | omega | (dsimp only; omega) | (simp <;> omega)))))); done)) | ((repeat (first | (with_reducible exact Below.refl _ _) | (with_reducible refine Below.alloc ?_ (by first | omega | (dsimp only; omega) | (simp <;> omega)) _) | (with_reducible refine Below.setCell ?_ (by first | omega | (dsimp only; omega) | (simp <;> omega)) _) | (with_reducible refine Below.drew ?_) | (with_reducible refine below_drewN ?_ _) | (with_reducible refine Below.trans ?_ (Below.mono (by assumption) (by first | omega | (dsimp only; omega) | (simp <;> omega)))))); done)⟩
  simp [results, Tryz.results45, go_sem, *]
set_option maxRecDepth 100000 in
set_option maxHeartbeats 1000000 in
theorem do_QUOTF (x : Int) (hx : -9223372036854775807 ≤ x ∧ x ≤ 9223372036854775807) (y : Int) (hy : -9223372036854775807 ≤ y ∧ y ≤ 9223372036854775807) (m k q : Nat) (hm : x.natAbs = m) (hk : y.natAbs = k) (hq : m / k = q) (h : y ≠ 0) (hs : (decide (x < 0) != decide (y < 0)) = false) (w : World) (gb n cap : Nat) (hg : gb < w.heap.size) (hn : 2 ≤ n) (_hcap : n ≤ cap) (c0 : w.cell? ⟨gb, 0, none⟩ = some (.int .i64 x)) (c1 : w.cell? ⟨gb, 1, none⟩ = some (.int .i64 y)) : Calls Tryz.prog 45 #[.slice (some ⟨gb, 0, none⟩) n cap] w fun e w' => e = .returned (.agg #[.int .i64 (wholeL q false).t, .int .i64 (wholeL q false).n, .string (wholeL q false).s, .bool (wholeL q false).b, .int .i64 (wholeL q false).c]) ∧ Below w.heap.size w w' := by
  have hne : gb ≠ w.heap.size := by omega
  have hi0 : (0 : Int) < (n : Int) := by omega
  have hj0 : 0 < n := by omega
  have hi1 : (1 : Int) < (n : Int) := by omega
  have hj1 : 1 < n := by omega
  have hx5 : -9223372036854775808 ≤ x ∧ x ≤ 9223372036854775807 := by omega
  have hx6 : x ≠ -9223372036854775808 := by omega
  have hy5 : -9223372036854775808 ≤ y ∧ y ≤ 9223372036854775807 := by omega
  have hy6 : y ≠ -9223372036854775808 := by omega
  have hyb : (y == 0) = false := by simpa using h
  have hx0 := xor_sign x y (by omega) (by omega)
  rw [hs] at hx0
  have hx1 : ¬ bits .xor .i64 x y < 0 := by simpa using hx0
  obtain ⟨zx, hzx⟩ : ∃ zx, bits .xor .i64 x y = zx := ⟨_, rfl⟩
  rw [hzx] at hx1
  have hx2 : decide (zx < 0) = false := by simpa using hx1
  have hk0 : 0 < k := by omega
  have hkb : ((k : Int) == 0) = false := by simp; omega
  have hkb2 : (k == 0) = false := by simp; omega
  have hkb3 : ¬ k = 0 := by omega
  have hqb : q ≤ 9223372036854775807 := by have := Nat.div_le_self m k; omega
  have hm' := Lib.hid hm
  have hk' := Lib.hid hk
  have hq1 : IntKind.u64.wrap ((m : Int).tdiv (k : Int)) = (q : Int) := by
    rw [Int.tdiv_eq_ediv_of_nonneg (by omega), ← Int.natCast_ediv, hq]; exact wrapN q |>.trans (by rw [Nat.mod_eq_of_lt (by omega)])
  have hq4 : q < 18446744073709551616 := by omega
  have hq3 : IntKind.u64.wrap (q : Int) = (q : Int) := by rw [IntKind.wrap_u64]; omega
  have hq2 : (m : Int) / (k : Int) = (q : Int) := by rw [← Int.natCast_ediv, hq]
  clear hm hk hq hx0 hs h
  go_enter Tryz.func45, Tryz.ntmps45
  go_wp2_with fail
  first | (go_loud (go_region_held3 (fun w' => w'.cell? ⟨gb, 0, none⟩ = some (.int .i64 x) ∧ w'.cell? ⟨gb, 1, none⟩ = some (.int .i64 y) ∧ ResAt w' (w.heap.size) 5 ∧ Below w.heap.size w w' ∧ w.heap.size + 1 ≤ w'.heap.size)
    (first | (go_split_ands; exact ⟨(by simp [go_sem, *]), (by simp [go_sem, *]), (by first | (with_reducible exact ResAt.drew (ResAt.new5 _ _ _ _ _ _ _)) | (repeat (first | (with_reducible assumption) | (with_reducible refine ResAt.setCell ?_ _ _) | (with_reducible refine ResAt.drew ?_)))), (by (repeat (first | (with_reducible exact Below.refl _ _) | (with_reducible refine Below.alloc ?_ (by first | omega | (dsimp only; omega) | (simp <;> omega)) _) | (with_reducible refine Below.setCell ?_ (by first | omega | (dsimp only; omega) | (simp <;> omega)) _) | (with_reducible refine Below.drew ?_) | (with_reducible refine below_drewN ?_ _) | (with_reducible refine Below.trans ?_ (Below.mono (by assumption) (by first | omega | (dsimp only; omega) | (simp <;> omega))))))), (by first | (simp; done) | (simp; omega))⟩) | (exact ⟨(by simp [go_sem, *]), (by simp [go_sem, *]), (by first | (with_reducible exact ResAt.drew (ResAt.new5 _ _ _ _ _ _ _)) | (repeat (first | (with_reducible assumption) | (with_reducible refine ResAt.setCell ?_ _ _) | (with_reducible refine ResAt.drew ?_)))), (by (repeat (first | (with_reducible exact Below.refl _ _) | (with_reducible refine Below.alloc ?_ (by first | omega | (dsimp only; omega) | (simp <;> omega)) _) | (with_reducible refine Below.setCell ?_ (by first | omega | (dsimp only; omega) | (simp <;> omega)) _) | (with_reducible refine Below.drew ?_) | (with_reducible refine below_drewN ?_ _) | (with_reducible refine Below.trans ?_ (Below.mono (by assumption) (by first | omega | (dsimp only; omega) | (simp <;> omega))))))), (by first | (simp; done) | (simp; omega))⟩) | (go_split_ands; exact ⟨(by rw [hb.cell (by dsimp only; omega)]; assumption), (by rw [hb.cell (by dsimp only; omega)]; assumption), (ResAt.below (by assumption) hb (by omega)), (Below.trans (by assumption) (hb.mono (by omega))), (by have := hb.size; omega)⟩))
    (first | (go_at_call 86; (with_reducible refine (nsize_any x hx5 hx6 m hm'.out _).mono ?_); rintro e w1 ⟨rfl, rfl⟩) | (go_at_call 86; (with_reducible refine (nsize_any y hy5 hy6 k hk'.out _).mono ?_); rintro e w1 ⟨rfl, rfl⟩) | (go_at_call 85; (with_reducible refine (whole_c (q : Int) q rfl hq4 false _).mono ?_); rintro e w1 ⟨rfl, hb⟩)))) | fail "region"
  go_split_ands
  go_wp2
  try simp only [resAt_setCell] at *
  refine bodyPost_ret (v := .agg #[.int .i64 (wholeL q false).t, .int .i64 (wholeL q false).n, .string (wholeL q false).s, .bool (wholeL q false).b, .int .i64 (wholeL q false).c]) ?_ rfl ⟨rfl, by first | assumption | (go_split_ands; first | assumption | ((repeat (first | (with_reducible exact Below.refl _ _) | (with_reducible refine Below.alloc ?_ (by first | omega | (dsimp only; omega) | (simp <;> omega)) _) | (with_reducible refine Below.setCell ?_ (by first | omega | (dsimp only; omega) | (simp <;> omega)) _) | (with_reducible refine Below.drew ?_) | (with_reducible refine below_drewN ?_ _) | (with_reducible refine Below.trans ?_ (Below.mono (by assumption) (by first | omega | (dsimp only; omega) | (simp <;> omega)))))); done)) | ((repeat (first | (with_reducible exact Below.refl _ _) | (with_reducible refine Below.alloc ?_ (by first | omega | (dsimp only; omega) | (simp <;> omega)) _) | (with_reducible refine Below.setCell ?_ (by first | omega | (dsimp only; omega) | (simp <;> omega)) _) | (with_reducible refine Below.drew ?_) | (with_reducible refine below_drewN ?_ _) | (with_reducible refine Below.trans ?_ (Below.mono (by assumption) (by first | omega | (dsimp only; omega) | (simp <;> omega)))))); done)⟩
  simp [results, Tryz.results45, go_sem, *]
end Go.Proofs.YthobaffgllipfaaGreat
