/-
  The walk of the law NumsParts.
-/
import Derived.Test.YthobaffgllipfaaRows
import Derived.Test.YthobaffgllipfaaBase
import Derived.Test.YthobaffgllipfaaMapK
import Derived.Test.YthobaffgllipfaaNFind
import Derived.Test.YthobaffgllipfaaDecA
import Derived.Test.YthobaffgllipfaaValA
import Derived.Test.YthobaffgllipfaaValB
import Derived.Test.YthobaffgllipfaaDecS
import Derived.Test.YthobaffgllipfaaValC
import Derived.Test.YthobaffgllipfaaAddrC
import Derived.Test.YthobaffgllipfaaAddrI
import Derived.Test.YthobaffgllipfaaArgK
import Derived.Test.YthobaffgllipfaaDMod
import Derived.Test.YthobaffgllipfaaDFlo
import Derived.Test.YthobaffgllipfaaProg
import Derived.Test.YthobaffgllipfaaShelf
import Derived.Test.YthobaffgllipfaaDPrint
import Derived.Test.YthobaffgllipfaaDRnd
import Derived.Test.YthobaffgllipfaaDSqr
import Derived.Test.YthobaffgllipfaaKnuth
import Derived.Test.YthobaffgllipfaaDDiv
import Derived.Test.YthobaffgllipfaaDecK
import Derived.Test.YthobaffgllipfaaDDivA
import Derived.Test.YthobaffgllipfaaNDoA
import Derived.Test.YthobaffgllipfaaNDoB
import Derived.Test.YthobaffgllipfaaNDoC
import Derived.Test.YthobaffgllipfaaNDoD
import Derived.Test.YthobaffgllipfaaNDoE
import Derived.Test.YthobaffgllipfaaNCall
import Derived.Test.YthobaffgllipfaaValE
import Derived.Test.YthobaffgllipfaaValF
import Derived.Test.YthobaffgllipfaaValL
import Derived.Test.YthobaffgllipfaaNCallK
import Derived.Test.YthobaffgllipfaaNCallB
import Derived.Test.YthobaffgllipfaaNDoF
import Derived.Test.YthobaffgllipfaaNDoG
import Derived.Test.YthobaffgllipfaaNDoQ
import Derived.Test.YthobaffgllipfaaNDoAt
import Derived.Test.YthobaffgllipfaaArgS
import Derived.Test.YthobaffgllipfaaNLaw
import Derived.Test.YthobaffgllipfaaNKn
import Derived.Test.YthobaffgllipfaaLNDivA
import Derived.Test.YthobaffgllipfaaNDoP
import Derived.Test.YthobaffgllipfaaNDoAt2
import Derived.Test.YthobaffgllipfaaLNParA
import Derived.WalkSpells
import Derived.WalkLawsBesides
import Derived.StillTactics
import Derived.Laws.Pointers
import Derived.Deep.RegionHeld3
import Derived.Deep.QuietTactic
import Derived.BigQuiet
import Derived.RowKit3
import Derived.Lib.Hide
import Derived.Lib.OthersKept
import Derived.OwnWalk
import Derived.Lib.IndexLaws
import Derived.Lib.ItoaMem
import Derived.WalkKit
import Derived.ProofKit
import Derived.OpenShut
import Derived.Carry
import Derived.ChangeSame
import Derived.Deep.Draws
import Derived.Maps.OwnSet
import Derived.Maps.AppendAt
import Derived.Laws.EntriesVeiled
import Derived.Laws.BitsAllLaws
import Derived.Shelf.Small.Bits
import Derived.Shelf.Strconv.Itoa0
import Derived.Shelf.Bits.Mul64
import Derived.Lib.TrimByte
import Derived.Lib.Bytealg
import Derived.Lib.SlTrimSet
import Derived.Lib.ParseIntB
import Derived.Shelf.Strings.SlTrimAscii
import Derived.Lib.SmallJoins
import Derived.Deep.RegionWith
namespace Go.Proofs.Ythobaffgllipfaa
open Go.RowKit

set_option maxRecDepth 100000 in
set_option maxHeartbeats 4000000 in
theorem parts_nx (x s0 s : Int) (hx : -4611686018427387904 < x ∧ x < 4611686018427387904) (hs : 0 < s ∧ s < 4611686018427387904) (hs0 : s0 < 0) (hss : -s0 = s) (hx0 : x < 0) (r : VL) (hr : quotL x s = r) (w : World) : Calls Try.prog 5 #[.int .i64 x, .int .i64 s0] w fun e w' => e = .returned (.bool true) ∧ Below w.heap.size w w' := by
  have hmr := modM_range x s hs.1
  have hmr2 := modM_range (-x) s hs.1
  obtain ⟨m, hm⟩ : ∃ m, modM x s = m := ⟨_, rfl⟩
  obtain ⟨m2, hm2⟩ : ∃ m2, modM (-x) s = m2 := ⟨_, rfl⟩
  obtain ⟨fl, hfl⟩ : ∃ fl, x - modM x s = fl := ⟨_, rfl⟩
  obtain ⟨ce, hce⟩ : ∃ ce, x + modM (-x) s = ce := ⟨_, rfl⟩
  obtain ⟨tr, htr⟩ : ∃ tr, x.tdiv 10000 * 10000 = tr := ⟨_, rfl⟩
  obtain ⟨k, hk⟩ : ∃ k, min (max x (-s)) s = k := ⟨_, rfl⟩
  have CF : ∀ (w2 : World) (b : Nat), w2.cell? ⟨b, 0, none⟩ = some (.int .i64 x) → w2.cell? ⟨b, 1, none⟩ = some (.int .i64 s) → b < w2.heap.size → Hid (Calls Try.prog 15 #[.string ⟨#[70, 76, 79, 79, 82]⟩, .slice (some ⟨b, 0, none⟩) 2 2] w2 fun e w' => e = .returned (.agg #[.int .i64 1, .int .i64 fl, .string ⟨#[]⟩, .bool false, .int .i64 0]) ∧ Below w2.heap.size w2 w') := fun w2 b c0 c1 hlt => Lib.hid (call_FLOOR x s hx hs fl hfl w2 b c0 c1 hlt)
  have CC : ∀ (w2 : World) (b : Nat), w2.cell? ⟨b, 0, none⟩ = some (.int .i64 x) → w2.cell? ⟨b, 1, none⟩ = some (.int .i64 s) → b < w2.heap.size → Hid (Calls Try.prog 15 #[.string ⟨#[67, 69, 73, 76]⟩, .slice (some ⟨b, 0, none⟩) 2 2] w2 fun e w' => e = .returned (.agg #[.int .i64 1, .int .i64 ce, .string ⟨#[]⟩, .bool false, .int .i64 0]) ∧ Below w2.heap.size w2 w') := fun w2 b c0 c1 hlt => Lib.hid (call_CEIL x s hx hs ce hce w2 b c0 c1 hlt)
  have CT : ∀ (w2 : World) (b : Nat), w2.cell? ⟨b, 0, none⟩ = some (.int .i64 x) → b < w2.heap.size → Hid (Calls Try.prog 15 #[.string ⟨#[84, 82, 85, 78, 67]⟩, .slice (some ⟨b, 0, none⟩) 1 1] w2 fun e w' => e = .returned (.agg #[.int .i64 1, .int .i64 tr, .string ⟨#[]⟩, .bool false, .int .i64 0]) ∧ Below w2.heap.size w2 w') := fun w2 b c0 hlt => Lib.hid (call_TRUNC x s hx hs tr htr w2 b c0 hlt)
  have CK : ∀ (w2 : World) (b : Nat), w2.cell? ⟨b, 0, none⟩ = some (.int .i64 x) → w2.cell? ⟨b, 1, none⟩ = some (.int .i64 (-s)) → w2.cell? ⟨b, 2, none⟩ = some (.int .i64 s) → b < w2.heap.size → Hid (Calls Try.prog 15 #[.string ⟨#[67, 76, 65, 77, 80]⟩, .slice (some ⟨b, 0, none⟩) 3 3] w2 fun e w' => e = .returned (.agg #[.int .i64 1, .int .i64 k, .string ⟨#[]⟩, .bool false, .int .i64 0]) ∧ Below w2.heap.size w2 w') := fun w2 b c0 c1 c2 hlt => Lib.hid (call_CLAMP x s hx hs k hk w2 b c0 c1 c2 hlt)
  have CQ : ∀ (w2 : World) (b : Nat), w2.cell? ⟨b, 0, none⟩ = some (.int .i64 x) → w2.cell? ⟨b, 1, none⟩ = some (.int .i64 s) → b < w2.heap.size → Hid (Calls Try.prog 15 #[.string ⟨#[81, 85, 79, 84]⟩, .slice (some ⟨b, 0, none⟩) 2 2] w2 fun e w' => e = .returned (.agg #[.int .i64 (r).t, .int .i64 (r).n, .string (r).s, .bool (r).b, .int .i64 (r).c]) ∧ Below w2.heap.size w2 w') := fun w2 b c0 c1 hlt => Lib.hid (call_QUOT x s hx hs r hr w2 b c0 c1 hlt)
  have CM : ∀ (w2 : World) (b : Nat), w2.cell? ⟨b, 0, none⟩ = some (.int .i64 x) → w2.cell? ⟨b, 1, none⟩ = some (.int .i64 s) → b < w2.heap.size → Hid (Calls Try.prog 15 #[.string ⟨#[77, 79, 68]⟩, .slice (some ⟨b, 0, none⟩) 2 2] w2 fun e w' => e = .returned (.agg #[.int .i64 1, .int .i64 m, .string ⟨#[]⟩, .bool false, .int .i64 0]) ∧ Below w2.heap.size w2 w') := fun w2 b c0 c1 hlt => Lib.hid (call_MOD x s hx hs m hm w2 b c0 c1 hlt)
  rw [hm] at hmr hfl
  rw [hm2] at hmr2 hce
  have htt : tr.tmod 10000 = 0 := by rw [← htr]; exact Int.mul_tmod_left _ _
  have h1 := Int.mul_tdiv_add_tmod x 10000
  have h2 := tmod_lt x 10000 (by omega)
  have h3 : x < 0 → x.tmod 10000 ≤ 0 := fun h => by
    have e := Int.neg_tmod x 10000; have := Int.tmod_nonneg (a := -x) 10000 (by omega); omega
  have h4 := h3 hx0
  have d1 : decide (x ≤ -4611686018427387904) = false := by simp; omega
  have d2 : decide (4611686018427387904 ≤ x) = false := by simp; omega
  have d3 : decide (s0 ≤ -4611686018427387904) = false := by simp; omega
  have d4 : decide (4611686018427387904 ≤ s0) = false := by simp; omega
  have d5 : (s0 == 0) = false := by simp; omega
  have d6 : decide (s0 < 0) = true := by simp; omega
  have d7 : IntKind.i64.wrap (-s0) = s := by rw [IntWalk.i64_in _ (by omega)]; exact hss
  have d8 : IntKind.i64.wrap (-s) = -s := IntWalk.i64_in _ (by omega)
  have f1 : decide (x < fl) = false := by simp; omega
  have f2 : IntKind.i64.wrap (x - fl) = m := by rw [IntWalk.i64_in _ (by omega)]; omega
  have f3 : decide (s ≤ m) = false := by simp; omega
  have f4 : decide (ce < x) = false := by simp; omega
  have f5 : IntKind.i64.wrap (ce - x) = m2 := by rw [IntWalk.i64_in _ (by omega)]; omega
  have f6 : decide (s ≤ m2) = false := by simp; omega
  have t0 : IntKind.i64.wrap (tr.tmod 10000) = 0 := by rw [htt]; rfl
  obtain ⟨rr, hrr⟩ : ∃ rr, tr.tmod 10000 = rr := ⟨_, rfl⟩
  have rr0 : (rr != 0) = false := by simp; omega
  have rrw : IntKind.i64.wrap rr = rr := IntWalk.i64_in _ (by omega)
  have t1 : decide (0 ≤ x) = false := by simp; omega
  have t2 : decide (x < 0) = true := by simp; omega
  have t3 : decide (tr < x) = false := by simp; omega
  obtain ⟨dd, hdd⟩ : ∃ dd, tr - x = dd := ⟨_, rfl⟩
  have t4 : IntKind.i64.wrap (tr - x) = dd := by rw [IntWalk.i64_in _ (by omega)]; exact hdd
  have t5 : decide (10000 ≤ dd) = false := by simp; omega
  have k1 : decide (k < -s) = false := by simp; omega
  have k2 : decide (s < k) = false := by simp; omega
  have hkx : Hid (-s ≤ x → x ≤ s → k = x) := Lib.hid (by omega)
  have m1 : decide (0 ≤ m) = true := by simp; omega
  have m3 : decide (m < s) = true := by simp; omega
  clear hfl hce htr hk hm hm2 htt h1 h2 h3 h4 hr hdd t0
  have hs0' := Lib.hid hs0
  clear hs0
  go_enter Try.func5, Try.ntmps5
  go_wp2_with fail
  refine (nknown _).mono ?_
  rintro e w0 ⟨rfl, hb0⟩
  have y0 := hb0.size
  go_wp2_with fail
  refine (CF _ _ (by simp) (by simp) (by simp)).out.mono ?_
  rintro e w1 ⟨rfl, hb1⟩
  have z1 := hb1.size
  simp only [World.size_alloc] at z1
  have g1 : Below w.heap.size w w1 := (hb0.alloc (by omega) _).trans (hb1.mono (by simp; omega))
  have y1 := g1.size
  go_wp2_with fail
  refine (CC _ _ (by simp) (by simp) (by simp)).out.mono ?_
  rintro e w2 ⟨rfl, hb2⟩
  have z2 := hb2.size
  simp only [World.size_alloc] at z2
  have g2 : Below w.heap.size w w2 := ((g1.alloc (by omega) _).alloc (by simp; omega) _).trans (hb2.mono (by simp; omega))
  have y2 := g2.size
  have u0 : w2.cell? ⟨w1.heap.size, 0, none⟩ = some (.int .i64 1) := by rw [hb2.cell (by simp; omega)]; simp
  have u1 : w2.cell? ⟨w1.heap.size, 1, none⟩ = some (.int .i64 fl) := by rw [hb2.cell (by simp; omega)]; simp
  have u2 : w2.cell? ⟨w1.heap.size, 2, none⟩ = some (.string ⟨#[]⟩) := by rw [hb2.cell (by simp; omega)]; simp
  have u3 : w2.cell? ⟨w1.heap.size, 3, none⟩ = some (.bool false) := by rw [hb2.cell (by simp; omega)]; simp
  have u4 : w2.cell? ⟨w1.heap.size, 4, none⟩ = some (.int .i64 0) := by rw [hb2.cell (by simp; omega)]; simp
  have hne12 : w1.heap.size ≠ w2.heap.size := by omega
  have hlt12 : w1.heap.size < w2.heap.size := by omega
  clear CF CC
  go_wp2_with fail
  refine (CT _ _ (by simp) (by simp)).out.mono ?_
  rintro e w3 ⟨rfl, hb3⟩
  have z3 := hb3.size
  simp only [World.size_alloc] at z3
  have g3 : Below w.heap.size w w3 := ((g2.alloc (by omega) _).alloc (by simp; omega) _).trans (hb3.mono (by simp; omega))
  have y3 := g3.size
  clear CT
  go_wp2_with fail
  refine (CK _ _ (by simp) (by simp) (by simp) (by simp)).out.mono ?_
  rintro e w4 ⟨rfl, hb4⟩
  have z4 := hb4.size
  simp only [World.size_alloc] at z4
  have g4 : Below w.heap.size w w4 := ((g3.alloc (by omega) _).alloc (by simp; omega) _).trans (hb4.mono (by simp; omega))
  have y4 := g4.size
  clear CK
  by_cases c1 : -s ≤ x
  · have c1' : decide (-s ≤ x) = true := by simpa using c1
    by_cases c2 : x ≤ s
    · have c2' : decide (x ≤ s) = true := by simpa using c2
      have c3' : (k != x) = false := by simp; exact hkx.out c1 c2
      clear c1 c2
      go_wp2_with fail
      refine (CQ _ _ (by simp) (by simp) (by simp)).out.mono ?_
      rintro e w5 ⟨rfl, hb5⟩
      have z5 := hb5.size
      simp only [World.size_alloc] at z5
      have g5 : Below w.heap.size w w5 := ((g4.alloc (by omega) _).alloc (by simp; omega) _).trans (hb5.mono (by simp; omega))
      have y5 := g5.size
      go_wp2_with fail
      refine (CM _ _ (by simp) (by simp) (by simp)).out.mono ?_
      rintro e w6 ⟨rfl, hb6⟩
      have z6 := hb6.size
      simp only [World.size_alloc] at z6
      have g6 : Below w.heap.size w w6 := ((g5.alloc (by omega) _).alloc (by simp; omega) _).trans (hb6.mono (by simp; omega))
      have y6 := g6.size
      have v0 : w6.cell? ⟨w5.heap.size, 0, none⟩ = some (.int .i64 r.t) := by rw [hb6.cell (by simp; omega)]; simp
      have v1 : w6.cell? ⟨w5.heap.size, 1, none⟩ = some (.int .i64 r.n) := by rw [hb6.cell (by simp; omega)]; simp
      have v2 : w6.cell? ⟨w5.heap.size, 2, none⟩ = some (.string r.s) := by rw [hb6.cell (by simp; omega)]; simp
      have v3 : w6.cell? ⟨w5.heap.size, 3, none⟩ = some (.bool r.b) := by rw [hb6.cell (by simp; omega)]; simp
      have v4 : w6.cell? ⟨w5.heap.size, 4, none⟩ = some (.int .i64 r.c) := by rw [hb6.cell (by simp; omega)]; simp
      have hne56 : w5.heap.size ≠ w6.heap.size := by omega
      have hlt56 : w5.heap.size < w6.heap.size := by omega
      clear CQ CM
      go_wp2
      go_ret
      exact ⟨rfl, by first | assumption | (go_split_ands; first | assumption | ((repeat (first | (with_reducible exact Below.refl _ _) | (with_reducible refine Below.alloc ?_ (by first | omega | (dsimp only; omega) | (simp <;> omega)) _) | (with_reducible refine Below.setCell ?_ (by first | omega | (dsimp only; omega) | (simp <;> omega)) _) | (with_reducible refine Below.drew ?_) | (with_reducible refine below_drewN ?_ _) | (with_reducible refine Below.trans ?_ (Below.mono (by assumption) (by first | omega | (dsimp only; omega) | (simp <;> omega)))))); done)) | ((repeat (first | (with_reducible exact Below.refl _ _) | (with_reducible refine Below.alloc ?_ (by first | omega | (dsimp only; omega) | (simp <;> omega)) _) | (with_reducible refine Below.setCell ?_ (by first | omega | (dsimp only; omega) | (simp <;> omega)) _) | (with_reducible refine Below.drew ?_) | (with_reducible refine below_drewN ?_ _) | (with_reducible refine Below.trans ?_ (Below.mono (by assumption) (by first | omega | (dsimp only; omega) | (simp <;> omega)))))); done)⟩
    · have c2' : decide (x ≤ s) = false := by simp; omega
      clear c1 c2
      go_wp2_with fail
      refine (CQ _ _ (by simp) (by simp) (by simp)).out.mono ?_
      rintro e w5 ⟨rfl, hb5⟩
      have z5 := hb5.size
      simp only [World.size_alloc] at z5
      have g5 : Below w.heap.size w w5 := ((g4.alloc (by omega) _).alloc (by simp; omega) _).trans (hb5.mono (by simp; omega))
      have y5 := g5.size
      go_wp2_with fail
      refine (CM _ _ (by simp) (by simp) (by simp)).out.mono ?_
      rintro e w6 ⟨rfl, hb6⟩
      have z6 := hb6.size
      simp only [World.size_alloc] at z6
      have g6 : Below w.heap.size w w6 := ((g5.alloc (by omega) _).alloc (by simp; omega) _).trans (hb6.mono (by simp; omega))
      have y6 := g6.size
      have v0 : w6.cell? ⟨w5.heap.size, 0, none⟩ = some (.int .i64 r.t) := by rw [hb6.cell (by simp; omega)]; simp
      have v1 : w6.cell? ⟨w5.heap.size, 1, none⟩ = some (.int .i64 r.n) := by rw [hb6.cell (by simp; omega)]; simp
      have v2 : w6.cell? ⟨w5.heap.size, 2, none⟩ = some (.string r.s) := by rw [hb6.cell (by simp; omega)]; simp
      have v3 : w6.cell? ⟨w5.heap.size, 3, none⟩ = some (.bool r.b) := by rw [hb6.cell (by simp; omega)]; simp
      have v4 : w6.cell? ⟨w5.heap.size, 4, none⟩ = some (.int .i64 r.c) := by rw [hb6.cell (by simp; omega)]; simp
      have hne56 : w5.heap.size ≠ w6.heap.size := by omega
      have hlt56 : w5.heap.size < w6.heap.size := by omega
      clear CQ CM
      go_wp2
      go_ret
      exact ⟨rfl, by first | assumption | (go_split_ands; first | assumption | ((repeat (first | (with_reducible exact Below.refl _ _) | (with_reducible refine Below.alloc ?_ (by first | omega | (dsimp only; omega) | (simp <;> omega)) _) | (with_reducible refine Below.setCell ?_ (by first | omega | (dsimp only; omega) | (simp <;> omega)) _) | (with_reducible refine Below.drew ?_) | (with_reducible refine below_drewN ?_ _) | (with_reducible refine Below.trans ?_ (Below.mono (by assumption) (by first | omega | (dsimp only; omega) | (simp <;> omega)))))); done)) | ((repeat (first | (with_reducible exact Below.refl _ _) | (with_reducible refine Below.alloc ?_ (by first | omega | (dsimp only; omega) | (simp <;> omega)) _) | (with_reducible refine Below.setCell ?_ (by first | omega | (dsimp only; omega) | (simp <;> omega)) _) | (with_reducible refine Below.drew ?_) | (with_reducible refine below_drewN ?_ _) | (with_reducible refine Below.trans ?_ (Below.mono (by assumption) (by first | omega | (dsimp only; omega) | (simp <;> omega)))))); done)⟩
  · have c1' : decide (-s ≤ x) = false := by simp; omega
    clear c1
    go_wp2_with fail
    refine (CQ _ _ (by simp) (by simp) (by simp)).out.mono ?_
    rintro e w5 ⟨rfl, hb5⟩
    have z5 := hb5.size
    simp only [World.size_alloc] at z5
    have g5 : Below w.heap.size w w5 := ((g4.alloc (by omega) _).alloc (by simp; omega) _).trans (hb5.mono (by simp; omega))
    have y5 := g5.size
    go_wp2_with fail
    refine (CM _ _ (by simp) (by simp) (by simp)).out.mono ?_
    rintro e w6 ⟨rfl, hb6⟩
    have z6 := hb6.size
    simp only [World.size_alloc] at z6
    have g6 : Below w.heap.size w w6 := ((g5.alloc (by omega) _).alloc (by simp; omega) _).trans (hb6.mono (by simp; omega))
    have y6 := g6.size
    have v0 : w6.cell? ⟨w5.heap.size, 0, none⟩ = some (.int .i64 r.t) := by rw [hb6.cell (by simp; omega)]; simp
    have v1 : w6.cell? ⟨w5.heap.size, 1, none⟩ = some (.int .i64 r.n) := by rw [hb6.cell (by simp; omega)]; simp
    have v2 : w6.cell? ⟨w5.heap.size, 2, none⟩ = some (.string r.s) := by rw [hb6.cell (by simp; omega)]; simp
    have v3 : w6.cell? ⟨w5.heap.size, 3, none⟩ = some (.bool r.b) := by rw [hb6.cell (by simp; omega)]; simp
    have v4 : w6.cell? ⟨w5.heap.size, 4, none⟩ = some (.int .i64 r.c) := by rw [hb6.cell (by simp; omega)]; simp
    have hne56 : w5.heap.size ≠ w6.heap.size := by omega
    have hlt56 : w5.heap.size < w6.heap.size := by omega
    clear CQ CM
    go_wp2
    go_ret
    exact ⟨rfl, by first | assumption | (go_split_ands; first | assumption | ((repeat (first | (with_reducible exact Below.refl _ _) | (with_reducible refine Below.alloc ?_ (by first | omega | (dsimp only; omega) | (simp <;> omega)) _) | (with_reducible refine Below.setCell ?_ (by first | omega | (dsimp only; omega) | (simp <;> omega)) _) | (with_reducible refine Below.drew ?_) | (with_reducible refine below_drewN ?_ _) | (with_reducible refine Below.trans ?_ (Below.mono (by assumption) (by first | omega | (dsimp only; omega) | (simp <;> omega)))))); done)) | ((repeat (first | (with_reducible exact Below.refl _ _) | (with_reducible refine Below.alloc ?_ (by first | omega | (dsimp only; omega) | (simp <;> omega)) _) | (with_reducible refine Below.setCell ?_ (by first | omega | (dsimp only; omega) | (simp <;> omega)) _) | (with_reducible refine Below.drew ?_) | (with_reducible refine below_drewN ?_ _) | (with_reducible refine Below.trans ?_ (Below.mono (by assumption) (by first | omega | (dsimp only; omega) | (simp <;> omega)))))); done)⟩
end Go.Proofs.Ythobaffgllipfaa
