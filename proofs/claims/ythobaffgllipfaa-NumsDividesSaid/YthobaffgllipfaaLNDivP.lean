/-
  The walk of the law NumsDivides: no nought, like signs.
-/
import Derived.Test.YthobaffgllipfaaRows
import Derived.Test.YthobaffgllipfaaBase
import Derived.Test.YthobaffgllipfaaMapK
import Derived.Test.YthobaffgllipfaaNFind
import Derived.Test.YthobaffgllipfaaDecA
import Derived.Test.YthobaffgllipfaaValA
import Derived.Test.YthobaffgllipfaaValB
import Derived.Test.YthobaffgllipfaaDecS
import Derived.Test.YthobaffgllipfaaValC
import Derived.Test.YthobaffgllipfaaAddrC
import Derived.Test.YthobaffgllipfaaAddrI
import Derived.Test.YthobaffgllipfaaArgK
import Derived.Test.YthobaffgllipfaaDMod
import Derived.Test.YthobaffgllipfaaDFlo
import Derived.Test.YthobaffgllipfaaProg
import Derived.Test.YthobaffgllipfaaShelf
import Derived.Test.YthobaffgllipfaaDPrint
import Derived.Test.YthobaffgllipfaaDRnd
import Derived.Test.YthobaffgllipfaaDSqr
import Derived.Test.YthobaffgllipfaaKnuth
import Derived.Test.YthobaffgllipfaaDDiv
import Derived.Test.YthobaffgllipfaaDecK
import Derived.Test.YthobaffgllipfaaDDivA
import Derived.Test.YthobaffgllipfaaNDoA
import Derived.Test.YthobaffgllipfaaNDoB
import Derived.Test.YthobaffgllipfaaNDoC
import Derived.Test.YthobaffgllipfaaNDoD
import Derived.Test.YthobaffgllipfaaNDoE
import Derived.Test.YthobaffgllipfaaNCall
import Derived.Test.YthobaffgllipfaaValE
import Derived.Test.YthobaffgllipfaaValF
import Derived.Test.YthobaffgllipfaaValL
import Derived.Test.YthobaffgllipfaaNCallK
import Derived.Test.YthobaffgllipfaaNCallB
import Derived.Test.YthobaffgllipfaaNDoF
import Derived.Test.YthobaffgllipfaaNDoAt
import Derived.Test.YthobaffgllipfaaArgS
import Derived.Test.YthobaffgllipfaaNLaw
import Derived.Test.YthobaffgllipfaaNKn
import Derived.Test.YthobaffgllipfaaLNDivA
import Derived.WalkSpells
import Derived.WalkLawsBesides
import Derived.StillTactics
import Derived.Laws.Pointers
import Derived.Deep.RegionHeld3
import Derived.Deep.QuietTactic
import Derived.BigQuiet
import Derived.RowKit3
import Derived.Lib.Hide
import Derived.Lib.OthersKept
import Derived.OwnWalk
import Derived.Lib.IndexLaws
import Derived.Lib.ItoaMem
import Derived.WalkKit
import Derived.ProofKit
import Derived.OpenShut
import Derived.Carry
import Derived.ChangeSame
import Derived.Deep.Draws
import Derived.Maps.OwnSet
import Derived.Maps.AppendAt
import Derived.Laws.EntriesVeiled
import Derived.Laws.BitsAllLaws
import Derived.Shelf.Small.Bits
import Derived.Shelf.Strconv.Itoa0
import Derived.Shelf.Bits.Mul64
import Derived.Lib.TrimByte
import Derived.Lib.Bytealg
import Derived.Lib.SlTrimSet
import Derived.Lib.ParseIntB
import Derived.Shelf.Strings.SlTrimAscii
import Derived.Lib.SmallJoins
import Derived.Deep.RegionWith
namespace Go.Proofs.Ythobaffgllipfaa
open Go.RowKit

set_option maxRecDepth 100000 in
set_option maxHeartbeats 4000000 in
theorem divides_p (a b : Int) (ha : -9223372036854775808 ≤ a ∧ a ≤ 9223372036854775807) (hb : -9223372036854775808 ≤ b ∧ b ≤ 9223372036854775807) (A B x y g l : Int) (hA : a.tmod 100000 = A) (hB : b.tmod 100000 = B) (hAb : -99999 ≤ A ∧ A ≤ 99999) (hBb : -99999 ≤ B ∧ B ≤ 99999) (hx : A * 10000 = x) (hy : B * 10000 = y) (hg : ((Nat.gcd A.natAbs B.natAbs : Nat) : Int) * 10000 = g) (hl : ((Nat.lcm A.natAbs B.natAbs : Nat) : Int) * 10000 = l) (hgb : 0 ≤ g ∧ g ≤ 1000000000) (hlb : 0 ≤ l ∧ l ≤ 100000000000000) (h0 : A ≠ 0) (h1 : B ≠ 0) (hg0 : 0 < g) (r1 r2 r3 r4 G L P : Int) (e1 : x.tmod g = r1) (e2 : y.tmod g = r2) (e3 : l.tmod x = r3) (e4 : l.tmod y = r4) (z1 : r1 = 0) (z2 : r2 = 0) (z3 : r3 = 0) (z4 : r4 = 0) (eG : g / 10000 = G) (eL : l / 10000 = L) (hGb : 0 ≤ G ∧ G ≤ 100000) (hLb : 0 ≤ L ∧ L ≤ 10000000000) (eq : G * L = P) (eP : A * B = P) (hP : -10000000000 ≤ P ∧ P ≤ 10000000000) (hneg : ¬ P < 0) (w : World) : Calls Try.prog 6 #[.int .i64 a, .int .i64 b] w fun e w' => e = .returned (.bool true) ∧ Below w.heap.size w w' := by
  have C1 : ∀ (w2 : World) (b : Nat), w2.cell? ⟨b, 0, none⟩ = some (.int .i64 x) → w2.cell? ⟨b, 1, none⟩ = some (.int .i64 y) → b < w2.heap.size → Hid (Calls Try.prog 15 #[.string ⟨#[71, 67, 68]⟩, .slice (some ⟨b, 0, none⟩) 2 2] w2 fun e w' => e = .returned (.agg #[.int .i64 1, .int .i64 g, .string ⟨#[]⟩, .bool false, .int .i64 0]) ∧ Below w2.heap.size w2 w') := fun w2 b c0 c1 hlt => Lib.hid (gcd_call A B (by omega) (by omega) x y g (by omega) (by omega) hg w2 b c0 c1 hlt)
  have C2 : ∀ (w2 : World) (b : Nat), w2.cell? ⟨b, 0, none⟩ = some (.int .i64 x) → w2.cell? ⟨b, 1, none⟩ = some (.int .i64 y) → b < w2.heap.size → Hid (Calls Try.prog 15 #[.string ⟨#[76, 67, 77]⟩, .slice (some ⟨b, 0, none⟩) 2 2] w2 fun e w' => e = .returned (.agg #[.int .i64 1, .int .i64 l, .string ⟨#[]⟩, .bool false, .int .i64 0]) ∧ Below w2.heap.size w2 w') := fun w2 b c0 c1 hlt => Lib.hid (lcm_call A B (by omega) (by omega) x y l (by omega) (by omega) hl w2 b c0 c1 hlt)
  have D1 : ∀ (w2 : World) (b : Nat), w2.cell? ⟨b, 0, none⟩ = some (.int .i64 y) → w2.cell? ⟨b, 1, none⟩ = some (.int .i64 (-x)) → b < w2.heap.size → Hid (Calls Try.prog 15 #[.string ⟨#[71, 67, 68]⟩, .slice (some ⟨b, 0, none⟩) 2 2] w2 fun e w' => e = .returned (.agg #[.int .i64 1, .int .i64 g, .string ⟨#[]⟩, .bool false, .int .i64 0]) ∧ Below w2.heap.size w2 w') := fun w2 b c0 c1 hlt => Lib.hid (gcd_call B (-A) (by omega) (by omega) y (-x) g (by omega) (by omega) (by rw [Int.natAbs_neg, Nat.gcd_comm]; exact hg) w2 b c0 c1 hlt)
  have D2 : ∀ (w2 : World) (b : Nat), w2.cell? ⟨b, 0, none⟩ = some (.int .i64 (-y)) → w2.cell? ⟨b, 1, none⟩ = some (.int .i64 x) → b < w2.heap.size → Hid (Calls Try.prog 15 #[.string ⟨#[76, 67, 77]⟩, .slice (some ⟨b, 0, none⟩) 2 2] w2 fun e w' => e = .returned (.agg #[.int .i64 1, .int .i64 l, .string ⟨#[]⟩, .bool false, .int .i64 0]) ∧ Below w2.heap.size w2 w') := fun w2 b c0 c1 hlt => Lib.hid (lcm_call (-B) A (by omega) (by omega) (-y) x l (by omega) (by omega) (by rw [Int.natAbs_neg, Nat.lcm_comm]; exact hl) w2 b c0 c1 hlt)
  have q1 : vEq 1 g ⟨#[]⟩ false 0 1 g ⟨#[]⟩ false 0 = true := vEq_self _ _ _ _ _
  have q2 : vEq 1 l ⟨#[]⟩ false 0 1 l ⟨#[]⟩ false 0 = true := vEq_self _ _ _ _ _
  have n1 : IntKind.i64.wrap (-x) = -x := IntWalk.i64_in _ (by omega)
  have n2 : IntKind.i64.wrap (-y) = -y := IntWalk.i64_in _ (by omega)
  have hm1 : IntKind.i64.wrap (A * 10000) = x := by rw [hx]; exact IntWalk.i64_in _ (by omega)
  have hm2 : IntKind.i64.wrap (B * 10000) = y := by rw [hy]; exact IntWalk.i64_in _ (by omega)
  have hxb : -999990000 ≤ x ∧ x ≤ 999990000 := by omega
  have hyb : -999990000 ≤ y ∧ y ≤ 999990000 := by omega
  have hgl : ¬ g < 0 := by omega
  have hll : ¬ l < 0 := by omega
  have hgl2 : decide (g < 0) = false := by simp; omega
  have hll2 : decide (l < 0) = false := by simp; omega
  have ha2 : IntKind.i64.wrap A = A := IntWalk.i64_in _ (by omega)
  have hb2 : IntKind.i64.wrap B = B := IntWalk.i64_in _ (by omega)
  have y1 : (A == 0) = false := by simpa using h0
  have y2 : (B == 0) = false := by simpa using h1
  have y3 : (r1 == 0) = true := by simpa using z1
  have y4 : (r2 == 0) = true := by simpa using z2
  have y5 : (r3 == 0) = true := by simpa using z3
  have y6 : (r4 == 0) = true := by simpa using z4
  have w1' : IntKind.i64.wrap r1 = r1 := IntWalk.i64_in _ (by omega)
  have w2' : IntKind.i64.wrap r2 = r2 := IntWalk.i64_in _ (by omega)
  have w3' : IntKind.i64.wrap r3 = r3 := IntWalk.i64_in _ (by omega)
  have w4' : IntKind.i64.wrap r4 = r4 := IntWalk.i64_in _ (by omega)
  have w6' : IntKind.i64.wrap P = P := IntWalk.i64_in _ (by omega)
  have x1 : (g == 0) = false := by simp; omega
  have x2 : (x == 0) = false := by simp; omega
  have x3 : (y == 0) = false := by simp; omega
  have x4 : ¬ g = 0 := by omega
  have x5 : ¬ x = 0 := by omega
  have x6 : ¬ y = 0 := by omega
  have gpos : decide (0 < g) = true := by simpa using hg0
  have tG : g.tdiv 10000 = G := by rw [Int.tdiv_eq_ediv_of_nonneg (by omega)]; exact eG
  have tL : l.tdiv 10000 = L := by rw [Int.tdiv_eq_ediv_of_nonneg (by omega)]; exact eL
  have y7 : (P == P) = true := by simp
  clear z1 z2 z3 z4 h0 h1
  clear hg hl
  go_enter Try.func6, Try.ntmps6
  go_wp2_with fail
  refine (nknown _).mono ?_
  rintro e w0 ⟨rfl, hb0⟩
  go_wp2_with fail
  refine (C1 _ _ (by simp [hx, hy]) (by simp [hx, hy]) (by simp)).out.mono ?_
  rintro e w1 ⟨rfl, hb1⟩
  have g1 : Below w.heap.size w w1 := (hb0.alloc hb0.size _).trans (hb1.mono (by have := hb0.size; simp; omega))
  go_wp2_with fail
  refine (C2 _ _ (by simp [hx, hy]) (by simp [hx, hy]) (by simp)).out.mono ?_
  rintro e w2 ⟨rfl, hb2'⟩
  have hz1 := g1.size
  have g2 : Below w.heap.size w w2 := ((g1.alloc g1.size _).alloc (by simp; omega) _).trans (hb2'.mono (by simp; omega))
  have hz2 : w1.heap.size + 1 ≤ w2.heap.size := by have := hb2'.size; simp at this; omega
  have u0 : w2.cell? ⟨w1.heap.size, 0, none⟩ = some (.int .i64 1) := by rw [hb2'.cell (by simp; omega)]; simp
  have u1 : w2.cell? ⟨w1.heap.size, 1, none⟩ = some (.int .i64 g) := by rw [hb2'.cell (by simp; omega)]; simp
  have u2 : w2.cell? ⟨w1.heap.size, 2, none⟩ = some (.string ⟨#[]⟩) := by rw [hb2'.cell (by simp; omega)]; simp
  have u3 : w2.cell? ⟨w1.heap.size, 3, none⟩ = some (.bool false) := by rw [hb2'.cell (by simp; omega)]; simp
  have u4 : w2.cell? ⟨w1.heap.size, 4, none⟩ = some (.int .i64 0) := by rw [hb2'.cell (by simp; omega)]; simp
  have hne1 : w1.heap.size ≠ w2.heap.size := by omega
  have hlt12 : w1.heap.size < w2.heap.size := by omega
  clear C1 C2 hm1 hm2 ha2 hb2
  go_wp2_with fail
  first | (go_loud (go_region_held3 (fun w' => w'.cell? ⟨w1.heap.size, 0, none⟩ = some (.int .i64 1) ∧ w'.cell? ⟨w1.heap.size, 1, none⟩ = some (.int .i64 g) ∧ w'.cell? ⟨w1.heap.size, 2, none⟩ = some (.string ⟨#[]⟩) ∧ w'.cell? ⟨w1.heap.size, 3, none⟩ = some (.bool false) ∧ w'.cell? ⟨w1.heap.size, 4, none⟩ = some (.int .i64 0) ∧ w'.cell? ⟨w2.heap.size, 0, none⟩ = some (.int .i64 1) ∧ w'.cell? ⟨w2.heap.size, 1, none⟩ = some (.int .i64 l) ∧ w'.cell? ⟨w2.heap.size, 2, none⟩ = some (.string ⟨#[]⟩) ∧ w'.cell? ⟨w2.heap.size, 3, none⟩ = some (.bool false) ∧ w'.cell? ⟨w2.heap.size, 4, none⟩ = some (.int .i64 0) ∧ Below w.heap.size w w' ∧ w2.heap.size + 1 ≤ w'.heap.size)
    (first | (go_split_ands; exact ⟨(by simp [go_sem, *]), (by simp [go_sem, *]), (by simp [go_sem, *]), (by simp [go_sem, *]), (by simp [go_sem, *]), (by simp [go_sem, *]), (by simp [go_sem, *]), (by simp [go_sem, *]), (by simp [go_sem, *]), (by simp [go_sem, *]), (by (repeat (first | (with_reducible exact Below.refl _ _) | (with_reducible refine Below.alloc ?_ (by first | omega | (dsimp only; omega) | (simp <;> omega)) _) | (with_reducible refine Below.setCell ?_ (by first | omega | (dsimp only; omega) | (simp <;> omega)) _) | (with_reducible refine Below.drew ?_) | (with_reducible refine below_drewN ?_ _) | (with_reducible refine Below.trans ?_ (Below.mono (by assumption) (by first | omega | (dsimp only; omega) | (simp <;> omega))))))), (by first | (simp; done) | (simp; omega))⟩) | (exact ⟨(by simp [go_sem, *]), (by simp [go_sem, *]), (by simp [go_sem, *]), (by simp [go_sem, *]), (by simp [go_sem, *]), (by simp [go_sem, *]), (by simp [go_sem, *]), (by simp [go_sem, *]), (by simp [go_sem, *]), (by simp [go_sem, *]), (by (repeat (first | (with_reducible exact Below.refl _ _) | (with_reducible refine Below.alloc ?_ (by first | omega | (dsimp only; omega) | (simp <;> omega)) _) | (with_reducible refine Below.setCell ?_ (by first | omega | (dsimp only; omega) | (simp <;> omega)) _) | (with_reducible refine Below.drew ?_) | (with_reducible refine below_drewN ?_ _) | (with_reducible refine Below.trans ?_ (Below.mono (by assumption) (by first | omega | (dsimp only; omega) | (simp <;> omega))))))), (by first | (simp; done) | (simp; omega))⟩) | (go_split_ands; exact ⟨(by rw [hb.cell (by dsimp only; omega)]; assumption), (by rw [hb.cell (by dsimp only; omega)]; assumption), (by rw [hb.cell (by dsimp only; omega)]; assumption), (by rw [hb.cell (by dsimp only; omega)]; assumption), (by rw [hb.cell (by dsimp only; omega)]; assumption), (by rw [hb.cell (by dsimp only; omega)]; assumption), (by rw [hb.cell (by dsimp only; omega)]; assumption), (by rw [hb.cell (by dsimp only; omega)]; assumption), (by rw [hb.cell (by dsimp only; omega)]; assumption), (by rw [hb.cell (by dsimp only; omega)]; assumption), (Below.trans (by assumption) (hb.mono (by omega))), (by have := hb.size; omega)⟩) | (go_split_ands; exact ⟨((World.cell?_alloc_lt _ _ ⟨_, _, none⟩ (by dsimp only; omega)).trans (by assumption)), ((World.cell?_alloc_lt _ _ ⟨_, _, none⟩ (by dsimp only; omega)).trans (by assumption)), ((World.cell?_alloc_lt _ _ ⟨_, _, none⟩ (by dsimp only; omega)).trans (by assumption)), ((World.cell?_alloc_lt _ _ ⟨_, _, none⟩ (by dsimp only; omega)).trans (by assumption)), ((World.cell?_alloc_lt _ _ ⟨_, _, none⟩ (by dsimp only; omega)).trans (by assumption)), ((World.cell?_alloc_lt _ _ ⟨_, _, none⟩ (by dsimp only; omega)).trans (by assumption)), ((World.cell?_alloc_lt _ _ ⟨_, _, none⟩ (by dsimp only; omega)).trans (by assumption)), ((World.cell?_alloc_lt _ _ ⟨_, _, none⟩ (by dsimp only; omega)).trans (by assumption)), ((World.cell?_alloc_lt _ _ ⟨_, _, none⟩ (by dsimp only; omega)).trans (by assumption)), ((World.cell?_alloc_lt _ _ ⟨_, _, none⟩ (by dsimp only; omega)).trans (by assumption)), (Below.alloc (by assumption) (by omega) _), (by first | (simp; done) | (simp; omega))⟩))
    (first | (go_at_call 15; (with_reducible refine (D1 _ _ (by simp [go_sem, *]) (by simp [go_sem, *]) (by simp)).out.mono ?_); rintro e w9 ⟨rfl, hb⟩) | (go_at_call 15; (with_reducible refine (D2 _ _ (by simp [go_sem, *]) (by simp [go_sem, *]) (by simp)).out.mono ?_); rintro e w9 ⟨rfl, hb⟩)))) | fail "region"
  go_split_ands
  clear D1 D2
  go_wp2
  go_ret
  exact ⟨rfl, by first | assumption | (go_split_ands; first | assumption | ((repeat (first | (with_reducible exact Below.refl _ _) | (with_reducible refine Below.alloc ?_ (by first | omega | (dsimp only; omega) | (simp <;> omega)) _) | (with_reducible refine Below.setCell ?_ (by first | omega | (dsimp only; omega) | (simp <;> omega)) _) | (with_reducible refine Below.drew ?_) | (with_reducible refine below_drewN ?_ _) | (with_reducible refine Below.trans ?_ (Below.mono (by assumption) (by first | omega | (dsimp only; omega) | (simp <;> omega)))))); done)) | ((repeat (first | (with_reducible exact Below.refl _ _) | (with_reducible refine Below.alloc ?_ (by first | omega | (dsimp only; omega) | (simp <;> omega)) _) | (with_reducible refine Below.setCell ?_ (by first | omega | (dsimp only; omega) | (simp <;> omega)) _) | (with_reducible refine Below.drew ?_) | (with_reducible refine below_drewN ?_ _) | (with_reducible refine Below.trans ?_ (Below.mono (by assumption) (by first | omega | (dsimp only; omega) | (simp <;> omega)))))); done)⟩
end Go.Proofs.Ythobaffgllipfaa
