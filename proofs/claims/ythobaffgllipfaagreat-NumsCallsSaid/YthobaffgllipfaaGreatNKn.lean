/-
  nums: what is known; the document's table.
-/
import Derived.Test.YthobaffgllipfaaGreatRows
import Derived.Test.YthobaffgllipfaaGreatBase
import Derived.Test.YthobaffgllipfaaGreatMapK
import Derived.Test.YthobaffgllipfaaGreatNFind
import Derived.Test.YthobaffgllipfaaGreatMg3
import Derived.Test.YthobaffgllipfaaGreatValA
import Derived.Test.YthobaffgllipfaaGreatValB
import Derived.Test.YthobaffgllipfaaGreatDecS
import Derived.Test.YthobaffgllipfaaGreatValC
import Derived.Test.YthobaffgllipfaaGreatAddrC
import Derived.Test.YthobaffgllipfaaGreatMg9
import Derived.Test.YthobaffgllipfaaGreatDMod
import Derived.Test.YthobaffgllipfaaGreatDFlo
import Derived.Test.YthobaffgllipfaaGreatProg
import Derived.Test.YthobaffgllipfaaGreatMg12
import Derived.Test.YthobaffgllipfaaGreatDRnd
import Derived.Test.YthobaffgllipfaaGreatMg14
import Derived.Test.YthobaffgllipfaaGreatKnuth
import Derived.Test.YthobaffgllipfaaGreatDDiv
import Derived.Test.YthobaffgllipfaaGreatMg17
import Derived.Test.YthobaffgllipfaaGreatNDoA
import Derived.Test.YthobaffgllipfaaGreatNDoB
import Derived.Test.YthobaffgllipfaaGreatNDoC
import Derived.Test.YthobaffgllipfaaGreatMg21
import Derived.Test.YthobaffgllipfaaGreatNCall
import Derived.Test.YthobaffgllipfaaGreatValL
import Derived.Test.YthobaffgllipfaaGreatNCallK
import Derived.Test.YthobaffgllipfaaGreatNCallB
import Derived.Test.YthobaffgllipfaaGreatNDoF
import Derived.Test.YthobaffgllipfaaGreatMg27
import Derived.Test.YthobaffgllipfaaGreatNDoQ
import Derived.Test.YthobaffgllipfaaGreatNLaw
import Derived.WalkSpells
import Derived.WalkLawsBesides
import Derived.StillTactics
import Derived.Laws.Pointers
import Derived.Deep.RegionHeld3
import Derived.Deep.QuietTactic
import Derived.BigQuiet
import Derived.RowKit3
import Derived.Lib.Hide
import Derived.Lib.OthersKept
import Derived.OwnWalk
import Derived.Lib.IndexLaws
import Derived.Lib.ItoaMem
import Derived.WalkKit
import Derived.ProofKit
import Derived.OpenShut
import Derived.Carry
import Derived.ChangeSame
import Derived.Deep.Draws
import Derived.Maps.OwnSet
import Derived.Maps.AppendAt
import Derived.Laws.EntriesVeiled
import Derived.Laws.BitsAllLaws
import Derived.Shelf.Small.Bits
import Derived.Shelf.Strconv.Itoa0
import Derived.Shelf.Bits.Mul64
import Derived.Lib.TrimByte
import Derived.Lib.Bytealg
import Derived.Lib.SlTrimSet
import Derived.Lib.ParseIntB
import Derived.Shelf.Strings.SlTrimAscii
import Derived.Lib.SmallJoins
import Derived.Deep.RegionWith
namespace Go.Proofs.YthobaffgllipfaaGreat
open Go.RowKit

theorem lcall_n (name : ByteArray) (hs : name.size ≤ 9223372036854775807) (l : List Int) (hl : ∀ x ∈ l, -9223372036854775807 ≤ x ∧ x ≤ 9223372036854775807) (hlen : l.length ≤ 1000000) (y : Int) (r : VL) (hr : r = nuL y) (n : Nat) (hn : l.length = n) (ht : takesN name n false = true) (hD : DoAt name l r) (w : World) (lb cap : Nat) (hg : lb < w.heap.size) (hc : ∀ (j : Nat) (x : Int), l[j]? = some x → w.cell? ⟨lb, j, none⟩ = some (.int .i64 x)) : Calls Tryz.prog 21 #[.string name, .slice (some ⟨lb, 0, none⟩) n cap] w fun e w' => e = .returned (.agg #[.int .i64 1, .int .i64 y, .string ⟨#[]⟩, .bool false, .int .i64 0]) ∧ Below w.heap.size w w' := by
  subst hr; subst hn
  exact lcall_any name hs l hl hlen _ ht hD w lb cap hg hc
theorem cells1 {w : World} {b : Nat} {x0 : Int} (h0 : w.cell? ⟨b, 0, none⟩ = some (.int .i64 x0)) : ∀ (j : Nat) (x : Int), [x0][j]? = some x → w.cell? ⟨b, j, none⟩ = some (.int .i64 x)
  | 0, x, h => by simp at h; subst h; exact h0
  | j + 1, x, h => by simp at h
theorem cells2 {w : World} {b : Nat} {x0 x1 : Int} (h0 : w.cell? ⟨b, 0, none⟩ = some (.int .i64 x0)) (h1 : w.cell? ⟨b, 1, none⟩ = some (.int .i64 x1)) : ∀ (j : Nat) (x : Int), [x0, x1][j]? = some x → w.cell? ⟨b, j, none⟩ = some (.int .i64 x)
  | 0, x, h => by simp at h; subst h; exact h0
  | 1, x, h => by simp at h; subst h; exact h1
  | j + 2, x, h => by simp at h
theorem cells3 {w : World} {b : Nat} {x0 x1 x2 : Int} (h0 : w.cell? ⟨b, 0, none⟩ = some (.int .i64 x0)) (h1 : w.cell? ⟨b, 1, none⟩ = some (.int .i64 x1)) (h2 : w.cell? ⟨b, 2, none⟩ = some (.int .i64 x2)) : ∀ (j : Nat) (x : Int), [x0, x1, x2][j]? = some x → w.cell? ⟨b, j, none⟩ = some (.int .i64 x)
  | 0, x, h => by simp at h; subst h; exact h0
  | 1, x, h => by simp at h; subst h; exact h1
  | 2, x, h => by simp at h; subst h; exact h2
  | j + 3, x, h => by simp at h
theorem vEq_self (t n : Int) (s : ByteArray) (b : Bool) (c : Int) : vEq t n s b c t n s b c = true := by simp [vEq]
theorem nums_abs : max (-15000 : Int) (-(-15000)) = 15000 := by decide
set_option maxRecDepth 100000 in
set_option maxHeartbeats 2000000 in
theorem nknown (w : World) : Calls Tryz.prog 6 #[] w fun e w' => e = .returned (.bool true) ∧ Below w.heap.size w w' := by
  have C1 : ∀ w2 : World, w2.cell? ⟨w.heap.size, 0, none⟩ = some (.int .i64 (-15000)) → w.heap.size < w2.heap.size → Hid (Calls Tryz.prog 21 #[.string ⟨#[65, 66, 83]⟩, .slice (some ⟨w.heap.size, 0, none⟩) 1 1] w2 fun e w' => e = .returned (.agg #[.int .i64 1, .int .i64 15000, .string ⟨#[]⟩, .bool false, .int .i64 0]) ∧ Below w2.heap.size w2 w') := fun w2 hcell hlt => Lib.hid (lcall_n ⟨#[65, 66, 83]⟩ (by decide) [-15000] (by intro x hx; simp at hx; omega) (by simp) 15000 (numL (max (-15000) (-(-15000)))) (by kernel_rfl) 1 rfl (by decide +kernel) (at_ABS (-15000) (by omega)) w2 _ 1 hlt (cells1 hcell))
  have C2 : ∀ (w2 : World) (b : Nat), w2.cell? ⟨b, 0, none⟩ = some (.int .i64 120000) → w2.cell? ⟨b, 1, none⟩ = some (.int .i64 180000) → b < w2.heap.size → Hid (Calls Tryz.prog 21 #[.string ⟨#[71, 67, 68]⟩, .slice (some ⟨b, 0, none⟩) 2 2] w2 fun e w' => e = .returned (.agg #[.int .i64 1, .int .i64 60000, .string ⟨#[]⟩, .bool false, .int .i64 0]) ∧ Below w2.heap.size w2 w') := fun w2 b hc0 hc1 hlt => Lib.hid (lcall_n ⟨#[71, 67, 68]⟩ (by decide) [120000, 180000] (by intro x hx; simp at hx; omega) (by simp) 60000 (gcdL [120000, 180000]) (by kernel_rfl) 2 rfl (by decide +kernel) (at_GCD [120000, 180000] (by intro x hx; simp at hx; omega) (by simp) (by simp)) w2 _ 2 hlt (cells2 hc0 hc1))
  have k1 : nKnown ⟨#[76, 67, 77]⟩ = true := by decide +kernel
  have k2 : nKnown ⟨#[83, 85, 77]⟩ = false := by decide +kernel
  have q1 : vEq 1 15000 ⟨#[]⟩ false 0 1 15000 ⟨#[]⟩ false 0 = true := vEq_self _ _ _ _ _
  have q2 : vEq 1 60000 ⟨#[]⟩ false 0 1 60000 ⟨#[]⟩ false 0 = true := vEq_self _ _ _ _ _
  have K1 : ∀ w2 : World, Calls Tryz.prog 23 #[.string ⟨#[76, 67, 77]⟩] w2 fun e w' => e = .returned (.bool true) ∧ Below w2.heap.size w2 w' := fun w2 => by have := nknown_any ⟨#[76, 67, 77]⟩ (by decide) w2; rw [k1] at this; exact this
  have K2 : ∀ w2 : World, Calls Tryz.prog 23 #[.string ⟨#[83, 85, 77]⟩] w2 fun e w' => e = .returned (.bool false) ∧ Below w2.heap.size w2 w' := fun w2 => by have := nknown_any ⟨#[83, 85, 77]⟩ (by decide) w2; rw [k2] at this; exact this
  have K1' := Lib.hid K1
  have K2' := Lib.hid K2
  clear k1 k2 K1 K2
  go_enter Tryz.func6, Tryz.ntmps6
  go_wp2_with fail
  refine (C1 _ (by simp) (by simp)).out.mono ?_
  rintro e w1 ⟨rfl, hb1⟩
  have g1 : Below w.heap.size w w1 := by (repeat (first | (with_reducible exact Below.refl _ _) | (with_reducible refine Below.alloc ?_ (by first | omega | (dsimp only; omega) | (simp <;> omega)) _) | (with_reducible refine Below.setCell ?_ (by first | omega | (dsimp only; omega) | (simp <;> omega)) _) | (with_reducible refine Below.drew ?_) | (with_reducible refine below_drewN ?_ _) | (with_reducible refine Below.trans ?_ (Below.mono (by assumption) (by first | omega | (dsimp only; omega) | (simp <;> omega))))))
  go_wp2_with fail
  refine (lnum_any 15000 _).mono ?_
  rintro e w2 ⟨rfl, hb2⟩
  have g2 : Below w.heap.size w w2 := g1.trans (hb2.mono g1.size)
  go_wp2_with fail
  refine (C2 _ _ (by simp) (by simp) (by simp)).out.mono ?_
  rintro e w3 ⟨rfl, hb3⟩
  have g3 : Below w.heap.size w w3 := (g2.alloc g2.size _).trans (hb3.mono (by have := g2.size; simp; omega))
  go_wp2_with fail
  refine (lnum_any 60000 _).mono ?_
  rintro e w4 ⟨rfl, hb4⟩
  have g4 : Below w.heap.size w w4 := g3.trans (hb4.mono g3.size)
  go_wp2_with fail
  refine (K1'.out _).mono ?_
  rintro e w5 ⟨rfl, hb5⟩
  have g5 : Below w.heap.size w w5 := g4.trans (hb5.mono g4.size)
  go_wp2_with fail
  refine (K2'.out _).mono ?_
  rintro e w6 ⟨rfl, hb6⟩
  have g6 : Below w.heap.size w w6 := g5.trans (hb6.mono g5.size)
  go_wp2
  go_ret
  exact ⟨rfl, g6⟩
set_option maxHeartbeats 1000000 in
theorem wants_ABS (w : World) : Calls Tryz.prog 55 #[.string ⟨#[65, 66, 83]⟩] w fun e w' => e = .returned (.tuple #[.int .i64 1, .int .i64 1]) ∧ w = w' := by
  go_enter Tryz.func55, Tryz.ntmps55
  go_wp2
  go_ret2
  exact ⟨rfl, rfl⟩
set_option maxHeartbeats 1000000 in
theorem wants_SIGN (w : World) : Calls Tryz.prog 55 #[.string ⟨#[83, 73, 71, 78]⟩] w fun e w' => e = .returned (.tuple #[.int .i64 1, .int .i64 1]) ∧ w = w' := by
  go_enter Tryz.func55, Tryz.ntmps55
  go_wp2
  go_ret2
  exact ⟨rfl, rfl⟩
set_option maxHeartbeats 1000000 in
theorem wants_INT (w : World) : Calls Tryz.prog 55 #[.string ⟨#[73, 78, 84]⟩] w fun e w' => e = .returned (.tuple #[.int .i64 1, .int .i64 1]) ∧ w = w' := by
  go_enter Tryz.func55, Tryz.ntmps55
  go_wp2
  go_ret2
  exact ⟨rfl, rfl⟩
set_option maxHeartbeats 1000000 in
theorem wants_SQRT (w : World) : Calls Tryz.prog 55 #[.string ⟨#[83, 81, 82, 84]⟩] w fun e w' => e = .returned (.tuple #[.int .i64 1, .int .i64 1]) ∧ w = w' := by
  go_enter Tryz.func55, Tryz.ntmps55
  go_wp2
  go_ret2
  exact ⟨rfl, rfl⟩
set_option maxHeartbeats 1000000 in
theorem wants_FACT (w : World) : Calls Tryz.prog 55 #[.string ⟨#[70, 65, 67, 84]⟩] w fun e w' => e = .returned (.tuple #[.int .i64 1, .int .i64 1]) ∧ w = w' := by
  go_enter Tryz.func55, Tryz.ntmps55
  go_wp2
  go_ret2
  exact ⟨rfl, rfl⟩
set_option maxHeartbeats 1000000 in
theorem wants_ODD (w : World) : Calls Tryz.prog 55 #[.string ⟨#[79, 68, 68]⟩] w fun e w' => e = .returned (.tuple #[.int .i64 1, .int .i64 1]) ∧ w = w' := by
  go_enter Tryz.func55, Tryz.ntmps55
  go_wp2
  go_ret2
  exact ⟨rfl, rfl⟩
set_option maxHeartbeats 1000000 in
theorem wants_TRUNC (w : World) : Calls Tryz.prog 55 #[.string ⟨#[84, 82, 85, 78, 67]⟩] w fun e w' => e = .returned (.tuple #[.int .i64 1, .int .i64 2]) ∧ w = w' := by
  go_enter Tryz.func55, Tryz.ntmps55
  go_wp2
  go_ret2
  exact ⟨rfl, rfl⟩
set_option maxHeartbeats 1000000 in
theorem wants_ROUND (w : World) : Calls Tryz.prog 55 #[.string ⟨#[82, 79, 85, 78, 68]⟩] w fun e w' => e = .returned (.tuple #[.int .i64 1, .int .i64 2]) ∧ w = w' := by
  go_enter Tryz.func55, Tryz.ntmps55
  go_wp2
  go_ret2
  exact ⟨rfl, rfl⟩
set_option maxHeartbeats 1000000 in
theorem wants_FLOOR (w : World) : Calls Tryz.prog 55 #[.string ⟨#[70, 76, 79, 79, 82]⟩] w fun e w' => e = .returned (.tuple #[.int .i64 2, .int .i64 2]) ∧ w = w' := by
  go_enter Tryz.func55, Tryz.ntmps55
  go_wp2
  go_ret2
  exact ⟨rfl, rfl⟩
set_option maxHeartbeats 1000000 in
theorem wants_CEIL (w : World) : Calls Tryz.prog 55 #[.string ⟨#[67, 69, 73, 76]⟩] w fun e w' => e = .returned (.tuple #[.int .i64 2, .int .i64 2]) ∧ w = w' := by
  go_enter Tryz.func55, Tryz.ntmps55
  go_wp2
  go_ret2
  exact ⟨rfl, rfl⟩
set_option maxHeartbeats 1000000 in
theorem wants_MOD (w : World) : Calls Tryz.prog 55 #[.string ⟨#[77, 79, 68]⟩] w fun e w' => e = .returned (.tuple #[.int .i64 2, .int .i64 2]) ∧ w = w' := by
  go_enter Tryz.func55, Tryz.ntmps55
  go_wp2
  go_ret2
  exact ⟨rfl, rfl⟩
set_option maxHeartbeats 1000000 in
theorem wants_QUOT (w : World) : Calls Tryz.prog 55 #[.string ⟨#[81, 85, 79, 84]⟩] w fun e w' => e = .returned (.tuple #[.int .i64 2, .int .i64 2]) ∧ w = w' := by
  go_enter Tryz.func55, Tryz.ntmps55
  go_wp2
  go_ret2
  exact ⟨rfl, rfl⟩
set_option maxHeartbeats 1000000 in
theorem wants_POWER (w : World) : Calls Tryz.prog 55 #[.string ⟨#[80, 79, 87, 69, 82]⟩] w fun e w' => e = .returned (.tuple #[.int .i64 2, .int .i64 2]) ∧ w = w' := by
  go_enter Tryz.func55, Tryz.ntmps55
  go_wp2
  go_ret2
  exact ⟨rfl, rfl⟩
set_option maxHeartbeats 1000000 in
theorem wants_CLAMP (w : World) : Calls Tryz.prog 55 #[.string ⟨#[67, 76, 65, 77, 80]⟩] w fun e w' => e = .returned (.tuple #[.int .i64 3, .int .i64 3]) ∧ w = w' := by
  go_enter Tryz.func55, Tryz.ntmps55
  go_wp2
  go_ret2
  exact ⟨rfl, rfl⟩
set_option maxHeartbeats 1000000 in
theorem wants_GCD (w : World) : Calls Tryz.prog 55 #[.string ⟨#[71, 67, 68]⟩] w fun e w' => e = .returned (.tuple #[.int .i64 1, .int .i64 16]) ∧ w = w' := by
  go_enter Tryz.func55, Tryz.ntmps55
  go_wp2
  go_ret2
  exact ⟨rfl, rfl⟩
set_option maxHeartbeats 1000000 in
theorem wants_LCM (w : World) : Calls Tryz.prog 55 #[.string ⟨#[76, 67, 77]⟩] w fun e w' => e = .returned (.tuple #[.int .i64 1, .int .i64 16]) ∧ w = w' := by
  go_enter Tryz.func55, Tryz.ntmps55
  go_wp2
  go_ret2
  exact ⟨rfl, rfl⟩
set_option maxHeartbeats 2000000 in
theorem wants_none (s : ByteArray) (h0 : decide (s = ⟨#[65, 66, 83]⟩) = false) (h1 : decide (s = ⟨#[83, 73, 71, 78]⟩) = false) (h2 : decide (s = ⟨#[73, 78, 84]⟩) = false) (h3 : decide (s = ⟨#[83, 81, 82, 84]⟩) = false) (h4 : decide (s = ⟨#[70, 65, 67, 84]⟩) = false) (h5 : decide (s = ⟨#[79, 68, 68]⟩) = false) (h6 : decide (s = ⟨#[84, 82, 85, 78, 67]⟩) = false) (h7 : decide (s = ⟨#[82, 79, 85, 78, 68]⟩) = false) (h8 : decide (s = ⟨#[70, 76, 79, 79, 82]⟩) = false) (h9 : decide (s = ⟨#[67, 69, 73, 76]⟩) = false) (h10 : decide (s = ⟨#[77, 79, 68]⟩) = false) (h11 : decide (s = ⟨#[81, 85, 79, 84]⟩) = false) (h12 : decide (s = ⟨#[80, 79, 87, 69, 82]⟩) = false) (h13 : decide (s = ⟨#[67, 76, 65, 77, 80]⟩) = false) (h14 : decide (s = ⟨#[71, 67, 68]⟩) = false) (h15 : decide (s = ⟨#[76, 67, 77]⟩) = false) (w : World) : Calls Tryz.prog 55 #[.string s] w fun e w' => e = .returned (.tuple #[.int .i64 0, .int .i64 (-1)]) ∧ w = w' := by
  go_enter Tryz.func55, Tryz.ntmps55
  go_wp2
  go_ret2
  exact ⟨rfl, rfl⟩
end Go.Proofs.YthobaffgllipfaaGreat
