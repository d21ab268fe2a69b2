/-
  The document's Power, whole.
-/
import Derived.Test.YthobaffgllipfaaGreatRows
import Derived.Test.YthobaffgllipfaaGreatBase
import Derived.Test.YthobaffgllipfaaGreatMg3
import Derived.Test.YthobaffgllipfaaGreatMg36
import Derived.Test.YthobaffgllipfaaGreatRGrD
import Derived.Test.YthobaffgllipfaaGreatMg38
import Derived.Test.YthobaffgllipfaaGreatMg39
import Derived.Test.YthobaffgllipfaaGreatDecS
import Derived.Test.YthobaffgllipfaaGreatDMod
import Derived.Test.YthobaffgllipfaaGreatDFlo
import Derived.Test.YthobaffgllipfaaGreatProg
import Derived.Test.YthobaffgllipfaaGreatMg12
import Derived.Test.YthobaffgllipfaaGreatDRnd
import Derived.Test.YthobaffgllipfaaGreatMg14
import Derived.Test.YthobaffgllipfaaGreatKnuth
import Derived.Test.YthobaffgllipfaaGreatDDiv
import Derived.Test.YthobaffgllipfaaGreatValA
import Derived.Test.YthobaffgllipfaaGreatMg17
import Derived.Test.YthobaffgllipfaaGreatDPowB
import Derived.Test.YthobaffgllipfaaGreatDPowC
import Derived.Test.YthobaffgllipfaaGreatRQuo
import Derived.Test.YthobaffgllipfaaGreatRPow
import Derived.WalkSpells
import Derived.WalkLawsBesides
import Derived.StillTactics
import Derived.Laws.Pointers
import Derived.Deep.RegionHeld3
import Derived.Deep.QuietTactic
import Derived.BigQuiet
import Derived.RowKit3
import Derived.Lib.Hide
import Derived.Lib.OthersKept
import Derived.OwnWalk
import Derived.Lib.IndexLaws
import Derived.Lib.ItoaMem
import Derived.WalkKit
import Derived.ProofKit
import Derived.OpenShut
import Derived.Carry
import Derived.ChangeSame
import Derived.Deep.Draws
import Derived.Maps.AppendAt
import Derived.Laws.BitsAllLaws
import Derived.Shelf.Small.Bits
import Derived.Shelf.Strconv.Itoa0
import Derived.Shelf.Bits.Mul64
import Derived.Lib.TrimByte
import Derived.Lib.Bytealg
import Derived.Lib.SlTrimSet
import Derived.Lib.ParseIntB
import Derived.Shelf.Strings.SlTrimAscii
import Derived.Lib.SmallJoins
import Derived.Laws.Externs
import Derived.Laws.AppendOwnNone
namespace Go.Proofs.YthobaffgllipfaaGreat
open Go.RowKit

set_option maxHeartbeats 400000 in
theorem rpower_may (x n : Int) (hx : -9223372036854775808 ≤ x ∧ x ≤ 9223372036854775807) (h : x = -9223372036854775808) (w : World) : Calls Tryz.prog 68 #[.int .i64 x, .int .i64 n] w fun e w' => e = .returned (.tuple #[.int .i64 0, .int .i64 2]) ∧ Below w.heap.size w w' := by
  have S0 := drmay_any x hx w
  rw [show decMay x = false by simp [decMay]; try omega] at S0
  clear h
  clear hx
  go_enter Tryz.func68, Tryz.ntmps68
  go_wp2_with fail
  with_reducible refine S0.mono ?_
  rintro e w1 ⟨rfl, rfl⟩
  go_wp2
  go_ret2
  exact ⟨rfl, Below.refl _ _⟩
set_option maxHeartbeats 400000 in
theorem rpower_low (x n : Int) (hx : -9223372036854775808 ≤ x ∧ x ≤ 9223372036854775807) (h : ¬ x = -9223372036854775808) (hn : n < -64) (w : World) : Calls Tryz.prog 68 #[.int .i64 x, .int .i64 n] w fun e w' => e = .returned (.tuple #[.int .i64 0, .int .i64 8]) ∧ Below w.heap.size w w' := by
  have S0 := drmay_any x hx w
  rw [show decMay x = true by simp [decMay]; try omega] at S0
  clear h
  clear hx
  go_enter Tryz.func68, Tryz.ntmps68
  go_wp2_with fail
  with_reducible refine S0.mono ?_
  rintro e w1 ⟨rfl, rfl⟩
  go_wp2
  go_ret2
  exact ⟨rfl, Below.refl _ _⟩
set_option maxHeartbeats 400000 in
theorem rpower_high (x n : Int) (hx : -9223372036854775808 ≤ x ∧ x ≤ 9223372036854775807) (h : ¬ x = -9223372036854775808) (hn : 64 < n) (w : World) : Calls Tryz.prog 68 #[.int .i64 x, .int .i64 n] w fun e w' => e = .returned (.tuple #[.int .i64 0, .int .i64 8]) ∧ Below w.heap.size w w' := by
  have S0 := drmay_any x hx w
  rw [show decMay x = true by simp [decMay]; try omega] at S0
  have e3 : ¬ (n < -64) := by omega
  clear h
  clear hx
  go_enter Tryz.func68, Tryz.ntmps68
  go_wp2_with fail
  with_reducible refine S0.mono ?_
  rintro e w1 ⟨rfl, rfl⟩
  go_wp2
  go_ret2
  exact ⟨rfl, Below.refl _ _⟩
set_option maxHeartbeats 400000 in
theorem rpower_none (x n : Int) (hx : -9223372036854775808 ≤ x ∧ x ≤ 9223372036854775807) (h : ¬ x = -9223372036854775808) (hn : n = 0) (w : World) : Calls Tryz.prog 68 #[.int .i64 x, .int .i64 n] w fun e w' => e = .returned (.tuple #[.int .i64 10000, .int .i64 0]) ∧ Below w.heap.size w w' := by
  have S0 := drmay_any x hx w
  rw [show decMay x = true by simp [decMay]; try omega] at S0
  subst hn
  clear h
  clear hx
  go_enter Tryz.func68, Tryz.ntmps68
  go_wp2_with fail
  with_reducible refine S0.mono ?_
  rintro e w1 ⟨rfl, rfl⟩
  go_wp2
  go_ret2
  exact ⟨rfl, Below.refl _ _⟩
set_option maxHeartbeats 400000 in
theorem rpower_div (x n : Int) (hx : -9223372036854775808 ≤ x ∧ x ≤ 9223372036854775807) (hx0 : x = 0) (hn : n < 0 ∧ -64 ≤ n) (w : World) : Calls Tryz.prog 68 #[.int .i64 x, .int .i64 n] w fun e w' => e = .returned (.tuple #[.int .i64 0, .int .i64 3]) ∧ Below w.heap.size w w' := by
  have S0 := drmay_any x hx w
  have S1 := rsize_any x hx w
  rw [show decMay x = true by simp [decMay]; try omega] at S0
  have e1 : ¬ n = 0 := by omega
  have e3 : ¬ (n < -64) := by omega
  have e4 : ¬ (64 < n) := by omega
  have e5 : n < 0 := hn.1
  subst hx0
  clear hn
  clear hx
  go_enter Tryz.func68, Tryz.ntmps68
  go_wp2_with fail
  with_reducible refine S0.mono ?_
  rintro e w1 ⟨rfl, rfl⟩
  go_wp2_with fail
  refine S1.mono ?_
  rintro e w1 ⟨rfl, rfl⟩
  go_wp2
  go_ret2
  exact ⟨rfl, Below.refl _ _⟩
theorem rpower_any (x n : Int) (hx : -9223372036854775808 ≤ x ∧ x ≤ 9223372036854775807) (w : World) : Calls Tryz.prog 68 #[.int .i64 x, .int .i64 n] w fun e w' => e = .returned (.tuple #[.int .i64 (powerV x n), .int .i64 (powerC x n)]) ∧ Below w.heap.size w w' := by
  unfold powerV powerC
  by_cases h1 : x = -9223372036854775808
  · rw [if_pos h1, if_pos h1]; exact rpower_may x n hx h1 w
  rw [if_neg h1, if_neg h1]
  by_cases h2 : n < -64
  · rw [if_pos (.inl h2), if_pos (.inl h2)]; exact rpower_low x n hx h1 h2 w
  by_cases h3 : 64 < n
  · rw [if_pos (.inr h3), if_pos (.inr h3)]; exact rpower_high x n hx h1 h3 w
  have h4 : ¬ (n < -64 ∨ 64 < n) := by omega
  rw [if_neg h4, if_neg h4]
  by_cases h5 : n = 0
  · rw [if_pos h5, if_pos h5]; exact rpower_none x n hx h1 h5 w
  rw [if_neg h5, if_neg h5]
  by_cases h7 : n < 0
  · by_cases h6 : x = 0
    · rw [if_pos ⟨h6, h7⟩, if_pos ⟨h6, h7⟩]; exact rpower_div x n hx h6 ⟨h7, by omega⟩ w
    · rw [if_neg (fun h => h6 h.1), if_neg (fun h => h6 h.1)]
      exact rpower_neg x n hx h1 h6 ⟨h7, by omega⟩ w
  · rw [if_neg (fun h => h7 h.2), if_neg (fun h => h7 h.2)]
    exact rpower_pos x n hx h1 ⟨by omega, by omega⟩ w
end Go.Proofs.YthobaffgllipfaaGreat
