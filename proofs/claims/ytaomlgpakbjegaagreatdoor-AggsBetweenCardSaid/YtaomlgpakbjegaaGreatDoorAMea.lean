/-
  aggs: the mean.
-/
import Derived.Test.YtaomlgpakbjegaaGreatDoorProg
import Derived.Test.YtaomlgpakbjegaaGreatDoorMg3
import Derived.Test.YtaomlgpakbjegaaGreatDoorRows
import Derived.Test.YtaomlgpakbjegaaGreatDoorBase
import Derived.Test.YtaomlgpakbjegaaGreatDoorRowB
import Derived.Test.YtaomlgpakbjegaaGreatDoorMg5
import Derived.Test.YtaomlgpakbjegaaGreatDoorValA
import Derived.Test.YtaomlgpakbjegaaGreatDoorValB
import Derived.Test.YtaomlgpakbjegaaGreatDoorValC
import Derived.Test.YtaomlgpakbjegaaGreatDoorAddrC
import Derived.Test.YtaomlgpakbjegaaGreatDoorMg10
import Derived.Test.YtaomlgpakbjegaaGreatDoorMapK
import Derived.Test.YtaomlgpakbjegaaGreatDoorShelf
import Derived.Test.YtaomlgpakbjegaaGreatDoorMg2
import Derived.Test.YtaomlgpakbjegaaGreatDoorMg12
import Derived.Test.YtaomlgpakbjegaaGreatDoorDPrint
import Derived.Test.YtaomlgpakbjegaaGreatDoorRPr
import Derived.Test.YtaomlgpakbjegaaGreatDoorKnuth
import Derived.Test.YtaomlgpakbjegaaGreatDoorDDiv
import Derived.Test.YtaomlgpakbjegaaGreatDoorDDig
import Derived.Test.YtaomlgpakbjegaaGreatDoorCutW
import Derived.Test.YtaomlgpakbjegaaGreatDoorDParse
import Derived.Test.YtaomlgpakbjegaaGreatDoorDecK
import Derived.Test.YtaomlgpakbjegaaGreatDoorDDivA
import Derived.Test.YtaomlgpakbjegaaGreatDoorValD
import Derived.Test.YtaomlgpakbjegaaGreatDoorMg23
import Derived.Test.YtaomlgpakbjegaaGreatDoorValL
import Derived.Test.YtaomlgpakbjegaaGreatDoorMg25
import Derived.Test.YtaomlgpakbjegaaGreatDoorAItm
import Derived.Test.YtaomlgpakbjegaaGreatDoorAAmo
import Derived.Test.YtaomlgpakbjegaaGreatDoorASum
import Derived.Test.YtaomlgpakbjegaaGreatDoorAFind
import Derived.Test.YtaomlgpakbjegaaGreatDoorACall
import Derived.Test.YtaomlgpakbjegaaGreatDoorACallB
import Derived.Test.YtaomlgpakbjegaaGreatDoorANum
import Derived.Test.YtaomlgpakbjegaaGreatDoorALar
import Derived.Test.YtaomlgpakbjegaaGreatDoorAPlB
import Derived.Laws.Externs
import Derived.WalkSpells
import Derived.WalkLawsBesides
import Derived.StillTactics
import Derived.Laws.Pointers
import Derived.Deep.RegionHeld3
import Derived.Deep.QuietTactic
import Derived.BigQuiet
import Derived.RowKit3
import Derived.Lib.Hide
import Derived.Lib.OthersKept
import Derived.OwnWalk
import Derived.Lib.IndexLaws
import Derived.Lib.ItoaMem
import Derived.Shelf.SlGeneric
import Derived.Shelf.SortM.Plain
import Derived.Shelf.SortM.SortNone
import Derived.Ground.SlgmProg
import Derived.WalkKit
import Derived.ProofKit
import Derived.OpenShut
import Derived.Carry
import Derived.ChangeSame
import Derived.Deep.Draws
import Derived.Maps.OwnSet
import Derived.Maps.AppendAt
import Derived.Laws.EntriesVeiled
import Derived.Laws.BitsAllLaws
import Derived.Shelf.Strings.Builder1
import Derived.Shelf.Strings.Builder2
import Derived.Shelf.Strings.OnBuilder
import Derived.Shelf.Strings.Trim
import Derived.Shelf.Small.Utf8
import Derived.Shelf.Small.Bits
import Derived.Shelf.Small.Strs
import Derived.Shelf.Small.Wraps
import Derived.Shelf.Strings.BuilderF
import Derived.Shelf.Strings.BuilderK
import Derived.Shelf.Strconv.Itoa0
import Derived.Shelf.Strconv.Itoa1
import Derived.Shelf.LaysM
import Derived.Shelf.Strconv.Itoa2
import Derived.Ground.MpProg
import Derived.Shelf.Pu.ParseUintPublic10
import Derived.Shelf.Strings.Search1
import Derived.Shelf.Strings.Search2
import Derived.Shelf.Strings.Search3
import Derived.Shelf.Strings.Cut
import Derived.Shelf.Strings.Shaped
import Derived.Shelf.Strings.Prefix
import Derived.Shelf.Strings.Runes
import Derived.Shelf.Strings.AsciiSet
import Derived.Shelf.Bits.Mul64
import Derived.Shelf.Strings.Repeat
import Derived.Shelf.Unicode.DecodeSlow
import Derived.Lib.TrimByte
import Derived.Lib.Bytealg
import Derived.Lib.SlTrimSet
import Derived.Lib.ParseIntB
import Derived.Shelf.Strings.SlTrimAscii
import Derived.Lib.SmallJoins
import Derived.Deep.RegionWith
import Derived.IntWalk
import Derived.Sort.OwnSorted
import Derived.Sort.OwnSortedInts
import Derived.Lib.Slices
namespace Go.Proofs.YtaomlgpakbjegaaGreatDoor
open Go.RowKit

/-- what bits.Sub64 does -/
def sub64Entry : Array Value → Sem Value := fun args => do
  let (x, y, b) ← Extern.MathBitsCarry.three "Sub64" args
  pure (Extern.MathBitsCarry.pair ((x + Extern.MathBitsCarry.m64 - y - b) % Extern.MathBitsCarry.m64) (if x < y + b then 1 else 0))
theorem run_sub64 {P : Program} (Y : Nat) (hy : Y < 18446744073709551616) (sm br : Int) (h1 : ((18446744073709551616 : Int) - (Y : Int)) % 18446744073709551616 = sm) (h2 : (if 0 < Y then 1 else 0) = br) (w : World) :
    (sub64Entry #[.int .u64 0, .int .u64 (Y : Int), .int .u64 0]).run P w = .ok (.tuple #[.int .u64 sm, .int .u64 br]) w := by
  have : (sub64Entry #[.int .u64 0, .int .u64 (Y : Int), .int .u64 0]).run P w = .ok (Extern.MathBitsCarry.pair ((0 + Extern.MathBitsCarry.m64 - Y - 0) % Extern.MathBitsCarry.m64) (if 0 < Y + 0 then 1 else 0)) w := rfl
  rw [this]
  subst h1 h2
  simp only [Extern.MathBitsCarry.pair, Extern.MathBitsCarry.m64]
  congr 4
  · simp; omega
  · simp
    split <;> simp
theorem sub64_int (Y : Nat) (hy : Y < 18446744073709551616) (sm br : Int) (h1 : ((18446744073709551616 : Int) - (Y : Int)) % 18446744073709551616 = sm) (h2 : (if 0 < Y then 1 else 0) = br) (w : World) : Sem.run Tryz.prog (callFunc 191 #[.int .u64 0, .int .u64 (Y : Int), .int .u64 0]) w = .ok (.value (.tuple #[.int .u64 sm, .int .u64 br])) w := by
  rw [run_callFunc_extern Tryz.func191 (by kernel_rfl) (by kernel_rfl) (by kernel_rfl) (e := sub64Entry) (by kernel_rfl), run_sub64 Y hy sm br h1 h2]
  rfl
set_option maxRecDepth 100000 in
set_option maxHeartbeats 2000000 in
theorem amean_p0 (l : List Int) (hl : ∀ x ∈ l, -9223372036854775808 ≤ x ∧ x ≤ 9223372036854775807) (w : World) (A : Option Addr) (cap : Nat) (hR : RdI w A l) (U H L N Q R : Nat) (hN : l.length = N) (hS : l.sum = (U : Int)) (hU : U = H * 18446744073709551616 + L) (hL : L < 18446744073709551616) (hH : H < N) (hNb : N ≤ 2932031007402) (hq : U / N = Q) (hr : U % N = R) (hRN : R < N) (hQ : (Q : Int) ≤ 9223372036854775807) (hup : ¬ ((N : Int) - (R : Int) ≤ (R : Int))) : Calls Tryz.prog 128 #[.slice A l.length cap] w fun e w' => e = .returned (.int .i64 ((Q : Int))) ∧ Below w.heap.size w w' := by
  have CS := asum_any l hl (by omega) w A cap hR
  have CD := fun w => div64_any H L N hL (by omega) hH w
  rw [← hU, hq, hr] at CD
  have h1 : l.sum / 18446744073709551616 = (H : Int) := by omega
  have h2 : l.sum % 18446744073709551616 = (L : Int) := by omega
  rw [h1, h2, hN] at CS
  have hge : ¬ (H : Int) < 0 := by omega
  have wH : IntKind.u64.wrap (H : Int) = (H : Int) := by rw [IntKind.wrap_u64]; omega
  have wN : IntKind.u64.wrap (N : Int) = (N : Int) := by rw [IntKind.wrap_u64]; omega
  obtain ⟨d, hd⟩ : ∃ d, (N : Int) - (R : Int) = d := ⟨_, rfl⟩
  have wR : IntKind.u64.wrap ((N : Int) - (R : Int)) = d := by rw [IntKind.wrap_u64]; omega
  rw [hd] at hup
  have hz : IntKind.i64.wrap ((Q : Int)) = (Q : Int) := IntWalk.i64_in _ (by omega)
  have CS' := Lib.hid CS
  have CD' := Lib.hid CD
  rw [hN]
  clear CS CD hR hl hS hU h1 h2 hH hq hr hL hQ hd hN hNb hRN
  go_enter Tryz.func128, Tryz.ntmps128
  go_wp2_with fail
  refine CS'.out.mono ?_
  clear CS'
  rintro e w1 ⟨rfl, hb1⟩
  go_wp2_with fail
  refine (CD'.out _).mono ?_
  clear CD'
  rintro e w2 ⟨rfl, hb2⟩
  obtain ⟨gc, gf, gz⟩ := bkeep hb2 (w1.heap.size + 1) (by simp)
  have hb1z := hb1.size
  go_wp2
  go_ret
  exact ⟨rfl, by (repeat (first | (with_reducible exact Below.refl _ _) | (with_reducible refine Below.alloc ?_ (by first | omega | (dsimp only; omega) | (simp <;> omega)) _) | (with_reducible refine Below.setCell ?_ (by first | omega | (dsimp only; omega) | (simp <;> omega)) _) | (with_reducible refine Below.drew ?_) | (with_reducible refine below_drewN ?_ _) | (with_reducible refine Below.trans ?_ (Below.mono (by assumption) (by first | omega | (dsimp only; omega) | (simp <;> omega))))))⟩
set_option maxRecDepth 100000 in
set_option maxHeartbeats 2000000 in
theorem amean_p1 (l : List Int) (hl : ∀ x ∈ l, -9223372036854775808 ≤ x ∧ x ≤ 9223372036854775807) (w : World) (A : Option Addr) (cap : Nat) (hR : RdI w A l) (U H L N Q R : Nat) (hN : l.length = N) (hS : l.sum = (U : Int)) (hU : U = H * 18446744073709551616 + L) (hL : L < 18446744073709551616) (hH : H < N) (hNb : N ≤ 2932031007402) (hq : U / N = Q) (hr : U % N = R) (hRN : R < N) (hQ : (Q : Int) + 1 ≤ 9223372036854775807) (hup : ((N : Int) - (R : Int) ≤ (R : Int))) : Calls Tryz.prog 128 #[.slice A l.length cap] w fun e w' => e = .returned (.int .i64 (((Q : Int) + 1))) ∧ Below w.heap.size w w' := by
  have CS := asum_any l hl (by omega) w A cap hR
  have CD := fun w => div64_any H L N hL (by omega) hH w
  rw [← hU, hq, hr] at CD
  have h1 : l.sum / 18446744073709551616 = (H : Int) := by omega
  have h2 : l.sum % 18446744073709551616 = (L : Int) := by omega
  rw [h1, h2, hN] at CS
  have hge : ¬ (H : Int) < 0 := by omega
  have wH : IntKind.u64.wrap (H : Int) = (H : Int) := by rw [IntKind.wrap_u64]; omega
  have wN : IntKind.u64.wrap (N : Int) = (N : Int) := by rw [IntKind.wrap_u64]; omega
  obtain ⟨d, hd⟩ : ∃ d, (N : Int) - (R : Int) = d := ⟨_, rfl⟩
  have wR : IntKind.u64.wrap ((N : Int) - (R : Int)) = d := by rw [IntKind.wrap_u64]; omega
  rw [hd] at hup
  have wQ : IntKind.u64.wrap ((Q : Int) + 1) = (Q : Int) + 1 := by rw [IntKind.wrap_u64]; omega
  have hz : IntKind.i64.wrap ((Q : Int) + 1) = (Q : Int) + 1 := IntWalk.i64_in _ (by omega)
  have CS' := Lib.hid CS
  have CD' := Lib.hid CD
  rw [hN]
  clear CS CD hR hl hS hU h1 h2 hH hq hr hL hQ hd hN hNb hRN
  go_enter Tryz.func128, Tryz.ntmps128
  go_wp2_with fail
  refine CS'.out.mono ?_
  clear CS'
  rintro e w1 ⟨rfl, hb1⟩
  go_wp2_with fail
  refine (CD'.out _).mono ?_
  clear CD'
  rintro e w2 ⟨rfl, hb2⟩
  obtain ⟨gc, gf, gz⟩ := bkeep hb2 (w1.heap.size + 1) (by simp)
  have hb1z := hb1.size
  go_wp2
  go_ret
  exact ⟨rfl, by (repeat (first | (with_reducible exact Below.refl _ _) | (with_reducible refine Below.alloc ?_ (by first | omega | (dsimp only; omega) | (simp <;> omega)) _) | (with_reducible refine Below.setCell ?_ (by first | omega | (dsimp only; omega) | (simp <;> omega)) _) | (with_reducible refine Below.drew ?_) | (with_reducible refine below_drewN ?_ _) | (with_reducible refine Below.trans ?_ (Below.mono (by assumption) (by first | omega | (dsimp only; omega) | (simp <;> omega))))))⟩
set_option maxRecDepth 100000 in
set_option maxHeartbeats 2000000 in
theorem amean_n0 (l : List Int) (hl : ∀ x ∈ l, -9223372036854775808 ≤ x ∧ x ≤ 9223372036854775807) (w : World) (A : Option Addr) (cap : Nat) (hR : RdI w A l) (U H L N Q R : Nat) (hN : l.length = N) (hS : l.sum = -(U : Int)) (hU : U = H * 18446744073709551616 + L) (hL : L < 18446744073709551616) (hH : H < N) (hNb : N ≤ 2932031007402) (hq : U / N = Q) (hr : U % N = R) (hRN : R < N) (hQ : (Q : Int) ≤ 9223372036854775808) (hup : ¬ ((N : Int) - (R : Int) ≤ (R : Int))) (hU0 : 0 < U) : Calls Tryz.prog 128 #[.slice A l.length cap] w fun e w' => e = .returned (.int .i64 (-(Q : Int))) ∧ Below w.heap.size w w' := by
  have CS := asum_any l hl (by omega) w A cap hR
  have CD := fun w => div64_any H L N hL (by omega) hH w
  rw [← hU, hq, hr] at CD
  obtain ⟨hi, h1⟩ : ∃ hi, l.sum / 18446744073709551616 = hi := ⟨_, rfl⟩
  obtain ⟨Y, hY⟩ : ∃ Y : Nat, (18446744073709551616 - L) % 18446744073709551616 = Y := ⟨_, rfl⟩
  have h2 : l.sum % 18446744073709551616 = (Y : Int) := by omega
  obtain ⟨br, hbr⟩ : ∃ br : Int, (if 0 < Y then (1 : Int) else 0) = br := ⟨_, rfl⟩
  have hbr2 : (0 < Y ∧ br = 1) ∨ (Y = 0 ∧ br = 0) := by
    by_cases h9 : 0 < Y
    · rw [if_pos h9] at hbr; omega
    · rw [if_neg h9] at hbr; omega
  have hA : ∀ w : World, Sem.run Tryz.prog (callFunc 191 #[.int .u64 0, .int .u64 (Y : Int), .int .u64 0]) w = .ok (.value (.tuple #[.int .u64 (L : Int), .int .u64 br])) w := fun w => sub64_int Y (by omega) _ _ (by omega) hbr w
  rw [h1, h2, hN] at CS
  have hge : hi < 0 := by omega
  have e1 : IntKind.i64.wrap (-hi) = -hi := IntWalk.i64_in _ (by omega)
  have e2 : IntKind.i64.wrap br = br := IntWalk.i64_in _ (by omega)
  have e3 : IntKind.i64.wrap (-hi - br) = (H : Int) := by rw [show -hi - br = (H : Int) by omega]; exact IntWalk.i64_in _ (by omega)
  clear hbr hbr2 hY
  have wH : IntKind.u64.wrap (H : Int) = (H : Int) := by rw [IntKind.wrap_u64]; omega
  have wN : IntKind.u64.wrap (N : Int) = (N : Int) := by rw [IntKind.wrap_u64]; omega
  obtain ⟨d, hd⟩ : ∃ d, (N : Int) - (R : Int) = d := ⟨_, rfl⟩
  have wR : IntKind.u64.wrap ((N : Int) - (R : Int)) = d := by rw [IntKind.wrap_u64]; omega
  rw [hd] at hup
  obtain ⟨z, hz⟩ : ∃ z, IntKind.i64.wrap ((Q : Int)) = z := ⟨_, rfl⟩
  have hz2 : IntKind.i64.wrap (-z) = -(Q : Int) := by
    rw [IntWalk.i64_left] at hz ⊢
    unfold wrap64 at hz ⊢
    omega
  have CS' := Lib.hid CS
  have CD' := Lib.hid CD
  rw [hN]
  clear CS CD hR hl hS hU h1 h2 hH hq hr hL hQ hd hN hNb hRN hU0
  go_enter Tryz.func128, Tryz.ntmps128
  go_wp2_with fail
  refine CS'.out.mono ?_
  clear CS'
  rintro e w1 ⟨rfl, hb1⟩
  go_wp2_with fail
  refine (CD'.out _).mono ?_
  clear CD'
  rintro e w2 ⟨rfl, hb2⟩
  obtain ⟨gc, gf, gz⟩ := bkeep hb2 (w1.heap.size + 1) (by simp)
  have hb1z := hb1.size
  go_wp2
  go_ret
  exact ⟨rfl, by (repeat (first | (with_reducible exact Below.refl _ _) | (with_reducible refine Below.alloc ?_ (by first | omega | (dsimp only; omega) | (simp <;> omega)) _) | (with_reducible refine Below.setCell ?_ (by first | omega | (dsimp only; omega) | (simp <;> omega)) _) | (with_reducible refine Below.drew ?_) | (with_reducible refine below_drewN ?_ _) | (with_reducible refine Below.trans ?_ (Below.mono (by assumption) (by first | omega | (dsimp only; omega) | (simp <;> omega))))))⟩
set_option maxRecDepth 100000 in
set_option maxHeartbeats 2000000 in
theorem amean_n1 (l : List Int) (hl : ∀ x ∈ l, -9223372036854775808 ≤ x ∧ x ≤ 9223372036854775807) (w : World) (A : Option Addr) (cap : Nat) (hR : RdI w A l) (U H L N Q R : Nat) (hN : l.length = N) (hS : l.sum = -(U : Int)) (hU : U = H * 18446744073709551616 + L) (hL : L < 18446744073709551616) (hH : H < N) (hNb : N ≤ 2932031007402) (hq : U / N = Q) (hr : U % N = R) (hRN : R < N) (hQ : (Q : Int) + 1 ≤ 9223372036854775808) (hup : ((N : Int) - (R : Int) ≤ (R : Int))) (hU0 : 0 < U) : Calls Tryz.prog 128 #[.slice A l.length cap] w fun e w' => e = .returned (.int .i64 (-((Q : Int) + 1))) ∧ Below w.heap.size w w' := by
  have CS := asum_any l hl (by omega) w A cap hR
  have CD := fun w => div64_any H L N hL (by omega) hH w
  rw [← hU, hq, hr] at CD
  obtain ⟨hi, h1⟩ : ∃ hi, l.sum / 18446744073709551616 = hi := ⟨_, rfl⟩
  obtain ⟨Y, hY⟩ : ∃ Y : Nat, (18446744073709551616 - L) % 18446744073709551616 = Y := ⟨_, rfl⟩
  have h2 : l.sum % 18446744073709551616 = (Y : Int) := by omega
  obtain ⟨br, hbr⟩ : ∃ br : Int, (if 0 < Y then (1 : Int) else 0) = br := ⟨_, rfl⟩
  have hbr2 : (0 < Y ∧ br = 1) ∨ (Y = 0 ∧ br = 0) := by
    by_cases h9 : 0 < Y
    · rw [if_pos h9] at hbr; omega
    · rw [if_neg h9] at hbr; omega
  have hA : ∀ w : World, Sem.run Tryz.prog (callFunc 191 #[.int .u64 0, .int .u64 (Y : Int), .int .u64 0]) w = .ok (.value (.tuple #[.int .u64 (L : Int), .int .u64 br])) w := fun w => sub64_int Y (by omega) _ _ (by omega) hbr w
  rw [h1, h2, hN] at CS
  have hge : hi < 0 := by omega
  have e1 : IntKind.i64.wrap (-hi) = -hi := IntWalk.i64_in _ (by omega)
  have e2 : IntKind.i64.wrap br = br := IntWalk.i64_in _ (by omega)
  have e3 : IntKind.i64.wrap (-hi - br) = (H : Int) := by rw [show -hi - br = (H : Int) by omega]; exact IntWalk.i64_in _ (by omega)
  clear hbr hbr2 hY
  have wH : IntKind.u64.wrap (H : Int) = (H : Int) := by rw [IntKind.wrap_u64]; omega
  have wN : IntKind.u64.wrap (N : Int) = (N : Int) := by rw [IntKind.wrap_u64]; omega
  obtain ⟨d, hd⟩ : ∃ d, (N : Int) - (R : Int) = d := ⟨_, rfl⟩
  have wR : IntKind.u64.wrap ((N : Int) - (R : Int)) = d := by rw [IntKind.wrap_u64]; omega
  rw [hd] at hup
  have wQ : IntKind.u64.wrap ((Q : Int) + 1) = (Q : Int) + 1 := by rw [IntKind.wrap_u64]; omega
  obtain ⟨z, hz⟩ : ∃ z, IntKind.i64.wrap ((Q : Int) + 1) = z := ⟨_, rfl⟩
  have hz2 : IntKind.i64.wrap (-z) = -((Q : Int) + 1) := by
    rw [IntWalk.i64_left] at hz ⊢
    unfold wrap64 at hz ⊢
    omega
  have CS' := Lib.hid CS
  have CD' := Lib.hid CD
  rw [hN]
  clear CS CD hR hl hS hU h1 h2 hH hq hr hL hQ hd hN hNb hRN hU0
  go_enter Tryz.func128, Tryz.ntmps128
  go_wp2_with fail
  refine CS'.out.mono ?_
  clear CS'
  rintro e w1 ⟨rfl, hb1⟩
  go_wp2_with fail
  refine (CD'.out _).mono ?_
  clear CD'
  rintro e w2 ⟨rfl, hb2⟩
  obtain ⟨gc, gf, gz⟩ := bkeep hb2 (w1.heap.size + 1) (by simp)
  have hb1z := hb1.size
  go_wp2
  go_ret
  exact ⟨rfl, by (repeat (first | (with_reducible exact Below.refl _ _) | (with_reducible refine Below.alloc ?_ (by first | omega | (dsimp only; omega) | (simp <;> omega)) _) | (with_reducible refine Below.setCell ?_ (by first | omega | (dsimp only; omega) | (simp <;> omega)) _) | (with_reducible refine Below.drew ?_) | (with_reducible refine below_drewN ?_ _) | (with_reducible refine Below.trans ?_ (Below.mono (by assumption) (by first | omega | (dsimp only; omega) | (simp <;> omega))))))⟩
theorem amean_any (l : List Int) (hl : ∀ x ∈ l, -9223372036854775808 ≤ x ∧ x ≤ 9223372036854775807) (h0 : l ≠ []) (hlen : l.length ≤ 2932031007402) (w : World) (A : Option Addr) (cap : Nat) (hR : RdI w A l) : Calls Tryz.prog 128 #[.slice A l.length cap] w fun e w' => e = .returned (.int .i64 (meanL l)) ∧ Below w.heap.size w w' := by
  have hn : 0 < l.length := List.length_pos_iff.2 h0
  have hs1 := sum_le (fun x hx => (hl x hx).2)
  have hs2 := le_sum (fun x hx => (hl x hx).1)
  obtain ⟨N, hN⟩ : ∃ N, l.length = N := ⟨_, rfl⟩
  rw [hN] at hs1 hs2 hn
  obtain ⟨U, hU⟩ : ∃ U : Nat, l.sum.natAbs = U := ⟨_, rfl⟩
  obtain ⟨H, hH⟩ : ∃ H, U / 18446744073709551616 = H := ⟨_, rfl⟩
  obtain ⟨L, hL⟩ : ∃ L, U % 18446744073709551616 = L := ⟨_, rfl⟩
  obtain ⟨Q, hq⟩ : ∃ Q, U / N = Q := ⟨_, rfl⟩
  obtain ⟨R, hr⟩ : ∃ R, U % N = R := ⟨_, rfl⟩
  have hRN : R < N := by rw [← hr]; exact Nat.mod_lt _ hn
  have hUq : (N : Int) * (Q : Int) + (R : Int) = (U : Int) := by
    have := Nat.div_add_mod U N
    rw [hq, hr] at this
    have h9 : ((N * Q + R : Nat) : Int) = (U : Int) := by rw [this]
    simpa using h9
  have hq' : (U : Int) / (N : Int) = (Q : Int) := by rw [← hq]; simp
  have hr' : (U : Int) % (N : Int) = (R : Int) := by rw [← hr]; simp
  by_cases hm : l.sum < 0
  · have hQ := meanU_le (s := (U : Int)) (n := (N : Int)) (b := 9223372036854775808) (by omega) (by omega)
    have em : meanL l = - meanU (U : Int) (N : Int) := by unfold meanL; rw [if_pos hm, hN, show -l.sum = (U : Int) by omega]
    rw [em]
    unfold meanU at hQ ⊢
    rw [hq', hr'] at hQ ⊢
    by_cases hup : (N : Int) - (R : Int) ≤ (R : Int)
    · rw [if_pos hup] at hQ ⊢
      exact amean_n1 l hl w A cap hR U H L N Q R hN (by omega) (by omega) (by omega) (by omega) (by omega) hq hr hRN hQ hup (by omega)
    · rw [if_neg hup, Int.add_zero] at hQ ⊢
      exact amean_n0 l hl w A cap hR U H L N Q R hN (by omega) (by omega) (by omega) (by omega) (by omega) hq hr hRN hQ hup (by omega)
  · have hQ := meanU_le (s := (U : Int)) (n := (N : Int)) (b := 9223372036854775807) (by omega) (by omega)
    have em : meanL l = meanU (U : Int) (N : Int) := by unfold meanL; rw [if_neg hm, hN, show l.sum = (U : Int) by omega]
    rw [em]
    unfold meanU at hQ ⊢
    rw [hq', hr'] at hQ ⊢
    by_cases hup : (N : Int) - (R : Int) ≤ (R : Int)
    · rw [if_pos hup] at hQ ⊢
      exact amean_p1 l hl w A cap hR U H L N Q R hN (by omega) (by omega) (by omega) (by omega) (by omega) hq hr hRN hQ hup
    · rw [if_neg hup, Int.add_zero] at hQ ⊢
      exact amean_p0 l hl w A cap hR U H L N Q R hN (by omega) (by omega) (by omega) (by omega) (by omega) hq hr hRN hQ hup
end Go.Proofs.YtaomlgpakbjegaaGreatDoor
