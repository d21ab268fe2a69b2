/-
  Package dec: what the laws' known tells; alike.
-/
import Derived.Test.YtaomlgpakbjegaaGreatDoorMg12
import Derived.Test.YtaomlgpakbjegaaGreatDoorProg
import Derived.Test.YtaomlgpakbjegaaGreatDoorShelf
import Derived.Test.YtaomlgpakbjegaaGreatDoorRows
import Derived.Test.YtaomlgpakbjegaaGreatDoorBase
import Derived.Test.YtaomlgpakbjegaaGreatDoorMg5
import Derived.Test.YtaomlgpakbjegaaGreatDoorValA
import Derived.Test.YtaomlgpakbjegaaGreatDoorDDig
import Derived.Test.YtaomlgpakbjegaaGreatDoorCutW
import Derived.Test.YtaomlgpakbjegaaGreatDoorDParse
import Derived.Test.YtaomlgpakbjegaaGreatDoorMg2
import Derived.Test.YtaomlgpakbjegaaGreatDoorDPrint
import Derived.WalkSpells
import Derived.WalkLawsBesides
import Derived.StillTactics
import Derived.Laws.Pointers
import Derived.Deep.RegionHeld3
import Derived.Deep.QuietTactic
import Derived.BigQuiet
import Derived.RowKit3
import Derived.Lib.Hide
import Derived.Lib.OthersKept
import Derived.OwnWalk
import Derived.Lib.IndexLaws
import Derived.Lib.ItoaMem
import Derived.Lib.TrimByte
import Derived.Lib.SlTrimSet
import Derived.Lib.ParseIntB
import Derived.Shelf.Strings.Builder1
import Derived.Shelf.Strings.Builder2
import Derived.Shelf.Strings.OnBuilder
import Derived.Shelf.Strings.Trim
import Derived.Shelf.Small.Utf8
import Derived.Shelf.Small.Bits
import Derived.Shelf.Small.Strs
import Derived.Shelf.Small.Wraps
import Derived.Shelf.Strings.BuilderF
import Derived.Shelf.Strings.BuilderK
import Derived.Shelf.Strconv.Itoa0
import Derived.Shelf.Strconv.Itoa1
import Derived.Shelf.LaysM
import Derived.Shelf.Strconv.Itoa2
import Derived.Ground.MpProg
import Derived.Shelf.Pu.ParseUintPublic10
import Derived.Shelf.Strings.Search1
import Derived.Shelf.Strings.Search2
import Derived.Shelf.Strings.Search3
import Derived.Shelf.Strings.Cut
import Derived.Shelf.Strings.Shaped
import Derived.Shelf.Strings.Prefix
import Derived.Shelf.Strings.Runes
import Derived.Shelf.Strings.AsciiSet
import Derived.Shelf.Bits.Mul64
import Derived.Shelf.Strings.Repeat
import Derived.Shelf.Unicode.DecodeSlow
import Derived.Ground.SlgmProg
import Derived.Shelf.SortM.Plain
import Derived.Shelf.SortM.SortNone
import Derived.WalkKit
import Derived.ProofKit
import Derived.OpenShut
import Derived.Carry
import Derived.ChangeSame
import Derived.Deep.Draws
import Derived.Shelf.Strings.SlTrimAscii
import Derived.Lib.SmallJoins
namespace Go.Proofs.YtaomlgpakbjegaaGreatDoor
open Go.RowKit

set_option maxRecDepth 100000 in
set_option maxHeartbeats 1000000 in
theorem div64_small (lo y : Nat) (hlo : lo < 18446744073709551616) (hy : y < 18446744073709551616) (h0 : 0 < y) (w : World) : Calls Tryz.prog 192 #[.int .u64 0, .int .u64 lo, .int .u64 y] w fun e w' => e = .returned (.tuple #[.int .u64 ((lo / y : Nat) : Int), .int .u64 ((lo % y : Nat) : Int)]) ∧ Below w.heap.size w w' := by
  have T1 : IntKind.u64.wrap ((lo : Int).tdiv y) = (lo : Int) / y := IntWalk.u64_quo _ _ (by omega)
  have T2 : (lo : Int).tmod y = (lo : Int) % y := Int.tmod_eq_emod_of_nonneg (by omega)
  have hq : (lo : Int) / y = ((lo / y : Nat) : Int) := by simp
  have hr : (lo : Int) % y = ((lo % y : Nat) : Int) := by simp
  have hq' := Lib.hid hq
  have hr' := Lib.hid hr
  have T3 : IntKind.u64.wrap ((lo : Int) % y) = (lo : Int) % y := IntWalk.u64_in _ (by rw [hr]; have := Nat.mod_lt lo h0; omega)
  have T4 : IntKind.u64.wrap ((lo : Int) / y) = (lo : Int) / y := IntWalk.u64_in _ (by rw [hq]; exact ⟨Int.natCast_nonneg _, Int.le_trans (Int.ofNat_le.2 (Nat.div_le_self lo y)) (by omega)⟩)
  clear hq hr
  go_enter Tryz.func192, Tryz.ntmps192
  go_wp2
  go_quiet (fail)
  go_wp2
  go_ret2
  refine ⟨?_, by first | assumption | (go_split_ands; first | assumption | ((repeat (first | (with_reducible exact Below.refl _ _) | (with_reducible refine Below.alloc ?_ (by first | omega | (dsimp only; omega) | (simp <;> omega)) _) | (with_reducible refine Below.setCell ?_ (by first | omega | (dsimp only; omega) | (simp <;> omega)) _) | (with_reducible refine Below.drew ?_) | (with_reducible refine below_drewN ?_ _) | (with_reducible refine Below.trans ?_ (Below.mono (by assumption) (by first | omega | (dsimp only; omega) | (simp <;> omega)))))); done)) | ((repeat (first | (with_reducible exact Below.refl _ _) | (with_reducible refine Below.alloc ?_ (by first | omega | (dsimp only; omega) | (simp <;> omega)) _) | (with_reducible refine Below.setCell ?_ (by first | omega | (dsimp only; omega) | (simp <;> omega)) _) | (with_reducible refine Below.drew ?_) | (with_reducible refine below_drewN ?_ _) | (with_reducible refine Below.trans ?_ (Below.mono (by assumption) (by first | omega | (dsimp only; omega) | (simp <;> omega)))))); done)⟩
  rw [← hq'.out, ← hr'.out]
  rfl
theorem mul64_k (w : World) : Calls Tryz.prog 208 #[.int .u64 15000, .int .u64 15000] w fun e w' => e = .returned (.tuple #[.int .u64 0, .int .u64 225000000]) ∧ w = w' :=
  (Tryz.bits_Mul64 15000 15000 (by omega) (by omega) w).mono fun _ _ ⟨he, hw⟩ => ⟨by rw [he]; rfl, hw.symm⟩
theorem div64_k (w : World) : Calls Tryz.prog 192 #[.int .u64 0, .int .u64 225000000, .int .u64 10000] w fun e w' => e = .returned (.tuple #[.int .u64 22500, .int .u64 0]) ∧ Below w.heap.size w w' :=
  (div64_small 225000000 10000 (by omega) (by omega) (by omega) w).mono fun _ _ ⟨he, hw⟩ => ⟨by rw [he]; rfl, hw⟩
set_option maxRecDepth 100000 in
set_option maxHeartbeats 1000000 in
theorem mul_k (w : World) : Calls Tryz.prog 189 #[.int .i64 15000, .int .i64 15000] w fun e w' => e = .returned (.tuple #[.int .i64 22500, .int .i64 0]) ∧ Below w.heap.size w w' := by
  have m1 : decMay 15000 = true := by decide
  go_enter Tryz.func189, Tryz.ntmps189
  go_wp2_with (go_at_call 107; refine (dmay_any _ (by first | assumption | (constructor <;> omega)) _).mono ?_; rintro e w1 ⟨rfl, rfl⟩)
  refine (size_nat 15000 15000 (by omega) rfl _).mono ?_
  rintro e w1 ⟨rfl, rfl⟩
  go_wp2_with fail
  refine (size_nat 15000 15000 (by omega) rfl _).mono ?_
  rintro e w1 ⟨rfl, rfl⟩
  go_wp2_with fail
  refine (mul64_k _).mono ?_
  rintro e w2 ⟨rfl, rfl⟩
  go_wp2_with fail
  refine (div64_k _).mono ?_
  rintro e w3 ⟨rfl, hb3⟩
  go_wp2_with fail
  refine (signed_any 22500 (by omega) _ _).mono ?_
  rintro e w4 ⟨rfl, rfl⟩
  go_wp2
  go_ret2
  exact ⟨rfl, hb3⟩
theorem parse_k (w : World) : Calls Tryz.prog 177 #[.string ⟨#[45, 49, 46, 53, 48]⟩] w fun e w' => e = .returned (.tuple #[.int .i64 (-15000), .bool true]) ∧ Below w.heap.size w w' := by
  have := dparse_l [45, 49, 46, 53, 48] (by decide) w
  rw [show numV [45, 49, 46, 53, 48] = -15000 from by decide +kernel, show numOk [45, 49, 46, 53, 48] = true from by decide +kernel] at this
  exact this
theorem print_k (w : World) (ht : Tab w) : Calls Tryz.prog 105 #[.int .i64 (-15000)] w fun e w' => e = .returned (.string ⟨#[45, 49, 46, 53]⟩) ∧ Below w.heap.size w w' := by
  have := dprint_any (-15000) (by omega) w ht
  rw [show printL (-15000) = [45, 49, 46, 53] from by decide +kernel] at this
  exact this
end Go.Proofs.YtaomlgpakbjegaaGreatDoor
