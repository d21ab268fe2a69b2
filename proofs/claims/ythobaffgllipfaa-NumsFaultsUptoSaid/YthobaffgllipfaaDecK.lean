/-
  Package dec: what the laws' known tells; alike.
-/
import Derived.Test.YthobaffgllipfaaPrintL
import Derived.Test.YthobaffgllipfaaProg
import Derived.Test.YthobaffgllipfaaShelf
import Derived.Test.YthobaffgllipfaaRows
import Derived.Test.YthobaffgllipfaaBase
import Derived.Test.YthobaffgllipfaaDecA
import Derived.Test.YthobaffgllipfaaValA
import Derived.Test.YthobaffgllipfaaDecS
import Derived.Test.YthobaffgllipfaaDPrint
import Derived.WalkSpells
import Derived.WalkLawsBesides
import Derived.StillTactics
import Derived.Laws.Pointers
import Derived.Deep.RegionHeld3
import Derived.Deep.QuietTactic
import Derived.BigQuiet
import Derived.RowKit3
import Derived.Lib.Hide
import Derived.Lib.OthersKept
import Derived.OwnWalk
import Derived.Lib.IndexLaws
import Derived.Lib.ItoaMem
import Derived.Lib.TrimByte
import Derived.Lib.SlTrimSet
import Derived.Lib.ParseIntB
import Derived.Shelf.Small.Bits
import Derived.Shelf.Strconv.Itoa0
import Derived.Shelf.Bits.Mul64
import Derived.WalkKit
import Derived.ProofKit
import Derived.OpenShut
import Derived.Carry
import Derived.ChangeSame
import Derived.Deep.Draws
import Derived.Shelf.Strings.SlTrimAscii
import Derived.Lib.SmallJoins
namespace Go.Proofs.Ythobaffgllipfaa
open Go.RowKit

set_option maxRecDepth 100000 in
set_option maxHeartbeats 1000000 in
theorem div64_small (lo y : Nat) (hlo : lo < 18446744073709551616) (hy : y < 18446744073709551616) (h0 : 0 < y) (w : World) : Calls Try.prog 76 #[.int .u64 0, .int .u64 lo, .int .u64 y] w fun e w' => e = .returned (.tuple #[.int .u64 ((lo / y : Nat) : Int), .int .u64 ((lo % y : Nat) : Int)]) ∧ Below w.heap.size w w' := by
  have T1 : IntKind.u64.wrap ((lo : Int).tdiv y) = (lo : Int) / y := IntWalk.u64_quo _ _ (by omega)
  have T2 : (lo : Int).tmod y = (lo : Int) % y := Int.tmod_eq_emod_of_nonneg (by omega)
  have hq : (lo : Int) / y = ((lo / y : Nat) : Int) := by simp
  have hr : (lo : Int) % y = ((lo % y : Nat) : Int) := by simp
  have hq' := Lib.hid hq
  have hr' := Lib.hid hr
  have T3 : IntKind.u64.wrap ((lo : Int) % y) = (lo : Int) % y := IntWalk.u64_in _ (by rw [hr]; have := Nat.mod_lt lo h0; omega)
  have T4 : IntKind.u64.wrap ((lo : Int) / y) = (lo : Int) / y := IntWalk.u64_in _ (by rw [hq]; exact ⟨Int.natCast_nonneg _, Int.le_trans (Int.ofNat_le.2 (Nat.div_le_self lo y)) (by omega)⟩)
  clear hq hr
  go_enter Try.func76, Try.ntmps76
  go_wp2
  go_quiet (fail)
  go_wp2
  go_ret2
  refine ⟨?_, by first | assumption | (go_split_ands; first | assumption | ((repeat (first | (with_reducible exact Below.refl _ _) | (with_reducible refine Below.alloc ?_ (by first | omega | (dsimp only; omega) | (simp <;> omega)) _) | (with_reducible refine Below.setCell ?_ (by first | omega | (dsimp only; omega) | (simp <;> omega)) _) | (with_reducible refine Below.drew ?_) | (with_reducible refine below_drewN ?_ _) | (with_reducible refine Below.trans ?_ (Below.mono (by assumption) (by first | omega | (dsimp only; omega) | (simp <;> omega)))))); done)) | ((repeat (first | (with_reducible exact Below.refl _ _) | (with_reducible refine Below.alloc ?_ (by first | omega | (dsimp only; omega) | (simp <;> omega)) _) | (with_reducible refine Below.setCell ?_ (by first | omega | (dsimp only; omega) | (simp <;> omega)) _) | (with_reducible refine Below.drew ?_) | (with_reducible refine below_drewN ?_ _) | (with_reducible refine Below.trans ?_ (Below.mono (by assumption) (by first | omega | (dsimp only; omega) | (simp <;> omega)))))); done)⟩
  rw [← hq'.out, ← hr'.out]
  rfl
theorem mul64_k (w : World) : Calls Try.prog 59 #[.int .u64 15000, .int .u64 15000] w fun e w' => e = .returned (.tuple #[.int .u64 0, .int .u64 225000000]) ∧ w = w' :=
  (Try.bits_Mul64 15000 15000 (by omega) (by omega) w).mono fun _ _ ⟨he, hw⟩ => ⟨by rw [he]; rfl, hw.symm⟩
theorem div64_k (w : World) : Calls Try.prog 76 #[.int .u64 0, .int .u64 225000000, .int .u64 10000] w fun e w' => e = .returned (.tuple #[.int .u64 22500, .int .u64 0]) ∧ Below w.heap.size w w' :=
  (div64_small 225000000 10000 (by omega) (by omega) (by omega) w).mono fun _ _ ⟨he, hw⟩ => ⟨by rw [he]; rfl, hw⟩
theorem add_k (w : World) : Calls Try.prog 74 #[.int .i64 15000, .int .i64 (-5000)] w fun e w' => e = .returned (.tuple #[.int .i64 10000, .int .i64 0]) ∧ Below w.heap.size w w' :=
  (add_any 15000 (-5000) (by omega) (by omega) w).mono fun _ _ ⟨he, hw⟩ => ⟨he, by first | exact hw | (rw [hw]; exact Below.refl _ _)⟩
end Go.Proofs.Ythobaffgllipfaa
