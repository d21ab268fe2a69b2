/-
  Package value: the document's Same, Compare.
-/
import Derived.Test.YtaomlgpakbjegaaGreatDoorRows
import Derived.Test.YtaomlgpakbjegaaGreatDoorBase
import Derived.Test.YtaomlgpakbjegaaGreatDoorDecA
import Derived.Test.YtaomlgpakbjegaaGreatDoorValA
import Derived.Test.YtaomlgpakbjegaaGreatDoorValB
import Derived.Test.YtaomlgpakbjegaaGreatDoorMg8
import Derived.Test.YtaomlgpakbjegaaGreatDoorValC
import Derived.Test.YtaomlgpakbjegaaGreatDoorValD
import Derived.Test.YtaomlgpakbjegaaGreatDoorMg22
import Derived.Test.YtaomlgpakbjegaaGreatDoorProg
import Derived.Test.YtaomlgpakbjegaaGreatDoorShelf
import Derived.WalkSpells
import Derived.WalkLawsBesides
import Derived.StillTactics
import Derived.Laws.Pointers
import Derived.Deep.RegionHeld3
import Derived.Deep.QuietTactic
import Derived.BigQuiet
import Derived.RowKit3
import Derived.Lib.Hide
import Derived.Lib.OthersKept
import Derived.OwnWalk
import Derived.Lib.IndexLaws
import Derived.Lib.ItoaMem
import Derived.WalkKit
import Derived.ProofKit
import Derived.OpenShut
import Derived.Carry
import Derived.ChangeSame
import Derived.Deep.Draws
import Derived.Shelf.Strings.Builder1
import Derived.Shelf.Strings.Builder2
import Derived.Shelf.Strings.OnBuilder
import Derived.Shelf.Strings.Trim
import Derived.Shelf.Small.Utf8
import Derived.Shelf.Small.Bits
import Derived.Shelf.Small.Strs
import Derived.Shelf.Small.Wraps
import Derived.Shelf.Strings.BuilderF
import Derived.Shelf.Strings.BuilderK
import Derived.Shelf.Strconv.Itoa0
import Derived.Shelf.Strconv.Itoa1
import Derived.Shelf.LaysM
import Derived.Shelf.Strconv.Itoa2
import Derived.Ground.MpProg
import Derived.Shelf.Pu.ParseUintPublic10
import Derived.Shelf.Strings.Search1
import Derived.Shelf.Strings.Search2
import Derived.Shelf.Strings.Search3
import Derived.Shelf.Strings.Cut
import Derived.Shelf.Strings.Shaped
import Derived.Shelf.Strings.Prefix
import Derived.Shelf.Strings.Runes
import Derived.Shelf.Strings.AsciiSet
import Derived.Shelf.Bits.Mul64
import Derived.Shelf.Strings.Repeat
import Derived.Shelf.Unicode.DecodeSlow
import Derived.Ground.SlgmProg
import Derived.Shelf.SortM.Plain
import Derived.Shelf.SortM.SortNone
import Derived.Lib.Bytealg
namespace Go.Proofs.YtaomlgpakbjegaaGreatDoor
open Go.RowKit

theorem rvmay_yes (t n : Int) (s : ByteArray) (b : Bool) (c : Int) (hn : -9223372036854775808 ≤ n ∧ n ≤ 9223372036854775807) (h : vMay t n s b c = true) (w : World) : Calls Tryz.prog 75 #[.agg #[.int .i64 t, .int .i64 n, .string s, .bool b, .int .i64 c]] w fun e w' => e = .returned (.bool true) ∧ Below w.heap.size w w' := by
  have := rvmay_any t n s b c hn w
  rw [h] at this
  exact this
theorem rvmay_not (t n : Int) (s : ByteArray) (b : Bool) (c : Int) (hn : -9223372036854775808 ≤ n ∧ n ≤ 9223372036854775807) (h : vMay t n s b c = false) (w : World) : Calls Tryz.prog 75 #[.agg #[.int .i64 t, .int .i64 n, .string s, .bool b, .int .i64 c]] w fun e w' => e = .returned (.bool false) ∧ Below w.heap.size w w' := by
  have := rvmay_any t n s b c hn w
  rw [h] at this
  exact this
set_option maxHeartbeats 1000000 in
theorem rvsame_any (t n : Int) (s : ByteArray) (b : Bool) (c : Int) (t' n' : Int) (s' : ByteArray) (b' : Bool) (c' : Int) (w : World) :
    Calls Tryz.prog 146 #[.agg #[.int .i64 t, .int .i64 n, .string s, .bool b, .int .i64 c], .agg #[.int .i64 t', .int .i64 n', .string s', .bool b', .int .i64 c']] w
      fun e w' => e = .returned (.bool (vEq t n s b c t' n' s' b' c')) ∧ Below w.heap.size w w' := by
  go_enter Tryz.func146, Tryz.ntmps146
  go_wp2
  all_goals go_ret
  all_goals refine ⟨ret_b (Bool.eq_iff_iff.2 ?_), by (repeat (first | (with_reducible exact Below.refl _ _) | (with_reducible refine Below.alloc ?_ (by first | omega | (dsimp only; omega) | (simp <;> omega)) _) | (with_reducible refine Below.setCell ?_ (by first | omega | (dsimp only; omega) | (simp <;> omega)) _) | (with_reducible refine Below.drew ?_) | (with_reducible refine below_drewN ?_ _) | (with_reducible refine Below.trans ?_ (Below.mono (by assumption) (by first | omega | (dsimp only; omega) | (simp <;> omega))))))⟩
  all_goals rw [beq_val]
  all_goals simp [*]
  all_goals omega
theorem may_of_0 {n : Int} {s : ByteArray} {b : Bool} {c : Int} (h : vMay 0 n s b c = true) : n = 0 ∧ s = ⟨#[]⟩ ∧ b = false ∧ c = 0 := by
  rw [vMay_iff] at h; simp at h; exact ⟨h.1, h.2.1, h.2.2.1, h.2.2.2⟩
theorem may_of_1 {n : Int} {s : ByteArray} {b : Bool} {c : Int} (h : vMay 1 n s b c = true) : s = ⟨#[]⟩ ∧ b = false ∧ c = 0 := by
  rw [vMay_iff] at h; simp at h; exact ⟨h.1, h.2.1, h.2.2.1⟩
theorem may_of_2 {n : Int} {s : ByteArray} {b : Bool} {c : Int} (h : vMay 2 n s b c = true) : n = 0 ∧ b = false ∧ c = 0 := by
  rw [vMay_iff] at h; simp at h; exact ⟨h.1, h.2.1, h.2.2⟩
theorem may_of_3 {n : Int} {s : ByteArray} {b : Bool} {c : Int} (h : vMay 3 n s b c = true) : n = 0 ∧ s = ⟨#[]⟩ ∧ c = 0 := by
  rw [vMay_iff] at h; simp at h; exact ⟨h.1, h.2.1, h.2.2⟩
theorem cb_at {a b : List UInt8} (k : Nat) (ha : k < a.length) (hb : k < b.length) : Lib.compareBytes (a.drop k) (b.drop k) = if a[k] < b[k] then -1 else if b[k] < a[k] then 1 else Lib.compareBytes (a.drop (k + 1)) (b.drop (k + 1)) := by
  rw [List.drop_eq_getElem_cons ha, List.drop_eq_getElem_cons hb]
  rfl
theorem cb_end {a b : List UInt8} (h : a.length = 0 ∨ b.length = 0) : Lib.compareBytes a b = cmpI a.length b.length := by
  cases a <;> cases b <;> simp [Lib.compareBytes, cmpI] at *
  all_goals omega
theorem cb_take (a b : List UInt8) (k : Nat) (ha : k < a.length) (hb : k < b.length) (h : Lib.compareBytes a b = Lib.compareBytes (a.drop k) (b.drop k)) : (a[k].toNat < b[k].toNat → Lib.compareBytes a b = -1) ∧ (b[k].toNat < a[k].toNat → Lib.compareBytes a b = 1) ∧ (a[k].toNat = b[k].toNat → Lib.compareBytes a b = Lib.compareBytes (a.drop (k + 1)) (b.drop (k + 1))) := by
  rw [h, cb_at k ha hb]
  simp only [UInt8.lt_iff_toNat_lt]
  refine ⟨fun h => if_pos h, fun h => ?_, fun h => ?_⟩
  · rw [if_neg (by omega), if_pos h]
  · rw [if_neg (by omega), if_neg (by omega)]
end Go.Proofs.YtaomlgpakbjegaaGreatDoor
