/-
  Package value: the document's Same, Compare.
-/
import Derived.Test.YthobaffgllipfaaValI
import Derived.WalkSpells
import Derived.WalkLawsBesides
import Derived.StillTactics
import Derived.Laws.Pointers
import Derived.Deep.RegionHeld3
import Derived.Deep.QuietTactic
import Derived.BigQuiet
import Derived.RowKit3
import Derived.Lib.Hide
import Derived.Lib.OthersKept
import Derived.OwnWalk
import Derived.Lib.IndexLaws
import Derived.Lib.ItoaMem
namespace Go.Proofs.Ythobaffgllipfaa
open Go.RowKit

theorem rvmay_yes (t n : Int) (s : ByteArray) (b : Bool) (c : Int) (hn : -9223372036854775808 ≤ n ∧ n ≤ 9223372036854775807) (h : vMay t n s b c = true) (w : World) : Calls Try.prog 12 #[.agg #[.int .i64 t, .int .i64 n, .string s, .bool b, .int .i64 c]] w fun e w' => e = .returned (.bool true) ∧ Below w.heap.size w w' := by
  have := rvmay_any t n s b c hn w
  rw [h] at this
  exact this
theorem rvmay_not (t n : Int) (s : ByteArray) (b : Bool) (c : Int) (hn : -9223372036854775808 ≤ n ∧ n ≤ 9223372036854775807) (h : vMay t n s b c = false) (w : World) : Calls Try.prog 12 #[.agg #[.int .i64 t, .int .i64 n, .string s, .bool b, .int .i64 c]] w fun e w' => e = .returned (.bool false) ∧ Below w.heap.size w w' := by
  have := rvmay_any t n s b c hn w
  rw [h] at this
  exact this
theorem may_of_0 {n : Int} {s : ByteArray} {b : Bool} {c : Int} (h : vMay 0 n s b c = true) : n = 0 ∧ s = ⟨#[]⟩ ∧ b = false ∧ c = 0 := by
  rw [vMay_iff] at h; simp at h; exact ⟨h.1, h.2.1, h.2.2.1, h.2.2.2⟩
theorem may_of_1 {n : Int} {s : ByteArray} {b : Bool} {c : Int} (h : vMay 1 n s b c = true) : s = ⟨#[]⟩ ∧ b = false ∧ c = 0 := by
  rw [vMay_iff] at h; simp at h; exact ⟨h.1, h.2.1, h.2.2.1⟩
theorem may_of_2 {n : Int} {s : ByteArray} {b : Bool} {c : Int} (h : vMay 2 n s b c = true) : n = 0 ∧ b = false ∧ c = 0 := by
  rw [vMay_iff] at h; simp at h; exact ⟨h.1, h.2.1, h.2.2⟩
theorem may_of_3 {n : Int} {s : ByteArray} {b : Bool} {c : Int} (h : vMay 3 n s b c = true) : n = 0 ∧ s = ⟨#[]⟩ ∧ c = 0 := by
  rw [vMay_iff] at h; simp at h; exact ⟨h.1, h.2.1, h.2.2⟩
theorem cb_at {a b : List UInt8} (k : Nat) (ha : k < a.length) (hb : k < b.length) : Lib.compareBytes (a.drop k) (b.drop k) = if a[k] < b[k] then -1 else if b[k] < a[k] then 1 else Lib.compareBytes (a.drop (k + 1)) (b.drop (k + 1)) := by
  rw [List.drop_eq_getElem_cons ha, List.drop_eq_getElem_cons hb]
  rfl
theorem cb_end {a b : List UInt8} (h : a.length = 0 ∨ b.length = 0) : Lib.compareBytes a b = cmpI a.length b.length := by
  cases a <;> cases b <;> simp [Lib.compareBytes, cmpI] at *
  all_goals omega
theorem cb_take (a b : List UInt8) (k : Nat) (ha : k < a.length) (hb : k < b.length) (h : Lib.compareBytes a b = Lib.compareBytes (a.drop k) (b.drop k)) : (a[k].toNat < b[k].toNat → Lib.compareBytes a b = -1) ∧ (b[k].toNat < a[k].toNat → Lib.compareBytes a b = 1) ∧ (a[k].toNat = b[k].toNat → Lib.compareBytes a b = Lib.compareBytes (a.drop (k + 1)) (b.drop (k + 1))) := by
  rw [h, cb_at k ha hb]
  simp only [UInt8.lt_iff_toNat_lt]
  refine ⟨fun h => if_pos h, fun h => ?_, fun h => ?_⟩
  · rw [if_neg (by omega), if_pos h]
  · rw [if_neg (by omega), if_neg (by omega)]
end Go.Proofs.Ythobaffgllipfaa
