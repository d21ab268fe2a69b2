/-
  The document's Print of a number.
-/
import Derived.Test.YthobaffgllipfaaDPrint
import Derived.WalkSpells
import Derived.WalkLawsBesides
import Derived.StillTactics
import Derived.Laws.Pointers
import Derived.Deep.RegionHeld3
import Derived.Deep.QuietTactic
import Derived.BigQuiet
import Derived.RowKit3
import Derived.Lib.Hide
import Derived.Lib.OthersKept
import Derived.OwnWalk
import Derived.Lib.IndexLaws
import Derived.Lib.ItoaMem
namespace Go.Proofs.Ythobaffgllipfaa
open Go.RowKit

theorem ofNat_toNat8 {n : Nat} (h : n < 256) : (UInt8.ofNat n).toNat = n := by simp; omega
/-- what is still to be written is so short -/
def okd : Nat → Nat → Prop
  | 0, m => m = 0
  | 1, m => m % 1000 = 0
  | 2, m => m % 100 = 0
  | 3, m => m % 10 = 0
  | _, _ => True
theorem okd_step {k m : Nat} (hk : k ≤ 3) (h : okd (k + 1) m) : okd k (m % 1000 * 10) := by
  have : k = 0 ∨ k = 1 ∨ k = 2 ∨ k = 3 := by omega
  rcases this with rfl | rfl | rfl | rfl <;> simp only [okd] at * <;> omega
theorem okd_pos {k m : Nat} (h : okd k m) (h0 : 0 < m) : 0 < k := by
  rcases k with _ | k
  · simp only [okd] at h; omega
  · omega
theorem digs_step {k m : Nat} (h0 : 0 < m) : digs (k + 1) m = UInt8.ofNat (48 + m / 1000) :: digs k (m % 1000 * 10) := by
  simp only [digs]; rw [if_neg (by omega)]
theorem digs_zero (k : Nat) : digs k 0 = [] := by cases k <;> simp [digs]
def strSize : Value → Nat
  | .string b => b.size
  | _ => 0
end Go.Proofs.Ythobaffgllipfaa
