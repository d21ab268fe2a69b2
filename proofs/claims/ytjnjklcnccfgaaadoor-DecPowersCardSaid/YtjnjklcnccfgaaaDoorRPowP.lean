/-
  Powers: the document's rounding (plain).
-/
import Derived.Test.YtjnjklcnccfgaaaDoorRGrI
import Derived.WalkSpells
import Derived.WalkLawsBesides
import Derived.StillTactics
import Derived.Laws.Pointers
import Derived.Deep.RegionHeld3
import Derived.Deep.QuietTactic
import Derived.BigQuiet
import Derived.RowKit3
import Derived.Lib.Hide
import Derived.Lib.OthersKept
import Derived.OwnWalk
import Derived.Lib.IndexLaws
import Derived.Lib.ItoaMem
namespace Go.Proofs.YtjnjklcnccfgaaaDoor
open Go.RowKit

theorem round_div (N v q r : Nat) (h : N = v * q + r) (hr : r < v) : (2 * N / v + 1) / 2 = if 2 * r < v then q else q + 1 := by
  have hv : 0 < v := by omega
  have e : 2 * N = v * (2 * q) + 2 * r := by rw [h, Nat.mul_add, ← Nat.mul_assoc, ← Nat.mul_assoc, Nat.mul_comm 2 v]
  rw [e, Nat.mul_add_div hv]
  split
  · have h0 : 2 * r / v = 0 := Nat.div_eq_of_lt (by assumption)
    rw [h0]; omega
  · have h1 : 2 * r / v = 1 := Nat.div_eq_of_lt_le (by omega) (by omega)
    rw [h1]; omega
/-- the word below the cut tells whether to go up -/
theorem valG_cut (l : List Nat) (n : Nat) (hd : ∀ d ∈ l, d < 10000) (hn : n < l.length) : (2 * valG l / 10000 ^ (n + 1) + 1) / 2 = if 5000 ≤ l[n]'hn then valG (l.drop (n + 1)) + 1 else valG (l.drop (n + 1)) := by
  have e := valG_append (l.take (n + 1)) (l.drop (n + 1))
  have hl : (l.take (n + 1)).length = n + 1 := by rw [List.length_take]; omega
  have hb := valG_lt (l.take (n + 1)) (fun d h => hd d (List.mem_of_mem_take h))
  rw [List.take_append_drop, hl] at e
  rw [hl] at hb
  rw [round_div (valG l) (10000 ^ (n + 1)) (valG (l.drop (n + 1))) (valG (l.take (n + 1))) (by rw [e]; omega) hb]
  have h2 : valG (l.take (n + 1)) = valG (l.take n) + 10000 ^ n * l[n]'hn := by
    rw [List.take_add_one, List.getElem?_eq_getElem hn, show (some (l[n]'hn)).toList = [l[n]'hn] from rfl, valG_snoc, List.length_take, Nat.min_eq_left (by omega)]
  have h3 := valG_lt (l.take n) (fun d h => hd d (List.mem_of_mem_take h))
  rw [List.length_take, Nat.min_eq_left (by omega)] at h3
  rw [h2, Nat.pow_succ]
  obtain ⟨x, hx⟩ : ∃ x, l[n]'hn = x := ⟨_, rfl⟩
  obtain ⟨p, hp⟩ : ∃ p, 10000 ^ n = p := ⟨_, rfl⟩
  rw [hx, hp]
  rw [hp] at h3
  by_cases h5 : 5000 ≤ x
  · have h6 : p * 5000 ≤ p * x := Nat.mul_le_mul_left _ h5
    rw [if_pos h5, if_neg (by omega)]
  · have h6 : p * x + p ≤ p * 5000 := by rw [← Nat.mul_succ]; exact Nat.mul_le_mul_left _ (by omega)
    rw [if_neg h5, if_pos (by omega)]
/-- one word more of the quotient -/
theorem quot_step (vb q r N x d m : Nat) (h : vb * q + r = N) (hm : m = x + 10000 * r) (hd : vb * d ≤ m) : vb * (d + 10000 * q) + (m - vb * d) = 10000 * N + x := by
  have e : vb * (d + 10000 * q) = vb * d + 10000 * (vb * q) := by rw [Nat.mul_add, ← Nat.mul_assoc, Nat.mul_comm vb 10000, Nat.mul_assoc]
  rw [e]
  omega
/-- what is divided after i rounds -/
def quotN : Nat → Nat
  | 0 => 0
  | i + 1 => 10000 * quotN i + (if i = 0 then 1 else 0)
theorem quotN_pow : ∀ i, quotN (i + 1) = 10000 ^ i
  | 0 => rfl
  | i + 1 => by
    rw [quotN, quotN_pow i, if_neg (by omega), Nat.add_zero, Nat.pow_succ, Nat.mul_comm]
end Go.Proofs.YtjnjklcnccfgaaaDoor
