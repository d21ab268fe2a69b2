/-
  Package dec: Parse of any text.
-/
import Derived.Test.YthobaffgllipfaaDDig
import Derived.Test.YthobaffgllipfaaCutW
import Derived.Test.YthobaffgllipfaaDecA
import Derived.Lib.SmallJoins
import Derived.WalkSpells
import Derived.WalkLawsBesides
import Derived.StillTactics
import Derived.Laws.Pointers
import Derived.Deep.RegionHeld3
import Derived.Deep.QuietTactic
import Derived.BigQuiet
import Derived.RowKit3
import Derived.Lib.Hide
import Derived.Lib.OthersKept
import Derived.OwnWalk
import Derived.Lib.IndexLaws
import Derived.Lib.ItoaMem
namespace Go.Proofs.Ythobaffgllipfaa
open Go.RowKit

def optV : Option Int → Int
  | some x => x
  | .none => 0
theorem numV_eq {l : List UInt8} {o : Option Int} (h : numP l = o) : numV l = optV o ∧ numOk l = o.isSome := by
  subst h
  constructor
  · unfold numV optV; cases numP l <;> rfl
  · rfl
theorem head_low (l : List UInt8) : Lib.hasPrefix l [45] = lowOf l := by
  cases l with
  | nil => rfl
  | cons b t =>
    show ((45 == b) && List.isPrefixOf [] t) = (some b == some 45)
    rw [show List.isPrefixOf [] t = true from by cases t <;> rfl, Bool.and_true, Bool.eq_iff_iff, beq_iff_eq, beq_iff_eq]
    exact ⟨fun h => by rw [h], fun h => (Option.some.inj h).symm⟩
theorem trim_low (l : List UInt8) : Lib.trimPrefix l [45] = tailOf l := by
  unfold Lib.trimPrefix tailOf
  rw [head_low]
  cases l <;> simp
theorem pad_at {r : List UInt8} (h : r.length ≤ 4) : (⟨#[48, 48, 48, 48]⟩ : ByteArray).extract r.length 4 = ⟨(List.replicate (4 - r.length) 48).toArray⟩ := by
  have : r.length = 0 ∨ r.length = 1 ∨ r.length = 2 ∨ r.length = 3 ∨ r.length = 4 := by omega
  rcases this with h | h | h | h | h <;> rw [h] <;> decide +kernel
theorem dig_all {l : List UInt8} {m : Nat} (h : digOk l m = true) : 0 < l.length ∧ l.length ≤ m ∧ l.all isDig = true := by
  simp only [digOk, Bool.and_eq_true, decide_eq_true_eq] at h
  exact ⟨h.1.1, h.1.2, h.2⟩
theorem pad_all (D r : List UInt8) (h1 : D.all isDig = true) (h2 : r.all isDig = true) : (D ++ (r ++ List.replicate (4 - r.length) 48)).all isDig = true := by
  simp only [List.all_append, h1, h2, Bool.true_and, List.all_eq_true]
  intro b hb
  rw [List.eq_of_mem_replicate hb]
  decide
theorem u64_lt (D r : List UInt8) (hD : D.length ≤ 15) (hr : r.length ≤ 4) (h : (D ++ (r ++ List.replicate (4 - r.length) 48)).all isDig = true) : valL (D ++ (r ++ List.replicate (4 - r.length) 48)) ≤ 18446744073709551615 := by
  have := val_bound h
  have hl : (D ++ (r ++ List.replicate (4 - r.length) 48)).length ≤ 19 := by simp; omega
  have h2 : (10 : Nat) ^ (D ++ (r ++ List.replicate (4 - r.length) 48)).length ≤ 10 ^ 19 := Nat.pow_le_pow_right (by omega) hl
  omega
theorem numFin0 (D r : List UInt8) (u : Nat) (hu : valL (D ++ (r ++ List.replicate (4 - r.length) 48)) = u) : optV (numOf false D r) = exV (u : Int) ∧ (numOf false D r).isSome = decide (exC (u : Int) = 0) := by
  unfold numOf
  rw [hu, if_neg (by simp)]
  unfold exV exC
  by_cases h : u ≤ 9223372036854775807
  · rw [if_pos h, if_pos (show -9223372036854775807 ≤ (u : Int) ∧ (u : Int) ≤ 9223372036854775807 by omega), if_pos (show -9223372036854775807 ≤ (u : Int) ∧ (u : Int) ≤ 9223372036854775807 by omega)]; simp [optV]
  · rw [if_neg h, if_neg (show ¬ (-9223372036854775807 ≤ (u : Int) ∧ (u : Int) ≤ 9223372036854775807) by omega), if_neg (show ¬ (-9223372036854775807 ≤ (u : Int) ∧ (u : Int) ≤ 9223372036854775807) by omega)]; simp [optV]
theorem numFin1 (D r : List UInt8) (u : Nat) (hu : valL (D ++ (r ++ List.replicate (4 - r.length) 48)) = u) (h0 : 0 < u) : optV (numOf true D r) = exV (-(u : Int)) ∧ (numOf true D r).isSome = decide (exC (-(u : Int)) = 0) := by
  unfold numOf
  rw [hu, if_neg (by omega)]
  unfold exV exC
  by_cases h : u ≤ 9223372036854775807
  · rw [if_pos h, if_pos (show -9223372036854775807 ≤ -(u : Int) ∧ -(u : Int) ≤ 9223372036854775807 by omega), if_pos (show -9223372036854775807 ≤ -(u : Int) ∧ -(u : Int) ≤ 9223372036854775807 by omega)]; simp [optV]
  · rw [if_neg h, if_neg (show ¬ (-9223372036854775807 ≤ -(u : Int) ∧ -(u : Int) ≤ 9223372036854775807) by omega), if_neg (show ¬ (-9223372036854775807 ≤ -(u : Int) ∧ -(u : Int) ≤ 9223372036854775807) by omega)]; simp [optV]
theorem numFin2 (D r : List UInt8) (hu : valL (D ++ (r ++ List.replicate (4 - r.length) 48)) = 0) : optV (numOf true D r) = 0 ∧ (numOf true D r).isSome = false := by
  unfold numOf
  rw [hu, if_pos (by simp)]
  simp [optV]
theorem whole_dig {D : List UInt8} (h : digOk D 15 = false) : wholeOk D = false := by simp [wholeOk, h]
theorem whole_one {D : List UInt8} (h : digOk D 15 = true) (h1 : ¬ 1 < D.length) : wholeOk D = true := by simp [wholeOk, h]; left; omega
theorem whole_lead {D : List UInt8} (h1 : 1 < D.length) (hb : 0 < (⟨D.toArray⟩ : ByteArray).size) (a : ((⟨D.toArray⟩ : ByteArray)[0]'hb).toNat = 48) : wholeOk D = false := by
  cases D with
  | nil => simp at h1
  | cons x q =>
    have a' : x.toNat = 48 := a
    obtain rfl : x = 48 := UInt8.toNat_inj.1 a'
    simp at h1
    simp [wholeOk, h1]
theorem whole_more {D : List UInt8} (h : digOk D 15 = true) (h1 : 1 < D.length) (hb : 0 < (⟨D.toArray⟩ : ByteArray).size) (a : ¬ ((⟨D.toArray⟩ : ByteArray)[0]'hb).toNat = 48) : wholeOk D = true := by
  cases D with
  | nil => simp at h1
  | cons x q =>
    have a' : ¬ x.toNat = 48 := a
    have : x ≠ 48 := fun e => a' (by rw [e]; rfl)
    simp [wholeOk, h, this]
end Go.Proofs.Ythobaffgllipfaa
