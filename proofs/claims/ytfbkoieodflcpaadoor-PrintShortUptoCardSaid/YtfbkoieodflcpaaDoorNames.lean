/-
  The plain law of names: a text is read as a cell just if it is that cell's name. No program in sight.
-/
import Derived.Lib.ItoaNum
import Derived.Lib.ItoaMem
namespace Go.Proofs.YtfbkoieodflcpaaDoor
open Go

/-- a column's name -/
def colL (c : Nat) : List UInt8 := if c ≤ 26 then [UInt8.ofNat (64 + c)] else [UInt8.ofNat (65 + (c - 27) / 26), UInt8.ofNat (65 + (c - 27) % 26)]
/-- a cell's name -/
def nameL (r c : Nat) : List UInt8 := colL c ++ Lib.decDigits r
def mayN (r c : Nat) : Bool := decide (1 ≤ r) && decide (r ≤ 4096) && decide (1 ≤ c) && decide (c ≤ 256)

theorem dec_snoc {r : Nat} (h : 10 ≤ r) : Lib.decDigits r = Lib.decDigits (r / 10) ++ [UInt8.ofNat (48 + r % 10)] := by
  rw [Lib.decDigits, dif_neg (by omega)]
theorem dec_len {r : Nat} (h2 : r ≤ 9999) : (Lib.decDigits r).length ≤ 4 := by
  by_cases a : r < 10
  · rw [Lib.decDigits_one a]; simp
  rw [dec_snoc (by omega)]
  by_cases b : r / 10 < 10
  · rw [Lib.decDigits_one b]; simp
  rw [dec_snoc (by omega)]
  by_cases c : r / 10 / 10 < 10
  · rw [Lib.decDigits_one c]; simp
  rw [dec_snoc (by omega)]
  rw [Lib.decDigits_one (by omega)]
  simp
theorem col_len (c : Nat) : 1 ≤ (colL c).length ∧ (colL c).length ≤ 2 := by unfold colL; split <;> simp
theorem mayN_of {r c : Nat} (h : mayN r c = true) : 1 ≤ r ∧ r ≤ 4096 ∧ 1 ≤ c ∧ c ≤ 256 := by simpa [mayN, and_assoc] using h

end Go.Proofs.YtfbkoieodflcpaaDoor
