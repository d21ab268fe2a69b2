/-
  The plain law of names: a text is read as a cell just if it is that cell's name. No program in sight.
-/
import Derived.Lib.ItoaNum
import Derived.Lib.ItoaMem
namespace Go.Proofs.YtdnocmpjclafdaaDoor
open Go

def mayN (r c : Nat) : Bool := decide (1 ≤ r) && decide (r ≤ 4096) && decide (1 ≤ c) && decide (c ≤ 256)

/-- one letter read: the column, the row, how many digits -/
def stp : Option (Nat × Nat × Nat) → UInt8 → Option (Nat × Nat × Nat)
  | .none, _ => .none
  | some (c, r, d), b =>
    if 65 ≤ b.toNat ∧ b.toNat ≤ 90 ∧ d = 0 then some (c * 26 + (b.toNat - 65) + 1, r, d)
    else if 48 ≤ b.toNat ∧ b.toNat ≤ 57 then (if d = 0 ∧ b.toNat = 48 then .none else some (c, r * 10 + (b.toNat - 48), d + 1))
    else .none
def runL (l : List UInt8) : Option (Nat × Nat × Nat) := l.foldl stp (some (0, 0, 0))
def fin : Option (Nat × Nat × Nat) → Option (Nat × Nat)
  | .none => .none
  | some (c, r, _) => if mayN r c then some (r, c) else .none
def parse (l : List UInt8) : Option (Nat × Nat) := if 6 < l.length then .none else fin (runL l)

end Go.Proofs.YtdnocmpjclafdaaDoor
