/-
  The plain law of numbers' texts, written: the four digits of a rest. No program in sight.
-/
import Derived.Lib.ItoaMem
import Derived.Lib.TrimByte
namespace Go.Proofs.YtiekhbagpmnboaaGreatDoor
open Go

/-- four digits -/
def four (r : Nat) : List UInt8 := [UInt8.ofNat (48 + r / 1000), UInt8.ofNat (48 + r / 100 % 10), UInt8.ofNat (48 + r / 10 % 10), UInt8.ofNat (48 + r % 10)]
end Go.Proofs.YtiekhbagpmnboaaGreatDoor
