/-
  The plain law of numbers' texts, read. No program in sight.
-/
import Derived.Test.YtfbkoieodflcpaaDoorPrintL
import Derived.Lib.IndexLaws
import Derived.Lib.SlTrimSet
import Derived.Lib.ParseIntB
import Derived.Lib.ItoaMem
import Derived.Lib.TrimByte
namespace Go.Proofs.YtfbkoieodflcpaaDoor
open Go

def isDig (b : UInt8) : Bool := decide (48 ≤ b.toNat) && decide (b.toNat ≤ 57)
end Go.Proofs.YtfbkoieodflcpaaDoor
