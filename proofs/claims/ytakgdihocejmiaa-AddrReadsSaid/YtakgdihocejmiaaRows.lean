/-
  No cell of these rows narrows 'for every input' (looked for: loops, veiled, ifaces, maps, wideKeys, modest, calm, conditions, laid).
  DERIVED. THE GIVEN ROWS OF THIS SEAT. 7 by the template 'for every input the law returns true; each argument reads behind the call as it read before'; 0 by the template 'total and deterministic' (their statements: YtakgdihocejmiaaTotals.lean).
  GIVEN WITH THE SEED: the statements are not yours to turn. If you find one false, say at which input.
  Laid BY PROGRAM, IN A SANDBOX (cutbox-rows.mjs): the forced cells as the released guide's own fill.sh prints them over the translation cc7d5b7a1d1364a0… (all of the seat's roots in one cut). By AI agents, Wed Nov 11 2026. No macro, syntax, notation, axiom, sorry.
-/
import Derived.Test.YtakgdihocejmiaaChecked
import GoSem.Claim
import GoSem.ClaimJoined
import GoSem.ClaimMapViews
import Derived.JoinedTies
import Derived.KernelRfl
namespace Go.Proofs.Ytakgdihocejmiaa
/- THE CELL 'sum', in the pinned program and in every row, IS THE sha256 OF THE DUMP (.gsa) THAT YtakgdihocejmiaaProg.lean LOADS. Nothing in Lean hashes anything: it is a label: what it is worth is what the hold of that sum in a sandbox is worth. -/
noncomputable def Try.pinned : Pinned := { name := "ytakgdihocejmiaa", sum := "cc7d5b7a1d1364a05b30e6ead77d744ca2c8e9c9a1891f3b1bacff53c92b2deb", checked := Try.checked }
namespace Rows
def none {H : Type} : Left H := { results := [], args := [] }

/-- 'oriellaw03.AddrIn': WHATEVER THE INPUT: true; the input reads as it did. -/
def addrInSpec : ChangeSpec := { name := "addrIn", fn := fun _ => fun
  | [d1, d2] => { results := [.lit (.bool true)], args := [d1, d2] }
  | _ => none }
def addrInRow : OpenClaim := { program := "ytakgdihocejmiaa", sum := "cc7d5b7a1d1364a05b30e6ead77d744ca2c8e9c9a1891f3b1bacff53c92b2deb", func := "oriel/oriellaw03.AddrIn", spec := "addrIn", apart := false }
def AddrInSaid : Prop := addrInRow.holds Try.pinned (OpenSpec.ofChange addrInSpec)

/-- ITS FALSE NEIGHBOUR: 'it returns false'. Refute it at one input. -/
def addrInWrong : ChangeSpec := { name := "addrIn", fn := fun _ => fun
  | [d1, d2] => { results := [.lit (.bool false)], args := [d1, d2] }
  | _ => none }
def AddrInWrongFalsely : Prop := addrInRow.holds Try.pinned (OpenSpec.ofChange addrInWrong)

/-- 'oriellaw03.AddrOrder': WHATEVER THE INPUT: true; the input reads as it did. -/
def addrOrderSpec : ChangeSpec := { name := "addrOrder", fn := fun _ => fun
  | [d1, d2, d3] => { results := [.lit (.bool true)], args := [d1, d2, d3] }
  | _ => none }
def addrOrderRow : OpenClaim := { program := "ytakgdihocejmiaa", sum := "cc7d5b7a1d1364a05b30e6ead77d744ca2c8e9c9a1891f3b1bacff53c92b2deb", func := "oriel/oriellaw03.AddrOrder", spec := "addrOrder", apart := false }
def AddrOrderSaid : Prop := addrOrderRow.holds Try.pinned (OpenSpec.ofChange addrOrderSpec)

/-- ITS FALSE NEIGHBOUR: 'it returns false'. Refute it at one input. -/
def addrOrderWrong : ChangeSpec := { name := "addrOrder", fn := fun _ => fun
  | [d1, d2, d3] => { results := [.lit (.bool false)], args := [d1, d2, d3] }
  | _ => none }
def AddrOrderWrongFalsely : Prop := addrOrderRow.holds Try.pinned (OpenSpec.ofChange addrOrderWrong)

/-- 'oriellaw03.AddrMay': WHATEVER THE INPUT: true; the input reads as it did. -/
def addrMaySpec : ChangeSpec := { name := "addrMay", fn := fun _ => fun
  | [d1, d2] => { results := [.lit (.bool true)], args := [d1, d2] }
  | _ => none }
def addrMayRow : OpenClaim := { program := "ytakgdihocejmiaa", sum := "cc7d5b7a1d1364a05b30e6ead77d744ca2c8e9c9a1891f3b1bacff53c92b2deb", func := "oriel/oriellaw03.AddrMay", spec := "addrMay", apart := false }
def AddrMaySaid : Prop := addrMayRow.holds Try.pinned (OpenSpec.ofChange addrMaySpec)

/-- ITS FALSE NEIGHBOUR: 'it returns false'. Refute it at one input. -/
def addrMayWrong : ChangeSpec := { name := "addrMay", fn := fun _ => fun
  | [d1, d2] => { results := [.lit (.bool false)], args := [d1, d2] }
  | _ => none }
def AddrMayWrongFalsely : Prop := addrMayRow.holds Try.pinned (OpenSpec.ofChange addrMayWrong)

/-- 'oriellaw03.AddrSpans': WHATEVER THE INPUT: true; the input reads as it did. -/
def addrSpansSpec : ChangeSpec := { name := "addrSpans", fn := fun _ => fun
  | [d1, d2] => { results := [.lit (.bool true)], args := [d1, d2] }
  | _ => none }
def addrSpansRow : OpenClaim := { program := "ytakgdihocejmiaa", sum := "cc7d5b7a1d1364a05b30e6ead77d744ca2c8e9c9a1891f3b1bacff53c92b2deb", func := "oriel/oriellaw03.AddrSpans", spec := "addrSpans", apart := false }
def AddrSpansSaid : Prop := addrSpansRow.holds Try.pinned (OpenSpec.ofChange addrSpansSpec)

/-- ITS FALSE NEIGHBOUR: 'it returns false'. Refute it at one input. -/
def addrSpansWrong : ChangeSpec := { name := "addrSpans", fn := fun _ => fun
  | [d1, d2] => { results := [.lit (.bool false)], args := [d1, d2] }
  | _ => none }
def AddrSpansWrongFalsely : Prop := addrSpansRow.holds Try.pinned (OpenSpec.ofChange addrSpansWrong)

/-- 'oriellaw03.AddrLeast': WHATEVER THE INPUT: true; the input reads as it did. -/
def addrLeastSpec : ChangeSpec := { name := "addrLeast", fn := fun _ => fun
  | [d1, d2] => { results := [.lit (.bool true)], args := [d1, d2] }
  | _ => none }
def addrLeastRow : OpenClaim := { program := "ytakgdihocejmiaa", sum := "cc7d5b7a1d1364a05b30e6ead77d744ca2c8e9c9a1891f3b1bacff53c92b2deb", func := "oriel/oriellaw03.AddrLeast", spec := "addrLeast", apart := false }
def AddrLeastSaid : Prop := addrLeastRow.holds Try.pinned (OpenSpec.ofChange addrLeastSpec)

/-- ITS FALSE NEIGHBOUR: 'it returns false'. Refute it at one input. -/
def addrLeastWrong : ChangeSpec := { name := "addrLeast", fn := fun _ => fun
  | [d1, d2] => { results := [.lit (.bool false)], args := [d1, d2] }
  | _ => none }
def AddrLeastWrongFalsely : Prop := addrLeastRow.holds Try.pinned (OpenSpec.ofChange addrLeastWrong)

/-- 'oriellaw03.AddrCuts': WHATEVER THE INPUT: true; the input reads as it did. -/
def addrCutsSpec : ChangeSpec := { name := "addrCuts", fn := fun _ => fun
  | [d1, d2, d3] => { results := [.lit (.bool true)], args := [d1, d2, d3] }
  | _ => none }
def addrCutsRow : OpenClaim := { program := "ytakgdihocejmiaa", sum := "cc7d5b7a1d1364a05b30e6ead77d744ca2c8e9c9a1891f3b1bacff53c92b2deb", func := "oriel/oriellaw03.AddrCuts", spec := "addrCuts", apart := false }
def AddrCutsSaid : Prop := addrCutsRow.holds Try.pinned (OpenSpec.ofChange addrCutsSpec)

/-- ITS FALSE NEIGHBOUR: 'it returns false'. Refute it at one input. -/
def addrCutsWrong : ChangeSpec := { name := "addrCuts", fn := fun _ => fun
  | [d1, d2, d3] => { results := [.lit (.bool false)], args := [d1, d2, d3] }
  | _ => none }
def AddrCutsWrongFalsely : Prop := addrCutsRow.holds Try.pinned (OpenSpec.ofChange addrCutsWrong)

/-- 'oriellaw03.AddrReads': WHATEVER THE INPUT: true; the input reads as it did. -/
def addrReadsSpec : ChangeSpec := { name := "addrReads", fn := fun _ => fun
  | [d] => { results := [.lit (.bool true)], args := [d] }
  | _ => none }
def addrReadsRow : OpenClaim := { program := "ytakgdihocejmiaa", sum := "cc7d5b7a1d1364a05b30e6ead77d744ca2c8e9c9a1891f3b1bacff53c92b2deb", func := "oriel/oriellaw03.AddrReads", spec := "addrReads", inPlace := ["internal/bytealg.IndexByteString", "internal/bytealg.IndexString"], named := ["internal/bytealg.MaxLen"], apart := false }
def AddrReadsSaid : Prop := addrReadsRow.holds Try.pinned (OpenSpec.ofChange addrReadsSpec)

/-- ITS FALSE NEIGHBOUR: 'it returns false'. Refute it at one input. -/
def addrReadsWrong : ChangeSpec := { name := "addrReads", fn := fun _ => fun
  | [d] => { results := [.lit (.bool false)], args := [d] }
  | _ => none }
def AddrReadsWrongFalsely : Prop := addrReadsRow.holds Try.pinned (OpenSpec.ofChange addrReadsWrong)

/- THE SECOND FORM. 'bulk': how many values and letters a reading holds, each counted each time it is reached (what is shared counts as often as it is met; a slice's spare places count too). A statement '..UptoSaid' is the law's where the arguments, and the package variables that the reading takes, are together of bulk at most 1048576: NARROWER than '..Said'. Prove '..Said' where nothing that the law and all that it calls make is longer than what came in: it says more and counts as full. Else prove '..UptoSaid'. A law counts once. -/
mutual
def uptoBulk {H : Type} : DataW H → Nat
  | .lit (.string bytes) => bytes.length + 1
  | .lit _ => 1
  | .nil => 1
  | .ptr d => uptoBulk d + 1
  | .slice elems spare => uptoBulkAll elems + uptoBulkAll spare + 1
  | .agg parts => uptoBulkAll parts + 1
  | .iface _ d => uptoBulk d + 1
  | .map entries => uptoBulkEntries entries + 1
  | .held _ => 1
def uptoBulkAll {H : Type} : List (DataW H) → Nat
  | [] => 0
  | d :: r => uptoBulk d + uptoBulkAll r
def uptoBulkEntries {H : Type} : List (Lit × DataW H) → Nat
  | [] => 0
  | x :: r => uptoBulkEntry x + uptoBulkEntries r
def uptoBulkEntry {H : Type} : Lit × DataW H → Nat
  | (.string bytes, d) => bytes.length + uptoBulk d + 1
  | (_, d) => uptoBulk d + 1
 end
def uptoSmall : (H : Type) → List (DataW H) → Bool := fun _ ds => decide (uptoBulkAll ds ≤ 1048576)
def OpenSpec.upto (s : _root_.Go.ChangeSpec) : _root_.Go.OpenSpec := { _root_.Go.OpenSpec.ofChange s with cond := some uptoSmall }

/-- 'oriellaw03.AddrIn', WHERE WHAT IT READS IS OF BULK AT MOST 1048576: true; the input reads as it did. -/
def addrInUptoRow : OpenClaim := { program := "ytakgdihocejmiaa", sum := "cc7d5b7a1d1364a05b30e6ead77d744ca2c8e9c9a1891f3b1bacff53c92b2deb", func := "oriel/oriellaw03.AddrIn", spec := "addrIn", apart := false, narrowed := true }
def AddrInUptoSaid : Prop := addrInUptoRow.holds Try.pinned (OpenSpec.upto addrInSpec)

/-- 'oriellaw03.AddrOrder', WHERE WHAT IT READS IS OF BULK AT MOST 1048576: true; the input reads as it did. -/
def addrOrderUptoRow : OpenClaim := { program := "ytakgdihocejmiaa", sum := "cc7d5b7a1d1364a05b30e6ead77d744ca2c8e9c9a1891f3b1bacff53c92b2deb", func := "oriel/oriellaw03.AddrOrder", spec := "addrOrder", apart := false, narrowed := true }
def AddrOrderUptoSaid : Prop := addrOrderUptoRow.holds Try.pinned (OpenSpec.upto addrOrderSpec)

/-- 'oriellaw03.AddrMay', WHERE WHAT IT READS IS OF BULK AT MOST 1048576: true; the input reads as it did. -/
def addrMayUptoRow : OpenClaim := { program := "ytakgdihocejmiaa", sum := "cc7d5b7a1d1364a05b30e6ead77d744ca2c8e9c9a1891f3b1bacff53c92b2deb", func := "oriel/oriellaw03.AddrMay", spec := "addrMay", apart := false, narrowed := true }
def AddrMayUptoSaid : Prop := addrMayUptoRow.holds Try.pinned (OpenSpec.upto addrMaySpec)

/-- 'oriellaw03.AddrSpans', WHERE WHAT IT READS IS OF BULK AT MOST 1048576: true; the input reads as it did. -/
def addrSpansUptoRow : OpenClaim := { program := "ytakgdihocejmiaa", sum := "cc7d5b7a1d1364a05b30e6ead77d744ca2c8e9c9a1891f3b1bacff53c92b2deb", func := "oriel/oriellaw03.AddrSpans", spec := "addrSpans", apart := false, narrowed := true }
def AddrSpansUptoSaid : Prop := addrSpansUptoRow.holds Try.pinned (OpenSpec.upto addrSpansSpec)

/-- 'oriellaw03.AddrLeast', WHERE WHAT IT READS IS OF BULK AT MOST 1048576: true; the input reads as it did. -/
def addrLeastUptoRow : OpenClaim := { program := "ytakgdihocejmiaa", sum := "cc7d5b7a1d1364a05b30e6ead77d744ca2c8e9c9a1891f3b1bacff53c92b2deb", func := "oriel/oriellaw03.AddrLeast", spec := "addrLeast", apart := false, narrowed := true }
def AddrLeastUptoSaid : Prop := addrLeastUptoRow.holds Try.pinned (OpenSpec.upto addrLeastSpec)

/-- 'oriellaw03.AddrCuts', WHERE WHAT IT READS IS OF BULK AT MOST 1048576: true; the input reads as it did. -/
def addrCutsUptoRow : OpenClaim := { program := "ytakgdihocejmiaa", sum := "cc7d5b7a1d1364a05b30e6ead77d744ca2c8e9c9a1891f3b1bacff53c92b2deb", func := "oriel/oriellaw03.AddrCuts", spec := "addrCuts", apart := false, narrowed := true }
def AddrCutsUptoSaid : Prop := addrCutsUptoRow.holds Try.pinned (OpenSpec.upto addrCutsSpec)

/-- 'oriellaw03.AddrReads', WHERE WHAT IT READS IS OF BULK AT MOST 1048576: true; the input reads as it did. -/
def addrReadsUptoRow : OpenClaim := { program := "ytakgdihocejmiaa", sum := "cc7d5b7a1d1364a05b30e6ead77d744ca2c8e9c9a1891f3b1bacff53c92b2deb", func := "oriel/oriellaw03.AddrReads", spec := "addrReads", inPlace := ["internal/bytealg.IndexByteString", "internal/bytealg.IndexString"], named := ["internal/bytealg.MaxLen"], apart := false, narrowed := true }
def AddrReadsUptoSaid : Prop := addrReadsUptoRow.holds Try.pinned (OpenSpec.upto addrReadsSpec)

end Rows
end Go.Proofs.Ytakgdihocejmiaa
