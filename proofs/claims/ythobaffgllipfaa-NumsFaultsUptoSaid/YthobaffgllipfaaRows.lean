/-
  No cell of these rows narrows 'for every input' (looked for: loops, veiled, ifaces, maps, wideKeys, modest, calm, conditions, laid).
  DERIVED. THE GIVEN ROWS OF THIS SEAT. 4 by the template 'for every input the law returns true; each argument reads behind the call as it read before'; 0 by the template 'total and deterministic' (their statements: YthobaffgllipfaaTotals.lean).
  GIVEN WITH THE SEED: the statements are not yours to turn. If you find one false, say at which input.
  Laid BY PROGRAM, IN A SANDBOX (cutbox-rows.mjs): the forced cells as the released guide's own fill.sh prints them over the translation c98173c510dc4fc5… (all of the seat's roots in one cut). By AI agents, Wed Nov 11 2026. No macro, syntax, notation, axiom, sorry.
-/
import Derived.Test.YthobaffgllipfaaChecked
import GoSem.Claim
import GoSem.ClaimJoined
import GoSem.ClaimMapViews
import Derived.JoinedTies
import Derived.KernelRfl
namespace Go.Proofs.Ythobaffgllipfaa
/- THE CELL 'sum', in the pinned program and in every row, IS THE sha256 OF THE DUMP (.gsa) THAT YthobaffgllipfaaProg.lean LOADS. Nothing in Lean hashes anything: it is a label: what it is worth is what the hold of that sum in a sandbox is worth. -/
noncomputable def Try.pinned : Pinned := { name := "ythobaffgllipfaa", sum := "c98173c510dc4fc584c5c803d3c6bbaad4faa46ff8adf4939fcfad346f731749", checked := Try.checked }
namespace Rows
def none {H : Type} : Left H := { results := [], args := [] }

/-- 'oriellaw08.NumsTakes': WHATEVER THE INPUT: true; the input reads as it did. -/
def numsTakesSpec : ChangeSpec := { name := "numsTakes", fn := fun _ => fun
  | [d1, d2] => { results := [.lit (.bool true)], args := [d1, d2] }
  | _ => none }
def numsTakesRow : OpenClaim := { program := "ythobaffgllipfaa", sum := "c98173c510dc4fc584c5c803d3c6bbaad4faa46ff8adf4939fcfad346f731749", func := "oriel/oriellaw08.NumsTakes", spec := "numsTakes", inPlace := ["math/bits.Add64"], unfollowed := true, recurses := true, named := ["math/bits.divideError", "math/bits.overflowError"], apart := false }
def NumsTakesSaid : Prop := numsTakesRow.holds Try.pinned (OpenSpec.ofChange numsTakesSpec)

/-- ITS FALSE NEIGHBOUR: 'it returns false'. Refute it at one input. -/
def numsTakesWrong : ChangeSpec := { name := "numsTakes", fn := fun _ => fun
  | [d1, d2] => { results := [.lit (.bool false)], args := [d1, d2] }
  | _ => none }
def NumsTakesWrongFalsely : Prop := numsTakesRow.holds Try.pinned (OpenSpec.ofChange numsTakesWrong)

/-- 'oriellaw08.NumsFaults': WHATEVER THE INPUT: true; the input reads as it did. -/
def numsFaultsSpec : ChangeSpec := { name := "numsFaults", fn := fun _ => fun
  | [d1, d2, d3] => { results := [.lit (.bool true)], args := [d1, d2, d3] }
  | _ => none }
def numsFaultsRow : OpenClaim := { program := "ythobaffgllipfaa", sum := "c98173c510dc4fc584c5c803d3c6bbaad4faa46ff8adf4939fcfad346f731749", func := "oriel/oriellaw08.NumsFaults", spec := "numsFaults", inPlace := ["math/bits.Add64"], unfollowed := true, recurses := true, named := ["math/bits.divideError", "math/bits.overflowError"], apart := false }
def NumsFaultsSaid : Prop := numsFaultsRow.holds Try.pinned (OpenSpec.ofChange numsFaultsSpec)

/-- ITS FALSE NEIGHBOUR: 'it returns false'. Refute it at one input. -/
def numsFaultsWrong : ChangeSpec := { name := "numsFaults", fn := fun _ => fun
  | [d1, d2, d3] => { results := [.lit (.bool false)], args := [d1, d2, d3] }
  | _ => none }
def NumsFaultsWrongFalsely : Prop := numsFaultsRow.holds Try.pinned (OpenSpec.ofChange numsFaultsWrong)

/-- 'oriellaw08.NumsParts': WHATEVER THE INPUT: true; the input reads as it did. -/
def numsPartsSpec : ChangeSpec := { name := "numsParts", fn := fun _ => fun
  | [d1, d2] => { results := [.lit (.bool true)], args := [d1, d2] }
  | _ => none }
def numsPartsRow : OpenClaim := { program := "ythobaffgllipfaa", sum := "c98173c510dc4fc584c5c803d3c6bbaad4faa46ff8adf4939fcfad346f731749", func := "oriel/oriellaw08.NumsParts", spec := "numsParts", inPlace := ["math/bits.Add64"], unfollowed := true, recurses := true, named := ["math/bits.divideError", "math/bits.overflowError"], apart := false }
def NumsPartsSaid : Prop := numsPartsRow.holds Try.pinned (OpenSpec.ofChange numsPartsSpec)

/-- ITS FALSE NEIGHBOUR: 'it returns false'. Refute it at one input. -/
def numsPartsWrong : ChangeSpec := { name := "numsParts", fn := fun _ => fun
  | [d1, d2] => { results := [.lit (.bool false)], args := [d1, d2] }
  | _ => none }
def NumsPartsWrongFalsely : Prop := numsPartsRow.holds Try.pinned (OpenSpec.ofChange numsPartsWrong)

/-- 'oriellaw08.NumsDivides': WHATEVER THE INPUT: true; the input reads as it did. -/
def numsDividesSpec : ChangeSpec := { name := "numsDivides", fn := fun _ => fun
  | [d1, d2] => { results := [.lit (.bool true)], args := [d1, d2] }
  | _ => none }
def numsDividesRow : OpenClaim := { program := "ythobaffgllipfaa", sum := "c98173c510dc4fc584c5c803d3c6bbaad4faa46ff8adf4939fcfad346f731749", func := "oriel/oriellaw08.NumsDivides", spec := "numsDivides", inPlace := ["math/bits.Add64"], unfollowed := true, recurses := true, named := ["math/bits.divideError", "math/bits.overflowError"], apart := false }
def NumsDividesSaid : Prop := numsDividesRow.holds Try.pinned (OpenSpec.ofChange numsDividesSpec)

/-- ITS FALSE NEIGHBOUR: 'it returns false'. Refute it at one input. -/
def numsDividesWrong : ChangeSpec := { name := "numsDivides", fn := fun _ => fun
  | [d1, d2] => { results := [.lit (.bool false)], args := [d1, d2] }
  | _ => none }
def NumsDividesWrongFalsely : Prop := numsDividesRow.holds Try.pinned (OpenSpec.ofChange numsDividesWrong)

/- THE SECOND FORM. 'bulk': how many values and letters a reading holds, each counted each time it is reached (what is shared counts as often as it is met; a slice's spare places count too). A statement '..UptoSaid' is the law's where the arguments, and the package variables that the reading takes, are together of bulk at most 1048576: NARROWER than '..Said'. Prove '..Said' where nothing that the law and all that it calls make is longer than what came in: it says more and counts as full. Else prove '..UptoSaid'. A law counts once. -/
mutual
def uptoBulk {H : Type} : DataW H → Nat
  | .lit (.string bytes) => bytes.length + 1
  | .lit _ => 1
  | .nil => 1
  | .ptr d => uptoBulk d + 1
  | .slice elems spare => uptoBulkAll elems + uptoBulkAll spare + 1
  | .agg parts => uptoBulkAll parts + 1
  | .iface _ d => uptoBulk d + 1
  | .map entries => uptoBulkEntries entries + 1
  | .held _ => 1
def uptoBulkAll {H : Type} : List (DataW H) → Nat
  | [] => 0
  | d :: r => uptoBulk d + uptoBulkAll r
def uptoBulkEntries {H : Type} : List (Lit × DataW H) → Nat
  | [] => 0
  | x :: r => uptoBulkEntry x + uptoBulkEntries r
def uptoBulkEntry {H : Type} : Lit × DataW H → Nat
  | (.string bytes, d) => bytes.length + uptoBulk d + 1
  | (_, d) => uptoBulk d + 1
 end
def uptoSmall : (H : Type) → List (DataW H) → Bool := fun _ ds => decide (uptoBulkAll ds ≤ 1048576)
def OpenSpec.upto (s : _root_.Go.ChangeSpec) : _root_.Go.OpenSpec := { _root_.Go.OpenSpec.ofChange s with cond := some uptoSmall }

/-- 'oriellaw08.NumsTakes', WHERE WHAT IT READS IS OF BULK AT MOST 1048576: true; the input reads as it did. -/
def numsTakesUptoRow : OpenClaim := { program := "ythobaffgllipfaa", sum := "c98173c510dc4fc584c5c803d3c6bbaad4faa46ff8adf4939fcfad346f731749", func := "oriel/oriellaw08.NumsTakes", spec := "numsTakes", inPlace := ["math/bits.Add64"], unfollowed := true, recurses := true, named := ["math/bits.divideError", "math/bits.overflowError"], apart := false, narrowed := true }
def NumsTakesUptoSaid : Prop := numsTakesUptoRow.holds Try.pinned (OpenSpec.upto numsTakesSpec)

/-- 'oriellaw08.NumsFaults', WHERE WHAT IT READS IS OF BULK AT MOST 1048576: true; the input reads as it did. -/
def numsFaultsUptoRow : OpenClaim := { program := "ythobaffgllipfaa", sum := "c98173c510dc4fc584c5c803d3c6bbaad4faa46ff8adf4939fcfad346f731749", func := "oriel/oriellaw08.NumsFaults", spec := "numsFaults", inPlace := ["math/bits.Add64"], unfollowed := true, recurses := true, named := ["math/bits.divideError", "math/bits.overflowError"], apart := false, narrowed := true }
def NumsFaultsUptoSaid : Prop := numsFaultsUptoRow.holds Try.pinned (OpenSpec.upto numsFaultsSpec)

/-- 'oriellaw08.NumsParts', WHERE WHAT IT READS IS OF BULK AT MOST 1048576: true; the input reads as it did. -/
def numsPartsUptoRow : OpenClaim := { program := "ythobaffgllipfaa", sum := "c98173c510dc4fc584c5c803d3c6bbaad4faa46ff8adf4939fcfad346f731749", func := "oriel/oriellaw08.NumsParts", spec := "numsParts", inPlace := ["math/bits.Add64"], unfollowed := true, recurses := true, named := ["math/bits.divideError", "math/bits.overflowError"], apart := false, narrowed := true }
def NumsPartsUptoSaid : Prop := numsPartsUptoRow.holds Try.pinned (OpenSpec.upto numsPartsSpec)

/-- 'oriellaw08.NumsDivides', WHERE WHAT IT READS IS OF BULK AT MOST 1048576: true; the input reads as it did. -/
def numsDividesUptoRow : OpenClaim := { program := "ythobaffgllipfaa", sum := "c98173c510dc4fc584c5c803d3c6bbaad4faa46ff8adf4939fcfad346f731749", func := "oriel/oriellaw08.NumsDivides", spec := "numsDivides", inPlace := ["math/bits.Add64"], unfollowed := true, recurses := true, named := ["math/bits.divideError", "math/bits.overflowError"], apart := false, narrowed := true }
def NumsDividesUptoSaid : Prop := numsDividesUptoRow.holds Try.pinned (OpenSpec.upto numsDividesSpec)

end Rows
end Go.Proofs.Ythobaffgllipfaa
