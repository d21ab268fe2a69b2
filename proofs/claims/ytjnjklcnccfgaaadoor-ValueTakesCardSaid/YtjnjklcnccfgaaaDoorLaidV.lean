/-
  The witness' world of this seat's cards of package value; the table of powers of ten out of a row's list.
-/
import Derived.Test.YtjnjklcnccfgaaaDoorCards
import Derived.Test.YtjnjklcnccfgaaaDoorTie
import Derived.Test.YtjnjklcnccfgaaaDoorLVal
import Derived.Deep.DeepHandedRow
import Derived.Lib.LaidTab
namespace Go.Proofs.YtjnjklcnccfgaaaDoor
open Go.ChangeShapes Go.WideShapes Go.ChangeAt Go.RowKit
open Go.ChangeMaps (open_string)

/-- a table's cells, as they are laid -/
def setCells (cs : Array Value) : Obj → Obj
  | .cells _ t frozen => .cells cs t frozen
  | o => o
/-- the cells of a table of integers -/
def flatD : Nat → DataW Unit → List Value
  | _, .lit (.int k v) => [.int k v]
  | n + 1, .agg l => (l.map (flatD n)).flatten
  | _, _ => []
/-- a world for the witness: the settled one, each listed table as the text lays it -/
noncomputable def laidWorld (os : Os) : World :=
  { World.holding Tryd.prog os ⟨#[], #[], []⟩ with heap := ((((((World.holding Tryd.prog os ⟨#[], #[], []⟩).heap.modify 8 (setCells (flatD 9 (Rows.laid_math_bits_deBruijn32tab : DataW Unit)).toArray)).modify 9 (setCells (flatD 9 (Rows.laid_math_bits_deBruijn64tab : DataW Unit)).toArray)).modify 5 (setCells (flatD 9 (Rows.laid_internal_strconv_uint64pow10 : DataW Unit)).toArray)).modify 7 (setCells (flatD 9 (Rows.laid_unicode_utf8_acceptRanges : DataW Unit)).toArray)).modify 6 (setCells (flatD 9 (Rows.laid_unicode_utf8_first : DataW Unit)).toArray)) }
theorem laidMet_tail {P : Program} {W : World} {x : String × DataW Unit} {rest : List (String × DataW Unit)} (h : laidMet P (x :: rest) W) : laidMet P rest W := by
  obtain ⟨ps, ⟨g, t, cs, fuel, p, q, h1, h2, h3, h4, h5, e⟩, hn, hc⟩ := h
  exact ⟨q, h5, (by rw [e] at hn; exact (List.nodup_append.1 hn).2.1), fun b off hq => hc b off (by rw [e]; simp [hq])⟩
theorem cellsTab : Tryd.prog.cellsOf 136 = 20 := by kernel_rfl
theorem cellsU64 : Tryd.prog.cellsOf 77 = 1 := by kernel_rfl
theorem typePow : (Tryd.prog.globals[5]?).map (·.type) = some 136 := by kernel_rfl
theorem tab_of {rest : List (String × DataW Unit)} {W : World} (h : laidMet Tryd.prog (("internal/strconv.uint64pow10", Lib.tabData .u64 Lib.pow10Tab) :: rest) W) : Tab W :=
  Lib.tabIs_of_head gPow typePow Tryd.underlying136 Tryd.underlying77 cellsU64 cellsTab h
end Go.Proofs.YtjnjklcnccfgaaaDoor
