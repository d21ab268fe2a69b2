/-
  The witness' world of this seat's cards; the table of powers of ten out of a row's list.
-/
import Derived.Test.YtfbkoieodflcpaaDoorCards
import Derived.Test.YtfbkoieodflcpaaDoorTie
import Derived.Test.YtfbkoieodflcpaaDoorRows
import Derived.Test.YtfbkoieodflcpaaDoorBase
import Derived.Test.YtfbkoieodflcpaaDoorProg
import Derived.Test.YtfbkoieodflcpaaDoorShelf
import Derived.Test.YtfbkoieodflcpaaDoorFmtU
import Derived.Deep.DeepHandedRow
import Derived.Lib.LaidTab
import Derived.Shelf.Vars
import Derived.WalkKit
import Derived.ProofKit
import Derived.OpenShut
import Derived.Carry
import Derived.ChangeSame
import Derived.Lib.Hide
import Derived.Deep.Draws
import Derived.Shelf.Strings.Builder1
import Derived.Shelf.Strings.Builder2
import Derived.Shelf.Strings.Trim
import Derived.Shelf.Small.Utf8
import Derived.Shelf.Small.Strs
import Derived.Shelf.Strings.BuilderF
import Derived.Shelf.Strings.BuilderK
import Derived.Shelf.Strconv.Itoa0
import Derived.Shelf.Strconv.Itoa1
import Derived.Shelf.LaysM
import Derived.Shelf.Strconv.Itoa2
import Derived.Shelf.Strconv.Itoa3
import Derived.Shelf.Strings.Search1
import Derived.Shelf.Strings.Search2
import Derived.Shelf.Strings.Search3
import Derived.Shelf.Strings.Count
import Derived.Shelf.Strings.Shaped
import Derived.Shelf.Strings.Split
import Derived.Shelf.Strings.Replace
import Derived.Shelf.Strings.Runes
import Derived.Shelf.Strings.AsciiSet
import Derived.Shelf.Unicode.DecodeSlow
import Derived.WalkSpells
import Derived.WalkLawsBesides
import Derived.StillTactics
import Derived.Laws.Pointers
import Derived.Deep.RegionHeld3
import Derived.Deep.QuietTactic
import Derived.BigQuiet
import Derived.RowKit3
import Derived.Lib.OthersKept
import Derived.OwnWalk
import Derived.Lib.IndexLaws
import Derived.Lib.ItoaMem
namespace Go.Proofs.YtfbkoieodflcpaaDoor
open Go.ChangeShapes Go.WideShapes Go.ChangeAt Go.RowKit
open Go.ChangeMaps (open_string)

/-- a table's cells, as they are laid -/
def setCellsD (cs : Array Value) : Obj → Obj
  | .cells _ t frozen => .cells cs t frozen
  | o => o
/-- the cells of a table of integers -/
def flatDD : Nat → DataW Unit → List Value
  | _, .lit (.int k v) => [.int k v]
  | n + 1, .agg l => (l.map (flatDD n)).flatten
  | _, _ => []
/-- a world for the witness: the settled one, each listed variable as the text lays it -/
noncomputable def laidWorldD (os : Os) : World :=
  let w0 := World.holding Tryd.prog os ⟨#[], #[], []⟩
  { w0 with heap := (((((w0.heap.modify 4 (setCellsD (flatDD 9 (Rows.laid_math_bits_deBruijn32tab : DataW Unit)).toArray)).modify 5 (setCellsD (flatDD 9 (Rows.laid_math_bits_deBruijn64tab : DataW Unit)).toArray)).modify 0 (setCellsD (flatDD 9 (Rows.laid_internal_strconv_uint64pow10 : DataW Unit)).toArray)).modify 3 (setCellsD (flatDD 9 (Rows.laid_unicode_utf8_acceptRanges : DataW Unit)).toArray)).modify 2 (setCellsD (flatDD 9 (Rows.laid_unicode_utf8_first : DataW Unit)).toArray)) }
theorem laidMet_tailD {P : Program} {W : World} {x : String × DataW Unit} {rest : List (String × DataW Unit)} (h : laidMet P (x :: rest) W) : laidMet P rest W := by
  obtain ⟨ps, ⟨g, t, cs, fuel, p, q, h1, h2, h3, h4, h5, e⟩, hn, hc⟩ := h
  exact ⟨q, h5, (by rw [e] at hn; exact (List.nodup_append.1 hn).2.1), fun b off hq => hc b off (by rw [e]; simp [hq])⟩
theorem cellsTabD : Tryd.prog.cellsOf 125 = 20 := by kernel_rfl
theorem cellsU64D : Tryd.prog.cellsOf 84 = 1 := by kernel_rfl
theorem typePowD : (Tryd.prog.globals[0]?).map (·.type) = some 125 := by kernel_rfl
theorem tab_ofD {rest : List (String × DataW Unit)} {W : World} (h : laidMet Tryd.prog (("internal/strconv.uint64pow10", Lib.tabData .u64 Lib.pow10Tab) :: rest) W) (hs : W.ShapedOpen Tryd.prog) : Tab W :=
  ⟨Lib.tabIs_of_head gPow typePowD Tryd.underlying125 Tryd.underlying84 cellsU64D cellsTabD h,
    cell_of_shapedOpen_int (zero := #[.int .i64 0]) (t := 3) hs (of_decide_eq_true (by kernel_rfl)) (by kernel_rfl) rfl (by kernel_rfl) (by kernel_rfl) Tryd.underlying3⟩
end Go.Proofs.YtfbkoieodflcpaaDoor
