/-
  strconv.FormatUint at base 10: the decimal numeral, for every uint64; The witness' world of this seat's cards of package dec; the table of powers of ten out of a row's list; oriellaw04: LexLeaves of a text.
-/
import Derived.Test.YtiekhbagpmnboaaGreatDoorRows
import Derived.Test.YtiekhbagpmnboaaGreatDoorBase
import Derived.Test.YtiekhbagpmnboaaGreatDoorProg
import Derived.Test.YtiekhbagpmnboaaGreatDoorShelf
import Derived.Test.YtiekhbagpmnboaaGreatDoorCards
import Derived.Test.YtiekhbagpmnboaaGreatDoorTie
import Derived.Test.YtiekhbagpmnboaaGreatDoorPrintL
import Derived.Test.YtiekhbagpmnboaaGreatDoorNumL
import Derived.Test.YtiekhbagpmnboaaGreatDoorCutW
import Derived.Test.YtiekhbagpmnboaaGreatDoorAddrC
import Derived.Test.YtiekhbagpmnboaaGreatDoorNames
import Derived.Test.YtiekhbagpmnboaaGreatDoorParseW
import Derived.Test.YtiekhbagpmnboaaGreatDoorPRect
import Derived.Test.YtiekhbagpmnboaaGreatDoorDecA
import Derived.Test.YtiekhbagpmnboaaGreatDoorValA
import Derived.Test.YtiekhbagpmnboaaGreatDoorValB
import Derived.Test.YtiekhbagpmnboaaGreatDoorValD
import Derived.Test.YtiekhbagpmnboaaGreatDoorLexP
import Derived.Test.YtiekhbagpmnboaaGreatDoorLexW
import Derived.Test.YtiekhbagpmnboaaGreatDoorRefName
import Derived.Test.YtiekhbagpmnboaaGreatDoorLexR
import Derived.Test.YtiekhbagpmnboaaGreatDoorLexWd
import Derived.Test.YtiekhbagpmnboaaGreatDoorLexSg
import Derived.Test.YtiekhbagpmnboaaGreatDoorLexQ
import Derived.Test.YtiekhbagpmnboaaGreatDoorMg21
import Derived.Test.YtiekhbagpmnboaaGreatDoorLexQt
import Derived.Test.YtiekhbagpmnboaaGreatDoorLexS
import Derived.Test.YtiekhbagpmnboaaGreatDoorDDig
import Derived.Test.YtiekhbagpmnboaaGreatDoorDParse
import Derived.Test.YtiekhbagpmnboaaGreatDoorLexF
import Derived.Test.YtiekhbagpmnboaaGreatDoorRParse
import Derived.Test.YtiekhbagpmnboaaGreatDoorRPRect
import Derived.Test.YtiekhbagpmnboaaGreatDoorLexN
import Derived.Test.YtiekhbagpmnboaaGreatDoorMg30
import Derived.Test.YtiekhbagpmnboaaGreatDoorMg31
import Derived.Test.YtiekhbagpmnboaaGreatDoorRDPar
import Derived.Test.YtiekhbagpmnboaaGreatDoorRDParB
import Derived.Test.YtiekhbagpmnboaaGreatDoorRDJoin
import Derived.Test.YtiekhbagpmnboaaGreatDoorValK
import Derived.Test.YtiekhbagpmnboaaGreatDoorLexD
import Derived.Test.YtiekhbagpmnboaaGreatDoorLexA
import Derived.Test.YtiekhbagpmnboaaGreatDoorLexB
import Derived.Test.YtiekhbagpmnboaaGreatDoorRowB
import Derived.Test.YtiekhbagpmnboaaGreatDoorMapK
import Derived.Test.YtiekhbagpmnboaaGreatDoorTokR
import Derived.Test.YtiekhbagpmnboaaGreatDoorLexC
import Derived.Test.YtiekhbagpmnboaaGreatDoorLexI
import Derived.Test.YtiekhbagpmnboaaGreatDoorLexL
import Derived.Test.YtiekhbagpmnboaaGreatDoorLexT
import Derived.Test.YtiekhbagpmnboaaGreatDoorLexTk
import Derived.Test.YtiekhbagpmnboaaGreatDoorLLea
import Derived.WalkSpells
import Derived.WalkLawsBesides
import Derived.StillTactics
import Derived.Laws.Pointers
import Derived.Deep.RegionHeld3
import Derived.Deep.QuietTactic
import Derived.BigQuiet
import Derived.RowKit3
import Derived.Lib.Hide
import Derived.Lib.OthersKept
import Derived.OwnWalk
import Derived.Lib.IndexLaws
import Derived.Lib.ItoaMem
import Derived.WalkKit
import Derived.ProofKit
import Derived.OpenShut
import Derived.Carry
import Derived.ChangeSame
import Derived.Deep.Draws
import Derived.Shelf.Strings.Builder1
import Derived.Shelf.Strings.Trim
import Derived.Shelf.Small.Utf8
import Derived.Shelf.Small.Strs
import Derived.Shelf.Small.Wraps
import Derived.Shelf.Strings.BuilderF
import Derived.Shelf.Strings.BuilderK
import Derived.Shelf.Strconv.Itoa0
import Derived.Shelf.Strconv.Itoa1
import Derived.Shelf.LaysM
import Derived.Shelf.Strconv.Itoa2
import Derived.Shelf.Strconv.Itoa3
import Derived.Ground.MpProg
import Derived.Shelf.Pu.ParseUintPublic10
import Derived.Shelf.Strings.Search1
import Derived.Shelf.Strings.Search2
import Derived.Shelf.Strings.Cut
import Derived.Shelf.Strings.Shaped
import Derived.Shelf.Strings.Prefix
import Derived.Shelf.Strings.Runes
import Derived.Shelf.Strings.AsciiSet
import Derived.Shelf.Unicode.DecodeSlow
import Derived.Deep.DeepHandedRow
import Derived.Lib.LaidTab
import Derived.Shelf.Vars
import Derived.Lib.TrimByte
import Derived.Lib.SlTrimSet
import Derived.Lib.ParseIntB
import Derived.Lib.ItoaNum
import Derived.Shelf.Strings.SlTrimAscii
import Derived.Lib.SmallJoins
import Derived.Maps.OwnSet
import Derived.Maps.AppendAt
import Derived.RangeFuncBox
import Derived.RangeFuncNested
import Derived.RangeFuncLeaves
import Derived.Shelf.Abstract
import Derived.OwnWalkIn
import Derived.TacticsInMore
import Derived.LoopNIn
import Derived.LoopIn
import Derived.Maps.OwnIn
import Derived.Sort.CutIn
import Derived.Laws.StructEq
namespace Go.Proofs.YtiekhbagpmnboaaGreatDoor
open Go.RowKit

/-- the library's table of powers of ten is as the program's text lays it -/
def TabP (w : World) : Prop := Lib.TabIs Tryz.prog w "internal/strconv.uint64pow10" .u64 Lib.pow10Tab
theorem gPow : Tryz.prog.globalNamed "internal/strconv.uint64pow10" = some 5 := by kernel_rfl
theorem TabP.below {w w' : World} (h : TabP w) (hb : Below w.heap.size w w') : TabP w' := by
  have h' : Lib.TabIs Tryz.prog w "internal/strconv.uint64pow10" .u64 Lib.pow10Tab := h
  show Lib.TabIs Tryz.prog w' "internal/strconv.uint64pow10" .u64 Lib.pow10Tab
  unfold Lib.TabIs World.var? at h' ⊢
  rw [gPow] at h' ⊢
  simp only [Option.bind_some] at h' ⊢
  have hlt : 5 < w.heap.size := by
    rcases Nat.lt_or_ge 5 w.heap.size with h1 | h1
    · exact h1
    · rw [Array.getElem?_eq_none h1] at h'; cases h'
  rw [hb.block _ hlt]
  exact h'
/-- .. and a variable of the library's that its searches read holds a number -/
def Tab (w : World) : Prop := TabP w ∧ ∃ m, w.cell? ⟨2, 0, none⟩ = some (.int .i64 m)
theorem Tab.below {w w' : World} (h : Tab w) (hb : Below w.heap.size w w') : Tab w' := by
  obtain ⟨h1, m, h2⟩ := h
  exact ⟨h1.below hb, m, (hb.cell (p := ⟨2, 0, none⟩) (World.block_lt_of_cell? _ _ h2)).trans h2⟩

end Go.Proofs.YtiekhbagpmnboaaGreatDoor
namespace Go.Proofs.YtiekhbagpmnboaaGreatDoor
open Go.ChangeShapes Go.WideShapes Go.ChangeAt Go.RowKit
open Go.ChangeMaps (open_string)

/-- a table's cells, as they are laid -/
def setCellsD (cs : Array Value) : Obj → Obj
  | .cells _ t frozen => .cells cs t frozen
  | o => o
/-- the cells of a table of integers -/
def flatDD : Nat → DataW Unit → List Value
  | _, .lit (.int k v) => [.int k v]
  | n + 1, .agg l => (l.map (flatDD n)).flatten
  | _, _ => []
/-- a world for the witness: the settled one, each listed variable as the text lays it -/
noncomputable def laidWorldD (os : Os) : World :=
  let N := (World.settled Tryz.prog os).heap.size
  let w0 := World.holding Tryz.prog os ⟨#[.cells #[.string ⟨#[118, 97, 108, 117, 101, 32, 111, 117, 116, 32, 111, 102, 32, 114, 97, 110, 103, 101]⟩] 176, .cells #[.string ⟨#[105, 110, 118, 97, 108, 105, 100, 32, 115, 121, 110, 116, 97, 120]⟩] 176], #[], []⟩
  { w0 with heap := (((((((w0.heap.modify 6 (setCellsD (flatDD 9 (Rows.laid_math_bits_deBruijn32tab : DataW Unit)).toArray)).modify 7 (setCellsD (flatDD 9 (Rows.laid_math_bits_deBruijn64tab : DataW Unit)).toArray)).modify 5 (setCellsD (flatDD 9 (Rows.laid_internal_strconv_uint64pow10 : DataW Unit)).toArray)).modify 1 (setCellsD (flatDD 9 (Rows.laid_unicode_utf8_acceptRanges : DataW Unit)).toArray)).modify 0 (setCellsD (flatDD 9 (Rows.laid_unicode_utf8_first : DataW Unit)).toArray)).modify 4 (setCellsD #[.iface 174 (.pointer (some ⟨N, 0, none⟩))])).modify 3 (setCellsD #[.iface 174 (.pointer (some ⟨N + 1, 0, none⟩))])) }
theorem laidMet_tailD {P : Program} {W : World} {x : String × DataW Unit} {rest : List (String × DataW Unit)} (h : laidMet P (x :: rest) W) : laidMet P rest W := by
  obtain ⟨ps, ⟨g, t, cs, fuel, p, q, h1, h2, h3, h4, h5, e⟩, hn, hc⟩ := h
  exact ⟨q, h5, (by rw [e] at hn; exact (List.nodup_append.1 hn).2.1), fun b off hq => hc b off (by rw [e]; simp [hq])⟩
theorem cellsTabD : Tryz.prog.cellsOf 184 = 20 := by kernel_rfl
theorem cellsU64D : Tryz.prog.cellsOf 120 = 1 := by kernel_rfl
theorem typePowD : (Tryz.prog.globals[5]?).map (·.type) = some 184 := by kernel_rfl
theorem tab_ofD {rest : List (String × DataW Unit)} {W : World} (h : laidMet Tryz.prog (("internal/strconv.uint64pow10", Lib.tabData .u64 Lib.pow10Tab) :: rest) W) (hs : W.ShapedOpen Tryz.prog) : Tab W :=
  ⟨Lib.tabIs_of_head gPow typePowD Tryz.underlying184 Tryz.underlying120 cellsU64D cellsTabD h,
    cell_of_shapedOpen_int (zero := #[.int .i64 0]) (t := 3) hs (of_decide_eq_true (by kernel_rfl)) (by kernel_rfl) rfl (by kernel_rfl) (by kernel_rfl) Tryz.underlying3⟩
end Go.Proofs.YtiekhbagpmnboaaGreatDoor
namespace Go.Proofs.YtiekhbagpmnboaaGreatDoor
open Go.RowKit

theorem walkb_LexLeaves (s : ByteArray) (hs : s.size ≤ 1048576) (a : Int) (_ha : -9223372036854775808 ≤ a ∧ a ≤ 9223372036854775807) (w : World) (_ht : Tab w) : Calls Tryz.prog 3 #[.string s, .int .i64 a] w fun e w' => e = .returned (.bool true) ∧ Below w.heap.size w w' := by
  have h := leaves_any s.data.toList hs a w
  have e : (⟨s.data.toList.toArray⟩ : ByteArray) = s := by rw [Array.toArray_toList]
  rwa [e] at h
end Go.Proofs.YtiekhbagpmnboaaGreatDoor
