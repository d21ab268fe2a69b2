/-
  strconv.FormatUint at base 10: the decimal numeral, for every uint64; The witness' world of this seat's cards of package dec; the table of powers of ten out of a row's list; oriellaw06: known; oriellaw06.ParseMay.
-/
import Derived.Test.YtiekhbagpmnboaaGreatDoorMg1
import Derived.Test.YtiekhbagpmnboaaGreatDoorRows
import Derived.Test.YtiekhbagpmnboaaGreatDoorMg0
import Derived.Test.YtiekhbagpmnboaaGreatDoorProg
import Derived.Test.YtiekhbagpmnboaaGreatDoorAddrC
import Derived.Test.YtiekhbagpmnboaaGreatDoorMg3
import Derived.Test.YtiekhbagpmnboaaGreatDoorMg4
import Derived.Test.YtiekhbagpmnboaaGreatDoorValA
import Derived.Test.YtiekhbagpmnboaaGreatDoorValB
import Derived.Test.YtiekhbagpmnboaaGreatDoorMg7
import Derived.Test.YtiekhbagpmnboaaGreatDoorLexP
import Derived.Test.YtiekhbagpmnboaaGreatDoorMg9
import Derived.Test.YtiekhbagpmnboaaGreatDoorPaP
import Derived.Test.YtiekhbagpmnboaaGreatDoorMg11
import Derived.Test.YtiekhbagpmnboaaGreatDoorPaW
import Derived.Test.YtiekhbagpmnboaaGreatDoorPaX
import Derived.Test.YtiekhbagpmnboaaGreatDoorPaY
import Derived.Test.YtiekhbagpmnboaaGreatDoorMg15
import Derived.Test.YtiekhbagpmnboaaGreatDoorMg16
import Derived.Test.YtiekhbagpmnboaaGreatDoorPaC
import Derived.Test.YtiekhbagpmnboaaGreatDoorPaK
import Derived.Test.YtiekhbagpmnboaaGreatDoorPaI
import Derived.Test.YtiekhbagpmnboaaGreatDoorPaQ
import Derived.Test.YtiekhbagpmnboaaGreatDoorPaE
import Derived.Test.YtiekhbagpmnboaaGreatDoorMg22
import Derived.Test.YtiekhbagpmnboaaGreatDoorMg23
import Derived.Test.YtiekhbagpmnboaaGreatDoorLexR
import Derived.Test.YtiekhbagpmnboaaGreatDoorLexWd
import Derived.Test.YtiekhbagpmnboaaGreatDoorMg26
import Derived.Test.YtiekhbagpmnboaaGreatDoorMg27
import Derived.Test.YtiekhbagpmnboaaGreatDoorLexS
import Derived.Test.YtiekhbagpmnboaaGreatDoorDDig
import Derived.Test.YtiekhbagpmnboaaGreatDoorDParse
import Derived.Test.YtiekhbagpmnboaaGreatDoorLexF
import Derived.Test.YtiekhbagpmnboaaGreatDoorLexN
import Derived.Test.YtiekhbagpmnboaaGreatDoorRDPar
import Derived.Test.YtiekhbagpmnboaaGreatDoorRDParB
import Derived.Test.YtiekhbagpmnboaaGreatDoorRDJoin
import Derived.Test.YtiekhbagpmnboaaGreatDoorLexD
import Derived.Test.YtiekhbagpmnboaaGreatDoorLexB
import Derived.Test.YtiekhbagpmnboaaGreatDoorLexI
import Derived.Test.YtiekhbagpmnboaaGreatDoorPaO
import Derived.Test.YtiekhbagpmnboaaGreatDoorMg40
import Derived.Test.YtiekhbagpmnboaaGreatDoorPaS
import Derived.Test.YtiekhbagpmnboaaGreatDoorPaM
import Derived.Test.YtiekhbagpmnboaaGreatDoorCards
import Derived.Test.YtiekhbagpmnboaaGreatDoorTie
import Derived.BigRegion
import Derived.WalkSpells
import Derived.WalkLawsBesides
import Derived.StillTactics
import Derived.Laws.Pointers
import Derived.Deep.RegionHeld3
import Derived.Deep.QuietTactic
import Derived.BigQuiet
import Derived.RowKit3
import Derived.Lib.Hide
import Derived.Lib.OthersKept
import Derived.OwnWalk
import Derived.Lib.IndexLaws
import Derived.Lib.ItoaMem
import Derived.Lib.TrimByte
import Derived.Lib.SlTrimSet
import Derived.Lib.ParseIntB
import Derived.WalkKit
import Derived.ProofKit
import Derived.OpenShut
import Derived.Carry
import Derived.ChangeSame
import Derived.Deep.Draws
import Derived.Shelf.Strings.Builder1
import Derived.Shelf.Strings.Trim
import Derived.Shelf.Small.Utf8
import Derived.Shelf.Small.Strs
import Derived.Shelf.Small.Wraps
import Derived.Shelf.Strings.BuilderF
import Derived.Shelf.Strings.BuilderK
import Derived.Shelf.Strconv.Itoa0
import Derived.Shelf.Strconv.Itoa1
import Derived.Shelf.LaysM
import Derived.Shelf.Strconv.Itoa2
import Derived.Shelf.Strconv.Itoa3
import Derived.Ground.MpProg
import Derived.Shelf.Pu.ParseUintPublic10
import Derived.Shelf.Strings.Search1
import Derived.Shelf.Strings.Search2
import Derived.Shelf.Strings.Cut
import Derived.Shelf.Strings.Shaped
import Derived.Shelf.Strings.Prefix
import Derived.Shelf.Strings.Runes
import Derived.Shelf.Strings.AsciiSet
import Derived.Shelf.Unicode.DecodeSlow
import Derived.Lib.ItoaNum
import Derived.Maps.OwnSet
import Derived.Maps.AppendAt
import Derived.Deep.RegionLaw
import Derived.Deep.AppendLies
import Derived.ScopeJumps
import Derived.WalkMore
import Derived.Shelf.Strings.SlTrimAscii
import Derived.Lib.SmallJoins
import Derived.RangeFuncBox
import Derived.RangeFuncNested
import Derived.RangeFuncLeaves
import Derived.Shelf.Abstract
import Derived.OwnWalkIn
import Derived.TacticsInMore
import Derived.LoopNIn
import Derived.LoopIn
import Derived.Maps.OwnIn
import Derived.Defers
import Derived.Recover
import Derived.Outline
import Derived.Deep.CutRange
import Derived.Deep.DeepHandedRow
import Derived.Lib.LaidTab
import Derived.Shelf.Vars
namespace Go.Proofs.YtiekhbagpmnboaaGreatDoor
open Go.RowKit

/-- the library's table of powers of ten is as the program's text lays it -/
def TabP (w : World) : Prop := Lib.TabIs Tryz.prog w "internal/strconv.uint64pow10" .u64 Lib.pow10Tab
theorem gPow : Tryz.prog.globalNamed "internal/strconv.uint64pow10" = some 5 := by kernel_rfl
theorem TabP.below {w w' : World} (h : TabP w) (hb : Below w.heap.size w w') : TabP w' := by
  have h' : Lib.TabIs Tryz.prog w "internal/strconv.uint64pow10" .u64 Lib.pow10Tab := h
  show Lib.TabIs Tryz.prog w' "internal/strconv.uint64pow10" .u64 Lib.pow10Tab
  unfold Lib.TabIs World.var? at h' ⊢
  rw [gPow] at h' ⊢
  simp only [Option.bind_some] at h' ⊢
  have hlt : 5 < w.heap.size := by
    rcases Nat.lt_or_ge 5 w.heap.size with h1 | h1
    · exact h1
    · rw [Array.getElem?_eq_none h1] at h'; cases h'
  rw [hb.block _ hlt]
  exact h'
/-- .. and a variable of the library's that its searches read holds a number -/
def Tab (w : World) : Prop := TabP w ∧ ∃ m, w.cell? ⟨2, 0, none⟩ = some (.int .i64 m)
theorem Tab.below {w w' : World} (h : Tab w) (hb : Below w.heap.size w w') : Tab w' := by
  obtain ⟨h1, m, h2⟩ := h
  exact ⟨h1.below hb, m, (hb.cell (p := ⟨2, 0, none⟩) (World.block_lt_of_cell? _ _ h2)).trans h2⟩

end Go.Proofs.YtiekhbagpmnboaaGreatDoor
namespace Go.Proofs.YtiekhbagpmnboaaGreatDoor
open Go.ChangeShapes Go.WideShapes Go.ChangeAt Go.RowKit
open Go.ChangeMaps (open_string)

/-- a table's cells, as they are laid -/
def setCellsD (cs : Array Value) : Obj → Obj
  | .cells _ t frozen => .cells cs t frozen
  | o => o
/-- the cells of a table of integers -/
def flatDD : Nat → DataW Unit → List Value
  | _, .lit (.int k v) => [.int k v]
  | n + 1, .agg l => (l.map (flatDD n)).flatten
  | _, _ => []
/-- a world for the witness: the settled one, each listed variable as the text lays it -/
noncomputable def laidWorldD (os : Os) : World :=
  let N := (World.settled Tryz.prog os).heap.size
  let w0 := World.holding Tryz.prog os ⟨#[.cells #[.string ⟨#[118, 97, 108, 117, 101, 32, 111, 117, 116, 32, 111, 102, 32, 114, 97, 110, 103, 101]⟩] 176, .cells #[.string ⟨#[105, 110, 118, 97, 108, 105, 100, 32, 115, 121, 110, 116, 97, 120]⟩] 176], #[], []⟩
  { w0 with heap := (((((((w0.heap.modify 6 (setCellsD (flatDD 9 (Rows.laid_math_bits_deBruijn32tab : DataW Unit)).toArray)).modify 7 (setCellsD (flatDD 9 (Rows.laid_math_bits_deBruijn64tab : DataW Unit)).toArray)).modify 5 (setCellsD (flatDD 9 (Rows.laid_internal_strconv_uint64pow10 : DataW Unit)).toArray)).modify 1 (setCellsD (flatDD 9 (Rows.laid_unicode_utf8_acceptRanges : DataW Unit)).toArray)).modify 0 (setCellsD (flatDD 9 (Rows.laid_unicode_utf8_first : DataW Unit)).toArray)).modify 4 (setCellsD #[.iface 174 (.pointer (some ⟨N, 0, none⟩))])).modify 3 (setCellsD #[.iface 174 (.pointer (some ⟨N + 1, 0, none⟩))])) }
theorem laidMet_tailD {P : Program} {W : World} {x : String × DataW Unit} {rest : List (String × DataW Unit)} (h : laidMet P (x :: rest) W) : laidMet P rest W := by
  obtain ⟨ps, ⟨g, t, cs, fuel, p, q, h1, h2, h3, h4, h5, e⟩, hn, hc⟩ := h
  exact ⟨q, h5, (by rw [e] at hn; exact (List.nodup_append.1 hn).2.1), fun b off hq => hc b off (by rw [e]; simp [hq])⟩
theorem cellsTabD : Tryz.prog.cellsOf 184 = 20 := by kernel_rfl
theorem cellsU64D : Tryz.prog.cellsOf 120 = 1 := by kernel_rfl
theorem typePowD : (Tryz.prog.globals[5]?).map (·.type) = some 184 := by kernel_rfl
theorem tab_ofD {rest : List (String × DataW Unit)} {W : World} (h : laidMet Tryz.prog (("internal/strconv.uint64pow10", Lib.tabData .u64 Lib.pow10Tab) :: rest) W) (hs : W.ShapedOpen Tryz.prog) : Tab W :=
  ⟨Lib.tabIs_of_head gPow typePowD Tryz.underlying184 Tryz.underlying120 cellsU64D cellsTabD h,
    cell_of_shapedOpen_int (zero := #[.int .i64 0]) (t := 3) hs (of_decide_eq_true (by kernel_rfl)) (by kernel_rfl) rfl (by kernel_rfl) (by kernel_rfl) Tryz.underlying3⟩
end Go.Proofs.YtiekhbagpmnboaaGreatDoor
namespace Go.Proofs.YtiekhbagpmnboaaGreatDoor
open Go.RowKit

def k1 : PS := ⟨(tokK 0).put 5, [], 0, [cellN 1 1, valN ⟨1, 20000, ⟨#[]⟩, false, 0⟩, opN 5]⟩
theorem kn1 : parseT (tbOf []) (lexL [61, 65, 49, 43, 50]) = .ok k1 := by kernel_rfl
theorem kn2 : parseT (tbOf []) (lexL [61, 49, 43]) = .bad 8 3 := by kernel_rfl
theorem funs_none (A : Option Addr) (cap B : Nat) (w : World) : FunsAt ⟨A, cap, []⟩ B w := ⟨fun i c hi => by simp at hi, fun f hf => by simp at hf, by simp⟩
set_option maxHeartbeats 1000000 in
theorem pknown (w : World) : Calls Tryz.prog 15 #[] w fun e w' => e = .returned (.bool true) ∧ Below w.heap.size w w' := by
  have C1 : ∀ A cap W, Calls Tryz.prog 12 #[.string ⟨#[61, 65, 49, 43, 50]⟩, .iface 43 (.slice A 0 cap)] W fun e w' => PAns W (.ok k1) e w' := fun A cap W => by
    have h := pparse [61, 65, 49, 43, 50] (by simp) ⟨A, cap, []⟩ W (funs_none A cap _ W)
    rw [show (tbOf (⟨A, cap, []⟩ : TV).l) = tbOf [] from rfl, kn1] at h
    exact h
  have C2 : ∀ A cap W, Calls Tryz.prog 12 #[.string ⟨#[61, 49, 43]⟩, .iface 43 (.slice A 0 cap)] W fun e w' => PAns W (.bad 8 3) e w' := fun A cap W => by
    have h := pparse [61, 49, 43] (by simp) ⟨A, cap, []⟩ W (funs_none A cap _ W)
    rw [show (tbOf (⟨A, cap, []⟩ : TV).l) = tbOf [] from rfl, kn2] at h
    exact h
  go_enter Tryz.func15, Tryz.ntmps15
  go_wp2_with fail
  refine (C1 _ _ _).mono ?_
  rintro e w1 ⟨hb1, N, rfl, hown⟩
  obtain ⟨g, cap, rfl, hg, hgl⟩ := hown.form (by simp [k1])
  have hn3 : k1.nodes.length = 3 := rfl
  rw [hn3] at hown ⊢
  have h1 := hown.cellAt 6 (by omega)
  have h2 := hown.cellAt 7 (by omega)
  have h3 := hown.cellAt 42 (by omega)
  rw [show (ndRow k1.nodes)[6]? = some (.int .i64 1) from rfl] at h1
  rw [show (ndRow k1.nodes)[7]? = some (.int .i64 1) from rfl] at h2
  rw [show (ndRow k1.nodes)[42]? = some (.int .i64 5) from rfl] at h3
  have hbw : Below w.heap.size w w1 := ((Below.refl _ _).alloc (Nat.le_refl _) _).trans (hb1.mono (by simp))
  have hz1 := hbw.size
  have hgw : w.heap.size < g := by simp at hg; omega
  clear hown hn3 hg hb1 C1
  go_wp2_with fail
  refine (C2 _ _ _).mono ?_
  rintro e w2 ⟨hb2, rfl⟩
  have hX : Below w1.heap.size w1 ((w1.alloc (.cells #[.slice (some ⟨g, 0, none⟩) 3 cap] 39)).alloc (.cells #[] 49)) := ((Below.refl _ _).alloc (Nat.le_refl _) _).alloc (by simp) _
  have hb12 : Below w1.heap.size w1 w2 := hX.trans (hb2.mono (by simp; omega))
  have hbx : ((w1.alloc (.cells #[.slice (some ⟨g, 0, none⟩) 3 cap] 39)).alloc (.cells #[] 49)).heap[w1.heap.size]? = some (.cells #[.slice (some ⟨g, 0, none⟩) 3 cap] 39 (0, 0)) := (Lib.alloc_old _ _ _ (by simp)).trans (heap_alloc_new w1 _)
  have hbx2 := (hb2.block w1.heap.size (by simp; omega)).trans hbx
  have c0 : w2.cell? ⟨w1.heap.size, 0, none⟩ = some (.slice (some ⟨g, 0, none⟩) 3 cap) := by rw [cell_of_row w2 w1.heap.size 0 _ _ _ hbx2]; rfl
  have g1 : w2.cell? ⟨g, 6, none⟩ = some (.int .i64 1) := (hb12.cell (p := ⟨g, 6, none⟩) hgl).trans h1
  have g2 : w2.cell? ⟨g, 7, none⟩ = some (.int .i64 1) := (hb12.cell (p := ⟨g, 7, none⟩) hgl).trans h2
  have g3 : w2.cell? ⟨g, 42, none⟩ = some (.int .i64 5) := (hb12.cell (p := ⟨g, 42, none⟩) hgl).trans h3
  have hzf := hb12.size
  have hBf : Below w.heap.size w w2 := hbw.trans (hb12.mono hz1)
  clear hbx hb2 hX h1 h2 h3 C2
  have hb3 : Below w2.heap.size w2 (w2.alloc (.cells #[.slice none 0 0] 39)) := (Below.refl _ _).alloc (Nat.le_refl _) _
  have hl1 : w1.heap.size < w2.heap.size := (Array.getElem?_eq_some_iff.1 hbx2).1
  have hl2 : g < w2.heap.size := by omega
  have d0 := (hb3.cell (p := ⟨w1.heap.size, 0, none⟩) hl1).trans c0
  have d1 := (hb3.cell (p := ⟨g, 6, none⟩) hl2).trans g1
  have d2 := (hb3.cell (p := ⟨g, 7, none⟩) hl2).trans g2
  have d3 := (hb3.cell (p := ⟨g, 42, none⟩) hl2).trans g3
  clear hbx2 c0 g1 g2 g3
  go_wp2
  go_ret
  exact ⟨rfl, by first | exact hBf | exact hBf.alloc (by omega) _⟩
end Go.Proofs.YtiekhbagpmnboaaGreatDoor
namespace Go.Proofs.YtiekhbagpmnboaaGreatDoor
open Go.RowKit

/-- the nodes that were read, where they lie -/
theorem own_rdn {w : World} {B : Nat} {v : Value} {l : List NL} (h : w.ownsRow B 79 15 v l.length (ndRow l)) : ∃ A cap, v = .slice A l.length cap ∧ RdB w w.heap.size A 15 (l.map NL.cs) :=
  ownsRow_rdk (by omega) (fun c hc => by obtain ⟨y, _, rfl⟩ := List.mem_map.1 hc; rfl) (by simp) h
theorem check_few {l : List NL} (h : checkP l = true) : 1 ≤ l.length ∧ l.length ≤ 1024 := by
  unfold checkP depthP at h
  split at h
  · rename_i d hd
    split at hd
    · cases hd
    · omega
  · cases h
end Go.Proofs.YtiekhbagpmnboaaGreatDoor
