/-
  strconv.FormatUint at base 10: the decimal numeral, for every uint64; The witness' world of this seat's cards of package dec; the table of powers of ten out of a row's list; oriellaw06: known; Plain: what is read out of tokens that may be is a formula that may be; Plain: the tokens of a text are such as nodes come of that may be; where a text is wrong, and how; oriellaw06.ParseMay; Plain: a blank where a token begins moves the places behind it, no more.
-/
import Derived.Test.YtiekhbagpmnboaaGreatDoorMg0
import Derived.Test.YtiekhbagpmnboaaGreatDoorRows
import Derived.Test.YtiekhbagpmnboaaGreatDoorProg
import Derived.Test.YtiekhbagpmnboaaGreatDoorAddrC
import Derived.Test.YtiekhbagpmnboaaGreatDoorMg2
import Derived.Test.YtiekhbagpmnboaaGreatDoorMg26
import Derived.Test.YtiekhbagpmnboaaGreatDoorValA
import Derived.Test.YtiekhbagpmnboaaGreatDoorValB
import Derived.Test.YtiekhbagpmnboaaGreatDoorMg5
import Derived.Test.YtiekhbagpmnboaaGreatDoorMg6
import Derived.Test.YtiekhbagpmnboaaGreatDoorMg7
import Derived.Test.YtiekhbagpmnboaaGreatDoorMg16
import Derived.Test.YtiekhbagpmnboaaGreatDoorMg27
import Derived.Test.YtiekhbagpmnboaaGreatDoorLexWd
import Derived.Test.YtiekhbagpmnboaaGreatDoorMg29
import Derived.Test.YtiekhbagpmnboaaGreatDoorLexS
import Derived.Test.YtiekhbagpmnboaaGreatDoorDDig
import Derived.Test.YtiekhbagpmnboaaGreatDoorDParse
import Derived.Test.YtiekhbagpmnboaaGreatDoorLexF
import Derived.Test.YtiekhbagpmnboaaGreatDoorLexN
import Derived.Test.YtiekhbagpmnboaaGreatDoorRDPar
import Derived.Test.YtiekhbagpmnboaaGreatDoorRDParB
import Derived.Test.YtiekhbagpmnboaaGreatDoorRDJoin
import Derived.Test.YtiekhbagpmnboaaGreatDoorLexD
import Derived.Test.YtiekhbagpmnboaaGreatDoorLexB
import Derived.Test.YtiekhbagpmnboaaGreatDoorLexI
import Derived.Test.YtiekhbagpmnboaaGreatDoorMg42
import Derived.Test.YtiekhbagpmnboaaGreatDoorPaW
import Derived.Test.YtiekhbagpmnboaaGreatDoorMg9
import Derived.Test.YtiekhbagpmnboaaGreatDoorMg15
import Derived.Test.YtiekhbagpmnboaaGreatDoorPaC
import Derived.Test.YtiekhbagpmnboaaGreatDoorPaK
import Derived.Test.YtiekhbagpmnboaaGreatDoorPaI
import Derived.Test.YtiekhbagpmnboaaGreatDoorPaQ
import Derived.Test.YtiekhbagpmnboaaGreatDoorPaE
import Derived.Test.YtiekhbagpmnboaaGreatDoorPaO
import Derived.Test.YtiekhbagpmnboaaGreatDoorPaS
import Derived.Test.YtiekhbagpmnboaaGreatDoorCards
import Derived.Test.YtiekhbagpmnboaaGreatDoorTie
import Derived.Lib.ItoaMem
import Derived.Lib.TrimByte
import Derived.Lib.IndexLaws
import Derived.Lib.SlTrimSet
import Derived.Lib.ParseIntB
import Derived.WalkKit
import Derived.ProofKit
import Derived.OpenShut
import Derived.Carry
import Derived.ChangeSame
import Derived.Lib.Hide
import Derived.Deep.Draws
import Derived.Shelf.Strings.Builder1
import Derived.Shelf.Strings.Trim
import Derived.Shelf.Small.Utf8
import Derived.Shelf.Small.Strs
import Derived.Shelf.Small.Wraps
import Derived.Shelf.Strings.BuilderF
import Derived.Shelf.Strings.BuilderK
import Derived.Shelf.Strconv.Itoa0
import Derived.Shelf.Strconv.Itoa1
import Derived.Shelf.LaysM
import Derived.Shelf.Strconv.Itoa2
import Derived.Shelf.Strconv.Itoa3
import Derived.Ground.MpProg
import Derived.Shelf.Pu.ParseUintPublic10
import Derived.Shelf.Strings.Search1
import Derived.Shelf.Strings.Search2
import Derived.Shelf.Strings.Cut
import Derived.Shelf.Strings.Shaped
import Derived.Shelf.Strings.Prefix
import Derived.Shelf.Strings.Runes
import Derived.Shelf.Strings.AsciiSet
import Derived.Shelf.Unicode.DecodeSlow
import Derived.WalkSpells
import Derived.WalkLawsBesides
import Derived.StillTactics
import Derived.Laws.Pointers
import Derived.Deep.RegionHeld3
import Derived.Deep.QuietTactic
import Derived.BigQuiet
import Derived.RowKit3
import Derived.Lib.OthersKept
import Derived.OwnWalk
import Derived.Lib.ItoaNum
import Derived.Maps.OwnSet
import Derived.Maps.AppendAt
import Derived.Shelf.Strings.SlTrimAscii
import Derived.Lib.SmallJoins
import Derived.RangeFuncBox
import Derived.RangeFuncNested
import Derived.RangeFuncLeaves
import Derived.Shelf.Abstract
import Derived.OwnWalkIn
import Derived.TacticsInMore
import Derived.LoopNIn
import Derived.LoopIn
import Derived.Maps.OwnIn
import Derived.BigRegion
import Derived.Deep.RegionLaw
import Derived.Deep.AppendLies
import Derived.ScopeJumps
import Derived.WalkMore
import Derived.Defers
import Derived.Recover
import Derived.Outline
import Derived.Deep.CutRange
import Derived.Deep.DeepHandedRow
import Derived.Lib.LaidTab
import Derived.Shelf.Vars
namespace Go.Proofs.YtiekhbagpmnboaaGreatDoor
open Go.RowKit

/-- the library's table of powers of ten is as the program's text lays it -/
def TabP (w : World) : Prop := Lib.TabIs Tryz.prog w "internal/strconv.uint64pow10" .u64 Lib.pow10Tab
theorem gPow : Tryz.prog.globalNamed "internal/strconv.uint64pow10" = some 5 := by kernel_rfl
theorem TabP.below {w w' : World} (h : TabP w) (hb : Below w.heap.size w w') : TabP w' := by
  have h' : Lib.TabIs Tryz.prog w "internal/strconv.uint64pow10" .u64 Lib.pow10Tab := h
  show Lib.TabIs Tryz.prog w' "internal/strconv.uint64pow10" .u64 Lib.pow10Tab
  unfold Lib.TabIs World.var? at h' ⊢
  rw [gPow] at h' ⊢
  simp only [Option.bind_some] at h' ⊢
  have hlt : 5 < w.heap.size := by
    rcases Nat.lt_or_ge 5 w.heap.size with h1 | h1
    · exact h1
    · rw [Array.getElem?_eq_none h1] at h'; cases h'
  rw [hb.block _ hlt]
  exact h'
/-- .. and a variable of the library's that its searches read holds a number -/
def Tab (w : World) : Prop := TabP w ∧ ∃ m, w.cell? ⟨2, 0, none⟩ = some (.int .i64 m)
theorem Tab.below {w w' : World} (h : Tab w) (hb : Below w.heap.size w w') : Tab w' := by
  obtain ⟨h1, m, h2⟩ := h
  exact ⟨h1.below hb, m, (hb.cell (p := ⟨2, 0, none⟩) (World.block_lt_of_cell? _ _ h2)).trans h2⟩

end Go.Proofs.YtiekhbagpmnboaaGreatDoor
namespace Go.Proofs.YtiekhbagpmnboaaGreatDoor
open Go.ChangeShapes Go.WideShapes Go.ChangeAt Go.RowKit
open Go.ChangeMaps (open_string)

/-- a table's cells, as they are laid -/
def setCellsD (cs : Array Value) : Obj → Obj
  | .cells _ t frozen => .cells cs t frozen
  | o => o
/-- the cells of a table of integers -/
def flatDD : Nat → DataW Unit → List Value
  | _, .lit (.int k v) => [.int k v]
  | n + 1, .agg l => (l.map (flatDD n)).flatten
  | _, _ => []
/-- a world for the witness: the settled one, each listed variable as the text lays it -/
noncomputable def laidWorldD (os : Os) : World :=
  let N := (World.settled Tryz.prog os).heap.size
  let w0 := World.holding Tryz.prog os ⟨#[.cells #[.string ⟨#[118, 97, 108, 117, 101, 32, 111, 117, 116, 32, 111, 102, 32, 114, 97, 110, 103, 101]⟩] 176, .cells #[.string ⟨#[105, 110, 118, 97, 108, 105, 100, 32, 115, 121, 110, 116, 97, 120]⟩] 176], #[], []⟩
  { w0 with heap := (((((((w0.heap.modify 6 (setCellsD (flatDD 9 (Rows.laid_math_bits_deBruijn32tab : DataW Unit)).toArray)).modify 7 (setCellsD (flatDD 9 (Rows.laid_math_bits_deBruijn64tab : DataW Unit)).toArray)).modify 5 (setCellsD (flatDD 9 (Rows.laid_internal_strconv_uint64pow10 : DataW Unit)).toArray)).modify 1 (setCellsD (flatDD 9 (Rows.laid_unicode_utf8_acceptRanges : DataW Unit)).toArray)).modify 0 (setCellsD (flatDD 9 (Rows.laid_unicode_utf8_first : DataW Unit)).toArray)).modify 4 (setCellsD #[.iface 174 (.pointer (some ⟨N, 0, none⟩))])).modify 3 (setCellsD #[.iface 174 (.pointer (some ⟨N + 1, 0, none⟩))])) }
theorem laidMet_tailD {P : Program} {W : World} {x : String × DataW Unit} {rest : List (String × DataW Unit)} (h : laidMet P (x :: rest) W) : laidMet P rest W := by
  obtain ⟨ps, ⟨g, t, cs, fuel, p, q, h1, h2, h3, h4, h5, e⟩, hn, hc⟩ := h
  exact ⟨q, h5, (by rw [e] at hn; exact (List.nodup_append.1 hn).2.1), fun b off hq => hc b off (by rw [e]; simp [hq])⟩
theorem cellsTabD : Tryz.prog.cellsOf 184 = 20 := by kernel_rfl
theorem cellsU64D : Tryz.prog.cellsOf 120 = 1 := by kernel_rfl
theorem typePowD : (Tryz.prog.globals[5]?).map (·.type) = some 184 := by kernel_rfl
theorem tab_ofD {rest : List (String × DataW Unit)} {W : World} (h : laidMet Tryz.prog (("internal/strconv.uint64pow10", Lib.tabData .u64 Lib.pow10Tab) :: rest) W) (hs : W.ShapedOpen Tryz.prog) : Tab W :=
  ⟨Lib.tabIs_of_head gPow typePowD Tryz.underlying184 Tryz.underlying120 cellsU64D cellsTabD h,
    cell_of_shapedOpen_int (zero := #[.int .i64 0]) (t := 3) hs (of_decide_eq_true (by kernel_rfl)) (by kernel_rfl) rfl (by kernel_rfl) (by kernel_rfl) Tryz.underlying3⟩
end Go.Proofs.YtiekhbagpmnboaaGreatDoor
namespace Go.Proofs.YtiekhbagpmnboaaGreatDoor
open Go.RowKit

def k1 : PS := ⟨(tokK 0).put 5, [], 0, [cellN 1 1, valN ⟨1, 20000, ⟨#[]⟩, false, 0⟩, opN 5]⟩
theorem kn1 : parseT (tbOf []) (lexL [61, 65, 49, 43, 50]) = .ok k1 := by kernel_rfl
theorem kn2 : parseT (tbOf []) (lexL [61, 49, 43]) = .bad 8 3 := by kernel_rfl
theorem funs_none (A : Option Addr) (cap B : Nat) (w : World) : FunsAt ⟨A, cap, []⟩ B w := ⟨fun i c hi => by simp at hi, fun f hf => by simp at hf, by simp⟩
set_option maxHeartbeats 1000000 in
theorem pknown (w : World) : Calls Tryz.prog 15 #[] w fun e w' => e = .returned (.bool true) ∧ Below w.heap.size w w' := by
  have C1 : ∀ A cap W, Calls Tryz.prog 12 #[.string ⟨#[61, 65, 49, 43, 50]⟩, .iface 43 (.slice A 0 cap)] W fun e w' => PAns W (.ok k1) e w' := fun A cap W => by
    have h := pparse [61, 65, 49, 43, 50] (by simp) ⟨A, cap, []⟩ W (funs_none A cap _ W)
    rw [show (tbOf (⟨A, cap, []⟩ : TV).l) = tbOf [] from rfl, kn1] at h
    exact h
  have C2 : ∀ A cap W, Calls Tryz.prog 12 #[.string ⟨#[61, 49, 43]⟩, .iface 43 (.slice A 0 cap)] W fun e w' => PAns W (.bad 8 3) e w' := fun A cap W => by
    have h := pparse [61, 49, 43] (by simp) ⟨A, cap, []⟩ W (funs_none A cap _ W)
    rw [show (tbOf (⟨A, cap, []⟩ : TV).l) = tbOf [] from rfl, kn2] at h
    exact h
  go_enter Tryz.func15, Tryz.ntmps15
  go_wp2_with fail
  refine (C1 _ _ _).mono ?_
  rintro e w1 ⟨hb1, N, rfl, hown⟩
  obtain ⟨g, cap, rfl, hg, hgl⟩ := hown.form (by simp [k1])
  have hn3 : k1.nodes.length = 3 := rfl
  rw [hn3] at hown ⊢
  have h1 := hown.cellAt 6 (by omega)
  have h2 := hown.cellAt 7 (by omega)
  have h3 := hown.cellAt 42 (by omega)
  rw [show (ndRow k1.nodes)[6]? = some (.int .i64 1) from rfl] at h1
  rw [show (ndRow k1.nodes)[7]? = some (.int .i64 1) from rfl] at h2
  rw [show (ndRow k1.nodes)[42]? = some (.int .i64 5) from rfl] at h3
  have hbw : Below w.heap.size w w1 := ((Below.refl _ _).alloc (Nat.le_refl _) _).trans (hb1.mono (by simp))
  have hz1 := hbw.size
  have hgw : w.heap.size < g := by simp at hg; omega
  clear hown hn3 hg hb1 C1
  go_wp2_with fail
  refine (C2 _ _ _).mono ?_
  rintro e w2 ⟨hb2, rfl⟩
  have hX : Below w1.heap.size w1 ((w1.alloc (.cells #[.slice (some ⟨g, 0, none⟩) 3 cap] 39)).alloc (.cells #[] 49)) := ((Below.refl _ _).alloc (Nat.le_refl _) _).alloc (by simp) _
  have hb12 : Below w1.heap.size w1 w2 := hX.trans (hb2.mono (by simp; omega))
  have hbx : ((w1.alloc (.cells #[.slice (some ⟨g, 0, none⟩) 3 cap] 39)).alloc (.cells #[] 49)).heap[w1.heap.size]? = some (.cells #[.slice (some ⟨g, 0, none⟩) 3 cap] 39 (0, 0)) := (Lib.alloc_old _ _ _ (by simp)).trans (heap_alloc_new w1 _)
  have hbx2 := (hb2.block w1.heap.size (by simp; omega)).trans hbx
  have c0 : w2.cell? ⟨w1.heap.size, 0, none⟩ = some (.slice (some ⟨g, 0, none⟩) 3 cap) := by rw [cell_of_row w2 w1.heap.size 0 _ _ _ hbx2]; rfl
  have g1 : w2.cell? ⟨g, 6, none⟩ = some (.int .i64 1) := (hb12.cell (p := ⟨g, 6, none⟩) hgl).trans h1
  have g2 : w2.cell? ⟨g, 7, none⟩ = some (.int .i64 1) := (hb12.cell (p := ⟨g, 7, none⟩) hgl).trans h2
  have g3 : w2.cell? ⟨g, 42, none⟩ = some (.int .i64 5) := (hb12.cell (p := ⟨g, 42, none⟩) hgl).trans h3
  have hzf := hb12.size
  have hBf : Below w.heap.size w w2 := hbw.trans (hb12.mono hz1)
  clear hbx hb2 hX h1 h2 h3 C2
  have hb3 : Below w2.heap.size w2 (w2.alloc (.cells #[.slice none 0 0] 39)) := (Below.refl _ _).alloc (Nat.le_refl _) _
  have hl1 : w1.heap.size < w2.heap.size := (Array.getElem?_eq_some_iff.1 hbx2).1
  have hl2 : g < w2.heap.size := by omega
  have d0 := (hb3.cell (p := ⟨w1.heap.size, 0, none⟩) hl1).trans c0
  have d1 := (hb3.cell (p := ⟨g, 6, none⟩) hl2).trans g1
  have d2 := (hb3.cell (p := ⟨g, 7, none⟩) hl2).trans g2
  have d3 := (hb3.cell (p := ⟨g, 42, none⟩) hl2).trans g3
  clear hbx2 c0 g1 g2 g3
  go_wp2
  go_ret
  exact ⟨rfl, by first | exact hBf | exact hBf.alloc (by omega) _⟩
end Go.Proofs.YtiekhbagpmnboaaGreatDoor
namespace Go.Proofs.YtiekhbagpmnboaaGreatDoor
open Go.RowKit

/-- a token out of which nodes come that may be -/
structure TokOk (x : Tok) : Prop where
  leaf : ∀ n, leafN x = some n → n.may = true
  rect : x.kind = 5 → (rectN' x.t x.l x.b x.q).may = true
  word : x.kind = 3 → leafN x = none → x.str.size ≤ 16 → namedB x.str.data.toList = true
def RP (st : List PL) (ns : List NL) (st' : List PL) : Prop := ns.foldl (fun st n => st.bind fun s => stepP s n) (some st) = some st'
theorem RP.nil (st : List PL) : RP st [] st := rfl
theorem RP.app {a b c : List PL} {n m : List NL} (h : RP a n b) (k : RP b m c) : RP a (n ++ m) c := by
  unfold RP at *
  rw [List.foldl_append, h, k]
theorem RP.one {st st' : List PL} {n : NL} (h : stepP st n = some st') : RP st [n] st' := h
/-- a part that binds so closely, or whose brackets have room -/
structure Fits (k d : Int) (p : PL) : Prop where
  many : p.many = false
  low : 0 ≤ p.depth
  room : p.inside k ≤ d
theorem Fits.depth {k d : Int} {p : PL} (h : Fits k d p) : p.depth ≤ d := by
  have := h.room
  unfold PL.inside at this
  split at this <;> omega
theorem Fits.mono {k k' d : Int} {p : PL} (h : Fits k d p) (hk : k' ≤ k) : Fits k' d p := by
  refine ⟨h.many, h.low, ?_⟩
  have h1 := h.room
  unfold PL.inside at *
  split at h1 <;> split <;> omega
theorem Fits.own {k d : Int} {p : PL} (hm : p.many = false) (h0 : 0 ≤ p.depth) (hb : k ≤ p.binds) (hd : p.depth ≤ d) : Fits k d p :=
  ⟨hm, h0, by unfold PL.inside; rw [if_neg (by omega)]; exact hd⟩
theorem leaf_kind {x : Tok} {n : NL} (h : leafN x = some n) : n.kind ≠ 3 ∧ n.kind ≠ 4 ∧ n.kind ≠ 5 := by
  unfold leafN at h
  repeat' split at h
  all_goals first | (injection h with h; subst h; simp [valN, cellN]) | cases h
theorem op_may (o : Int) (h1 : 1 ≤ o) (h2 : o ≤ 13) : (opN o).may = true := by
  simp [NL.may, opN, vl0, NL.noV, NL.noC, NL.noR, NL.noN, vEq, h1, h2]
theorem call_may (nm : ByteArray) (n : Nat) (hn : namedB nm.data.toList = true) (h : n ≤ 16) : (callN nm n).may = true := by
  have : (n : Int) ≤ 16 := by omega
  simp [NL.may, callN, vl0, NL.noV, NL.noC, NL.noR, NL.noO, vEq, hn, this]
theorem sgn_op (k : Nat) (hk : k ≤ 3) : ∀ x ∈ sgn k, levelI x.2 = k + 1 ∧ 3 ≤ x.2 ∧ x.2 ≤ 13 := by
  intro x hx
  match k, hk with
  | 0, _ | 1, _ | 2, _ | 3, _ => (simp [sgn] at hx; rcases hx with rfl | rfl | rfl | rfl | rfl | rfl) <;> simp [levelI]
theorem sig_op {s : PS} {k : Nat} {o : Int} (hk : k ≤ 3) (h : s.sig (sgn k) = some o) : levelI o = k + 1 ∧ 3 ≤ o ∧ o ≤ 13 := by
  unfold PS.sig at h
  obtain ⟨x, hx, rfl⟩ := Option.map_eq_some_iff.1 h
  exact sgn_op k hk x (List.mem_of_find?_eq_some hx)
theorem fits_two {k : Nat} {d o : Int} {a b : PL} (hl : levelI o = k + 1) (h3 : 3 ≤ o) (h13 : o ≤ 13) (ha : Fits (k + 1) d a) (hb : Fits (k + 2) d b) : ∃ p, Fits (k + 1) d p ∧ ∀ st, RP (st ++ [a] ++ [b]) [opN o] (st ++ [p]) := by
  refine ⟨⟨max (a.inside (levelI o)) (b.inside (levelI o + 1)), levelI o, false⟩, ?_, fun st => RP.one ?_⟩
  rotate_left
  · rw [List.append_assoc]
    refine (step_two (n := opN o) (op_may o (by omega) h13) rfl (by simp [opN]; omega)).trans ?_
    rw [ha.many, hb.many]
    rfl
  · refine Fits.own rfl ?_ (by simp [hl]) ?_
    · have h1 := ha.low; have h2 := hb.low
      have : a.depth ≤ a.inside (levelI o) := by unfold PL.inside; split <;> omega
      simp only; omega
    · have h1 := ha.room; have h2 := hb.room
      simp only [hl]
      rw [show ((k : Int) + 1 + 1) = k + 2 by omega]
      omega
theorem fits_one {k d o : Int} {a : PL} (ho : o = 1 ∧ k = 5 ∨ o = 2 ∧ k = 6) (ha : Fits k d a) : ∃ p, Fits k d p ∧ ∀ st, RP (st ++ [a]) [opN o] (st ++ [p]) := by
  have hl : levelI o = k := by rcases ho with ⟨rfl, rfl⟩ | ⟨rfl, rfl⟩ <;> rfl
  refine ⟨⟨a.inside (levelI o), levelI o, false⟩, ?_, fun st => RP.one ?_⟩
  rotate_left
  · refine (step_one (n := opN o) (op_may o (by omega) (by omega)) rfl (by simp only [opN]; omega)).trans ?_
    rw [ha.many]
    rfl
  · refine Fits.own rfl ?_ (by simp [hl]) ?_
    · have h1 := ha.low
      have : a.depth ≤ a.inside (levelI o) := by unfold PL.inside; split <;> omega
      simp only; omega
    · simp only [hl]; exact ha.room
/-- what is put behind -/
def Puts (s s' : PS) (ns : List NL) : Prop := s'.nodes = s.nodes ++ ns
theorem Puts.trans {a b c : PS} {n m : List NL} (h : Puts a b n) (k : Puts b c m) : Puts a c (n ++ m) := by unfold Puts at *; rw [k, h, List.append_assoc]
theorem Puts.add {s s' : PS} {n : NL} {a : Int} (h : s.add n a = .ok s') : Puts s s' [n] := by obtain ⟨rfl, _⟩ := add_some h; rfl
/-- one part more -/
def OneP (k d : Int) (s s' : PS) : Prop := ∃ ns, Puts s s' ns ∧ ∃ p, Fits k d p ∧ ∀ st, RP st ns (st ++ [p])
/-- a part in the place of one -/
def NextP (k d : Int) (s s' : PS) : Prop := ∃ ns, Puts s s' ns ∧ ∀ p, Fits k d p → ∃ p', Fits k d p' ∧ ∀ st, RP (st ++ [p]) ns (st ++ [p'])
theorem OneP.next {k d : Int} {a b c : PS} (h : OneP k d a b) (h' : NextP k d b c) : OneP k d a c := by
  obtain ⟨n, h1, p, h2, h3⟩ := h
  obtain ⟨m, h4, h5⟩ := h'
  obtain ⟨p', h6, h7⟩ := h5 p h2
  exact ⟨n ++ m, h1.trans h4, p', h6, fun st => (h3 st).app (h7 st)⟩
theorem OneP.mono {k k' d : Int} {a b : PS} (h : OneP k d a b) (hk : k' ≤ k) : OneP k' d a b := by
  obtain ⟨n, h1, p, h2, h3⟩ := h
  exact ⟨n, h1, p, h2.mono hk, h3⟩
theorem NextP.refl (k d : Int) (s : PS) : NextP k d s s := ⟨[], by simp [Puts], fun p hp => ⟨p, hp, fun st => RP.nil _⟩⟩
theorem NextP.trans {k d : Int} {a b c : PS} (h : NextP k d a b) (h' : NextP k d b c) : NextP k d a c := by
  obtain ⟨n, h1, h2⟩ := h
  obtain ⟨m, h3, h4⟩ := h'
  refine ⟨n ++ m, h1.trans h3, fun p hp => ?_⟩
  obtain ⟨p1, h5, h6⟩ := h2 p hp
  obtain ⟨p2, h7, h8⟩ := h4 p1 h5
  exact ⟨p2, h7, fun st => (h6 st).app (h8 st)⟩
theorem next_negs (d : Int) : ∀ {l : List Int} {s s' : PS}, negs l s = .ok s' → NextP 5 d s s'
  | [], s, s', h => by simp only [negs] at h; injection h with h; subst h; exact NextP.refl _ _ _
  | a :: l, s, s', h => by
    simp only [negs] at h
    split at h
    · cases h
    · rename_i s1 h1
      exact NextP.trans ⟨[opN 1], Puts.add h1, fun p hp => fits_one (.inl ⟨rfl, rfl⟩) hp⟩ (next_negs d h)
def MdPut (m : Md) (s s' : PS) : Prop := match m with
  | .lev k => OneP (k + 1) (32 - s.opn) s s'
  | .loop k => NextP (k + 1) (32 - s.opn) s s'
  | .neg _ => OneP 5 (32 - s.opn) s s'
  | .pct => NextP 6 (32 - s.opn) s s'
  | .prim => OneP 7 (32 - s.opn) s s'
  | .args nm _ rects => namedB nm.data.toList = true → rects.length ≤ 16 → ∃ ns, Puts s s' ns ∧ ∀ qs : List PL, qs.length = rects.length → (∀ q ∈ qs, 0 ≤ q.depth ∧ q.depth ≤ 32 - s.opn) → ∃ p, Fits 7 (33 - s.opn) p ∧ ∀ st, RP (st ++ qs) ns (st ++ [p])
theorem one_opn {k d : Int} {s s1 s' : PS} (h : OneP k d s1 s') (hn : s1.nodes = s.nodes) : OneP k d s s' := by
  obtain ⟨n, h1, h2⟩ := h
  exact ⟨n, by unfold Puts at *; rw [h1, hn], h2⟩
theorem next_opn {k d : Int} {s s1 s' : PS} (h : NextP k d s1 s') (hn : s1.nodes = s.nodes) : NextP k d s s' := by
  obtain ⟨n, h1, h2⟩ := h
  exact ⟨n, by unfold Puts at *; rw [h1, hn], h2⟩
theorem px_put (tb : Tb) : ∀ (f : Nat) (m : Md) (s s' : PS), m.ok → s.wf → 0 ≤ s.opn → s.opn ≤ 32 → (∀ x ∈ s.now :: s.rest, TokOk x) → px tb f m s = some (.ok s') → MdPut m s s' := by
  intro f
  induction f with
  | zero => intro m s s' _ _ _ _ _ h; cases h
  | succ f ih =>
    intro m s s' hm hw h0 h32 ht h
    have hx : ∀ {g : Nat} {m1 : Md} {a b : PS}, px tb g m1 a = some (.ok b) → (∀ x ∈ a.now :: a.rest, TokOk x) → ∀ x ∈ b.now :: b.rest, TokOk x := fun h ha x hx => ha x ((suffix_inv.px tb _ _ _ _ h).subset hx)
    have hst : ∀ {a : PS}, (∀ x ∈ a.now :: a.rest, TokOk x) → ∀ x ∈ a.step.now :: a.step.rest, TokOk x := fun ha x hx => ha x ((step_suffix _).subset hx)
    cases m with
    | lev k =>
      rw [px] at h
      simp only [Md.ok] at hm
      split at h
      · rename_i hk
        subst hk
        exact ih (.neg []) s s' trivial hw h0 h32 ht h
      · obtain ⟨s1, h1, h2⟩ := bindR_ok h
        have hk5 : Md.ok (.lev (k + 1)) := show k + 1 ≤ 4 by omega
        have a1 := px_after tb hw hk5 h1
        have o1 := a1.opn
        simp only [Md.opn] at o1
        have P1 : OneP ((k + 1 : Nat) + 1) (32 - s.opn) s s1 := ih (.lev (k + 1)) s s1 hk5 hw h0 h32 ht h1
        have P2 : NextP (k + 1) (32 - s1.opn) s1 s' := ih (.loop k) s1 s' (show k ≤ 3 by omega) a1.wf (by omega) (by omega) (hx h1 ht) h2
        rw [show s1.opn = s.opn by omega] at P2
        exact (P1.mono (by omega)).next P2
    | loop k =>
      rw [px] at h
      simp only [Md.ok] at hm
      split at h
      · injection h with h; injection h with h; subst h; exact NextP.refl _ _ _
      · rename_i o ho
        obtain ⟨hl, h3, h13⟩ := sig_op hm ho
        obtain ⟨s1, h1, h2⟩ := bindR_ok h
        obtain ⟨s2, h3', h4⟩ := bindR_ok h2
        injection h3' with h3'
        have hk5 : Md.ok (.lev (k + 1)) := show k + 1 ≤ 4 by omega
        have hw1 := PS.wf_step hw
        have a1 := px_after tb hw1 hk5 h1
        have o1 := a1.opn
        rw [PS.step_opn] at o1
        simp only [Md.opn] at o1
        have P1 : OneP ((k + 1 : Nat) + 1) (32 - s.step.opn) s.step s1 := ih (.lev (k + 1)) s.step s1 hk5 hw1 (by rw [PS.step_opn]; exact h0) (by rw [PS.step_opn]; exact h32) (hst ht) h1
        rw [PS.step_opn] at P1
        have P1' := one_opn P1 (PS.step_nodes s).symm.symm
        obtain ⟨n1, q1, b, q2, q3⟩ := one_opn (s := s) P1 (PS.step_nodes s)
        have hP := Puts.add h3'
        obtain ⟨e2, _⟩ := add_some h3'
        have P2 : NextP (k + 1) (32 - s2.opn) s2 s' := ih (.loop k) s2 s' hm (by rw [e2]; exact a1.wf) (by rw [e2]; show 0 ≤ s1.opn; omega) (by rw [e2]; show s1.opn ≤ 32; omega) (by rw [e2]; exact hx (b := s1) h1 (hst ht)) h4
        rw [show s2.opn = s.opn by rw [e2]; show s1.opn = s.opn; omega] at P2
        refine NextP.trans ⟨n1 ++ [opN o], q1.trans hP, fun p hp => ?_⟩ P2
        obtain ⟨p', g1, g2⟩ := fits_two hl h3 h13 hp (q2.mono (by omega))
        exact ⟨p', g1, fun st => (q3 (st ++ [p])).app (g2 st)⟩
    | neg ats =>
      rw [px] at h
      split at h
      · have := ih (.neg (s.now.place :: ats)) s.step s' trivial (PS.wf_step hw) (by rw [PS.step_opn]; exact h0) (by rw [PS.step_opn]; exact h32) (hst ht) h
        simp only [MdPut] at this ⊢
        rw [PS.step_opn] at this
        exact one_opn this (PS.step_nodes s)
      · obtain ⟨s1, h1, h2⟩ := bindR_ok h
        obtain ⟨s2, h3, h4⟩ := bindR_ok h2
        injection h4 with h4
        have a1 := px_after tb hw (m := .prim) trivial h1
        have o1 := a1.opn
        simp only [Md.opn] at o1
        have P1 : OneP 7 (32 - s.opn) s s1 := ih .prim s s1 trivial hw h0 h32 ht h1
        have P2 : NextP 6 (32 - s1.opn) s1 s2 := ih .pct s1 s2 trivial a1.wf (by omega) (by omega) (hx h1 ht) h3
        rw [show s1.opn = s.opn by omega] at P2
        exact (((P1.mono (by omega)).next P2).mono (by omega)).next (next_negs _ h4)
    | pct =>
      rw [px] at h
      split at h
      · obtain ⟨s1, h1, h2⟩ := bindR_ok h
        injection h1 with h1
        have hP := Puts.add h1
        obtain ⟨e2, _⟩ := add_some h1
        have hw1 : s1.wf := by rw [e2]; exact hw
        have ho : s1.opn = s.opn := by rw [e2]
        have ht1 : ∀ x ∈ s1.now :: s1.rest, TokOk x := by rw [e2]; exact ht
        have P2 : NextP 6 (32 - s1.step.opn) s1.step s' := ih .pct s1.step s' trivial (PS.wf_step hw1) (by rw [PS.step_opn, ho]; exact h0) (by rw [PS.step_opn, ho]; exact h32) (hst ht1) h2
        rw [PS.step_opn, ho] at P2
        exact NextP.trans ⟨[opN 2], hP, fun p hp => fits_one (.inr ⟨rfl, rfl⟩) hp⟩ (next_opn P2 (PS.step_nodes s1))
      · injection h with h; injection h with h; subst h; exact NextP.refl _ _ _
    | prim =>
      rw [px] at h
      split at h
      · rename_i n hn
        obtain ⟨s1, h1, h2⟩ := bindR_ok h
        injection h1 with h1
        injection h2 with h2; injection h2 with h2; subst h2
        have hk := leaf_kind hn
        refine ⟨[n], ?_, ⟨0, 7, false⟩, Fits.own rfl (by simp) (by simp) (by simp; omega), fun st => RP.one (step_leaf ((ht s.now (by simp)).leaf n hn) hk.1 hk.2.1 hk.2.2)⟩
        have := Puts.add h1
        unfold Puts at *
        rw [PS.step_nodes, this]
      · rename_i hn
        split at h
        · rename_i h3
          split at h
          · injection h with h; cases h
          · rename_i h4
            obtain ⟨s1, h1, h2⟩ := bindR_ok h
            injection h1 with h1
            obtain ⟨e1, f1, f2⟩ := opens_some h1
            rw [PS.step_opn] at f2
            have hw1 : s1.wf := by rw [e1]; exact PS.wf_step (s := { s.step with opn := s.step.opn + 1 }) (PS.wf_step hw)
            have ho : s1.opn = s.opn + 1 := by rw [e1, PS.step_opn, PS.step_opn]
            have hn1 : s1.nodes = s.nodes := by rw [e1, PS.step_nodes, PS.step_nodes]
            have ht1 : ∀ x ∈ s1.now :: s1.rest, TokOk x := by rw [e1]; exact hst (a := { s.step with opn := s.step.opn + 1 }) (hst ht)
            have hnm := (ht s.now (by simp)).word h3 hn (by omega)
            have P := ih (.args s.now.str s.now.place []) s1 s' trivial hw1 (by omega) (by omega) ht1 h2 hnm (by simp)
            obtain ⟨ns, q1, q2⟩ := P
            obtain ⟨p, q3, q4⟩ := q2 [] rfl (by simp)
            refine ⟨ns, by unfold Puts at *; rw [q1, hn1], p, ?_, fun st => by simpa using q4 st⟩
            rwa [ho, show (33 : Int) - (s.opn + 1) = 32 - s.opn by omega] at q3
        · obtain ⟨s1, h1, h2⟩ := bindR_ok h
          injection h1 with h1
          obtain ⟨e1, f1, f2⟩ := opens_some h1
          obtain ⟨s2, h3', h4⟩ := bindR_ok h2
          injection h4 with h4
          obtain ⟨e4, _⟩ := closes_some h4
          have hw1 : s1.wf := by rw [e1]; exact PS.wf_step (s := { s with opn := s.opn + 1 }) hw
          have ho : s1.opn = s.opn + 1 := by rw [e1, PS.step_opn]
          have hn1 : s1.nodes = s.nodes := by rw [e1, PS.step_nodes]
          have ht1 : ∀ x ∈ s1.now :: s1.rest, TokOk x := by rw [e1]; exact hst (a := { s with opn := s.opn + 1 }) ht
          have P : OneP ((0 : Nat) + 1) (32 - s1.opn) s1 s2 := ih (.lev 0) s1 s2 (show 0 ≤ 4 by omega) hw1 (by omega) (by omega) ht1 h3'
          obtain ⟨ns, q1, p, q2, q3⟩ := P
          refine ⟨ns, by unfold Puts at *; rw [e4, PS.step_nodes]; show s2.nodes = _; rw [q1, hn1], p, ⟨q2.many, q2.low, ?_⟩, q3⟩
          have := q2.depth
          unfold PL.inside
          split <;> omega
    | args nm pl rects =>
      intro hnm h16
      rw [px] at h
      split at h
      · split at h
        · obtain ⟨s1, h1, h2⟩ := bindR_ok h
          injection h1 with h1
          injection h2 with h2
          obtain ⟨e2, _⟩ := closes_some h2
          refine ⟨[callN nm rects.length], ?_, fun qs hq hd => ⟨⟨deepL qs + 1, 7, false⟩, ?_, fun st => RP.one ?_⟩⟩
          · have := Puts.add h1
            unfold Puts at *
            rw [e2, PS.step_nodes]; exact this
          · have hdl := deep_le (k := 32 - s.opn) (l := qs) hd (by omega)
            exact Fits.own rfl (by simp only; omega) (by simp) (by simp only; omega)
          · exact step_call (call_may nm _ hnm h16) rfl (by rw [hq]; simp [callN])
        · injection h with h; cases h
      · split at h
        · injection h with h; cases h
        · rename_i hc
          obtain ⟨s1, h1, h2⟩ := bindR_ok h
          injection h1 with h1; injection h1 with h1
          have hw1 : s1.wf := by subst h1; split; exact hw; exact PS.wf_step hw
          have ho : s1.opn = s.opn := by subst h1; split; rfl; exact PS.step_opn s
          have hn1 : s1.nodes = s.nodes := by subst h1; split; rfl; exact PS.step_nodes s
          have ht1 : ∀ x ∈ s1.now :: s1.rest, TokOk x := by subst h1; split; exact ht; exact hst ht
          have hr : rects.length + 1 ≤ 16 := by
            by_cases hr0 : rects = []
            · subst hr0; simp
            · have : ¬ rects.length = 16 := fun e => hc ⟨hr0, .inr e⟩
              omega
          split at h2
          · rename_i h5
            obtain ⟨s2, h3, h4⟩ := bindR_ok h2
            injection h3 with h3
            have hP := Puts.add h3
            obtain ⟨e2, _⟩ := add_some h3
            have hw2 : s2.wf := by rw [e2]; exact hw1
            have ho2 : s2.opn = s.opn := by rw [e2]; exact ho
            have ht2 : ∀ x ∈ s2.now :: s2.rest, TokOk x := by rw [e2]; exact ht1
            obtain ⟨ns, q1, q2⟩ := ih (.args nm pl (rects ++ [true])) s2.step s' trivial (PS.wf_step hw2) (by rw [PS.step_opn]; omega) (by rw [PS.step_opn]; omega) (hst ht2) h4 hnm (by simp; omega)
            refine ⟨[rectN' s1.now.t s1.now.l s1.now.b s1.now.q] ++ ns, ?_, fun qs hq hd => ?_⟩
            · unfold Puts at *
              rw [q1, PS.step_nodes, hP, hn1]; simp
            · obtain ⟨p, q3, q4⟩ := q2 (qs ++ [⟨0, 7, true⟩]) (by simp [hq]) (by
                intro q hq2
                rw [PS.step_opn, ho2]
                rcases List.mem_append.1 hq2 with hq2 | hq2
                · exact hd q hq2
                · rw [List.mem_singleton.1 hq2]; simp; omega)
              rw [PS.step_opn, ho2] at q3
              refine ⟨p, q3, fun st => ?_⟩
              refine RP.app (RP.one (step_rect ((ht1 s1.now (by simp)).rect h5) rfl)) ?_
              have := q4 st
              rwa [← List.append_assoc] at this
          · obtain ⟨s2, h3, h4⟩ := bindR_ok h2
            have hk0 : Md.ok (.lev 0) := show 0 ≤ 4 by omega
            have a1 := px_after tb hw1 hk0 h3
            have o1 := a1.opn
            simp only [Md.opn] at o1
            have P : OneP ((0 : Nat) + 1) (32 - s1.opn) s1 s2 := ih (.lev 0) s1 s2 hk0 hw1 (by omega) (by omega) ht1 h3
            obtain ⟨n1, g1, pp, g2, g3⟩ := P
            obtain ⟨ns, q1, q2⟩ := ih (.args nm pl (rects ++ [false])) s2 s' trivial a1.wf (by omega) (by omega) (hx h3 ht1) h4 hnm (by simp; omega)
            refine ⟨n1 ++ ns, ?_, fun qs hq hd => ?_⟩
            · unfold Puts at *
              rw [q1, g1, hn1]; simp
            · have hdp := g2.depth
              have hlo := g2.low
              obtain ⟨p, q3, q4⟩ := q2 (qs ++ [pp]) (by simp [hq]) (by
                intro q hq2
                rcases List.mem_append.1 hq2 with hq2 | hq2
                · have := hd q hq2; omega
                · rw [List.mem_singleton.1 hq2]; omega)
              rw [show s2.opn = s.opn by omega] at q3
              refine ⟨p, q3, fun st => (g3 (st ++ qs)).app ?_⟩
              have := q4 st
              rwa [← List.append_assoc] at this
theorem parse_check {tb : Tb} {ts : List Tok} {s : PS} (ht : ∀ x ∈ ts, TokOk x) (hw : ∃ l x, ts = l ++ [x] ∧ x.last = true) (h : parseT tb ts = .ok s) : checkP s.nodes = true := by
  cases ts with
  | nil => cases h
  | cons x r =>
    simp only [parseT] at h
    split at h
    · cases h
    · cases h
    · rename_i s1 h1
      split at h
      · injection h with h
        subst h
        have hw' : (⟨x, r, 0, []⟩ : PS).wf := hw
        have hk0 : Md.ok (.lev 0) := show 0 ≤ 4 by omega
        obtain ⟨ns, q1, p, q2, q3⟩ := px_put tb _ (.lev 0) ⟨x, r, 0, []⟩ s1 hk0 hw' (by simp) (by simp) ht h1
        have hm := (px_after tb hw' hk0 h1).most (by simp)
        have e : s1.nodes = ns := q1
        have hp : putP ns = some [p] := q3 []
        have hn : ns ≠ [] := fun e => by rw [e] at hp; simp [putP] at hp
        have hl : 1 ≤ ns.length := by cases ns with | nil => exact absurd rfl hn | cons _ _ => simp
        have hd := q2.depth
        unfold checkP depthP
        rw [e] at hm ⊢
        rw [if_neg (by omega), hp]
        simp [q2.many]
        simpa using hd
      · cases h
end Go.Proofs.YtiekhbagpmnboaaGreatDoor
namespace Go.Proofs.YtiekhbagpmnboaaGreatDoor
open Go.RowKit

theorem TokOk.put {x : Tok} (h : TokOk x) (p : Int) : TokOk (x.put p) := ⟨h.leaf, h.rect, h.word⟩
theorem tokOk_K (k : Int) (h : k = 0 ∨ k = 8) : TokOk (tokK k) := by
  refine ⟨fun n hn => ?_, fun hk => ?_, fun hk => ?_⟩ <;> rcases h with rfl | rfl <;> simp [leafN, tokK] at *
theorem numP_low {c : UInt8} {r : List UInt8} (hc : isDig c = true) : 0 ≤ numV (c :: r) := by
  have hl : lowOf (c :: r) = false := by
    simp [isDig] at hc
    simp [lowOf]
    rintro rfl
    simp at hc
  unfold numV
  cases h : numP (c :: r) with
  | none => simp
  | some x =>
    unfold numP at h
    rw [hl] at h
    unfold bodyOf at h
    split at h
    · split at h
      · unfold numOf at h
        split at h
        · cases h
        · split at h
          · injection h with h; subst h; simp
          · cases h
      · cases h
    · cases h
theorem pOk_may {l : List UInt8} (h : pOk l = true) : mayB (pRow l) (pCol l) = true := by
  unfold pOk at h
  cases hp : parse l with
  | none => rw [hp] at h; cases h
  | some x =>
    obtain ⟨r, c⟩ := x
    have e1 : pRow l = r := by simp [pRow, hp]
    have e2 : pCol l = c := by simp [pCol, hp]
    rw [e1, e2, mayB_nat]
    exact (name_of_parse hp).1
theorem qOk_may {l : List UInt8} (h : qOk l = true) : mayRectB (qT l) (qL l) (qB l) (qR l) = true := by
  unfold qOk at h
  cases hp : parseRect l with
  | none => rw [hp] at h; cases h
  | some x =>
    have e1 : qT l = x.1 := by simp [qT, hp]
    have e2 : qL l = x.2.1 := by simp [qL, hp]
    have e3 : qB l = x.2.2.1 := by simp [qB, hp]
    have e4 : qR l = x.2.2.2 := by simp [qR, hp]
    rw [e1, e2, e3, e4]
    unfold parseRect at hp
    split at hp
    · cases hp
    · dsimp only at hp
      split at hp
      · rename_i h2
        injection hp with hp
        subst hp
        simp only [Bool.and_eq_true] at h2
        exact h2.2
      · cases hp
theorem pwhile_all (p : UInt8 → Bool) : ∀ l : List UInt8, (l.takeWhile p).all p = true
  | [] => by simp
  | b :: l => by
    rw [List.takeWhile_cons]
    split
    · rename_i h; rw [List.all_cons, h, pwhile_all p l]; rfl
    · rfl
theorem leaf3 (W : List UInt8) : leafN (tokS 3 W) = if (⟨W.toArray⟩ : ByteArray) = trueS then some (valN ⟨3, 0, ⟨#[]⟩, true, 0⟩) else if (⟨W.toArray⟩ : ByteArray) = falseS then some (valN ⟨3, 0, ⟨#[]⟩, false, 0⟩) else none := by
  rfl
theorem first_ok (l : List UInt8) : TokOk (firstT l).1 := by
  cases l with
  | nil => exact tokOk_K 0 (.inl rfl)
  | cons c r =>
    simp only [firstT]
    split
    · rename_i hc
      unfold nuT
      split
      · refine ⟨fun n hn => ?_, fun hk => by simp [tokNum] at hk, fun hk => by simp [tokNum] at hk⟩
        have h0 : 0 ≤ numV ((c :: r).takeWhile numB) := by
          rw [List.takeWhile_cons, if_pos (by simp [numB, hc])]
          exact numP_low hc
        simp [leafN, tokNum, valN] at hn
        subst hn
        simp [NL.may, VL.may, vMay, NL.noC, NL.noR, NL.noO, NL.noN]
        omega
      · exact tokOk_K 8 (.inr rfl)
    split
    · unfold textT
      split
      · refine ⟨fun n hn => ?_, fun hk => by simp [tokS] at hk, fun hk => by simp [tokS] at hk⟩
        simp [leafN, tokS, valN] at hn
        subst hn
        simp [NL.may, VL.may, vMay, NL.noC, NL.noR, NL.noO, NL.noN]
      · exact tokOk_K 8 (.inr rfl)
    split
    · unfold codeT
      split
      · rename_i h
        refine ⟨fun n hn => ?_, fun hk => by simp [tokCode] at hk, fun hk => by simp [tokCode] at hk⟩
        have hle := codeOf_le ⟨((c :: r).takeWhile bangB ++ [33]).toArray⟩
        have h0 := h.1
        have h1 := h.2.1
        generalize codeOf ⟨((c :: r).takeWhile bangB ++ [33]).toArray⟩ = k at *
        simp [leafN, tokCode, valN] at hn
        subst hn
        simp [NL.may, VL.may, vMay, NL.noC, NL.noR, NL.noO, NL.noN]
        omega
      · exact tokOk_K 8 (.inr rfl)
    split
    · rename_i hu
      unfold wordT
      split
      · split
        · split
          · rename_i hq
            refine ⟨fun n hn => by simp [leafN, tokRect] at hn, fun hk => ?_, fun hk => by simp [tokRect] at hk⟩
            have := qOk_may hq
            simp [NL.may, rectN', tokRect, vl0, vEq, NL.noV, NL.noC, NL.noO, NL.noN, this]
          · exact tokOk_K 8 (.inr rfl)
        · split
          · rename_i hp
            refine ⟨fun n hn => ?_, fun hk => by simp [tokCell] at hk, fun hk => by simp [tokCell] at hk⟩
            have := pOk_may hp
            simp [leafN, tokCell] at hn
            subst hn
            simp [NL.may, cellN, vl0, vEq, NL.noV, NL.noR, NL.noO, NL.noN, this]
          · exact tokOk_K 8 (.inr rfl)
      · rename_i hm
        refine ⟨fun n hn => ?_, fun hk => by simp [tokS] at hk, fun _ hn hs => ?_⟩
        · have e := (leaf3 _).symm.trans hn
          generalize (⟨((c :: r).takeWhile partB).toArray⟩ : ByteArray) = W at e
          by_cases g1 : W = trueS
          · rw [if_pos g1] at e; injection e with e; subst e; simp [valN, NL.may, VL.may, vMay, NL.noC, NL.noR, NL.noO, NL.noN]
          · rw [if_neg g1] at e
            by_cases g2 : W = falseS
            · rw [if_pos g2] at e; injection e with e; subst e; simp [valN, NL.may, VL.may, vMay, NL.noC, NL.noR, NL.noO, NL.noN]
            · rw [if_neg g2] at e; cases e
        · have ha := pwhile_all partB (c :: r)
          have hh : (c :: r).takeWhile partB = c :: r.takeWhile partB := by rw [List.takeWhile_cons, if_pos (by simp [partB, hu])]
          have e := (leaf3 _).symm.trans hn
          have hs1 : ((c :: r).takeWhile partB).length ≤ 16 := hs
          show namedB ((c :: r).takeWhile partB) = true
          clear hn hs
          generalize (c :: r).takeWhile partB = W at *
          subst hh
          have g1 : ¬ (c :: r.takeWhile partB) = [84, 82, 85, 69] := fun e1 => by
            rw [e1, if_pos (by decide +kernel)] at e; cases e
          have g2 : ¬ (c :: r.takeWhile partB) = [70, 65, 76, 83, 69] := fun e1 => by
            rw [e1, if_neg (by decide +kernel), if_pos (by decide +kernel)] at e; cases e
          have hm' : meantB (c :: r.takeWhile partB) = false := by simpa using hm
          unfold namedB
          simp only [ha, hu, hm', decide_eq_false g1, decide_eq_false g2, decide_eq_true hs1, Bool.not_false, Bool.or_false, Bool.and_true]
          simp
    · unfold signT
      split
      · exact ⟨fun n hn => by simp [leafN, tokS] at hn, fun hk => by simp [tokS] at hk, fun hk => by simp [tokS] at hk⟩
      · split
        · exact ⟨fun n hn => by simp [leafN, tokS] at hn, fun hk => by simp [tokS] at hk, fun hk => by simp [tokS] at hk⟩
        · exact tokOk_K 8 (.inr rfl)
theorem toks_ok (n : Nat) : ∀ (f : Nat) (l : List UInt8), ∀ x ∈ toks n f l, TokOk x
  | 0, l, x, h => by simp [toks] at h
  | f + 1, l, x, h => by
    unfold toks at h
    rcases List.mem_cons.1 h with rfl | h
    · exact (first_ok _).put _
    · split at h
      · simp at h
      · exact toks_ok n f _ x h
theorem lexL_ok (l : List UInt8) : ∀ x ∈ lexL l, TokOk x := by
  cases l with
  | nil => intro x h; simp [lexL] at h; subst h; exact tokOk_K 8 (.inr rfl)
  | cons b r =>
    intro x h
    simp only [lexL] at h
    split at h
    · exact toks_ok _ _ _ x h
    · simp at h; subst h; exact tokOk_K 8 (.inr rfl)
/-- where, and as what, a text is wrong -/
def BadOk (P : Int → Prop) : PR → Prop | .ok _ => True | .bad e a => (e = 7 ∨ e = 8) ∧ P a
theorem bad_fail {P : Int → Prop} {s : PS} (h : P s.now.place) : BadOk P s.fail := ⟨.inr rfl, h⟩
theorem bad_add {P : Int → Prop} {s : PS} {n : NL} {a : Int} (h : P a) : BadOk P (s.add n a) := by
  unfold PS.add
  split
  · exact ⟨.inr rfl, h⟩
  · trivial
theorem bad_opens {P : Int → Prop} {s : PS} (h : P s.now.place) : BadOk P s.opens := by
  unfold PS.opens
  split
  · exact bad_fail h
  · split
    · exact ⟨.inl rfl, h⟩
    · trivial
theorem bad_closes {P : Int → Prop} {s : PS} (h : P s.now.place) : BadOk P s.closes := by
  unfold PS.closes
  split
  · exact bad_fail h
  · trivial
theorem bad_negs {P : Int → Prop} : ∀ {l : List Int} {s : PS}, (∀ a ∈ l, P a) → BadOk P (negs l s)
  | [], s, _ => trivial
  | a :: l, s, h => by
    have h1 : BadOk P (s.add (opN 1) a) := bad_add (h a (by simp))
    simp only [negs]
    split
    · rename_i hs; rw [hs] at h1; exact h1
    · exact bad_negs fun x hx => h x (by simp [hx])
theorem bindR_bad {P : Int → Prop} {x : Option PR} {f : PS → Option PR} {r : PR} (h : bindR x f = some r) (hx : ∀ q, x = some q → BadOk P q) (hf : ∀ s, x = some (.ok s) → f s = some r → BadOk P r) : BadOk P r := by
  rcases bindR_some h with ⟨e, a, h1, rfl⟩ | ⟨s, h1, h2⟩
  · exact hx _ h1
  · exact hf s h1 h2
def MdAt (P : Int → Prop) : Md → Prop | .neg ats => ∀ a ∈ ats, P a | .args _ p _ => P p | _ => True
theorem px_bad {P : Int → Prop} (tb : Tb) : ∀ (f : Nat) (m : Md) (s : PS) (r : PR), MdAt P m → (∀ x ∈ s.now :: s.rest, P x.place) → px tb f m s = some r → BadOk P r := by
  intro f
  induction f with
  | zero => intro m s r _ _ h; cases h
  | succ f ih =>
    intro m s r hm ht h
    have hx : ∀ {g : Nat} {m1 : Md} {a b : PS}, px tb g m1 a = some (.ok b) → (∀ x ∈ a.now :: a.rest, P x.place) → ∀ x ∈ b.now :: b.rest, P x.place := fun h ha x hx => ha x ((suffix_inv.px tb _ _ _ _ h).subset hx)
    have hst : ∀ {a : PS}, (∀ x ∈ a.now :: a.rest, P x.place) → ∀ x ∈ a.step.now :: a.step.rest, P x.place := fun ha x hx => ha x ((step_suffix _).subset hx)
    have hn : ∀ {a : PS}, (∀ x ∈ a.now :: a.rest, P x.place) → P a.now.place := fun ha => ha _ (by simp)
    cases m with
    | lev k =>
      rw [px] at h
      split at h
      · exact ih (.neg []) s r (by simp [MdAt]) ht h
      · exact bindR_bad h (fun q hq => ih (.lev (k + 1)) s q trivial ht hq) fun s1 h1 h2 => ih (.loop k) s1 r trivial (hx h1 ht) h2
    | loop k =>
      rw [px] at h
      split at h
      · injection h with h; subst h; trivial
      · refine bindR_bad h (fun q hq => ih (.lev (k + 1)) s.step q trivial (hst ht) hq) fun s1 h1 h2 => ?_
        refine bindR_bad h2 (fun q hq => by injection hq with hq; subst hq; exact bad_add (hn ht)) fun s2 h3 h4 => ?_
        injection h3 with h3
        obtain ⟨e2, _⟩ := add_some h3
        exact ih (.loop k) s2 r trivial (by rw [e2]; exact hx (b := s1) h1 (hst ht)) h4
    | neg ats =>
      rw [px] at h
      split at h
      · refine ih (.neg (s.now.place :: ats)) s.step r ?_ (hst ht) h
        intro a ha
        rcases List.mem_cons.1 ha with rfl | ha
        · exact hn ht
        · exact hm a ha
      · refine bindR_bad h (fun q hq => ih .prim s q trivial ht hq) fun s1 h1 h2 => ?_
        refine bindR_bad h2 (fun q hq => ih .pct s1 q trivial (hx h1 ht) hq) fun s2 h3 h4 => ?_
        injection h4 with h4
        subst h4
        exact bad_negs hm
    | pct =>
      rw [px] at h
      split at h
      · refine bindR_bad h (fun q hq => by injection hq with hq; subst hq; exact bad_add (hn ht)) fun s1 h1 h2 => ?_
        injection h1 with h1
        obtain ⟨e2, _⟩ := add_some h1
        exact ih .pct s1.step r trivial (hst (by rw [e2]; exact ht)) h2
      · injection h with h; subst h; trivial
    | prim =>
      rw [px] at h
      split at h
      · refine bindR_bad h (fun q hq => by injection hq with hq; subst hq; exact bad_add (hn ht)) fun s1 h1 h2 => ?_
        injection h2 with h2; subst h2; trivial
      · split at h
        · split at h
          · injection h with h; subst h; exact bad_fail (hn ht)
          · refine bindR_bad h (fun q hq => by injection hq with hq; subst hq; exact bad_opens (hn (hst ht))) fun s1 h1 h2 => ?_
            injection h1 with h1
            obtain ⟨e1, f1, f2⟩ := opens_some h1
            exact ih (.args s.now.str s.now.place []) s1 r (hn ht) (by rw [e1]; exact hst (a := { s.step with opn := s.step.opn + 1 }) (hst ht)) h2
        · refine bindR_bad h (fun q hq => by injection hq with hq; subst hq; exact bad_opens (hn ht)) fun s1 h1 h2 => ?_
          injection h1 with h1
          obtain ⟨e1, f1, f2⟩ := opens_some h1
          have ht1 : ∀ x ∈ s1.now :: s1.rest, P x.place := by rw [e1]; exact hst (a := { s with opn := s.opn + 1 }) ht
          refine bindR_bad h2 (fun q hq => ih (.lev 0) s1 q trivial ht1 hq) fun s2 h3 h4 => ?_
          injection h4 with h4
          subst h4
          exact bad_closes (hn (hx h3 ht1))
    | args nm pl rects =>
      rw [px] at h
      split at h
      · split at h
        · refine bindR_bad h (fun q hq => by injection hq with hq; subst hq; exact bad_add hm) fun s1 h1 h2 => ?_
          injection h1 with h1
          injection h2 with h2
          subst h2
          obtain ⟨e2, _⟩ := add_some h1
          exact bad_closes (by rw [e2]; exact hn (a := s) ht)
        · injection h with h; subst h; exact ⟨.inr rfl, hm⟩
      · split at h
        · injection h with h; subst h; exact bad_fail (hn ht)
        · obtain ⟨e, a, h1, _⟩ | ⟨s1, h1, h2⟩ := bindR_some h
          · cases h1
          injection h1 with h1; injection h1 with h1
          have ht1 : ∀ x ∈ s1.now :: s1.rest, P x.place := by subst h1; split; exact ht; exact hst ht
          split at h2
          · refine bindR_bad h2 (fun q hq => by injection hq with hq; subst hq; exact bad_add (hn ht1)) fun s2 h3 h4 => ?_
            injection h3 with h3
            obtain ⟨e2, _⟩ := add_some h3
            exact ih (.args nm pl (rects ++ [true])) s2.step r hm (hst (by rw [e2]; exact ht1)) h4
          · refine bindR_bad h2 (fun q hq => ih (.lev 0) s1 q trivial ht1 hq) fun s2 h3 h4 => ?_
            exact ih (.args nm pl (rects ++ [false])) s2 r hm (hx h3 ht1) h4
theorem parseT_bad {P : Int → Prop} (tb : Tb) (ts : List Tok) (h0 : P 0) (ht : ∀ x ∈ ts, P x.place) : BadOk P (parseT tb ts) := by
  cases ts with
  | nil => exact ⟨.inr rfl, h0⟩
  | cons x r =>
    simp only [parseT]
    split
    · exact ⟨.inr rfl, h0⟩
    · rename_i e a h1; exact px_bad (P := P) tb _ (.lev 0) ⟨x, r, 0, []⟩ (.bad e a) trivial ht h1
    · rename_i s h1
      split
      · trivial
      · exact bad_fail (ht _ ((suffix_inv.px tb _ _ _ _ h1).subset (by simp)))
/-- what is read is a formula that may be; where it isn't, the place stands in the text -/
theorem parse_law (tb : Tb) (l : List UInt8) : match parseT tb (lexL l) with
    | .ok s => checkP s.nodes = true
    | .bad e a => (e = 7 ∨ e = 8) ∧ 0 ≤ a ∧ a ≤ l.length := by
  have hl := lexL_laws l
  have h := parseT_bad (P := fun a => 0 ≤ a ∧ a ≤ l.length) tb (lexL l) ⟨by omega, by omega⟩ (by
    intro x hx
    obtain ⟨k, hk⟩ := List.mem_iff_getElem?.1 hx
    exact hl.place k x hk)
  have hne := hl.ne
  have hlast : ∃ m x, lexL l = m ++ [x] ∧ x.last = true := by
    refine ⟨(lexL l).dropLast, (lexL l).getLast (List.ne_nil_of_length_pos hne), (List.dropLast_concat_getLast _).symm, ?_⟩
    have := hl.last ((lexL l).length - 1) _ (by rw [List.getElem?_eq_getElem (by omega), ← List.getLast_eq_getElem (List.ne_nil_of_length_pos hne)])
    rw [this]; simp; omega
  cases hp : parseT tb (lexL l) with
  | ok s => exact parse_check (lexL_ok l) hlast hp
  | bad e a => rw [hp] at h; exact h
end Go.Proofs.YtiekhbagpmnboaaGreatDoor
namespace Go.Proofs.YtiekhbagpmnboaaGreatDoor
open Go.RowKit

/-- the nodes that were read, where they lie -/
theorem own_rdn {w : World} {B : Nat} {v : Value} {l : List NL} (h : w.ownsRow B 79 15 v l.length (ndRow l)) : ∃ A cap, v = .slice A l.length cap ∧ RdB w w.heap.size A 15 (l.map NL.cs) :=
  ownsRow_rdk (by omega) (fun c hc => by obtain ⟨y, _, rfl⟩ := List.mem_map.1 hc; rfl) (by simp) h
theorem check_few {l : List NL} (h : checkP l = true) : 1 ≤ l.length ∧ l.length ≤ 1024 := by
  unfold checkP depthP at h
  split at h
  · rename_i d hd
    split at hd
    · cases hd
    · omega
  · cases h
end Go.Proofs.YtiekhbagpmnboaaGreatDoor
namespace Go.Proofs.YtiekhbagpmnboaaGreatDoor
open Go.RowKit

theorem blank_law2 (b : UInt8) (r : List UInt8) (h61 : b.toNat = 61) (k : Nat) (x : Tok) (hx : (lexL (b :: r))[k]? = some x) : ∃ fr : Nat, x.place = (fr : Int) ∧ fr ≤ (b :: r).length ∧
    lexL ((b :: r).take fr ++ 32 :: (b :: r).drop fr) = (lexL (b :: r)).take k ++ ((lexL (b :: r)).drop k).map Tok.shift := by
  have e : lexL (b :: r) = toks (b :: r).length (r.length + 1) r := by simp [lexL, h61]
  rw [e] at hx ⊢
  have hle : r.length ≤ (b :: r).length := by simp
  have h1 := toks_in _ _ _ hle k x hx
  simp at h1
  obtain ⟨o, ho⟩ : ∃ o : Nat, x.place = (o : Int) + 1 := ⟨(x.place - 1).toNat, by omega⟩
  have hi := toks_ins (b :: r).length (r.length + 1) r (by omega) hle k x o hx (by simp; omega) (r.length + 1 + 1) (by omega)
  refine ⟨o + 1, by omega, by simp; omega, ?_⟩
  rw [← hi, List.take_succ_cons, List.drop_succ_cons, List.cons_append]
  have hlen : (r.take o ++ 32 :: r.drop o).length = r.length + 1 := by simp; omega
  simp only [lexL]
  rw [if_pos h61, List.length_cons, hlen, List.length_cons]
def up1 (t p : Int) : Int := if t ≤ p then p + 1 else p
theorem laws_mono {l : List UInt8} {ts : List Tok} (h : TokLaws l ts) : ∀ (d k : Nat) (x y : Tok), ts[k]? = some x → ts[k + d + 1]? = some y → x.place < y.place
  | 0, k, x, y, hx, hy => h.rise k x y hx hy
  | d + 1, k, x, y, hx, hy => by
    have hlt : k + d + 1 < ts.length := by have := (List.getElem?_eq_some_iff.1 hy).1; omega
    have hz := List.getElem?_eq_getElem hlt
    have h1 := laws_mono h d k x _ hx hz
    have h2 := h.rise (k + d + 1) _ y hz hy
    omega
theorem shift_mv {l : List UInt8} {ts : List Tok} (h : TokLaws l ts) (k : Nat) (x : Tok) (hx : ts[k]? = some x) : ts.take k ++ (ts.drop k).map Tok.shift = ts.map (Tok.mv (up1 x.place)) := by
  have hk : k < ts.length := (List.getElem?_eq_some_iff.1 hx).1
  apply List.ext_getElem?
  intro i
  rw [List.getElem?_map]
  by_cases hi : i < k
  · rw [List.getElem?_append_left (by rw [List.length_take]; omega), List.getElem?_take_of_lt hi]
    obtain ⟨y, hy⟩ : ∃ y, ts[i]? = some y := ⟨_, List.getElem?_eq_getElem (by omega)⟩
    have := laws_mono h (k - i - 1) i y x hy (by rw [show i + (k - i - 1) + 1 = k by omega]; exact hx)
    rw [hy]
    simp only [Option.map_some, Tok.mv, up1]
    rw [if_neg (by omega)]
    rfl
  · rw [List.getElem?_append_right (by rw [List.length_take]; omega), List.length_take, Nat.min_eq_left (by omega), List.getElem?_map, List.getElem?_drop, show k + (i - k) = i by omega]
    cases hy : ts[i]? with
    | none => rfl
    | some y =>
      have : x.place ≤ y.place := by
        by_cases hik : i = k
        · subst hik; rw [hx] at hy; injection hy with hy; subst hy; exact Int.le_refl _
        · have := laws_mono h (i - k - 1) k x y hx (by rw [show k + (i - k - 1) + 1 = i by omega]; exact hy)
          omega
      simp only [Option.map_some, Tok.mv, up1, Tok.shift]
      rw [if_pos this]
theorem parseT_mv (tb : Tb) (φ : Int → Int) (ts : List Tok) (hw : ∃ l x, ts = l ++ [x] ∧ x.last = true) : parseT tb (ts.map (Tok.mv φ)) = (parseT tb ts).mv φ := by
  cases ts with
  | nil => obtain ⟨l, x, e, _⟩ := hw; simp at e
  | cons x r =>
    have h := px_mv tb φ (8 * r.length + 16) (.lev 0) ⟨x, r, 0, []⟩
    simp only [List.map_cons, parseT, List.length_map]
    change px tb (8 * r.length + 16) (.lev 0) ⟨Tok.mv φ x, r.map (Tok.mv φ), 0, []⟩ = _ at h
    rw [h]
    obtain ⟨q, hq⟩ : ∃ q, px tb (8 * r.length + 16) (.lev 0) ⟨x, r, 0, []⟩ = q := ⟨_, rfl⟩
    rw [hq]
    cases q with
    | none =>
      obtain ⟨q, e, _⟩ := px_total tb (8 * r.length + 16) (.lev 0) ⟨x, r, 0, []⟩ hw (show 0 ≤ 4 by omega) (by simp only [Md.rank]; omega)
      rw [hq] at e; cases e
    | some q =>
      cases q with
      | bad e a => rfl
      | ok s =>
        simp only [Option.map_some, PR.mv]
        show (if s.now.kind = 0 then _ else _) = _
        split <;> rfl
theorem lexL_last (l : List UInt8) : ∃ m x, lexL l = m ++ [x] ∧ x.last = true := by
  have hl := lexL_laws l
  have hne := hl.ne
  refine ⟨(lexL l).dropLast, (lexL l).getLast (List.ne_nil_of_length_pos hne), (List.dropLast_concat_getLast _).symm, ?_⟩
  have := hl.last ((lexL l).length - 1) _ (by rw [List.getElem?_eq_getElem (by omega), ← List.getLast_eq_getElem (List.ne_nil_of_length_pos hne)])
  rw [this]; simp; omega
/-- a blank put in where a token begins: the same, but for the places behind it -/
theorem blank_parse (tb : Tb) (b : UInt8) (r : List UInt8) (h61 : b.toNat = 61) (k : Nat) (x : Tok) (hx : (lexL (b :: r))[k]? = some x) : ∃ fr : Nat, x.place = (fr : Int) ∧ fr ≤ (b :: r).length ∧
    parseT tb (lexL ((b :: r).take fr ++ 32 :: (b :: r).drop fr)) = (parseT tb (lexL (b :: r))).mv (up1 fr) := by
  obtain ⟨fr, h1, h2, h3⟩ := blank_law2 b r h61 k x hx
  refine ⟨fr, h1, h2, ?_⟩
  rw [h3, shift_mv (lexL_laws _) k x hx, parseT_mv tb _ _ (lexL_last _), h1]
theorem parse_noeq (tb : Tb) (l : List UInt8) (h : ∀ b, l.head? = some b → b.toNat ≠ 61) : parseT tb (lexL l) = .bad 8 0 := by
  rw [lexL_no h]
  rfl
end Go.Proofs.YtiekhbagpmnboaaGreatDoor
