/-
  oriellaw04.LexLeaves: leaving at any token, a range within a range.
-/
import Derived.Test.YtiekhbagpmnboaaGreatDoorPrintL
import Derived.Test.YtiekhbagpmnboaaGreatDoorNumL
import Derived.Test.YtiekhbagpmnboaaGreatDoorRows
import Derived.Test.YtiekhbagpmnboaaGreatDoorBase
import Derived.Test.YtiekhbagpmnboaaGreatDoorProg
import Derived.Test.YtiekhbagpmnboaaGreatDoorShelf
import Derived.Test.YtiekhbagpmnboaaGreatDoorCutW
import Derived.Test.YtiekhbagpmnboaaGreatDoorAddrC
import Derived.Test.YtiekhbagpmnboaaGreatDoorNames
import Derived.Test.YtiekhbagpmnboaaGreatDoorParseW
import Derived.Test.YtiekhbagpmnboaaGreatDoorPRect
import Derived.Test.YtiekhbagpmnboaaGreatDoorDecA
import Derived.Test.YtiekhbagpmnboaaGreatDoorValA
import Derived.Test.YtiekhbagpmnboaaGreatDoorValB
import Derived.Test.YtiekhbagpmnboaaGreatDoorValD
import Derived.Test.YtiekhbagpmnboaaGreatDoorLexP
import Derived.Test.YtiekhbagpmnboaaGreatDoorLexW
import Derived.Test.YtiekhbagpmnboaaGreatDoorRefName
import Derived.Test.YtiekhbagpmnboaaGreatDoorLexR
import Derived.Test.YtiekhbagpmnboaaGreatDoorLexWd
import Derived.Test.YtiekhbagpmnboaaGreatDoorLexSg
import Derived.Test.YtiekhbagpmnboaaGreatDoorLexQ
import Derived.Test.YtiekhbagpmnboaaGreatDoorMg21
import Derived.Test.YtiekhbagpmnboaaGreatDoorLexQt
import Derived.Test.YtiekhbagpmnboaaGreatDoorLexS
import Derived.Test.YtiekhbagpmnboaaGreatDoorDDig
import Derived.Test.YtiekhbagpmnboaaGreatDoorDParse
import Derived.Test.YtiekhbagpmnboaaGreatDoorLexF
import Derived.Test.YtiekhbagpmnboaaGreatDoorRParse
import Derived.Test.YtiekhbagpmnboaaGreatDoorRPRect
import Derived.Test.YtiekhbagpmnboaaGreatDoorLexN
import Derived.Test.YtiekhbagpmnboaaGreatDoorMg30
import Derived.Test.YtiekhbagpmnboaaGreatDoorMg31
import Derived.Test.YtiekhbagpmnboaaGreatDoorRDPar
import Derived.Test.YtiekhbagpmnboaaGreatDoorRDParB
import Derived.Test.YtiekhbagpmnboaaGreatDoorRDJoin
import Derived.Test.YtiekhbagpmnboaaGreatDoorValK
import Derived.Test.YtiekhbagpmnboaaGreatDoorLexD
import Derived.Test.YtiekhbagpmnboaaGreatDoorLexA
import Derived.Test.YtiekhbagpmnboaaGreatDoorLexB
import Derived.Test.YtiekhbagpmnboaaGreatDoorRowB
import Derived.Test.YtiekhbagpmnboaaGreatDoorMapK
import Derived.Test.YtiekhbagpmnboaaGreatDoorTokR
import Derived.Test.YtiekhbagpmnboaaGreatDoorLexC
import Derived.Test.YtiekhbagpmnboaaGreatDoorLexI
import Derived.Test.YtiekhbagpmnboaaGreatDoorLexL
import Derived.Test.YtiekhbagpmnboaaGreatDoorLexT
import Derived.Test.YtiekhbagpmnboaaGreatDoorLexTk
import Derived.RangeFuncBox
import Derived.RangeFuncNested
import Derived.RangeFuncLeaves
import Derived.Shelf.Abstract
import Derived.WalkKit
import Derived.OwnWalkIn
import Derived.TacticsInMore
import Derived.LoopNIn
import Derived.LoopIn
import Derived.Maps.AppendAt
import Derived.Sort.CutIn
import Derived.Laws.StructEq
import Derived.Maps.OwnIn
import Derived.Lib.ItoaMem
import Derived.Lib.TrimByte
import Derived.Lib.IndexLaws
import Derived.Lib.SlTrimSet
import Derived.Lib.ParseIntB
import Derived.ProofKit
import Derived.OpenShut
import Derived.Carry
import Derived.ChangeSame
import Derived.Lib.Hide
import Derived.Deep.Draws
import Derived.Shelf.Strings.Builder1
import Derived.Shelf.Strings.Trim
import Derived.Shelf.Small.Utf8
import Derived.Shelf.Small.Strs
import Derived.Shelf.Small.Wraps
import Derived.Shelf.Strings.BuilderF
import Derived.Shelf.Strings.BuilderK
import Derived.Shelf.Strconv.Itoa0
import Derived.Shelf.Strconv.Itoa1
import Derived.Shelf.LaysM
import Derived.Shelf.Strconv.Itoa2
import Derived.Shelf.Strconv.Itoa3
import Derived.Ground.MpProg
import Derived.Shelf.Pu.ParseUintPublic10
import Derived.Shelf.Strings.Search1
import Derived.Shelf.Strings.Search2
import Derived.Shelf.Strings.Cut
import Derived.Shelf.Strings.Shaped
import Derived.Shelf.Strings.Prefix
import Derived.Shelf.Strings.Runes
import Derived.Shelf.Strings.AsciiSet
import Derived.Shelf.Unicode.DecodeSlow
import Derived.WalkSpells
import Derived.WalkLawsBesides
import Derived.StillTactics
import Derived.Laws.Pointers
import Derived.Deep.RegionHeld3
import Derived.Deep.QuietTactic
import Derived.BigQuiet
import Derived.RowKit3
import Derived.Lib.OthersKept
import Derived.OwnWalk
import Derived.Lib.ItoaNum
import Derived.Shelf.Strings.SlTrimAscii
import Derived.Lib.SmallJoins
import Derived.Maps.OwnSet
namespace Go.Proofs.YtiekhbagpmnboaaGreatDoor
open Go.RowKit Go.Shelf

attribute [local go_sem] Oper.semAt_some

theorem count_put : ∀ (l : List Bool) (i : Nat), l[i]? = some false → (l.set i true).count false + 1 = l.count false
  | [], i, h => by simp at h
  | b :: l, 0, h => by simp at h; subst h; simp
  | b :: l, i + 1, h => by
    have := count_put l i (by simpa using h)
    simp only [List.set_cons_succ, List.count_cons]
    omega
/-- a region in whatever order, by what holds between its operations -/
theorem any_inv {F : Fence} {n : Nat} {P : Program} {md : Region.Mode} {ops : Array Oper} {Q : Exit → Act → World → Prop} (Inv : Array Bool → Act → World → Prop)
    (hs : ∀ L a w i, Inv L a w → i ∈ Region.ready md ops L → wpOpIn F n P ops Q i (fun a' w' => Inv (L.setIfInBounds i true) a' w') a w)
    (he : ∀ L a w, Inv L a w → Region.ready md ops L = [] → Q .normal a w) : ∀ (fuel : Nat) (L : Array Bool) (a : Act) (w : World), Inv L a w → L.toList.count false ≤ fuel → wpAnyIn F n P md ops Q fuel L a w := by
  have hat : ∀ (L : Array Bool) (i : Nat), i ∈ Region.ready md ops L → L.toList[i]? = some false := by
    intro L i hi
    have h := (mem_ready.1 hi).1
    rw [Array.getD_eq_getD_getElem?] at h
    rw [Array.getElem?_toList]
    cases hq : L[i]? with
    | none => rw [hq] at h; simp at h
    | some b => rw [hq] at h; simp at h; rw [h]
  intro fuel
  induction fuel with
  | zero =>
    intro L a w hI hc
    have hr : Region.ready md ops L = [] := by
      apply List.eq_nil_iff_forall_not_mem.2
      intro i hi
      have := count_put _ _ (hat L i hi)
      omega
    exact ⟨hr, he L a w hI hr⟩
  | succ fuel ih =>
    intro L a w hI hc
    refine ⟨fun hr => he L a w hI hr, fun i hi => ?_⟩
    refine wpOpIn_mono (fun a' w' h => ih _ a' w' h ?_) (hs L a w i hI hi)
    have := count_put _ _ (hat L i hi)
    rw [Array.toList_setIfInBounds]
    omega
/-- an operation in a round that yields a value, and lets the world be -/
theorem op_yields {F : Fence} {n : Nat} {P : Program} {ops : Array Oper} {Q : Exit → Act → World → Prop} {i : Nat} {K : Act → World → Prop} {a : Act} {w : World} {o : Oper} {v : Value} (ho : ops[i]? = some o)
    (hx : (Region.wanted o (yielded ops a.tmps) = true ∧ (∀ f, o.about P w a.eval = some f → F.fn f) ∧ (o.semAt F.round a.eval).run P w = .ok (.value v) w) ∨ (Region.wanted o (yielded ops a.tmps) = false ∧ (∀ f, o.about P w a.eval = some f → F.fn f) ∧ v = undef)) (hK : K (a.put o.dst v) w) : wpOpIn F n P ops Q i K a w := by
  unfold wpOpIn
  rw [ho]
  rcases hx with ⟨h1, h2, h3⟩ | ⟨h1, h2, rfl⟩
  · simp only [h1, if_true, Oper.wpIn, h3]
    exact ⟨h2, hK⟩
  · simp only [h1]
    exact ⟨h2, hK⟩
theorem prefix_at {α : Type} {pre L : List α} {x : α} (h : pre ++ [x] <+: L) : L[pre.length]? = some x := by
  obtain ⟨r, rfl⟩ := h
  simp
theorem prefix_step {α : Type} {pre L : List α} {x : α} (h : pre <+: L) (hx : L[pre.length]? = some x) : pre ++ [x] <+: L := by
  obtain ⟨r, rfl⟩ := h
  cases r with
  | nil => simp at hx
  | cons y r => simp at hx; subst hx; exact ⟨r, by simp⟩
theorem KpO.put {Bo n₀ : Nat} {W : World} {t : TypeId} {u : Int} (hx : Boxed W Bo t (.int .i64 u)) (hn : n₀ ≤ Bo) (v : Int) : KpO Bo n₀ W (W.setCell ⟨Bo, 0, none⟩ (.int .i64 v)) := by
  refine ⟨(Below.refl _ _).setCell (p := ⟨Bo, 0, none⟩) hn _, .inl ?_, fun k cs t fr hk hne _ => (Below.heap_setCell _ _ _ _ (by dsimp only; omega)).trans hk⟩
  unfold ownOf
  rw [(hx.set (.int .i64 v)).cell, hx.cell]
  rfl
theorem KpO.later {Bo n₀ b : Nat} {W X : World} (h : KpO Bo n₀ W X) (hb : W.heap.size ≤ b) (hBo : Bo < W.heap.size) (hn : n₀ ≤ W.heap.size) (v : Value) : KpO Bo n₀ W (X.setCell ⟨b, 0, none⟩ v).drew := by
  obtain ⟨h1, h2, h3⟩ := h
  have hz : (X.setCell ⟨b, 0, none⟩ v).drew.heap.size = X.heap.size := by simp
  refine ⟨(h1.setCell (p := ⟨b, 0, none⟩) (by dsimp only; omega) v).drew, ?_, fun k cs t fr hk hne how => ?_⟩
  · have e : ownOf (X.setCell ⟨b, 0, none⟩ v).drew Bo = ownOf X Bo := ownOf_eq (World.cell?_of_block (a := ⟨Bo, 0, none⟩) (Below.heap_setCell _ _ _ _ (by dsimp only; omega)))
    rw [e]
    rcases h2 with h2 | ⟨g, h2, h4, h5⟩
    · exact .inl h2
    · exact .inr ⟨g, h2, h4, by omega⟩
  · have hlt := lt_of_heap hk
    exact (Below.heap_setCell _ _ _ _ (by dsimp only; omega)).trans (h3 k cs t fr hk hne how)
def mu8 (a : Act) : Nat := match a.tmps.getD 8 undef with | .int _ i => 2 - i.toNat | _ => 0
/-- the marks that loops have left are taken up, one behind the other -/
theorem leaves_marks {F : Fence} {n : Nat} {P : Program} {fn : Func} {tmps : Array Value} {R : Ending → World → Prop} (B : Nat) : ∀ (Ds : List Nat) (W : World), Ds.Nodup → (∀ D ∈ Ds, B ≤ D ∧ W.heap[D]? = some (.deferred (some []))) → (∀ W', Below B W W' → LeavesIn F n P fn tmps R [] .returning W') → LeavesInM F n P fn tmps R (Ds.map (fun D => (⟨.collected D, #[]⟩ : Deferred))) .returning W
  | [], W, _, _, h => h W (Below.refl _ _)
  | D :: Ds, W, hnd, hd, h => by
    have h0 := hd D (by simp)
    have hnd' := List.nodup_cons.1 hnd
    refine ⟨by simp, .inl ⟨D, _, rfl, run_takeDeferred h0.2, ?_⟩⟩
    have hlt := lt_of_heap h0.2
    have hb : Below B W (W.putObj D (.deferred none)) := (Below.refl B W).grown (grownBy_putObj' W D _) (by omega) (fun k e => by cases e; omega)
    refine leaves_marks B Ds _ hnd'.2 (fun E hE => ⟨(hd E (by simp [hE])).1, ?_⟩) (fun W' hW' => h W' (hb.trans hW'))
    exact (World.putObj_heap_other (fun e => hnd'.1 (by first | (rw [e]; exact hE) | (rw [← e]; exact hE)))).trans (hd E (by simp [hE])).2
/-- tokens that lie in a row -/
def TokAt (W : World) (tb tof : Nat) (ts : List Tok) : Prop := ∀ k x, ts[k]? = some x → ∀ j u, x.cs[j]? = some u → W.cell? ⟨tb, tof + k * 11 + j, none⟩ = some u
theorem TokAt.below {W W' : World} {tb tof : Nat} {ts : List Tok} (h : TokAt W tb tof ts) (hb : Below W.heap.size W W') (htb : tb < W.heap.size) : TokAt W' tb tof ts := fun k x hx j u hu => (hb.cell (p := ⟨tb, tof + k * 11 + j, none⟩) htb).trans (h k x hx j u hu)
theorem TokAt.set {W : World} {tb tof b i : Nat} {ts : List Tok} {v : Value} (h : TokAt W tb tof ts) (hne : tb ≠ b) : TokAt (W.setCell ⟨b, i, none⟩ v) tb tof ts := fun k x hx j u hu => by
  rw [← h k x hx j u hu]
  simp [World.cell?, World.setCell, Array.getElem?_modify, Ne.symm hne]
/-- what lies all the while -/
structure Lf (A0 A5 A7 tb tof tcap n : Nat) (l : List UInt8) (Ds : List Nat) (w W : World) : Prop where
  x4 : Boxed W A0 4 (.bool false)
  x5 : Boxed W A5 22 (.slice (some ⟨tb, tof, none⟩) (lexL l).length tcap)
  x6 : Boxed W (A5 + 1) 3 (.int .i64 (n : Int))
  x7 : Boxed W A7 9 (.string ⟨l.toArray⟩)
  x8 : Boxed W (A7 + 1) 25 (.func (.func 18) #[] #[.pointer (some ⟨A7, 0, none⟩)])
  xt : TokAt W tb tof (lexL l)
  xd : ∀ D ∈ Ds, A7 + 2 ≤ D ∧ W.heap[D]? = some (.deferred (some []))
  xb : Below A0 w W
theorem box_grown {W W' : World} {B : Nat} {t : TypeId} {v : Value} {row : Option Nat} (h : Boxed W B t v) (hg : W.grownBy W' row) (hr : ∀ r, row = some r → ∃ o : Obj, W.heap[r]? = some o ∧ o.isCells = false) : Boxed W' B t v := boxed_own B t (fun _ : Unit => v) () W W' row h hg hr
theorem Lf.grown {A0 A5 A7 tb tof tcap n B : Nat} {l : List UInt8} {Ds : List Nat} {w W W' : World} {row : Option Nat} (h : Lf A0 A5 A7 tb tof tcap n l Ds w W) (hg : W.grownBy W' row) (hr : ∀ r, row = some r → B ≤ r ∧ ∃ o : Obj, W.heap[r]? = some o ∧ o.isCells = false) (hD : ∀ D ∈ Ds, D < B) (hA : A0 ≤ B) : Lf A0 A5 A7 tb tof tcap n l Ds w W' :=
  have hr' := fun r e => (hr r e).2
  ⟨box_grown h.x4 hg hr', box_grown h.x5 hg hr', box_grown h.x6 hg hr', box_grown h.x7 hg hr', box_grown h.x8 hg hr', fun k x hx j u hu => cell_kept (h.xt k x hx j u hu) hg hr',
    fun D hd => ⟨(h.xd D hd).1, (hg.block D (lt_of_heap (h.xd D hd).2) (fun e => by have := (hr D e.symm).1; have := hD D hd; omega)).trans (h.xd D hd).2⟩,
    h.xb.grown hg (Nat.le_of_lt h.x4.lt) (fun r e => by have := (hr r e).1; omega)⟩
theorem Lf.up {A0 A5 A7 tb tof tcap n : Nat} {l : List UInt8} {Ds : List Nat} {w W W' : World} (h : Lf A0 A5 A7 tb tof tcap n l Ds w W) (hb : Below W.heap.size W W') (htb : tb < A5) : Lf A0 A5 A7 tb tof tcap n l Ds w W' :=
  have hl5 := h.x5.lt
  ⟨(hb.block _ h.x4.lt).trans h.x4, (hb.block _ h.x5.lt).trans h.x5, (hb.block _ h.x6.lt).trans h.x6, (hb.block _ h.x7.lt).trans h.x7, (hb.block _ h.x8.lt).trans h.x8, h.xt.below hb (by omega),
    fun D hd => ⟨(h.xd D hd).1, (hb.block D (lt_of_heap (h.xd D hd).2)).trans (h.xd D hd).2⟩, h.xb.trans (hb.mono (Nat.le_of_lt h.x4.lt))⟩
theorem Lf.set {A0 A5 A7 tb tof tcap n b : Nat} {l : List UInt8} {Ds : List Nat} {w W : World} (h : Lf A0 A5 A7 tb tof tcap n l Ds w W) (h1 : tb < b ∧ A0 < b ∧ A5 + 1 < b ∧ A7 + 1 < b) (v : Value) : Lf A0 A5 A7 tb tof tcap n l Ds w (W.setCell ⟨b, 0, none⟩ v) :=
  ⟨h.x4.other (by omega) v, h.x5.other (by omega) v, h.x6.other (by omega) v, h.x7.other (by omega) v, h.x8.other (by omega) v, h.xt.set (by omega), fun D hd => ⟨(h.xd D hd).1, (KeepsOthers.setCell _ _ _).same D _ (h.xd D hd).2 rfl⟩, h.xb.setCell (p := ⟨b, 0, none⟩) (by dsimp only; omega) v⟩
theorem KpO.grown {Bo n₀ B : Nat} {W X Y : World} {row : Option Nat} {v : Value} (h : KpO Bo n₀ W X) (hx : X.cell? ⟨Bo, 0, none⟩ = some v) (hg : X.grownBy Y row) (hr : ∀ r, row = some r → B ≤ r ∧ ∃ o : Obj, X.heap[r]? = some o ∧ o.isCells = false) (hB : W.heap.size ≤ B) (hn : n₀ ≤ W.heap.size) : KpO Bo n₀ W Y := by
  obtain ⟨h1, h2, h3⟩ := h
  have hz := h1.size
  have hz2 := hg.size
  refine ⟨h1.grown hg (by omega) (fun r e => by have := (hr r e).1; omega), ?_, fun k cs t fr hk hne how => ?_⟩
  · have e : ownOf Y Bo = ownOf X Bo := ownOf_eq ((cell_kept hx hg (fun r e => (hr r e).2)).trans hx.symm)
    rw [e]
    rcases h2 with h2 | ⟨g, h2, h4, h5⟩
    · exact .inl h2
    · exact .inr ⟨g, h2, h4, by omega⟩
  · have hk1 := lt_of_heap hk
    have hX := h3 k cs t fr hk hne how
    exact (hg.block k (lt_of_heap hX) (fun e => by have := (hr k e.symm).1; omega)).trans hX
theorem tok_bytes {a b : ByteArray} (h : a.toList = b.toList) : a = b := by
  rw [ByteArray.toList_eq, ByteArray.toList_eq] at h
  obtain ⟨⟨x⟩⟩ := a
  obtain ⟨⟨y⟩⟩ := b
  simp at h
  rw [h]
set_option maxRecDepth 100000 in
set_option maxHeartbeats 2000000 in
theorem tok_neq (x y : Tok) (h : x ≠ y) (w : World) : (binOp BinOp.neq 33 (.agg #[.int .i64 x.kind, .int .i64 x.place, .int .i64 x.num, .string x.str, .int .i64 x.r, .int .i64 x.c, .int .i64 x.t, .int .i64 x.l, .int .i64 x.b, .int .i64 x.q, .int .i64 x.code]) (.agg #[.int .i64 y.kind, .int .i64 y.place, .int .i64 y.num, .string y.str, .int .i64 y.r, .int .i64 y.c, .int .i64 y.t, .int .i64 y.l, .int .i64 y.b, .int .i64 y.q, .int .i64 y.code])).run Tryz.prog w = .ok (.bool true) w := by
  obtain ⟨a0, a1, a2, a3, a4, a5, a6, a7, a8, a9, a10⟩ := x
  obtain ⟨b0, b1, b2, b3, b4, b5, b6, b7, b8, b9, b10⟩ := y
  simp [go_sem]
  intro h0 h1 h2 h3 h4 h5 h6 h7 h8 h9 h10
  exact h (by rw [h0, h1, h2, tok_bytes h3, h4, h5, h6, h7, h8, h9, h10])
theorem tok_eqq (x : Tok) (w : World) : (binOp BinOp.neq 33 (.agg #[.int .i64 x.kind, .int .i64 x.place, .int .i64 x.num, .string x.str, .int .i64 x.r, .int .i64 x.c, .int .i64 x.t, .int .i64 x.l, .int .i64 x.b, .int .i64 x.q, .int .i64 x.code]) (.agg #[.int .i64 x.kind, .int .i64 x.place, .int .i64 x.num, .string x.str, .int .i64 x.r, .int .i64 x.c, .int .i64 x.t, .int .i64 x.l, .int .i64 x.b, .int .i64 x.q, .int .i64 x.code])).run Tryz.prog w = .ok (.bool false) w := by
  simp [go_sem]
theorem run_store_func4 {P : Program} {w : World} {a : Addr} {m : Mode} (f : Fn) (x y : Array Value) : (store a (.func f x y) m).run P w = stored P w a (.func f x y) m := run_store P w a _ m rfl
attribute [local go_sem] run_store_func4
theorem eq_nilf4 (b : Nat) (W : World) : (binOp BinOp.eql 25 (.func (.func 18) #[] #[.pointer (some ⟨b, 0, none⟩)]) .nilFunc).run Tryz.prog W = .ok (.bool false) W := by kernel_rfl
set_option maxRecDepth 100000 in
set_option maxHeartbeats 4000000 in
theorem leaves_any (l : List UInt8) (hl : l.length ≤ 1048576) (most : Int) (w : World) : Calls Tryz.prog 3 #[.string ⟨l.toArray⟩, .int .i64 most] w fun e w' => e = .returned (.bool true) ∧ Below w.heap.size w w' := by
  have CL := fun W => r4lex l (by omega) W
  refine (callsIn_wide (n := 9)).1 ?_
  refine callsIn_of_wp_marks Tryz.func3 rfl trivial ?_ rfl
  simp only [Tryz.ntmps3, List.size_toArray, List.length_cons, List.length_nil, Nat.reduceAdd, Nat.reduceSub, Array.replicate_succ, Array.replicate_zero, List.push_toArray, List.append_toArray, List.nil_append, List.cons_append]
  gi_wp2_with fail
  refine ⟨trivial, ?_⟩
  gi_at_call 9
  refine (callsIn_wide.2 (CL _)).mono ?_
  rintro e w1 ⟨⟨v, rfl, hrt⟩, hb1⟩
  clear CL
  have hN : 0 < (lexL l).length := (lexL_laws l).ne
  obtain ⟨tb, tof, tcap, rfl, htb, htc⟩ := hrt.at hN
  gi_upto_region 3 with fail
  rename_i Q' K1 hK1 K0 hK0
  have hB0 : Below w.heap.size w (w.alloc (.cells #[.bool false] 4)) := (Below.refl _ _).alloc (Nat.le_refl _) _
  have hzA : (w.alloc (.cells #[.bool false] 4)).heap.size = w.heap.size + 1 := by simp
  rw [hzA] at hb1
  have hz1 := hb1.size
  rw [hzA] at hz1
  have hB1 : Below w.heap.size w w1 := hB0.trans (hb1.mono (by omega))
  have b4 : Boxed w1 w.heap.size 4 (.bool false) := (hb1.block w.heap.size (by omega)).trans (heap_alloc_new w _)
  have hrest : ∀ (u17 u18 u19 u20 u21 u22 u23 u24 : Value) (n1 : Nat) (W : World), n1 ≤ (lexL l).length → W.heap.size = w1.heap.size + 2 → Below w.heap.size w W → Boxed W w.heap.size 4 (.bool false) → Boxed W w1.heap.size 22 (.slice (some ⟨tb, tof, none⟩) (lexL l).length tcap) → Boxed W (w1.heap.size + 1) 3 (.int .i64 (n1 : Int)) → TokAt W tb tof (lexL l) → K1 { tmps := (List.toArray ((.string ⟨l.toArray⟩) :: (.int .i64 most) :: undef :: undef :: (.pointer (some ⟨w.heap.size, 0, none⟩)) :: (.pointer (some ⟨w1.heap.size, 0, none⟩)) :: (.pointer (some ⟨w1.heap.size + 1, 0, none⟩)) :: undef :: undef :: undef :: undef :: undef :: undef :: (.string ⟨l.toArray⟩) :: (.slice (some ⟨tb, tof, none⟩) (lexL l).length tcap) :: (.slice (some ⟨tb, tof, none⟩) (lexL l).length tcap) :: (.int .i64 ((lexL l).length : Int)) :: u17 :: u18 :: u19 :: u20 :: u21 :: u22 :: u23 :: u24 :: undef :: undef :: undef :: undef :: undef :: undef :: undef :: undef :: undef :: undef :: undef :: undef :: undef :: undef :: undef :: undef :: undef :: undef :: undef :: undef :: undef :: undef :: undef :: undef :: undef :: undef :: undef :: undef :: undef :: undef :: undef :: undef :: undef :: undef :: undef :: undef :: undef :: undef :: undef :: undef :: undef :: undef :: undef :: undef :: undef :: undef :: undef :: undef :: undef :: undef :: undef :: undef :: undef :: undef :: undef :: undef :: undef :: undef :: undef :: undef :: undef :: undef :: undef :: undef :: [])), defers := [] } W := by
    intro u17 u18 u19 u20 u21 u22 u23 u24 n1 W hn hzW hBW b4 b5 b6 ht
    refine hK1 _ _ ?_
    gi_upto_region 5 with fail
    rename_i K2 hK2 K3 hK3
    have hrest2 : ∀ (u17 u18 u19 u20 u21 u22 u23 u24 u25 u26 : Value) (n : Nat) (W : World), n ≤ (lexL l).length → W.heap.size = w1.heap.size + 2 → Below w.heap.size w W → Boxed W w.heap.size 4 (.bool false) → Boxed W w1.heap.size 22 (.slice (some ⟨tb, tof, none⟩) (lexL l).length tcap) → Boxed W (w1.heap.size + 1) 3 (.int .i64 (n : Int)) → TokAt W tb tof (lexL l) → K2 { tmps := (List.toArray ((.string ⟨l.toArray⟩) :: (.int .i64 most) :: undef :: undef :: (.pointer (some ⟨w.heap.size, 0, none⟩)) :: (.pointer (some ⟨w1.heap.size, 0, none⟩)) :: (.pointer (some ⟨w1.heap.size + 1, 0, none⟩)) :: undef :: undef :: undef :: undef :: undef :: undef :: (.string ⟨l.toArray⟩) :: (.slice (some ⟨tb, tof, none⟩) (lexL l).length tcap) :: (.slice (some ⟨tb, tof, none⟩) (lexL l).length tcap) :: (.int .i64 ((lexL l).length : Int)) :: u17 :: u18 :: u19 :: u20 :: u21 :: u22 :: u23 :: u24 :: u25 :: u26 :: undef :: undef :: undef :: undef :: undef :: undef :: undef :: undef :: undef :: undef :: undef :: undef :: undef :: undef :: undef :: undef :: undef :: undef :: undef :: undef :: undef :: undef :: undef :: undef :: undef :: undef :: undef :: undef :: undef :: undef :: undef :: undef :: undef :: undef :: undef :: undef :: undef :: undef :: undef :: undef :: undef :: undef :: undef :: undef :: undef :: undef :: undef :: undef :: undef :: undef :: undef :: undef :: undef :: undef :: undef :: undef :: undef :: undef :: undef :: undef :: undef :: undef :: [])), defers := [] } W := by
      intro u17 u18 u19 u20 u21 u22 u23 u24 u25 u26 n Wb hn hzW hBW b4 b5 b6 ht
      have hzH := Lib.hid hzW
      clear hzW
      refine hK2 _ _ ?_
      clear hK2 hK3
      have hnf := eq_nilf4
      gi_wp2_with fail
      refine ⟨trivial, ?_⟩
      gi_at_call 10
      refine (callsIn_wide.2 (lex_any l _)).mono ?_
      rintro e wx ⟨rfl, hwx⟩
      subst hwx
      gi_wp2
      rename_i K4 hK4
      have hsW : w1.heap.size + 2 ≤ Wb.heap.size := by rw [hzH.out]; exact Nat.le_refl _
      obtain ⟨W0, hW0⟩ : ∃ W0, ((Wb.alloc (.cells #[.string ⟨l.toArray⟩] 9)).alloc (.cells #[(.func (.func 18) #[] #[.pointer (some ⟨Wb.heap.size, 0, none⟩)])] 25)) = W0 := ⟨_, rfl⟩
      have hz0 : Wb.heap.size + 2 ≤ W0.heap.size := by rw [← hW0]; simp
      have hbW : Below Wb.heap.size Wb W0 := by rw [← hW0]; exact ((Below.refl _ _).alloc (Nat.le_refl _) _).alloc (by simp) _
      have hBW0 : Below w.heap.size w W0 := hBW.trans (hbW.mono hBW.size)
      have c4 : Boxed W0 w.heap.size 4 (.bool false) := (hbW.block _ b4.lt).trans b4
      have c5 : Boxed W0 w1.heap.size 22 (.slice (some ⟨tb, tof, none⟩) (lexL l).length tcap) := (hbW.block _ b5.lt).trans b5
      have c6 : Boxed W0 (w1.heap.size + 1) 3 (.int .i64 (n : Int)) := (hbW.block _ b6.lt).trans b6
      have c7 : Boxed W0 Wb.heap.size 9 (.string ⟨l.toArray⟩) := by rw [← hW0]; exact (Boxed.new Wb 9 _).alloc _
      have c8 : Boxed W0 (Wb.heap.size + 1) 25 (.func (.func 18) #[] #[.pointer (some ⟨Wb.heap.size, 0, none⟩)]) := by
        have := Boxed.new (Wb.alloc (.cells #[.string ⟨l.toArray⟩] 9)) 25 (.func (.func 18) #[] #[.pointer (some ⟨Wb.heap.size, 0, none⟩)])
        rw [World.size_alloc] at this
        rw [← hW0]; exact this
      have ct := ht.below hbW (by omega)
      rw [hW0]
      clear hW0 b4 b5 b6 ht hbW hBW hnf
      refine wpIn_loop (fun a W => ∃ (rd : Nat) (Ds : List Nat) (v9 v31 v32 v33 v34 v35 v77 v78 v79 v80 v81 v82 v83 v84 v85 v86 v87 : Value), a = { tmps := (List.toArray ((.string ⟨l.toArray⟩) :: (.int .i64 most) :: undef :: undef :: (.pointer (some ⟨w.heap.size, 0, none⟩)) :: (.pointer (some ⟨w1.heap.size, 0, none⟩)) :: (.pointer (some ⟨w1.heap.size + 1, 0, none⟩)) :: (.pointer (some ⟨Wb.heap.size + 1, 0, none⟩)) :: (.int .i64 (rd : Int)) :: v9 :: undef :: undef :: undef :: (.string ⟨l.toArray⟩) :: (.slice (some ⟨tb, tof, none⟩) (lexL l).length tcap) :: (.slice (some ⟨tb, tof, none⟩) (lexL l).length tcap) :: (.int .i64 ((lexL l).length : Int)) :: u17 :: u18 :: u19 :: u20 :: u21 :: u22 :: u23 :: u24 :: u25 :: u26 :: (.string ⟨l.toArray⟩) :: ((.func (.func 18) #[] #[.pointer (some ⟨Wb.heap.size, 0, none⟩)])) :: ((.func (.func 18) #[] #[.pointer (some ⟨Wb.heap.size, 0, none⟩)])) :: (.bool false) :: v31 :: v32 :: v33 :: v34 :: v35 :: undef :: undef :: undef :: undef :: undef :: undef :: undef :: undef :: undef :: undef :: undef :: undef :: undef :: undef :: undef :: undef :: undef :: undef :: undef :: undef :: undef :: undef :: undef :: undef :: undef :: undef :: undef :: undef :: undef :: undef :: undef :: undef :: undef :: undef :: undef :: undef :: undef :: undef :: undef :: undef :: undef :: v77 :: v78 :: v79 :: v80 :: v81 :: v82 :: v83 :: v84 :: v85 :: v86 :: v87 :: undef :: [])), defers := Ds.map (fun D => (⟨.collected D, #[]⟩ : Deferred)) } ∧ rd ≤ 2 ∧ Ds.Nodup ∧ W0.heap.size ≤ W.heap.size ∧ Lf w.heap.size w1.heap.size Wb.heap.size tb tof tcap n l Ds w W) (fun a _ => mu8 a) ⟨0, [], _, _, _, _, _, _, _, _, _, _, _, _, _, _, _, _, _, rfl, by omega, List.nodup_nil, Nat.le_refl _, ⟨c4, c5, c6, c7, c8, ct, (fun D hD => by cases hD), hBW0⟩⟩ ?_
      clear c4 c5 c6 c7 c8 ct hBW0
      rintro a Wr ⟨rd, Ds, v9, v31, v32, v33, v34, v35, v77, v78, v79, v80, v81, v82, v83, v84, v85, v86, v87, rfl, hrd, hnd, hzr, hf⟩
      have hl4 := hf.x4.lt
      have hl5 := hf.x5.lt
      have hl6 := hf.x6.lt
      have hl7 := hf.x7.lt
      have hl8 := hf.x8.lt
      by_cases hr2 : rd = 2
      · subst hr2
        have CK := known_any Wr
        have x4 := hf.x4
        gi_wp2_with fail
        refine ⟨trivial, ?_⟩
        gi_at_call 11
        refine (callsIn_wide.2 CK).mono ?_
        rintro e w2 ⟨rfl, hb2⟩
        have hf2 := hf.up hb2 htb
        have d4 := hf2.x4.cell
        have g4 := hf2.x4.frozen
        have hl42 := hf2.x4.lt
        clear CK
        gi_wp2
        have hf3 := hf2.x4.set (.bool true)
        refine leaves_marks (Wb.heap.size + 2) Ds _ hnd (fun D hD => ⟨(hf2.xd D hD).1, (KeepsOthers.setCell _ _ _).same D _ (hf2.xd D hD).2 rfl⟩) (fun W' hW' => ?_)
        have k4 : W'.cell? ⟨w.heap.size, 0, none⟩ = some (.bool true) := (hW'.cell (p := ⟨w.heap.size, 0, none⟩) (by dsimp only; omega)).trans hf3.cell
        refine ⟨.bool true, ?_, rfl, (hf2.xb.setCell (p := ⟨w.heap.size, 0, none⟩) (Nat.le_refl _) _).trans (hW'.mono (by omega))⟩
        simp [results, Tryz.results3, go_sem, k4]
      · have hlt2 : (rd : Int) < 2 := by omega
        have d8 := hf.x8.cell
        gi_wp2
        obtain ⟨W9, hW9⟩ : ∃ W9, Wr.alloc (.cells #[.int .i64 0] 3) = W9 := ⟨_, rfl⟩
        have hz9 : Wr.heap.size + 1 ≤ W9.heap.size := by rw [← hW9]; simp
        have hb9 : Below Wr.heap.size Wr W9 := by rw [← hW9]; exact (Below.refl _ _).alloc (Nat.le_refl _) _
        have hf9 := hf.up hb9 htb
        have x9 : Boxed W9 Wr.heap.size 3 (.int .i64 0) := by rw [← hW9]; exact Boxed.new Wr 3 _
        have ho9 : ownOf W9 Wr.heap.size = none := by unfold ownOf; rw [x9.cell]; rfl
        have hdlt : ∀ D ∈ Ds, D < W9.heap.size := fun D hD => lt_of_heap (hf9.xd D hD).2
        rw [hW9]
        clear hW9 hb9
        refine wpIn_rangeFunc_ownH (F := Fence.wide) rfl (by omega) (gf := 18) (lb := #[.pointer (some ⟨Wb.heap.size, 0, none⟩)]) rfl trivial (enters_of Tryz.func18 (by kernel_rfl) rfl)
          (lex_stops (9 - 1) (by omega) Wb.heap.size w.heap.size Wr.heap.size l (by omega) 9 (by omega) W9 (by omega) (by omega) (fun k hk => by rw [ho9] at hk; cases hk) (by rw [ho9]; simp) hf9.x7)
          KpO.trans (KpO.putObj (by omega) (by omega)) (Below.refl _ _) (fun _ => rfl)
          (fun pre W => Boxed W Wr.heap.size 3 (.int .i64 (pre.length : Int)) ∧ Lf w.heap.size w1.heap.size Wb.heap.size tb tof tcap n l Ds w W ∧ pre <+: lexL l ∧ (pre = [] ∨ (pre.length < n ∧ pre.length ≤ 40)))
          (fun c pre W => (c = .ret ∧ ¬ pre <+: lexL l) ∨ (c = .exit 2 ∧ Boxed W Wr.heap.size 3 (.int .i64 (pre.length : Int)) ∧ Lf w.heap.size w1.heap.size Wb.heap.size tb tof tcap n l Ds w W ∧ 1 ≤ pre.length ∧ (n ≤ pre.length ∨ 40 < pre.length) ∧ (pre.length = 1 ∨ (pre.length - 1 < n ∧ pre.length ≤ 41))))
          (fun s A B row hs hg hr => ⟨box_grown hs.1 hg (fun r e => (hr r e).2), hs.2.1.grown hg hr hdlt (by omega), hs.2.2⟩)
          (fun c s A B row hs hg hr => by
            rcases hs with hs | ⟨h1, h2, h3, h4⟩
            · exact .inl hs
            · exact .inr ⟨h1, box_grown h2 hg (fun r e => (hr r e).2), h3.grown hg hr hdlt (by omega), h4⟩)
          ⟨x9, hf9, List.nil_prefix, .inl rfl⟩
          (fun x a' W => ∃ Bx, Wr.heap.size < Bx ∧ W.heap[Bx]? = some (.cells #[.int .i64 x.kind, .int .i64 x.place, .int .i64 x.num, .string x.str, .int .i64 x.r, .int .i64 x.c, .int .i64 x.t, .int .i64 x.l, .int .i64 x.b, .int .i64 x.q, .int .i64 x.code] 33 (0, 0)) ∧ a' = { tmps := (List.toArray ((.string ⟨l.toArray⟩) :: (.int .i64 most) :: undef :: undef :: (.pointer (some ⟨w.heap.size, 0, none⟩)) :: (.pointer (some ⟨w1.heap.size, 0, none⟩)) :: (.pointer (some ⟨w1.heap.size + 1, 0, none⟩)) :: (.pointer (some ⟨Wb.heap.size + 1, 0, none⟩)) :: (.int .i64 (rd : Int)) :: (.pointer (some ⟨Wr.heap.size, 0, none⟩)) :: (.pointer (some ⟨Bx, 0, none⟩)) :: undef :: undef :: (.string ⟨l.toArray⟩) :: (.slice (some ⟨tb, tof, none⟩) (lexL l).length tcap) :: (.slice (some ⟨tb, tof, none⟩) (lexL l).length tcap) :: (.int .i64 ((lexL l).length : Int)) :: u17 :: u18 :: u19 :: u20 :: u21 :: u22 :: u23 :: u24 :: u25 :: u26 :: (.string ⟨l.toArray⟩) :: ((.func (.func 18) #[] #[.pointer (some ⟨Wb.heap.size, 0, none⟩)])) :: ((.func (.func 18) #[] #[.pointer (some ⟨Wb.heap.size, 0, none⟩)])) :: (.bool false) :: (.int .i64 (rd : Int)) :: (.bool true) :: v33 :: v34 :: ((.func (.func 18) #[] #[.pointer (some ⟨Wb.heap.size, 0, none⟩)])) :: (.agg #[.int .i64 x.kind, .int .i64 x.place, .int .i64 x.num, .string x.str, .int .i64 x.r, .int .i64 x.c, .int .i64 x.t, .int .i64 x.l, .int .i64 x.b, .int .i64 x.q, .int .i64 x.code]) :: undef :: undef :: undef :: undef :: undef :: undef :: undef :: undef :: undef :: undef :: undef :: undef :: undef :: undef :: undef :: undef :: undef :: undef :: undef :: undef :: undef :: undef :: undef :: undef :: undef :: undef :: undef :: undef :: undef :: undef :: undef :: undef :: undef :: undef :: undef :: undef :: undef :: undef :: undef :: undef :: v77 :: v78 :: v79 :: v80 :: v81 :: v82 :: v83 :: v84 :: v85 :: v86 :: v87 :: undef :: [])), defers := [] })
          (fun x a' => fun s A B row hs hg hr => by
            obtain ⟨Bx, hlx, hx, e⟩ := hs
            exact ⟨Bx, hlx, grownBy_keeps_cells hg (fun r e => (hr r e).2) hx rfl ▸ hx, e⟩) ?assign ?body ?done ?stop
        case assign =>
          rintro l₀ pre x W K hi hK
          have hl9 := hi.1.lt
          simp only [Tok.enc]
          gi_wp2
          exact hK _ _ ((KeepsOthers.alloc _ _).from _) (KpO.of_below ((Below.refl _ _).alloc (Nat.le_refl _) _) hl9 (by omega)) ⟨hi.1.alloc _, hi.2.1.up ((Below.refl _ _).alloc (Nat.le_refl _) _) htb, hi.2.2⟩ ⟨W.heap.size, hl9, heap_alloc_new W _, rfl⟩
        case body =>
          rintro l₀ pre x a' W hl0 ⟨r, hr⟩ ⟨y9, yf, hpp, hpn⟩ ⟨Bx, hBx, hx, rfl⟩ hlt
          have k9 := y9.cell
          have k5 := yf.x5.cell
          have k4 := yf.x4.cell
          have g4 := yf.x4.frozen
          have g9 := y9.frozen
          have z8 := yf.x8.cell
          have lw4 := yf.x4.lt
          have lw9 := y9.lt
          have lw8 := yf.x8.lt
          have hne8 : ¬ Wr.heap.size = Wb.heap.size + 1 := by omega
          have hne8' : ¬ Wb.heap.size + 1 = Wr.heap.size := by omega
          have hpl : (pre.length : Int) ≤ 1048577 := by omega
          have cx0 : W.cell? ⟨Bx, 0, none⟩ = some (.int .i64 x.kind) := by rw [cell_of_row W Bx 0 _ _ _ hx]; rfl
          have cx1 : W.cell? ⟨Bx, 1, none⟩ = some (.int .i64 x.place) := by rw [cell_of_row W Bx 1 _ _ _ hx]; rfl
          have cx2 : W.cell? ⟨Bx, 2, none⟩ = some (.int .i64 x.num) := by rw [cell_of_row W Bx 2 _ _ _ hx]; rfl
          have cx3 : W.cell? ⟨Bx, 3, none⟩ = some (.string x.str) := by rw [cell_of_row W Bx 3 _ _ _ hx]; rfl
          have cx4 : W.cell? ⟨Bx, 4, none⟩ = some (.int .i64 x.r) := by rw [cell_of_row W Bx 4 _ _ _ hx]; rfl
          have cx5 : W.cell? ⟨Bx, 5, none⟩ = some (.int .i64 x.c) := by rw [cell_of_row W Bx 5 _ _ _ hx]; rfl
          have cx6 : W.cell? ⟨Bx, 6, none⟩ = some (.int .i64 x.t) := by rw [cell_of_row W Bx 6 _ _ _ hx]; rfl
          have cx7 : W.cell? ⟨Bx, 7, none⟩ = some (.int .i64 x.l) := by rw [cell_of_row W Bx 7 _ _ _ hx]; rfl
          have cx8 : W.cell? ⟨Bx, 8, none⟩ = some (.int .i64 x.b) := by rw [cell_of_row W Bx 8 _ _ _ hx]; rfl
          have cx9 : W.cell? ⟨Bx, 9, none⟩ = some (.int .i64 x.q) := by rw [cell_of_row W Bx 9 _ _ _ hx]; rfl
          have cx10 : W.cell? ⟨Bx, 10, none⟩ = some (.int .i64 x.code) := by rw [cell_of_row W Bx 10 _ _ _ hx]; rfl
          by_cases hk : pre.length < (lexL l).length
          · obtain ⟨y, hy⟩ : ∃ y, (lexL l)[pre.length]? = some y := ⟨_, List.getElem?_eq_getElem hk⟩
            have hyc := fun j u h => yf.xt pre.length y hy j u h
            have yx0 : W.cell? ⟨tb, tof + pre.length * 11, none⟩ = some (.int .i64 y.kind) := hyc 0 _ rfl
            have yx1 : W.cell? ⟨tb, tof + pre.length * 11 + 1, none⟩ = some (.int .i64 y.place) := hyc 1 _ rfl
            have yx2 : W.cell? ⟨tb, tof + pre.length * 11 + 2, none⟩ = some (.int .i64 y.num) := hyc 2 _ rfl
            have yx3 : W.cell? ⟨tb, tof + pre.length * 11 + 3, none⟩ = some (.string y.str) := hyc 3 _ rfl
            have yx4 : W.cell? ⟨tb, tof + pre.length * 11 + 4, none⟩ = some (.int .i64 y.r) := hyc 4 _ rfl
            have yx5 : W.cell? ⟨tb, tof + pre.length * 11 + 5, none⟩ = some (.int .i64 y.c) := hyc 5 _ rfl
            have yx6 : W.cell? ⟨tb, tof + pre.length * 11 + 6, none⟩ = some (.int .i64 y.t) := hyc 6 _ rfl
            have yx7 : W.cell? ⟨tb, tof + pre.length * 11 + 7, none⟩ = some (.int .i64 y.l) := hyc 7 _ rfl
            have yx8 : W.cell? ⟨tb, tof + pre.length * 11 + 8, none⟩ = some (.int .i64 y.b) := hyc 8 _ rfl
            have yx9 : W.cell? ⟨tb, tof + pre.length * 11 + 9, none⟩ = some (.int .i64 y.q) := hyc 9 _ rfl
            have yx10 : W.cell? ⟨tb, tof + pre.length * 11 + 10, none⟩ = some (.int .i64 y.code) := hyc 10 _ rfl
            have hkn : ¬ (lexL l).length ≤ pre.length := by omega
            obtain ⟨ne, hne, hnb⟩ : ∃ ne : Bool, (ne = true ↔ x ≠ y) ∧ ∀ w : World, (binOp BinOp.neq 33 (.agg #[.int .i64 x.kind, .int .i64 x.place, .int .i64 x.num, .string x.str, .int .i64 x.r, .int .i64 x.c, .int .i64 x.t, .int .i64 x.l, .int .i64 x.b, .int .i64 x.q, .int .i64 x.code]) (.agg #[.int .i64 y.kind, .int .i64 y.place, .int .i64 y.num, .string y.str, .int .i64 y.r, .int .i64 y.c, .int .i64 y.t, .int .i64 y.l, .int .i64 y.b, .int .i64 y.q, .int .i64 y.code])).run Tryz.prog w = .ok (.bool ne) w := by
              by_cases hxy : x = y
              · subst hxy; exact ⟨false, by simp, fun w => tok_eqq x w⟩
              · exact ⟨true, by simp [hxy], fun w => tok_neq x y hxy w⟩
            gi_wp2
            refine wpIn_region_any (by kernel_rfl) ?_
            refine any_inv (fun L a w' => w' = World.drew W ∧ ∃ b0 b1 b2 b3 b4 b5 b6 b7 b8 b9 b10 b11 : Bool, L = #[b0, b1, b2, b3, b4, b5, b6, b7, b8, b9, b10, b11] ∧ a = { tmps := (List.toArray ((.string ⟨l.toArray⟩) :: (.int .i64 most) :: undef :: undef :: (.pointer (some ⟨w.heap.size, 0, none⟩)) :: (.pointer (some ⟨w1.heap.size, 0, none⟩)) :: (.pointer (some ⟨w1.heap.size + 1, 0, none⟩)) :: (.pointer (some ⟨Wb.heap.size + 1, 0, none⟩)) :: (.int .i64 (rd : Int)) :: (.pointer (some ⟨Wr.heap.size, 0, none⟩)) :: (.pointer (some ⟨Bx, 0, none⟩)) :: undef :: undef :: (.string ⟨l.toArray⟩) :: (.slice (some ⟨tb, tof, none⟩) (lexL l).length tcap) :: (.slice (some ⟨tb, tof, none⟩) (lexL l).length tcap) :: (.int .i64 ((lexL l).length : Int)) :: u17 :: u18 :: u19 :: u20 :: u21 :: u22 :: u23 :: u24 :: u25 :: u26 :: (.string ⟨l.toArray⟩) :: ((.func (.func 18) #[] #[.pointer (some ⟨Wb.heap.size, 0, none⟩)])) :: ((.func (.func 18) #[] #[.pointer (some ⟨Wb.heap.size, 0, none⟩)])) :: (.bool false) :: (.int .i64 (rd : Int)) :: (.bool true) :: v33 :: v34 :: ((.func (.func 18) #[] #[.pointer (some ⟨Wb.heap.size, 0, none⟩)])) :: (.agg #[.int .i64 x.kind, .int .i64 x.place, .int .i64 x.num, .string x.str, .int .i64 x.r, .int .i64 x.c, .int .i64 x.t, .int .i64 x.l, .int .i64 x.b, .int .i64 x.q, .int .i64 x.code]) :: (bif b0 then (.int .i64 (pre.length : Int)) else undef) :: (bif b1 then (.slice (some ⟨tb, tof, none⟩) (lexL l).length tcap) else undef) :: (bif b2 then (.int .i64 ((lexL l).length : Int)) else undef) :: (bif b3 then (.bool false) else undef) :: (bif b4 then (.bool false) else undef) :: (bif b5 then (.agg #[.int .i64 x.kind, .int .i64 x.place, .int .i64 x.num, .string x.str, .int .i64 x.r, .int .i64 x.c, .int .i64 x.t, .int .i64 x.l, .int .i64 x.b, .int .i64 x.q, .int .i64 x.code]) else undef) :: (bif b6 then (.slice (some ⟨tb, tof, none⟩) (lexL l).length tcap) else undef) :: (bif b7 then (.int .i64 (pre.length : Int)) else undef) :: (bif b8 then (.pointer (some ⟨tb, tof + pre.length * 11, none⟩)) else undef) :: (bif b9 then (.agg #[.int .i64 y.kind, .int .i64 y.place, .int .i64 y.num, .string y.str, .int .i64 y.r, .int .i64 y.c, .int .i64 y.t, .int .i64 y.l, .int .i64 y.b, .int .i64 y.q, .int .i64 y.code]) else undef) :: (bif b10 then (.bool ne) else undef) :: (bif b11 then (.bool ne) else undef) :: undef :: undef :: undef :: undef :: undef :: undef :: undef :: undef :: undef :: undef :: undef :: undef :: undef :: undef :: undef :: undef :: undef :: undef :: undef :: undef :: undef :: undef :: undef :: undef :: undef :: undef :: undef :: undef :: v77 :: v78 :: v79 :: v80 :: v81 :: v82 :: v83 :: v84 :: v85 :: v86 :: v87 :: undef :: [])), defers := [] }) ?hs ?he _ _ _ _ ⟨rfl, false, false, false, false, false, false, false, false, false, false, false, false, rfl, rfl⟩ (by decide)
            case hs =>
              rintro L a w' i ⟨rfl, b0, b1, b2, b3, b4, b5, b6, b7, b8, b9, b10, b11, rfl, rfl⟩ hi
              have hi12 : i < 12 := by
                obtain ⟨_, o, h2, _⟩ := mem_ready.1 hi
                exact (Array.getElem?_eq_some_iff.1 h2).1
              obtain ⟨h1, o, h2, h3⟩ := mem_ready.1 hi
              rcases (show i = 0 ∨ i = 1 ∨ i = 2 ∨ i = 3 ∨ i = 4 ∨ i = 5 ∨ i = 6 ∨ i = 7 ∨ i = 8 ∨ i = 9 ∨ i = 10 ∨ i = 11 by omega) with rfl | rfl | rfl | rfl | rfl | rfl | rfl | rfl | rfl | rfl | rfl | rfl
              · obtain rfl : b0 = false := h1
                simp at h2
                subst h2
                simp [Region.binds] at h3
                refine op_yields (v := (.int .i64 (pre.length : Int))) rfl (.inl ⟨rfl, fun _ _ => trivial, ?_⟩) ⟨rfl, true, _, _, _, _, _, _, _, _, _, _, _, rfl, rfl⟩
                show (Oper.semAt (some l₀) _ _).run _ _ = _
                rw [Oper.semAt_some _ _ _ (by intro c h; cases h)]
                simp [execOp, go_sem, k9]
              · obtain rfl : b1 = false := h1
                simp at h2
                subst h2
                simp [Region.binds] at h3
                refine op_yields (v := (.slice (some ⟨tb, tof, none⟩) (lexL l).length tcap)) rfl (.inl ⟨rfl, fun _ _ => trivial, ?_⟩) ⟨rfl, _, true, _, _, _, _, _, _, _, _, _, _, rfl, rfl⟩
                show (Oper.semAt (some l₀) _ _).run _ _ = _
                rw [Oper.semAt_some _ _ _ (by intro c h; cases h)]
                simp [execOp, go_sem, k5]
              · obtain rfl : b2 = false := h1
                simp at h2
                subst h2
                simp [Region.binds] at h3
                subst h3
                refine op_yields (v := (.int .i64 ((lexL l).length : Int))) rfl (.inl ⟨rfl, fun _ _ => trivial, ?_⟩) ⟨rfl, _, _, true, _, _, _, _, _, _, _, _, _, rfl, rfl⟩
                show (Oper.semAt (some l₀) _ _).run _ _ = _
                rw [Oper.semAt_some _ _ _ (by intro c h; cases h)]
                simp [execOp, go_sem]
              · obtain rfl : b3 = false := h1
                simp at h2
                subst h2
                simp [Region.binds] at h3
                obtain ⟨rfl, rfl⟩ := h3
                refine op_yields (v := (.bool false)) rfl (.inl ⟨rfl, fun _ _ => trivial, ?_⟩) ⟨rfl, _, _, _, true, _, _, _, _, _, _, _, _, rfl, rfl⟩
                show (Oper.semAt (some l₀) _ _).run _ _ = _
                rw [Oper.semAt_some _ _ _ (by intro c h; cases h)]
                simp [execOp, go_sem, hkn]
              · obtain rfl : b4 = false := h1
                simp at h2
                subst h2
                simp [Region.binds] at h3
                subst h3
                refine op_yields (v := (.bool false)) rfl (.inl ⟨rfl, fun _ _ => trivial, ?_⟩) ⟨rfl, _, _, _, _, true, _, _, _, _, _, _, _, rfl, rfl⟩
                show (Oper.semAt (some l₀) _ _).run _ _ = _
                rw [Oper.semAt_some _ _ _ (by intro c h; cases h)]
                simp [execOp, go_sem]
              · obtain rfl : b5 = false := h1
                simp at h2
                subst h2
                simp [Region.binds] at h3
                subst h3
                refine op_yields (v := (.agg #[.int .i64 x.kind, .int .i64 x.place, .int .i64 x.num, .string x.str, .int .i64 x.r, .int .i64 x.c, .int .i64 x.t, .int .i64 x.l, .int .i64 x.b, .int .i64 x.q, .int .i64 x.code])) rfl (.inl ⟨rfl, fun _ _ => trivial, ?_⟩) ⟨rfl, _, _, _, _, _, true, _, _, _, _, _, _, rfl, rfl⟩
                show (Oper.semAt (some l₀) _ _).run _ _ = _
                rw [Oper.semAt_some _ _ _ (by intro c h; cases h)]
                simp [execOp, go_sem, cx0, cx1, cx2, cx3, cx4, cx5, cx6, cx7, cx8, cx9, cx10]
              · obtain rfl : b6 = false := h1
                simp at h2
                subst h2
                simp [Region.binds] at h3
                subst h3
                refine op_yields (v := (.slice (some ⟨tb, tof, none⟩) (lexL l).length tcap)) rfl (.inl ⟨rfl, fun _ _ => trivial, ?_⟩) ⟨rfl, _, _, _, _, _, _, true, _, _, _, _, _, rfl, rfl⟩
                show (Oper.semAt (some l₀) _ _).run _ _ = _
                rw [Oper.semAt_some _ _ _ (by intro c h; cases h)]
                simp [execOp, go_sem, k5]
              · obtain rfl : b7 = false := h1
                simp at h2
                subst h2
                simp [Region.binds] at h3
                subst h3
                refine op_yields (v := (.int .i64 (pre.length : Int))) rfl (.inl ⟨rfl, fun _ _ => trivial, ?_⟩) ⟨rfl, _, _, _, _, _, _, _, true, _, _, _, _, rfl, rfl⟩
                show (Oper.semAt (some l₀) _ _).run _ _ = _
                rw [Oper.semAt_some _ _ _ (by intro c h; cases h)]
                simp [execOp, go_sem, k9]
              · obtain rfl : b8 = false := h1
                simp at h2
                subst h2
                simp [Region.binds] at h3
                obtain ⟨rfl, rfl, rfl⟩ := h3
                refine op_yields (v := (.pointer (some ⟨tb, tof + pre.length * 11, none⟩))) rfl (.inl ⟨rfl, fun _ _ => trivial, ?_⟩) ⟨rfl, _, _, _, _, _, _, _, _, true, _, _, _, rfl, rfl⟩
                show (Oper.semAt (some l₀) _ _).run _ _ = _
                rw [Oper.semAt_some _ _ _ (by intro c h; cases h)]
                simp [execOp, go_sem, hk]
              · obtain rfl : b9 = false := h1
                simp at h2
                subst h2
                simp [Region.binds] at h3
                obtain ⟨rfl, rfl⟩ := h3
                refine op_yields (v := (.agg #[.int .i64 y.kind, .int .i64 y.place, .int .i64 y.num, .string y.str, .int .i64 y.r, .int .i64 y.c, .int .i64 y.t, .int .i64 y.l, .int .i64 y.b, .int .i64 y.q, .int .i64 y.code])) rfl (.inl ⟨rfl, fun _ _ => trivial, ?_⟩) ⟨rfl, _, _, _, _, _, _, _, _, _, true, _, _, rfl, rfl⟩
                show (Oper.semAt (some l₀) _ _).run _ _ = _
                rw [Oper.semAt_some _ _ _ (by intro c h; cases h)]
                simp [execOp, go_sem, yx0, yx1, yx2, yx3, yx4, yx5, yx6, yx7, yx8, yx9, yx10]
              · obtain rfl : b10 = false := h1
                simp at h2
                subst h2
                simp [Region.binds] at h3
                obtain ⟨rfl, rfl, rfl⟩ := h3
                refine op_yields (v := (.bool ne)) rfl (.inl ⟨rfl, fun _ _ => trivial, ?_⟩) ⟨rfl, _, _, _, _, _, _, _, _, _, _, true, _, rfl, rfl⟩
                show (Oper.semAt (some l₀) _ _).run _ _ = _
                rw [Oper.semAt_some _ _ _ (by intro c h; cases h)]
                simp [execOp, go_sem, hnb]
              · obtain rfl : b11 = false := h1
                simp at h2
                subst h2
                simp [Region.binds] at h3
                obtain ⟨rfl, rfl⟩ := h3
                refine op_yields (v := (.bool ne)) rfl (.inl ⟨rfl, fun _ _ => trivial, ?_⟩) ⟨rfl, _, _, _, _, _, _, _, _, _, _, _, true, rfl, rfl⟩
                show (Oper.semAt (some l₀) _ _).run _ _ = _
                rw [Oper.semAt_some _ _ _ (by intro c h; cases h)]
                simp [execOp, go_sem]
            case he =>
              rintro L a w' ⟨rfl, b0, b1, b2, b3, b4, b5, b6, b7, b8, b9, b10, b11, rfl, rfl⟩ hr
              obtain rfl : b0 = true := by
                cases b0
                · exfalso
                  have h : 0 ∈ ([] : List Nat) := hr ▸ mem_ready.2 ⟨rfl, _, rfl, by simp [Region.binds]⟩
                  cases h
                · rfl
              obtain rfl : b1 = true := by
                cases b1
                · exfalso
                  have h : 1 ∈ ([] : List Nat) := hr ▸ mem_ready.2 ⟨rfl, _, rfl, by simp [Region.binds]⟩
                  cases h
                · rfl
              obtain rfl : b2 = true := by
                cases b2
                · exfalso
                  have h : 2 ∈ ([] : List Nat) := hr ▸ mem_ready.2 ⟨rfl, _, rfl, by simp [Region.binds]⟩
                  cases h
                · rfl
              obtain rfl : b3 = true := by
                cases b3
                · exfalso
                  have h : 3 ∈ ([] : List Nat) := hr ▸ mem_ready.2 ⟨rfl, _, rfl, by simp [Region.binds]⟩
                  cases h
                · rfl
              obtain rfl : b4 = true := by
                cases b4
                · exfalso
                  have h : 4 ∈ ([] : List Nat) := hr ▸ mem_ready.2 ⟨rfl, _, rfl, by simp [Region.binds]⟩
                  cases h
                · rfl
              obtain rfl : b5 = true := by
                cases b5
                · exfalso
                  have h : 5 ∈ ([] : List Nat) := hr ▸ mem_ready.2 ⟨rfl, _, rfl, by simp [Region.binds]⟩
                  cases h
                · rfl
              obtain rfl : b6 = true := by
                cases b6
                · exfalso
                  have h : 6 ∈ ([] : List Nat) := hr ▸ mem_ready.2 ⟨rfl, _, rfl, by simp [Region.binds]⟩
                  cases h
                · rfl
              obtain rfl : b7 = true := by
                cases b7
                · exfalso
                  have h : 7 ∈ ([] : List Nat) := hr ▸ mem_ready.2 ⟨rfl, _, rfl, by simp [Region.binds]⟩
                  cases h
                · rfl
              obtain rfl : b8 = true := by
                cases b8
                · exfalso
                  have h : 8 ∈ ([] : List Nat) := hr ▸ mem_ready.2 ⟨rfl, _, rfl, by simp [Region.binds]⟩
                  cases h
                · rfl
              obtain rfl : b9 = true := by
                cases b9
                · exfalso
                  have h : 9 ∈ ([] : List Nat) := hr ▸ mem_ready.2 ⟨rfl, _, rfl, by simp [Region.binds]⟩
                  cases h
                · rfl
              obtain rfl : b10 = true := by
                cases b10
                · exfalso
                  have h : 10 ∈ ([] : List Nat) := hr ▸ mem_ready.2 ⟨rfl, _, rfl, by simp [Region.binds]⟩
                  cases h
                · rfl
              obtain rfl : b11 = true := by
                cases b11
                · exfalso
                  have h : 11 ∈ ([] : List Nat) := hr ▸ mem_ready.2 ⟨rfl, _, rfl, by simp [Region.binds]⟩
                  cases h
                · rfl
              clear hr
              simp only [cond_true]
              cases ne with
              | true =>
                gi_wp2
                exact ⟨(((KeepsOthers.drew _).trans (KeepsOthers.setCell _ _ _))).from _, .inl ⟨rfl, fun h => hne.1 (by simp) (by have := prefix_at h; rw [hy] at this; injection this with this; exact this.symm)⟩⟩
              | false =>
                obtain rfl : x = y := by
                  by_cases h : x = y
                  · exact h
                  · have := hne.2 h; cases this
                gi_wp2
                obtain ⟨W3, hW3⟩ : ∃ W3, ((W.setCell ⟨Wr.heap.size, 0, none⟩ (.int .i64 ((pre.length : Int) + 1))).alloc (.cells #[.int .i64 0] 3)).drew = W3 := ⟨_, rfl⟩
                have hpre : pre ++ [x] <+: lexL l := prefix_step hpp hy
                have hz3 : W.heap.size + 1 ≤ W3.heap.size := by rw [← hW3]; simp
                have hbs : Below (W.setCell ⟨Wr.heap.size, 0, none⟩ (.int .i64 ((pre.length : Int) + 1))).heap.size (W.setCell ⟨Wr.heap.size, 0, none⟩ (.int .i64 ((pre.length : Int) + 1))) W3 := by rw [← hW3]; exact ((Below.refl _ _).alloc (Nat.le_refl _) _).drew
                have x93 : Boxed W3 Wr.heap.size 3 (.int .i64 ((pre.length : Int) + 1)) := (hbs.block _ (by simp; omega)).trans (y9.set _)
                have f3 : Lf w.heap.size w1.heap.size Wb.heap.size tb tof tcap n l Ds w W3 := (yf.set ⟨by omega, by omega, by omega, by omega⟩ _).up hbs htb
                have x11 : Boxed W3 W.heap.size 3 (.int .i64 0) := by
                  have := Boxed.new (W.setCell ⟨Wr.heap.size, 0, none⟩ (.int .i64 ((pre.length : Int) + 1))) 3 (.int .i64 0)
                  rw [World.size_setCell] at this
                  rw [← hW3]; exact this
                have kp3 : KpO Wr.heap.size w.heap.size W W3 := (KpO.put y9 (by omega) _).trans (KpO.of_below hbs (by simp; omega) (by simp; omega))
                have ko3 : KeepsOthers W W3 := by rw [← hW3]; exact ((KeepsOthers.setCell _ _ _).trans (KeepsOthers.alloc _ _)).trans (KeepsOthers.drew _)
                have hr3 := ko3.same l₀ _ hr rfl
                have ho11 : ownOf W3 W.heap.size = none := by unfold ownOf; rw [x11.cell]; rfl
                have hdl3 : ∀ D ∈ Ds, D < W3.heap.size := fun D hD => by have := lt_of_heap (yf.xd D hD).2; omega
                rw [hW3]
                clear hW3 hbs
                refine wpIn_rangeFunc_ownN (l₀ := l₀) (r₀ := r) rfl hr3 (by omega) (gf := 18) (lb := #[.pointer (some ⟨Wb.heap.size, 0, none⟩)]) rfl trivial (enters_of Tryz.func18 (by kernel_rfl) rfl)
                  ((lex_stops (9 - 1 - 1 - 1) (by omega) Wb.heap.size w.heap.size W.heap.size l (by omega) 9 (by omega) W3 (by omega) (by omega) (fun k hk => by rw [ho11] at hk; cases hk) (by rw [ho11]; simp) f3.x7).inRound l₀)
                  KpO.trans (KpO.putObj (by omega) (by omega)) (Below.refl _ _) (fun _ => rfl)
                  (fun q V => (Boxed V W.heap.size 3 (.int .i64 (q.length : Int)) ∧ Boxed V Wr.heap.size 3 (.int .i64 ((pre.length : Int) + 1)) ∧ Lf w.heap.size w1.heap.size Wb.heap.size tb tof tcap n l Ds w V ∧ q <+: lexL l) ∧ KpO Wr.heap.size w.heap.size W V ∧ KeepsFrom W9.heap.size W V)
                  (fun c q V => (c = .ret ∧ ¬ q <+: lexL l) ∨ (c = .exit 4 ∧ Boxed V Wr.heap.size 3 (.int .i64 ((pre.length : Int) + 1)) ∧ Lf w.heap.size w1.heap.size Wb.heap.size tb tof tcap n l Ds w V ∧ KpO Wr.heap.size w.heap.size W V ∧ KeepsFrom W9.heap.size W V))
                  (fun s A B row hs hg hr => ⟨⟨box_grown hs.1.1 hg (fun r e => (hr r e).2), box_grown hs.1.2.1 hg (fun r e => (hr r e).2), hs.1.2.2.1.grown hg hr hdl3 (by omega), hs.1.2.2.2⟩, hs.2.1.grown hs.1.2.1.cell hg hr (by omega) (by omega), ownFrom_keepsFrom (β := List Tok) (B := W9.heap.size) (B' := W3.heap.size) (by omega) s A B row hs.2.2 hg hr⟩)
                  (fun c s A B row hs hg hr => by
                    rcases hs with hs | ⟨h1, h2, h3, h4, h5⟩
                    · exact .inl hs
                    · exact .inr ⟨h1, box_grown h2 hg (fun r e => (hr r e).2), h3.grown hg hr hdl3 (by omega), h4.grown h2.cell hg hr (by omega) (by omega), ownFrom_keepsFrom (β := List Tok) (B := W9.heap.size) (B' := W3.heap.size) (by omega) s A B row h5 hg hr⟩)
                  ⟨⟨x11, x93, f3, List.nil_prefix⟩, kp3, ko3.from _⟩
                  (fun u a' V => ∃ By, W.heap.size < By ∧ V.heap[By]? = some (.cells #[.int .i64 u.kind, .int .i64 u.place, .int .i64 u.num, .string u.str, .int .i64 u.r, .int .i64 u.c, .int .i64 u.t, .int .i64 u.l, .int .i64 u.b, .int .i64 u.q, .int .i64 u.code] 33 (0, 0)) ∧ a' = { tmps := (List.toArray ((.string ⟨l.toArray⟩) :: (.int .i64 most) :: undef :: undef :: (.pointer (some ⟨w.heap.size, 0, none⟩)) :: (.pointer (some ⟨w1.heap.size, 0, none⟩)) :: (.pointer (some ⟨w1.heap.size + 1, 0, none⟩)) :: (.pointer (some ⟨Wb.heap.size + 1, 0, none⟩)) :: (.int .i64 (rd : Int)) :: (.pointer (some ⟨Wr.heap.size, 0, none⟩)) :: (.pointer (some ⟨Bx, 0, none⟩)) :: (.pointer (some ⟨W.heap.size, 0, none⟩)) :: (.pointer (some ⟨By, 0, none⟩)) :: (.string ⟨l.toArray⟩) :: (.slice (some ⟨tb, tof, none⟩) (lexL l).length tcap) :: (.slice (some ⟨tb, tof, none⟩) (lexL l).length tcap) :: (.int .i64 ((lexL l).length : Int)) :: u17 :: u18 :: u19 :: u20 :: u21 :: u22 :: u23 :: u24 :: u25 :: u26 :: (.string ⟨l.toArray⟩) :: ((.func (.func 18) #[] #[.pointer (some ⟨Wb.heap.size, 0, none⟩)])) :: ((.func (.func 18) #[] #[.pointer (some ⟨Wb.heap.size, 0, none⟩)])) :: (.bool false) :: (.int .i64 (rd : Int)) :: (.bool true) :: v33 :: v34 :: ((.func (.func 18) #[] #[.pointer (some ⟨Wb.heap.size, 0, none⟩)])) :: (.agg #[.int .i64 x.kind, .int .i64 x.place, .int .i64 x.num, .string x.str, .int .i64 x.r, .int .i64 x.c, .int .i64 x.t, .int .i64 x.l, .int .i64 x.b, .int .i64 x.q, .int .i64 x.code]) :: ((.int .i64 (pre.length : Int))) :: ((.slice (some ⟨tb, tof, none⟩) (lexL l).length tcap)) :: ((.int .i64 ((lexL l).length : Int))) :: ((.bool false)) :: ((.bool false)) :: ((.agg #[.int .i64 x.kind, .int .i64 x.place, .int .i64 x.num, .string x.str, .int .i64 x.r, .int .i64 x.c, .int .i64 x.t, .int .i64 x.l, .int .i64 x.b, .int .i64 x.q, .int .i64 x.code])) :: ((.slice (some ⟨tb, tof, none⟩) (lexL l).length tcap)) :: ((.int .i64 (pre.length : Int))) :: ((.pointer (some ⟨tb, tof + pre.length * 11, none⟩))) :: ((.agg #[.int .i64 x.kind, .int .i64 x.place, .int .i64 x.num, .string x.str, .int .i64 x.r, .int .i64 x.c, .int .i64 x.t, .int .i64 x.l, .int .i64 x.b, .int .i64 x.q, .int .i64 x.code])) :: ((.bool false)) :: ((.bool false)) :: (.int .i64 (pre.length : Int)) :: (.int .i64 ((pre.length : Int) + 1)) :: ((.func (.func 18) #[] #[.pointer (some ⟨Wb.heap.size, 0, none⟩)])) :: (.agg #[.int .i64 u.kind, .int .i64 u.place, .int .i64 u.num, .string u.str, .int .i64 u.r, .int .i64 u.c, .int .i64 u.t, .int .i64 u.l, .int .i64 u.b, .int .i64 u.q, .int .i64 u.code]) :: undef :: undef :: undef :: undef :: undef :: undef :: undef :: undef :: undef :: undef :: undef :: undef :: undef :: undef :: undef :: undef :: undef :: undef :: undef :: undef :: undef :: undef :: undef :: undef :: v77 :: v78 :: v79 :: v80 :: v81 :: v82 :: v83 :: v84 :: v85 :: v86 :: v87 :: undef :: [])), defers := [] })
                  (fun u a' => fun s A B row hs hg hr => by
                    obtain ⟨By, hly, hu, e⟩ := hs
                    exact ⟨By, hly, grownBy_keeps_cells hg (fun r e => (hr r e).2) hu rfl ▸ hu, e⟩) ?assign2 ?body2 ?done2 ?stop2
                case assign2 =>
                  rintro l₂ q u V K ⟨⟨y11, y93, vf, hqq⟩, kpV, kfV⟩ hK
                  have hl11 := y11.lt
                  have hl93 := y93.lt
                  have hbV : Below V.heap.size V (V.alloc (.cells #[.int .i64 u.kind, .int .i64 u.place, .int .i64 u.num, .string u.str, .int .i64 u.r, .int .i64 u.c, .int .i64 u.t, .int .i64 u.l, .int .i64 u.b, .int .i64 u.q, .int .i64 u.code] 33)) := (Below.refl _ _).alloc (Nat.le_refl _) _
                  simp only [Tok.enc]
                  gi_wp2
                  exact hK _ _ ((KeepsOthers.alloc _ _).from _) (KpO.of_below hbV hl11 (by omega)) ⟨⟨y11.alloc _, y93.alloc _, vf.up hbV htb, hqq⟩, kpV.trans (KpO.of_below hbV hl93 (by omega)), kfV.trans ((KeepsOthers.alloc _ _).from _)⟩ ⟨V.heap.size, hl11, heap_alloc_new V _, rfl⟩
                case body2 =>
                  rintro l₂ q u a' V hl2 _ ⟨⟨y11, y93, vf, hqq⟩, kpV, kfV⟩ ⟨By, hBy, hu, rfl⟩ hltq
                  have m11 := y11.cell
                  have n11 := y11.frozen
                  have m5 := vf.x5.cell
                  have m4 := vf.x4.cell
                  have n4 := vf.x4.frozen
                  have m6 := vf.x6.cell
                  have lv4 := vf.x4.lt
                  have lv6 := vf.x6.lt
                  have lv11 := y11.lt
                  have hn6 : ¬ W.heap.size = w1.heap.size + 1 := by omega
                  have hn6' : ¬ w1.heap.size + 1 = W.heap.size := by omega
                  have hql : (q.length : Int) ≤ 1048577 := by omega
                  have dx0 : V.cell? ⟨By, 0, none⟩ = some (.int .i64 u.kind) := by rw [cell_of_row V By 0 _ _ _ hu]; rfl
                  have dx1 : V.cell? ⟨By, 1, none⟩ = some (.int .i64 u.place) := by rw [cell_of_row V By 1 _ _ _ hu]; rfl
                  have dx2 : V.cell? ⟨By, 2, none⟩ = some (.int .i64 u.num) := by rw [cell_of_row V By 2 _ _ _ hu]; rfl
                  have dx3 : V.cell? ⟨By, 3, none⟩ = some (.string u.str) := by rw [cell_of_row V By 3 _ _ _ hu]; rfl
                  have dx4 : V.cell? ⟨By, 4, none⟩ = some (.int .i64 u.r) := by rw [cell_of_row V By 4 _ _ _ hu]; rfl
                  have dx5 : V.cell? ⟨By, 5, none⟩ = some (.int .i64 u.c) := by rw [cell_of_row V By 5 _ _ _ hu]; rfl
                  have dx6 : V.cell? ⟨By, 6, none⟩ = some (.int .i64 u.t) := by rw [cell_of_row V By 6 _ _ _ hu]; rfl
                  have dx7 : V.cell? ⟨By, 7, none⟩ = some (.int .i64 u.l) := by rw [cell_of_row V By 7 _ _ _ hu]; rfl
                  have dx8 : V.cell? ⟨By, 8, none⟩ = some (.int .i64 u.b) := by rw [cell_of_row V By 8 _ _ _ hu]; rfl
                  have dx9 : V.cell? ⟨By, 9, none⟩ = some (.int .i64 u.q) := by rw [cell_of_row V By 9 _ _ _ hu]; rfl
                  have dx10 : V.cell? ⟨By, 10, none⟩ = some (.int .i64 u.code) := by rw [cell_of_row V By 10 _ _ _ hu]; rfl
                  by_cases hkq : q.length < (lexL l).length
                  · obtain ⟨z, hz⟩ : ∃ z, (lexL l)[q.length]? = some z := ⟨_, List.getElem?_eq_getElem hkq⟩
                    have hzc := fun j u h => vf.xt q.length z hz j u h
                    have zx0 : V.cell? ⟨tb, tof + q.length * 11, none⟩ = some (.int .i64 z.kind) := hzc 0 _ rfl
                    have zx1 : V.cell? ⟨tb, tof + q.length * 11 + 1, none⟩ = some (.int .i64 z.place) := hzc 1 _ rfl
                    have zx2 : V.cell? ⟨tb, tof + q.length * 11 + 2, none⟩ = some (.int .i64 z.num) := hzc 2 _ rfl
                    have zx3 : V.cell? ⟨tb, tof + q.length * 11 + 3, none⟩ = some (.string z.str) := hzc 3 _ rfl
                    have zx4 : V.cell? ⟨tb, tof + q.length * 11 + 4, none⟩ = some (.int .i64 z.r) := hzc 4 _ rfl
                    have zx5 : V.cell? ⟨tb, tof + q.length * 11 + 5, none⟩ = some (.int .i64 z.c) := hzc 5 _ rfl
                    have zx6 : V.cell? ⟨tb, tof + q.length * 11 + 6, none⟩ = some (.int .i64 z.t) := hzc 6 _ rfl
                    have zx7 : V.cell? ⟨tb, tof + q.length * 11 + 7, none⟩ = some (.int .i64 z.l) := hzc 7 _ rfl
                    have zx8 : V.cell? ⟨tb, tof + q.length * 11 + 8, none⟩ = some (.int .i64 z.b) := hzc 8 _ rfl
                    have zx9 : V.cell? ⟨tb, tof + q.length * 11 + 9, none⟩ = some (.int .i64 z.q) := hzc 9 _ rfl
                    have zx10 : V.cell? ⟨tb, tof + q.length * 11 + 10, none⟩ = some (.int .i64 z.code) := hzc 10 _ rfl
                    have hkn2 : ¬ (lexL l).length ≤ q.length := by omega
                    obtain ⟨ne2, hne2, hnb2⟩ : ∃ ne : Bool, (ne = true ↔ u ≠ z) ∧ ∀ w : World, (binOp BinOp.neq 33 (.agg #[.int .i64 u.kind, .int .i64 u.place, .int .i64 u.num, .string u.str, .int .i64 u.r, .int .i64 u.c, .int .i64 u.t, .int .i64 u.l, .int .i64 u.b, .int .i64 u.q, .int .i64 u.code]) (.agg #[.int .i64 z.kind, .int .i64 z.place, .int .i64 z.num, .string z.str, .int .i64 z.r, .int .i64 z.c, .int .i64 z.t, .int .i64 z.l, .int .i64 z.b, .int .i64 z.q, .int .i64 z.code])).run Tryz.prog w = .ok (.bool ne) w := by
                      by_cases hxy : u = z
                      · subst hxy; exact ⟨false, by simp, fun w => tok_eqq u w⟩
                      · exact ⟨true, by simp [hxy], fun w => tok_neq u z hxy w⟩
                    gi_wp2
                    refine wpIn_region_any (by kernel_rfl) ?_
                    refine any_inv (fun L a w' => w' = World.drew V ∧ ∃ b0 b1 b2 b3 b4 b5 b6 b7 b8 b9 b10 b11 : Bool, L = #[b0, b1, b2, b3, b4, b5, b6, b7, b8, b9, b10, b11] ∧ a = { tmps := (List.toArray ((.string ⟨l.toArray⟩) :: (.int .i64 most) :: undef :: undef :: (.pointer (some ⟨w.heap.size, 0, none⟩)) :: (.pointer (some ⟨w1.heap.size, 0, none⟩)) :: (.pointer (some ⟨w1.heap.size + 1, 0, none⟩)) :: (.pointer (some ⟨Wb.heap.size + 1, 0, none⟩)) :: (.int .i64 (rd : Int)) :: (.pointer (some ⟨Wr.heap.size, 0, none⟩)) :: (.pointer (some ⟨Bx, 0, none⟩)) :: (.pointer (some ⟨W.heap.size, 0, none⟩)) :: (.pointer (some ⟨By, 0, none⟩)) :: (.string ⟨l.toArray⟩) :: (.slice (some ⟨tb, tof, none⟩) (lexL l).length tcap) :: (.slice (some ⟨tb, tof, none⟩) (lexL l).length tcap) :: (.int .i64 ((lexL l).length : Int)) :: u17 :: u18 :: u19 :: u20 :: u21 :: u22 :: u23 :: u24 :: u25 :: u26 :: (.string ⟨l.toArray⟩) :: ((.func (.func 18) #[] #[.pointer (some ⟨Wb.heap.size, 0, none⟩)])) :: ((.func (.func 18) #[] #[.pointer (some ⟨Wb.heap.size, 0, none⟩)])) :: (.bool false) :: (.int .i64 (rd : Int)) :: (.bool true) :: v33 :: v34 :: ((.func (.func 18) #[] #[.pointer (some ⟨Wb.heap.size, 0, none⟩)])) :: (.agg #[.int .i64 x.kind, .int .i64 x.place, .int .i64 x.num, .string x.str, .int .i64 x.r, .int .i64 x.c, .int .i64 x.t, .int .i64 x.l, .int .i64 x.b, .int .i64 x.q, .int .i64 x.code]) :: ((.int .i64 (pre.length : Int))) :: ((.slice (some ⟨tb, tof, none⟩) (lexL l).length tcap)) :: ((.int .i64 ((lexL l).length : Int))) :: ((.bool false)) :: ((.bool false)) :: ((.agg #[.int .i64 x.kind, .int .i64 x.place, .int .i64 x.num, .string x.str, .int .i64 x.r, .int .i64 x.c, .int .i64 x.t, .int .i64 x.l, .int .i64 x.b, .int .i64 x.q, .int .i64 x.code])) :: ((.slice (some ⟨tb, tof, none⟩) (lexL l).length tcap)) :: ((.int .i64 (pre.length : Int))) :: ((.pointer (some ⟨tb, tof + pre.length * 11, none⟩))) :: ((.agg #[.int .i64 x.kind, .int .i64 x.place, .int .i64 x.num, .string x.str, .int .i64 x.r, .int .i64 x.c, .int .i64 x.t, .int .i64 x.l, .int .i64 x.b, .int .i64 x.q, .int .i64 x.code])) :: ((.bool false)) :: ((.bool false)) :: (.int .i64 (pre.length : Int)) :: (.int .i64 ((pre.length : Int) + 1)) :: ((.func (.func 18) #[] #[.pointer (some ⟨Wb.heap.size, 0, none⟩)])) :: (.agg #[.int .i64 u.kind, .int .i64 u.place, .int .i64 u.num, .string u.str, .int .i64 u.r, .int .i64 u.c, .int .i64 u.t, .int .i64 u.l, .int .i64 u.b, .int .i64 u.q, .int .i64 u.code]) :: (bif b0 then (.int .i64 (q.length : Int)) else undef) :: (bif b1 then (.slice (some ⟨tb, tof, none⟩) (lexL l).length tcap) else undef) :: (bif b2 then (.int .i64 ((lexL l).length : Int)) else undef) :: (bif b3 then (.bool false) else undef) :: (bif b4 then (.bool false) else undef) :: (bif b5 then (.agg #[.int .i64 u.kind, .int .i64 u.place, .int .i64 u.num, .string u.str, .int .i64 u.r, .int .i64 u.c, .int .i64 u.t, .int .i64 u.l, .int .i64 u.b, .int .i64 u.q, .int .i64 u.code]) else undef) :: (bif b6 then (.slice (some ⟨tb, tof, none⟩) (lexL l).length tcap) else undef) :: (bif b7 then (.int .i64 (q.length : Int)) else undef) :: (bif b8 then (.pointer (some ⟨tb, tof + q.length * 11, none⟩)) else undef) :: (bif b9 then (.agg #[.int .i64 z.kind, .int .i64 z.place, .int .i64 z.num, .string z.str, .int .i64 z.r, .int .i64 z.c, .int .i64 z.t, .int .i64 z.l, .int .i64 z.b, .int .i64 z.q, .int .i64 z.code]) else undef) :: (bif b10 then (.bool ne2) else undef) :: (bif b11 then (.bool ne2) else undef) :: undef :: undef :: undef :: undef :: undef :: undef :: undef :: undef :: undef :: undef :: undef :: undef :: v77 :: v78 :: v79 :: v80 :: v81 :: v82 :: v83 :: v84 :: v85 :: v86 :: v87 :: undef :: [])), defers := [] }) ?hs ?he _ _ _ _ ⟨rfl, false, false, false, false, false, false, false, false, false, false, false, false, rfl, rfl⟩ (by decide)
                    case hs =>
                      rintro L a w' i ⟨rfl, b0, b1, b2, b3, b4, b5, b6, b7, b8, b9, b10, b11, rfl, rfl⟩ hi
                      have hi12 : i < 12 := by
                        obtain ⟨_, o, h2, _⟩ := mem_ready.1 hi
                        exact (Array.getElem?_eq_some_iff.1 h2).1
                      obtain ⟨h1, o, h2, h3⟩ := mem_ready.1 hi
                      rcases (show i = 0 ∨ i = 1 ∨ i = 2 ∨ i = 3 ∨ i = 4 ∨ i = 5 ∨ i = 6 ∨ i = 7 ∨ i = 8 ∨ i = 9 ∨ i = 10 ∨ i = 11 by omega) with rfl | rfl | rfl | rfl | rfl | rfl | rfl | rfl | rfl | rfl | rfl | rfl
                      · obtain rfl : b0 = false := h1
                        simp at h2
                        subst h2
                        simp [Region.binds] at h3
                        refine op_yields (v := (.int .i64 (q.length : Int))) rfl (.inl ⟨rfl, fun _ _ => trivial, ?_⟩) ⟨rfl, true, _, _, _, _, _, _, _, _, _, _, _, rfl, rfl⟩
                        show (Oper.semAt (some l₂) _ _).run _ _ = _
                        rw [Oper.semAt_some _ _ _ (by intro c h; cases h)]
                        simp [execOp, go_sem, m11]
                      · obtain rfl : b1 = false := h1
                        simp at h2
                        subst h2
                        simp [Region.binds] at h3
                        refine op_yields (v := (.slice (some ⟨tb, tof, none⟩) (lexL l).length tcap)) rfl (.inl ⟨rfl, fun _ _ => trivial, ?_⟩) ⟨rfl, _, true, _, _, _, _, _, _, _, _, _, _, rfl, rfl⟩
                        show (Oper.semAt (some l₂) _ _).run _ _ = _
                        rw [Oper.semAt_some _ _ _ (by intro c h; cases h)]
                        simp [execOp, go_sem, m5]
                      · obtain rfl : b2 = false := h1
                        simp at h2
                        subst h2
                        simp [Region.binds] at h3
                        subst h3
                        refine op_yields (v := (.int .i64 ((lexL l).length : Int))) rfl (.inl ⟨rfl, fun _ _ => trivial, ?_⟩) ⟨rfl, _, _, true, _, _, _, _, _, _, _, _, _, rfl, rfl⟩
                        show (Oper.semAt (some l₂) _ _).run _ _ = _
                        rw [Oper.semAt_some _ _ _ (by intro c h; cases h)]
                        simp [execOp, go_sem]
                      · obtain rfl : b3 = false := h1
                        simp at h2
                        subst h2
                        simp [Region.binds] at h3
                        obtain ⟨rfl, rfl⟩ := h3
                        refine op_yields (v := (.bool false)) rfl (.inl ⟨rfl, fun _ _ => trivial, ?_⟩) ⟨rfl, _, _, _, true, _, _, _, _, _, _, _, _, rfl, rfl⟩
                        show (Oper.semAt (some l₂) _ _).run _ _ = _
                        rw [Oper.semAt_some _ _ _ (by intro c h; cases h)]
                        simp [execOp, go_sem, hkn2]
                      · obtain rfl : b4 = false := h1
                        simp at h2
                        subst h2
                        simp [Region.binds] at h3
                        subst h3
                        refine op_yields (v := (.bool false)) rfl (.inl ⟨rfl, fun _ _ => trivial, ?_⟩) ⟨rfl, _, _, _, _, true, _, _, _, _, _, _, _, rfl, rfl⟩
                        show (Oper.semAt (some l₂) _ _).run _ _ = _
                        rw [Oper.semAt_some _ _ _ (by intro c h; cases h)]
                        simp [execOp, go_sem]
                      · obtain rfl : b5 = false := h1
                        simp at h2
                        subst h2
                        simp [Region.binds] at h3
                        subst h3
                        refine op_yields (v := (.agg #[.int .i64 u.kind, .int .i64 u.place, .int .i64 u.num, .string u.str, .int .i64 u.r, .int .i64 u.c, .int .i64 u.t, .int .i64 u.l, .int .i64 u.b, .int .i64 u.q, .int .i64 u.code])) rfl (.inl ⟨rfl, fun _ _ => trivial, ?_⟩) ⟨rfl, _, _, _, _, _, true, _, _, _, _, _, _, rfl, rfl⟩
                        show (Oper.semAt (some l₂) _ _).run _ _ = _
                        rw [Oper.semAt_some _ _ _ (by intro c h; cases h)]
                        simp [execOp, go_sem, dx0, dx1, dx2, dx3, dx4, dx5, dx6, dx7, dx8, dx9, dx10]
                      · obtain rfl : b6 = false := h1
                        simp at h2
                        subst h2
                        simp [Region.binds] at h3
                        subst h3
                        refine op_yields (v := (.slice (some ⟨tb, tof, none⟩) (lexL l).length tcap)) rfl (.inl ⟨rfl, fun _ _ => trivial, ?_⟩) ⟨rfl, _, _, _, _, _, _, true, _, _, _, _, _, rfl, rfl⟩
                        show (Oper.semAt (some l₂) _ _).run _ _ = _
                        rw [Oper.semAt_some _ _ _ (by intro c h; cases h)]
                        simp [execOp, go_sem, m5]
                      · obtain rfl : b7 = false := h1
                        simp at h2
                        subst h2
                        simp [Region.binds] at h3
                        subst h3
                        refine op_yields (v := (.int .i64 (q.length : Int))) rfl (.inl ⟨rfl, fun _ _ => trivial, ?_⟩) ⟨rfl, _, _, _, _, _, _, _, true, _, _, _, _, rfl, rfl⟩
                        show (Oper.semAt (some l₂) _ _).run _ _ = _
                        rw [Oper.semAt_some _ _ _ (by intro c h; cases h)]
                        simp [execOp, go_sem, m11]
                      · obtain rfl : b8 = false := h1
                        simp at h2
                        subst h2
                        simp [Region.binds] at h3
                        obtain ⟨rfl, rfl, rfl⟩ := h3
                        refine op_yields (v := (.pointer (some ⟨tb, tof + q.length * 11, none⟩))) rfl (.inl ⟨rfl, fun _ _ => trivial, ?_⟩) ⟨rfl, _, _, _, _, _, _, _, _, true, _, _, _, rfl, rfl⟩
                        show (Oper.semAt (some l₂) _ _).run _ _ = _
                        rw [Oper.semAt_some _ _ _ (by intro c h; cases h)]
                        simp [execOp, go_sem, hkq]
                      · obtain rfl : b9 = false := h1
                        simp at h2
                        subst h2
                        simp [Region.binds] at h3
                        obtain ⟨rfl, rfl⟩ := h3
                        refine op_yields (v := (.agg #[.int .i64 z.kind, .int .i64 z.place, .int .i64 z.num, .string z.str, .int .i64 z.r, .int .i64 z.c, .int .i64 z.t, .int .i64 z.l, .int .i64 z.b, .int .i64 z.q, .int .i64 z.code])) rfl (.inl ⟨rfl, fun _ _ => trivial, ?_⟩) ⟨rfl, _, _, _, _, _, _, _, _, _, true, _, _, rfl, rfl⟩
                        show (Oper.semAt (some l₂) _ _).run _ _ = _
                        rw [Oper.semAt_some _ _ _ (by intro c h; cases h)]
                        simp [execOp, go_sem, zx0, zx1, zx2, zx3, zx4, zx5, zx6, zx7, zx8, zx9, zx10]
                      · obtain rfl : b10 = false := h1
                        simp at h2
                        subst h2
                        simp [Region.binds] at h3
                        obtain ⟨rfl, rfl, rfl⟩ := h3
                        refine op_yields (v := (.bool ne2)) rfl (.inl ⟨rfl, fun _ _ => trivial, ?_⟩) ⟨rfl, _, _, _, _, _, _, _, _, _, _, true, _, rfl, rfl⟩
                        show (Oper.semAt (some l₂) _ _).run _ _ = _
                        rw [Oper.semAt_some _ _ _ (by intro c h; cases h)]
                        simp [execOp, go_sem, hnb2]
                      · obtain rfl : b11 = false := h1
                        simp at h2
                        subst h2
                        simp [Region.binds] at h3
                        obtain ⟨rfl, rfl⟩ := h3
                        refine op_yields (v := (.bool ne2)) rfl (.inl ⟨rfl, fun _ _ => trivial, ?_⟩) ⟨rfl, _, _, _, _, _, _, _, _, _, _, _, true, rfl, rfl⟩
                        show (Oper.semAt (some l₂) _ _).run _ _ = _
                        rw [Oper.semAt_some _ _ _ (by intro c h; cases h)]
                        simp [execOp, go_sem]
                    case he =>
                      rintro L a w' ⟨rfl, b0, b1, b2, b3, b4, b5, b6, b7, b8, b9, b10, b11, rfl, rfl⟩ hr
                      obtain rfl : b0 = true := by
                        cases b0
                        · exfalso
                          have h : 0 ∈ ([] : List Nat) := hr ▸ mem_ready.2 ⟨rfl, _, rfl, by simp [Region.binds]⟩
                          cases h
                        · rfl
                      obtain rfl : b1 = true := by
                        cases b1
                        · exfalso
                          have h : 1 ∈ ([] : List Nat) := hr ▸ mem_ready.2 ⟨rfl, _, rfl, by simp [Region.binds]⟩
                          cases h
                        · rfl
                      obtain rfl : b2 = true := by
                        cases b2
                        · exfalso
                          have h : 2 ∈ ([] : List Nat) := hr ▸ mem_ready.2 ⟨rfl, _, rfl, by simp [Region.binds]⟩
                          cases h
                        · rfl
                      obtain rfl : b3 = true := by
                        cases b3
                        · exfalso
                          have h : 3 ∈ ([] : List Nat) := hr ▸ mem_ready.2 ⟨rfl, _, rfl, by simp [Region.binds]⟩
                          cases h
                        · rfl
                      obtain rfl : b4 = true := by
                        cases b4
                        · exfalso
                          have h : 4 ∈ ([] : List Nat) := hr ▸ mem_ready.2 ⟨rfl, _, rfl, by simp [Region.binds]⟩
                          cases h
                        · rfl
                      obtain rfl : b5 = true := by
                        cases b5
                        · exfalso
                          have h : 5 ∈ ([] : List Nat) := hr ▸ mem_ready.2 ⟨rfl, _, rfl, by simp [Region.binds]⟩
                          cases h
                        · rfl
                      obtain rfl : b6 = true := by
                        cases b6
                        · exfalso
                          have h : 6 ∈ ([] : List Nat) := hr ▸ mem_ready.2 ⟨rfl, _, rfl, by simp [Region.binds]⟩
                          cases h
                        · rfl
                      obtain rfl : b7 = true := by
                        cases b7
                        · exfalso
                          have h : 7 ∈ ([] : List Nat) := hr ▸ mem_ready.2 ⟨rfl, _, rfl, by simp [Region.binds]⟩
                          cases h
                        · rfl
                      obtain rfl : b8 = true := by
                        cases b8
                        · exfalso
                          have h : 8 ∈ ([] : List Nat) := hr ▸ mem_ready.2 ⟨rfl, _, rfl, by simp [Region.binds]⟩
                          cases h
                        · rfl
                      obtain rfl : b9 = true := by
                        cases b9
                        · exfalso
                          have h : 9 ∈ ([] : List Nat) := hr ▸ mem_ready.2 ⟨rfl, _, rfl, by simp [Region.binds]⟩
                          cases h
                        · rfl
                      obtain rfl : b10 = true := by
                        cases b10
                        · exfalso
                          have h : 10 ∈ ([] : List Nat) := hr ▸ mem_ready.2 ⟨rfl, _, rfl, by simp [Region.binds]⟩
                          cases h
                        · rfl
                      obtain rfl : b11 = true := by
                        cases b11
                        · exfalso
                          have h : 11 ∈ ([] : List Nat) := hr ▸ mem_ready.2 ⟨rfl, _, rfl, by simp [Region.binds]⟩
                          cases h
                        · rfl
                      clear hr
                      simp only [cond_true]
                      cases ne2 with
                      | true =>
                        gi_wp2
                        exact ⟨(((KeepsOthers.drew _).trans (KeepsOthers.setCell _ _ _))).from _, .inl ⟨rfl, fun h => hne2.1 (by simp) (by have := prefix_at h; rw [hz] at this; injection this with this; exact this.symm)⟩⟩
                      | false =>
                        obtain rfl : u = z := by
                          by_cases h : u = z
                          · exact h
                          · have := hne2.2 h; cases this
                        have hqs := prefix_step hqq hz
                        by_cases hnq : n ≤ q.length + 1
                        · have hnI : (n : Int) ≤ (q.length : Int) + 1 := by omega
                          gi_wp2
                          have f4 : Lf w.heap.size w1.heap.size Wb.heap.size tb tof tcap n l Ds w (V.setCell ⟨W.heap.size, 0, none⟩ (.int .i64 ((q.length : Int) + 1))).drew := (vf.set ⟨by omega, by omega, by omega, by omega⟩ (.int .i64 ((q.length : Int) + 1))).up (Below.refl _ _).drew htb
                          have y94 : Boxed (V.setCell ⟨W.heap.size, 0, none⟩ (.int .i64 ((q.length : Int) + 1))).drew Wr.heap.size 3 (.int .i64 ((pre.length : Int) + 1)) := y93.other (by omega) (.int .i64 ((q.length : Int) + 1))
                          have kp4 : KpO Wr.heap.size w.heap.size W (V.setCell ⟨W.heap.size, 0, none⟩ (.int .i64 ((q.length : Int) + 1))).drew := kpV.later (by omega) (by omega) (by omega) (.int .i64 ((q.length : Int) + 1))
                          have ko4 : KeepsOthers V (V.setCell ⟨W.heap.size, 0, none⟩ (.int .i64 ((q.length : Int) + 1))).drew := (KeepsOthers.setCell _ _ _).trans (KeepsOthers.drew _)
                          have kf4 : KeepsFrom W9.heap.size W (V.setCell ⟨W.heap.size, 0, none⟩ (.int .i64 ((q.length : Int) + 1))).drew := kfV.trans (ko4.from _)
                          exact ⟨ko4.from _, .inr ⟨rfl, y94, f4, kp4, kf4⟩⟩
                        · have hnI : ¬ (n : Int) ≤ (q.length : Int) + 1 := by omega
                          gi_wp2
                          have f4 : Lf w.heap.size w1.heap.size Wb.heap.size tb tof tcap n l Ds w (V.setCell ⟨W.heap.size, 0, none⟩ (.int .i64 ((q.length : Int) + 1))).drew := (vf.set ⟨by omega, by omega, by omega, by omega⟩ (.int .i64 ((q.length : Int) + 1))).up (Below.refl _ _).drew htb
                          have y94 : Boxed (V.setCell ⟨W.heap.size, 0, none⟩ (.int .i64 ((q.length : Int) + 1))).drew Wr.heap.size 3 (.int .i64 ((pre.length : Int) + 1)) := y93.other (by omega) (.int .i64 ((q.length : Int) + 1))
                          have kp4 : KpO Wr.heap.size w.heap.size W (V.setCell ⟨W.heap.size, 0, none⟩ (.int .i64 ((q.length : Int) + 1))).drew := kpV.later (by omega) (by omega) (by omega) (.int .i64 ((q.length : Int) + 1))
                          have ko4 : KeepsOthers V (V.setCell ⟨W.heap.size, 0, none⟩ (.int .i64 ((q.length : Int) + 1))).drew := (KeepsOthers.setCell _ _ _).trans (KeepsOthers.drew _)
                          have kf4 : KeepsFrom W9.heap.size W (V.setCell ⟨W.heap.size, 0, none⟩ (.int .i64 ((q.length : Int) + 1))).drew := kfV.trans (ko4.from _)
                          exact ⟨ko4.from _, (KpO.put y11 (by omega) _).trans (KpO.of_below (Below.refl _ _).drew (by simp; omega) (by simp; omega)), ⟨⟨by rw [List.length_append]; exact y11.set _, y94, f4, hqs⟩, kp4, kf4⟩⟩
                  · have hkn2 : (lexL l).length ≤ q.length := by omega
                    gi_wp2
                    refine wpIn_region_any (by kernel_rfl) ?_
                    refine any_inv (fun L a w' => w' = World.drew V ∧ ∃ b0 b1 b2 b3 b4 b5 b6 b7 b8 b9 b10 b11 : Bool, L = #[b0, b1, b2, b3, b4, b5, b6, b7, b8, b9, b10, b11] ∧ a = { tmps := (List.toArray ((.string ⟨l.toArray⟩) :: (.int .i64 most) :: undef :: undef :: (.pointer (some ⟨w.heap.size, 0, none⟩)) :: (.pointer (some ⟨w1.heap.size, 0, none⟩)) :: (.pointer (some ⟨w1.heap.size + 1, 0, none⟩)) :: (.pointer (some ⟨Wb.heap.size + 1, 0, none⟩)) :: (.int .i64 (rd : Int)) :: (.pointer (some ⟨Wr.heap.size, 0, none⟩)) :: (.pointer (some ⟨Bx, 0, none⟩)) :: (.pointer (some ⟨W.heap.size, 0, none⟩)) :: (.pointer (some ⟨By, 0, none⟩)) :: (.string ⟨l.toArray⟩) :: (.slice (some ⟨tb, tof, none⟩) (lexL l).length tcap) :: (.slice (some ⟨tb, tof, none⟩) (lexL l).length tcap) :: (.int .i64 ((lexL l).length : Int)) :: u17 :: u18 :: u19 :: u20 :: u21 :: u22 :: u23 :: u24 :: u25 :: u26 :: (.string ⟨l.toArray⟩) :: ((.func (.func 18) #[] #[.pointer (some ⟨Wb.heap.size, 0, none⟩)])) :: ((.func (.func 18) #[] #[.pointer (some ⟨Wb.heap.size, 0, none⟩)])) :: (.bool false) :: (.int .i64 (rd : Int)) :: (.bool true) :: v33 :: v34 :: ((.func (.func 18) #[] #[.pointer (some ⟨Wb.heap.size, 0, none⟩)])) :: (.agg #[.int .i64 x.kind, .int .i64 x.place, .int .i64 x.num, .string x.str, .int .i64 x.r, .int .i64 x.c, .int .i64 x.t, .int .i64 x.l, .int .i64 x.b, .int .i64 x.q, .int .i64 x.code]) :: ((.int .i64 (pre.length : Int))) :: ((.slice (some ⟨tb, tof, none⟩) (lexL l).length tcap)) :: ((.int .i64 ((lexL l).length : Int))) :: ((.bool false)) :: ((.bool false)) :: ((.agg #[.int .i64 x.kind, .int .i64 x.place, .int .i64 x.num, .string x.str, .int .i64 x.r, .int .i64 x.c, .int .i64 x.t, .int .i64 x.l, .int .i64 x.b, .int .i64 x.q, .int .i64 x.code])) :: ((.slice (some ⟨tb, tof, none⟩) (lexL l).length tcap)) :: ((.int .i64 (pre.length : Int))) :: ((.pointer (some ⟨tb, tof + pre.length * 11, none⟩))) :: ((.agg #[.int .i64 x.kind, .int .i64 x.place, .int .i64 x.num, .string x.str, .int .i64 x.r, .int .i64 x.c, .int .i64 x.t, .int .i64 x.l, .int .i64 x.b, .int .i64 x.q, .int .i64 x.code])) :: ((.bool false)) :: ((.bool false)) :: (.int .i64 (pre.length : Int)) :: (.int .i64 ((pre.length : Int) + 1)) :: ((.func (.func 18) #[] #[.pointer (some ⟨Wb.heap.size, 0, none⟩)])) :: (.agg #[.int .i64 u.kind, .int .i64 u.place, .int .i64 u.num, .string u.str, .int .i64 u.r, .int .i64 u.c, .int .i64 u.t, .int .i64 u.l, .int .i64 u.b, .int .i64 u.q, .int .i64 u.code]) :: (bif b0 then (.int .i64 (q.length : Int)) else undef) :: (bif b1 then (.slice (some ⟨tb, tof, none⟩) (lexL l).length tcap) else undef) :: (bif b2 then (.int .i64 ((lexL l).length : Int)) else undef) :: (bif b3 then (.bool true) else undef) :: (bif b4 then (.bool true) else undef) :: (bif b5 then undef else undef) :: (bif b6 then undef else undef) :: (bif b7 then undef else undef) :: (bif b8 then undef else undef) :: (bif b9 then undef else undef) :: (bif b10 then undef else undef) :: (bif b11 then (.bool true) else undef) :: undef :: undef :: undef :: undef :: undef :: undef :: undef :: undef :: undef :: undef :: undef :: undef :: v77 :: v78 :: v79 :: v80 :: v81 :: v82 :: v83 :: v84 :: v85 :: v86 :: v87 :: undef :: [])), defers := [] }) ?hs ?he _ _ _ _ ⟨rfl, false, false, false, false, false, false, false, false, false, false, false, false, rfl, rfl⟩ (by decide)
                    case hs =>
                      rintro L a w' i ⟨rfl, b0, b1, b2, b3, b4, b5, b6, b7, b8, b9, b10, b11, rfl, rfl⟩ hi
                      have hi12 : i < 12 := by
                        obtain ⟨_, o, h2, _⟩ := mem_ready.1 hi
                        exact (Array.getElem?_eq_some_iff.1 h2).1
                      obtain ⟨h1, o, h2, h3⟩ := mem_ready.1 hi
                      rcases (show i = 0 ∨ i = 1 ∨ i = 2 ∨ i = 3 ∨ i = 4 ∨ i = 5 ∨ i = 6 ∨ i = 7 ∨ i = 8 ∨ i = 9 ∨ i = 10 ∨ i = 11 by omega) with rfl | rfl | rfl | rfl | rfl | rfl | rfl | rfl | rfl | rfl | rfl | rfl
                      · obtain rfl : b0 = false := h1
                        simp at h2
                        subst h2
                        simp [Region.binds] at h3
                        refine op_yields (v := (.int .i64 (q.length : Int))) rfl (.inl ⟨rfl, fun _ _ => trivial, ?_⟩) ⟨rfl, true, _, _, _, _, _, _, _, _, _, _, _, rfl, rfl⟩
                        show (Oper.semAt (some l₂) _ _).run _ _ = _
                        rw [Oper.semAt_some _ _ _ (by intro c h; cases h)]
                        simp [execOp, go_sem, m11]
                      · obtain rfl : b1 = false := h1
                        simp at h2
                        subst h2
                        simp [Region.binds] at h3
                        refine op_yields (v := (.slice (some ⟨tb, tof, none⟩) (lexL l).length tcap)) rfl (.inl ⟨rfl, fun _ _ => trivial, ?_⟩) ⟨rfl, _, true, _, _, _, _, _, _, _, _, _, _, rfl, rfl⟩
                        show (Oper.semAt (some l₂) _ _).run _ _ = _
                        rw [Oper.semAt_some _ _ _ (by intro c h; cases h)]
                        simp [execOp, go_sem, m5]
                      · obtain rfl : b2 = false := h1
                        simp at h2
                        subst h2
                        simp [Region.binds] at h3
                        subst h3
                        refine op_yields (v := (.int .i64 ((lexL l).length : Int))) rfl (.inl ⟨rfl, fun _ _ => trivial, ?_⟩) ⟨rfl, _, _, true, _, _, _, _, _, _, _, _, _, rfl, rfl⟩
                        show (Oper.semAt (some l₂) _ _).run _ _ = _
                        rw [Oper.semAt_some _ _ _ (by intro c h; cases h)]
                        simp [execOp, go_sem]
                      · obtain rfl : b3 = false := h1
                        simp at h2
                        subst h2
                        simp [Region.binds] at h3
                        obtain ⟨rfl, rfl⟩ := h3
                        refine op_yields (v := (.bool true)) rfl (.inl ⟨rfl, fun _ _ => trivial, ?_⟩) ⟨rfl, _, _, _, true, _, _, _, _, _, _, _, _, rfl, rfl⟩
                        show (Oper.semAt (some l₂) _ _).run _ _ = _
                        rw [Oper.semAt_some _ _ _ (by intro c h; cases h)]
                        simp [execOp, go_sem, hkn2]
                      · obtain rfl : b4 = false := h1
                        simp at h2
                        subst h2
                        simp [Region.binds] at h3
                        subst h3
                        refine op_yields (v := (.bool true)) rfl (.inl ⟨rfl, fun _ _ => trivial, ?_⟩) ⟨rfl, _, _, _, _, true, _, _, _, _, _, _, _, rfl, rfl⟩
                        show (Oper.semAt (some l₂) _ _).run _ _ = _
                        rw [Oper.semAt_some _ _ _ (by intro c h; cases h)]
                        simp [execOp, go_sem]
                      · obtain rfl : b5 = false := h1
                        simp at h2
                        subst h2
                        simp [Region.binds] at h3
                        subst h3
                        exact op_yields (v := undef) rfl (.inr ⟨rfl, fun _ _ => trivial, rfl⟩) ⟨rfl, _, _, _, _, _, true, _, _, _, _, _, _, rfl, rfl⟩
                      · obtain rfl : b6 = false := h1
                        simp at h2
                        subst h2
                        simp [Region.binds] at h3
                        subst h3
                        exact op_yields (v := undef) rfl (.inr ⟨rfl, fun _ _ => trivial, rfl⟩) ⟨rfl, _, _, _, _, _, _, true, _, _, _, _, _, rfl, rfl⟩
                      · obtain rfl : b7 = false := h1
                        simp at h2
                        subst h2
                        simp [Region.binds] at h3
                        subst h3
                        exact op_yields (v := undef) rfl (.inr ⟨rfl, fun _ _ => trivial, rfl⟩) ⟨rfl, _, _, _, _, _, _, _, true, _, _, _, _, rfl, rfl⟩
                      · obtain rfl : b8 = false := h1
                        simp at h2
                        subst h2
                        simp [Region.binds] at h3
                        obtain ⟨rfl, rfl, rfl⟩ := h3
                        exact op_yields (v := undef) rfl (.inr ⟨rfl, fun _ _ => trivial, rfl⟩) ⟨rfl, _, _, _, _, _, _, _, _, true, _, _, _, rfl, rfl⟩
                      · obtain rfl : b9 = false := h1
                        simp at h2
                        subst h2
                        simp [Region.binds] at h3
                        obtain ⟨rfl, rfl⟩ := h3
                        exact op_yields (v := undef) rfl (.inr ⟨rfl, fun _ _ => trivial, rfl⟩) ⟨rfl, _, _, _, _, _, _, _, _, _, true, _, _, rfl, rfl⟩
                      · obtain rfl : b10 = false := h1
                        simp at h2
                        subst h2
                        simp [Region.binds] at h3
                        obtain ⟨rfl, rfl, rfl⟩ := h3
                        exact op_yields (v := undef) rfl (.inr ⟨rfl, fun _ _ => trivial, rfl⟩) ⟨rfl, _, _, _, _, _, _, _, _, _, _, true, _, rfl, rfl⟩
                      · obtain rfl : b11 = false := h1
                        simp at h2
                        subst h2
                        simp [Region.binds] at h3
                        obtain ⟨rfl, rfl⟩ := h3
                        refine op_yields (v := (.bool true)) rfl (.inl ⟨rfl, fun _ _ => trivial, ?_⟩) ⟨rfl, _, _, _, _, _, _, _, _, _, _, _, true, rfl, rfl⟩
                        show (Oper.semAt (some l₂) _ _).run _ _ = _
                        rw [Oper.semAt_some _ _ _ (by intro c h; cases h)]
                        simp [execOp, go_sem]
                    case he =>
                      rintro L a w' ⟨rfl, b0, b1, b2, b3, b4, b5, b6, b7, b8, b9, b10, b11, rfl, rfl⟩ hr
                      obtain rfl : b0 = true := by
                        cases b0
                        · exfalso
                          have h : 0 ∈ ([] : List Nat) := hr ▸ mem_ready.2 ⟨rfl, _, rfl, by simp [Region.binds]⟩
                          cases h
                        · rfl
                      obtain rfl : b1 = true := by
                        cases b1
                        · exfalso
                          have h : 1 ∈ ([] : List Nat) := hr ▸ mem_ready.2 ⟨rfl, _, rfl, by simp [Region.binds]⟩
                          cases h
                        · rfl
                      obtain rfl : b2 = true := by
                        cases b2
                        · exfalso
                          have h : 2 ∈ ([] : List Nat) := hr ▸ mem_ready.2 ⟨rfl, _, rfl, by simp [Region.binds]⟩
                          cases h
                        · rfl
                      obtain rfl : b3 = true := by
                        cases b3
                        · exfalso
                          have h : 3 ∈ ([] : List Nat) := hr ▸ mem_ready.2 ⟨rfl, _, rfl, by simp [Region.binds]⟩
                          cases h
                        · rfl
                      obtain rfl : b4 = true := by
                        cases b4
                        · exfalso
                          have h : 4 ∈ ([] : List Nat) := hr ▸ mem_ready.2 ⟨rfl, _, rfl, by simp [Region.binds]⟩
                          cases h
                        · rfl
                      obtain rfl : b5 = true := by
                        cases b5
                        · exfalso
                          have h : 5 ∈ ([] : List Nat) := hr ▸ mem_ready.2 ⟨rfl, _, rfl, by simp [Region.binds]⟩
                          cases h
                        · rfl
                      obtain rfl : b6 = true := by
                        cases b6
                        · exfalso
                          have h : 6 ∈ ([] : List Nat) := hr ▸ mem_ready.2 ⟨rfl, _, rfl, by simp [Region.binds]⟩
                          cases h
                        · rfl
                      obtain rfl : b7 = true := by
                        cases b7
                        · exfalso
                          have h : 7 ∈ ([] : List Nat) := hr ▸ mem_ready.2 ⟨rfl, _, rfl, by simp [Region.binds]⟩
                          cases h
                        · rfl
                      obtain rfl : b8 = true := by
                        cases b8
                        · exfalso
                          have h : 8 ∈ ([] : List Nat) := hr ▸ mem_ready.2 ⟨rfl, _, rfl, by simp [Region.binds]⟩
                          cases h
                        · rfl
                      obtain rfl : b9 = true := by
                        cases b9
                        · exfalso
                          have h : 9 ∈ ([] : List Nat) := hr ▸ mem_ready.2 ⟨rfl, _, rfl, by simp [Region.binds]⟩
                          cases h
                        · rfl
                      obtain rfl : b10 = true := by
                        cases b10
                        · exfalso
                          have h : 10 ∈ ([] : List Nat) := hr ▸ mem_ready.2 ⟨rfl, _, rfl, by simp [Region.binds]⟩
                          cases h
                        · rfl
                      obtain rfl : b11 = true := by
                        cases b11
                        · exfalso
                          have h : 11 ∈ ([] : List Nat) := hr ▸ mem_ready.2 ⟨rfl, _, rfl, by simp [Region.binds]⟩
                          cases h
                        · rfl
                      clear hr
                      simp only [cond_true]
                      gi_wp2
                      exact ⟨(((KeepsOthers.drew _).trans (KeepsOthers.setCell _ _ _))).from _, .inl ⟨rfl, fun h => hkq (by have := h.length_le; simp at this; omega)⟩⟩
                case done2 =>
                  rintro ys V rfl ⟨⟨y11, y93, vf, hqq⟩, kpV, kfV⟩
                  have m93 := y93.cell
                  have m6 := vf.x6.cell
                  have hpn' : pre.length = 0 ∨ (pre.length < n ∧ pre.length ≤ 40) := by
                    rcases hpn with h | h
                    · exact .inl (by rw [h]; rfl)
                    · exact .inr h
                  by_cases hn1 : n ≤ pre.length + 1
                  · have hnI : (n : Int) ≤ (pre.length : Int) + 1 := by omega
                    gi_wp2
                    exact ⟨kfV, .inr ⟨rfl, by rw [List.length_append]; exact y93, vf, by simp, by simp; omega, by simp; omega⟩⟩
                  · have hnI : ¬ (n : Int) ≤ (pre.length : Int) + 1 := by omega
                    by_cases h40 : 40 < pre.length + 1
                    · have h40I : (40 : Int) < (pre.length : Int) + 1 := by omega
                      gi_wp2
                      exact ⟨kfV, .inr ⟨rfl, by rw [List.length_append]; exact y93, vf, by simp, by simp; omega, by simp; omega⟩⟩
                    · have h40I : ¬ (40 : Int) < (pre.length : Int) + 1 := by omega
                      gi_wp2
                      exact ⟨kfV, kpV, by rw [List.length_append]; exact y93, vf, hpre, .inr (by simp; omega)⟩
                case stop2 =>
                  rintro c q V hsp hix
                  rcases hix with ⟨rfl, hno⟩ | ⟨rfl, y93, vf, kpV, kfV⟩
                  · exact absurd hsp hno
                  · have m93 := y93.cell
                    have m6 := vf.x6.cell
                    have hpn' : pre.length = 0 ∨ (pre.length < n ∧ pre.length ≤ 40) := by
                      rcases hpn with h | h
                      · exact .inl (by rw [h]; rfl)
                      · exact .inr h
                    by_cases hn1 : n ≤ pre.length + 1
                    · have hnI : (n : Int) ≤ (pre.length : Int) + 1 := by omega
                      gi_wp2
                      exact ⟨kfV, .inr ⟨rfl, by rw [List.length_append]; exact y93, vf, by simp, by simp; omega, by simp; omega⟩⟩
                    · have hnI : ¬ (n : Int) ≤ (pre.length : Int) + 1 := by omega
                      by_cases h40 : 40 < pre.length + 1
                      · have h40I : (40 : Int) < (pre.length : Int) + 1 := by omega
                        gi_wp2
                        exact ⟨kfV, .inr ⟨rfl, by rw [List.length_append]; exact y93, vf, by simp, by simp; omega, by simp; omega⟩⟩
                      · have h40I : ¬ (40 : Int) < (pre.length : Int) + 1 := by omega
                        gi_wp2
                        exact ⟨kfV, kpV, by rw [List.length_append]; exact y93, vf, hpre, .inr (by simp; omega)⟩
          · have hkn : (lexL l).length ≤ pre.length := by omega
            gi_wp2
            refine wpIn_region_any (by kernel_rfl) ?_
            refine any_inv (fun L a w' => w' = World.drew W ∧ ∃ b0 b1 b2 b3 b4 b5 b6 b7 b8 b9 b10 b11 : Bool, L = #[b0, b1, b2, b3, b4, b5, b6, b7, b8, b9, b10, b11] ∧ a = { tmps := (List.toArray ((.string ⟨l.toArray⟩) :: (.int .i64 most) :: undef :: undef :: (.pointer (some ⟨w.heap.size, 0, none⟩)) :: (.pointer (some ⟨w1.heap.size, 0, none⟩)) :: (.pointer (some ⟨w1.heap.size + 1, 0, none⟩)) :: (.pointer (some ⟨Wb.heap.size + 1, 0, none⟩)) :: (.int .i64 (rd : Int)) :: (.pointer (some ⟨Wr.heap.size, 0, none⟩)) :: (.pointer (some ⟨Bx, 0, none⟩)) :: undef :: undef :: (.string ⟨l.toArray⟩) :: (.slice (some ⟨tb, tof, none⟩) (lexL l).length tcap) :: (.slice (some ⟨tb, tof, none⟩) (lexL l).length tcap) :: (.int .i64 ((lexL l).length : Int)) :: u17 :: u18 :: u19 :: u20 :: u21 :: u22 :: u23 :: u24 :: u25 :: u26 :: (.string ⟨l.toArray⟩) :: ((.func (.func 18) #[] #[.pointer (some ⟨Wb.heap.size, 0, none⟩)])) :: ((.func (.func 18) #[] #[.pointer (some ⟨Wb.heap.size, 0, none⟩)])) :: (.bool false) :: (.int .i64 (rd : Int)) :: (.bool true) :: v33 :: v34 :: ((.func (.func 18) #[] #[.pointer (some ⟨Wb.heap.size, 0, none⟩)])) :: (.agg #[.int .i64 x.kind, .int .i64 x.place, .int .i64 x.num, .string x.str, .int .i64 x.r, .int .i64 x.c, .int .i64 x.t, .int .i64 x.l, .int .i64 x.b, .int .i64 x.q, .int .i64 x.code]) :: (bif b0 then (.int .i64 (pre.length : Int)) else undef) :: (bif b1 then (.slice (some ⟨tb, tof, none⟩) (lexL l).length tcap) else undef) :: (bif b2 then (.int .i64 ((lexL l).length : Int)) else undef) :: (bif b3 then (.bool true) else undef) :: (bif b4 then (.bool true) else undef) :: (bif b5 then undef else undef) :: (bif b6 then undef else undef) :: (bif b7 then undef else undef) :: (bif b8 then undef else undef) :: (bif b9 then undef else undef) :: (bif b10 then undef else undef) :: (bif b11 then (.bool true) else undef) :: undef :: undef :: undef :: undef :: undef :: undef :: undef :: undef :: undef :: undef :: undef :: undef :: undef :: undef :: undef :: undef :: undef :: undef :: undef :: undef :: undef :: undef :: undef :: undef :: undef :: undef :: undef :: undef :: v77 :: v78 :: v79 :: v80 :: v81 :: v82 :: v83 :: v84 :: v85 :: v86 :: v87 :: undef :: [])), defers := [] }) ?hs ?he _ _ _ _ ⟨rfl, false, false, false, false, false, false, false, false, false, false, false, false, rfl, rfl⟩ (by decide)
            case hs =>
              rintro L a w' i ⟨rfl, b0, b1, b2, b3, b4, b5, b6, b7, b8, b9, b10, b11, rfl, rfl⟩ hi
              have hi12 : i < 12 := by
                obtain ⟨_, o, h2, _⟩ := mem_ready.1 hi
                exact (Array.getElem?_eq_some_iff.1 h2).1
              obtain ⟨h1, o, h2, h3⟩ := mem_ready.1 hi
              rcases (show i = 0 ∨ i = 1 ∨ i = 2 ∨ i = 3 ∨ i = 4 ∨ i = 5 ∨ i = 6 ∨ i = 7 ∨ i = 8 ∨ i = 9 ∨ i = 10 ∨ i = 11 by omega) with rfl | rfl | rfl | rfl | rfl | rfl | rfl | rfl | rfl | rfl | rfl | rfl
              · obtain rfl : b0 = false := h1
                simp at h2
                subst h2
                simp [Region.binds] at h3
                refine op_yields (v := (.int .i64 (pre.length : Int))) rfl (.inl ⟨rfl, fun _ _ => trivial, ?_⟩) ⟨rfl, true, _, _, _, _, _, _, _, _, _, _, _, rfl, rfl⟩
                show (Oper.semAt (some l₀) _ _).run _ _ = _
                rw [Oper.semAt_some _ _ _ (by intro c h; cases h)]
                simp [execOp, go_sem, k9]
              · obtain rfl : b1 = false := h1
                simp at h2
                subst h2
                simp [Region.binds] at h3
                refine op_yields (v := (.slice (some ⟨tb, tof, none⟩) (lexL l).length tcap)) rfl (.inl ⟨rfl, fun _ _ => trivial, ?_⟩) ⟨rfl, _, true, _, _, _, _, _, _, _, _, _, _, rfl, rfl⟩
                show (Oper.semAt (some l₀) _ _).run _ _ = _
                rw [Oper.semAt_some _ _ _ (by intro c h; cases h)]
                simp [execOp, go_sem, k5]
              · obtain rfl : b2 = false := h1
                simp at h2
                subst h2
                simp [Region.binds] at h3
                subst h3
                refine op_yields (v := (.int .i64 ((lexL l).length : Int))) rfl (.inl ⟨rfl, fun _ _ => trivial, ?_⟩) ⟨rfl, _, _, true, _, _, _, _, _, _, _, _, _, rfl, rfl⟩
                show (Oper.semAt (some l₀) _ _).run _ _ = _
                rw [Oper.semAt_some _ _ _ (by intro c h; cases h)]
                simp [execOp, go_sem]
              · obtain rfl : b3 = false := h1
                simp at h2
                subst h2
                simp [Region.binds] at h3
                obtain ⟨rfl, rfl⟩ := h3
                refine op_yields (v := (.bool true)) rfl (.inl ⟨rfl, fun _ _ => trivial, ?_⟩) ⟨rfl, _, _, _, true, _, _, _, _, _, _, _, _, rfl, rfl⟩
                show (Oper.semAt (some l₀) _ _).run _ _ = _
                rw [Oper.semAt_some _ _ _ (by intro c h; cases h)]
                simp [execOp, go_sem, hkn]
              · obtain rfl : b4 = false := h1
                simp at h2
                subst h2
                simp [Region.binds] at h3
                subst h3
                refine op_yields (v := (.bool true)) rfl (.inl ⟨rfl, fun _ _ => trivial, ?_⟩) ⟨rfl, _, _, _, _, true, _, _, _, _, _, _, _, rfl, rfl⟩
                show (Oper.semAt (some l₀) _ _).run _ _ = _
                rw [Oper.semAt_some _ _ _ (by intro c h; cases h)]
                simp [execOp, go_sem]
              · obtain rfl : b5 = false := h1
                simp at h2
                subst h2
                simp [Region.binds] at h3
                subst h3
                exact op_yields (v := undef) rfl (.inr ⟨rfl, fun _ _ => trivial, rfl⟩) ⟨rfl, _, _, _, _, _, true, _, _, _, _, _, _, rfl, rfl⟩
              · obtain rfl : b6 = false := h1
                simp at h2
                subst h2
                simp [Region.binds] at h3
                subst h3
                exact op_yields (v := undef) rfl (.inr ⟨rfl, fun _ _ => trivial, rfl⟩) ⟨rfl, _, _, _, _, _, _, true, _, _, _, _, _, rfl, rfl⟩
              · obtain rfl : b7 = false := h1
                simp at h2
                subst h2
                simp [Region.binds] at h3
                subst h3
                exact op_yields (v := undef) rfl (.inr ⟨rfl, fun _ _ => trivial, rfl⟩) ⟨rfl, _, _, _, _, _, _, _, true, _, _, _, _, rfl, rfl⟩
              · obtain rfl : b8 = false := h1
                simp at h2
                subst h2
                simp [Region.binds] at h3
                obtain ⟨rfl, rfl, rfl⟩ := h3
                exact op_yields (v := undef) rfl (.inr ⟨rfl, fun _ _ => trivial, rfl⟩) ⟨rfl, _, _, _, _, _, _, _, _, true, _, _, _, rfl, rfl⟩
              · obtain rfl : b9 = false := h1
                simp at h2
                subst h2
                simp [Region.binds] at h3
                obtain ⟨rfl, rfl⟩ := h3
                exact op_yields (v := undef) rfl (.inr ⟨rfl, fun _ _ => trivial, rfl⟩) ⟨rfl, _, _, _, _, _, _, _, _, _, true, _, _, rfl, rfl⟩
              · obtain rfl : b10 = false := h1
                simp at h2
                subst h2
                simp [Region.binds] at h3
                obtain ⟨rfl, rfl, rfl⟩ := h3
                exact op_yields (v := undef) rfl (.inr ⟨rfl, fun _ _ => trivial, rfl⟩) ⟨rfl, _, _, _, _, _, _, _, _, _, _, true, _, rfl, rfl⟩
              · obtain rfl : b11 = false := h1
                simp at h2
                subst h2
                simp [Region.binds] at h3
                obtain ⟨rfl, rfl⟩ := h3
                refine op_yields (v := (.bool true)) rfl (.inl ⟨rfl, fun _ _ => trivial, ?_⟩) ⟨rfl, _, _, _, _, _, _, _, _, _, _, _, true, rfl, rfl⟩
                show (Oper.semAt (some l₀) _ _).run _ _ = _
                rw [Oper.semAt_some _ _ _ (by intro c h; cases h)]
                simp [execOp, go_sem]
            case he =>
              rintro L a w' ⟨rfl, b0, b1, b2, b3, b4, b5, b6, b7, b8, b9, b10, b11, rfl, rfl⟩ hr
              obtain rfl : b0 = true := by
                cases b0
                · exfalso
                  have h : 0 ∈ ([] : List Nat) := hr ▸ mem_ready.2 ⟨rfl, _, rfl, by simp [Region.binds]⟩
                  cases h
                · rfl
              obtain rfl : b1 = true := by
                cases b1
                · exfalso
                  have h : 1 ∈ ([] : List Nat) := hr ▸ mem_ready.2 ⟨rfl, _, rfl, by simp [Region.binds]⟩
                  cases h
                · rfl
              obtain rfl : b2 = true := by
                cases b2
                · exfalso
                  have h : 2 ∈ ([] : List Nat) := hr ▸ mem_ready.2 ⟨rfl, _, rfl, by simp [Region.binds]⟩
                  cases h
                · rfl
              obtain rfl : b3 = true := by
                cases b3
                · exfalso
                  have h : 3 ∈ ([] : List Nat) := hr ▸ mem_ready.2 ⟨rfl, _, rfl, by simp [Region.binds]⟩
                  cases h
                · rfl
              obtain rfl : b4 = true := by
                cases b4
                · exfalso
                  have h : 4 ∈ ([] : List Nat) := hr ▸ mem_ready.2 ⟨rfl, _, rfl, by simp [Region.binds]⟩
                  cases h
                · rfl
              obtain rfl : b5 = true := by
                cases b5
                · exfalso
                  have h : 5 ∈ ([] : List Nat) := hr ▸ mem_ready.2 ⟨rfl, _, rfl, by simp [Region.binds]⟩
                  cases h
                · rfl
              obtain rfl : b6 = true := by
                cases b6
                · exfalso
                  have h : 6 ∈ ([] : List Nat) := hr ▸ mem_ready.2 ⟨rfl, _, rfl, by simp [Region.binds]⟩
                  cases h
                · rfl
              obtain rfl : b7 = true := by
                cases b7
                · exfalso
                  have h : 7 ∈ ([] : List Nat) := hr ▸ mem_ready.2 ⟨rfl, _, rfl, by simp [Region.binds]⟩
                  cases h
                · rfl
              obtain rfl : b8 = true := by
                cases b8
                · exfalso
                  have h : 8 ∈ ([] : List Nat) := hr ▸ mem_ready.2 ⟨rfl, _, rfl, by simp [Region.binds]⟩
                  cases h
                · rfl
              obtain rfl : b9 = true := by
                cases b9
                · exfalso
                  have h : 9 ∈ ([] : List Nat) := hr ▸ mem_ready.2 ⟨rfl, _, rfl, by simp [Region.binds]⟩
                  cases h
                · rfl
              obtain rfl : b10 = true := by
                cases b10
                · exfalso
                  have h : 10 ∈ ([] : List Nat) := hr ▸ mem_ready.2 ⟨rfl, _, rfl, by simp [Region.binds]⟩
                  cases h
                · rfl
              obtain rfl : b11 = true := by
                cases b11
                · exfalso
                  have h : 11 ∈ ([] : List Nat) := hr ▸ mem_ready.2 ⟨rfl, _, rfl, by simp [Region.binds]⟩
                  cases h
                · rfl
              clear hr
              simp only [cond_true]
              gi_wp2
              exact ⟨(((KeepsOthers.drew _).trans (KeepsOthers.setCell _ _ _))).from _, .inl ⟨rfl, fun h => hk (by have := h.length_le; simp at this; omega)⟩⟩

        case done =>
          rintro D ys W hD rfl ⟨y9, yf, hpp, hpn⟩ hK
          exfalso
          rcases hpn with h | ⟨h, _⟩
          · rw [h] at hN; simp at hN
          · omega
        case stop =>
          rintro D c pre W hD hsp hix hK
          rcases hix with ⟨rfl, hno⟩ | ⟨rfl, y9, yf, h1, hex, hln⟩
          · exact absurd hsp hno
          · have k9 := y9.cell
            have k6 := yf.x6.cell
            have hl9 := y9.lt
            have hDn : D ∉ Ds := fun h => by have := hdlt D h; omega
            have hzr' : W0.heap.size ≤ W.heap.size := by omega
            have yf2 : Lf w.heap.size w1.heap.size Wb.heap.size tb tof tcap n l (D :: Ds) w W := ⟨yf.x4, yf.x5, yf.x6, yf.x7, yf.x8, yf.xt, fun E hE => by
              rcases List.mem_cons.1 hE with rfl | h
              · exact ⟨by omega, hK⟩
              · exact yf.xd E h, yf.xb⟩
            have hrdI : (rd : Int) ≤ 1 := by omega
            by_cases hn0 : n = 0
            · have hnI : ¬ (0 : Int) < (n : Int) := by omega
              have hnH := Lib.hid hn0
              clear hn0
              gi_wp2
              exact ⟨⟨rd + 1, D :: Ds, ⟨by simp, by simp⟩, by omega, List.nodup_cons.2 ⟨hDn, hnd⟩, yf2⟩, by simp [mu8]; omega⟩
            · have hnI : (0 : Int) < (n : Int) := by omega
              by_cases h40 : n ≤ 40
              · have h40I : (n : Int) ≤ 40 := by omega
                have hkn : ((pre.length : Int) != (n : Int)) = false := by simp; omega
                have hkn' : (pre.length : Int) = (n : Int) := by omega
                have hknH := Lib.hid hkn'
                clear hkn'
                gi_wp2
                exact ⟨⟨rd + 1, D :: Ds, _, _, _, _, _, _, _, _, _, _, _, _, _, _, _, _, _, rfl, by omega, List.nodup_cons.2 ⟨hDn, hnd⟩, hzr', yf2⟩, by simp [mu8]; omega⟩
              · have h40I : ¬ (n : Int) ≤ 40 := by omega
                gi_wp2
                exact ⟨⟨rd + 1, D :: Ds, ⟨by simp, by simp⟩, by omega, List.nodup_cons.2 ⟨hDn, hnd⟩, yf2⟩, by simp [mu8]; omega⟩
    have hzH := Lib.hid hzW
    have m6 := b6.cell
    have n6 := b6.frozen
    have l6 := b6.lt
    by_cases hm : most ≤ 0
    · have C := hrest2
      clear hrest2 hK2 hzW
      gi_wp2
      exact C _ _ _ _ _ _ _ _ _ _ 0 _ (Nat.zero_le _) (by rw [World.size_setCell]; exact hzH.out) (hBW.setCell (p := ⟨w1.heap.size + 1, 0, none⟩) (by dsimp only; omega) _) (b4.other (by omega) _) (b5.other (by omega) _) (b6.set _) (ht.set (by omega))
    · have C := hrest2
      clear hrest2 hK2 hzW
      gi_wp2
      exact C _ _ _ _ _ _ _ _ _ _ n1 W hn hzH.out hBW b4 b5 b6 ht
  have hfix : ∀ v : Int, ∃ W, ((w1.alloc (.cells #[.slice (some ⟨tb, tof, none⟩) (lexL l).length tcap] 22)).alloc (.cells #[.int .i64 v] 3)) = W ∧ W.heap.size = w1.heap.size + 2 ∧ Below w.heap.size w W ∧ Boxed W w.heap.size 4 (.bool false) ∧ Boxed W w1.heap.size 22 (.slice (some ⟨tb, tof, none⟩) (lexL l).length tcap) ∧ Boxed W (w1.heap.size + 1) 3 (.int .i64 v) ∧ TokAt W tb tof (lexL l) := by
    intro v
    have hbx : Below w1.heap.size w1 ((w1.alloc (.cells #[.slice (some ⟨tb, tof, none⟩) (lexL l).length tcap] 22)).alloc (.cells #[.int .i64 v] 3)) := ((Below.refl _ _).alloc (Nat.le_refl _) _).alloc (by simp) _
    have hx6 := Boxed.new (w1.alloc (.cells #[.slice (some ⟨tb, tof, none⟩) (lexL l).length tcap] 22)) 3 (.int .i64 v)
    rw [World.size_alloc] at hx6
    exact ⟨_, rfl, by simp, hB1.trans (hbx.mono (by omega)), (hbx.block _ (by omega)).trans b4, (Boxed.new w1 22 _).alloc _, hx6, fun k x hx j u hu => (hbx.cell (p := ⟨tb, tof + k * 11 + j, none⟩) htb).trans (htc k x hx j u hu)⟩
  have hlf : ((lexL l).length : Int) ≤ 1048577 := by have := lexL_len l; omega
  clear hK1 hrt htc
  by_cases h1 : 0 < most
  · by_cases h2 : most < ((lexL l).length : Int)
    · gi_wp2
      obtain ⟨n1, hn1⟩ := Int.eq_ofNat_of_zero_le (Int.le_of_lt h1)
      obtain ⟨W, e, f1, f2, f3, f4, f5, f6⟩ := hfix most
      rw [e]
      exact hrest _ _ _ _ _ _ _ _ n1 W (by omega) f1 f2 f3 f4 (by rw [← hn1]; exact f5) f6
    · gi_wp2
      obtain ⟨W, e, f1, f2, f3, f4, f5, f6⟩ := hfix ((lexL l).length : Int)
      rw [e]
      exact hrest _ _ _ _ _ _ _ _ _ W (Nat.le_refl _) f1 f2 f3 f4 f5 f6
  · gi_wp2
    obtain ⟨W, e, f1, f2, f3, f4, f5, f6⟩ := hfix ((lexL l).length : Int)
    rw [e]
    exact hrest _ _ _ _ _ _ _ _ _ W (Nat.le_refl _) f1 f2 f3 f4 f5 f6
end Go.Proofs.YtiekhbagpmnboaaGreatDoor
