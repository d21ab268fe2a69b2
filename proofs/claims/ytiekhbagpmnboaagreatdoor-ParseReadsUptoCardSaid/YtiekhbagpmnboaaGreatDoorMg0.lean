/-
  Small lemmas that every proof of this seat uses: an argument of any type without pointers, opened to its cells; the row's last step; Contracts of Go's library at this seat's translation, laid by the kit's own command in its plain mode; The plain law of numbers' texts, written: the four digits of a rest. No program in sight; The plain law of numbers' texts, read. No program in sight; strings.Cut at a separator of one byte, any text; Package dec and the document's own: May, size, signed; The plain law of numbers' texts: what is printed is read again as that number. No program in sight; The document's digits; The document's Parse of a number, by cases: what the two share; The plain law of numbers' texts, as the document's Parse goes along them: place by place. No program in sight.
-/
import Derived.Test.YtiekhbagpmnboaaGreatDoorProg
import Derived.Test.YtiekhbagpmnboaaGreatDoorRows
import Derived.Shelf.Strings.Builder1
import Derived.Shelf.Strings.Trim
import Derived.Shelf.Small.Utf8
import Derived.Shelf.Small.Strs
import Derived.Shelf.Small.Wraps
import Derived.Shelf.Strings.BuilderF
import Derived.Shelf.Strings.BuilderK
import Derived.Shelf.Strconv.Itoa0
import Derived.Shelf.Strconv.Itoa1
import Derived.Shelf.LaysM
import Derived.Shelf.Strconv.Itoa2
import Derived.Shelf.Strconv.Itoa3
import Derived.Ground.MpProg
import Derived.Shelf.Pu.ParseUintPublic10
import Derived.Shelf.Strings.Search1
import Derived.Shelf.Strings.Search2
import Derived.Shelf.Strings.Cut
import Derived.Shelf.Strings.Shaped
import Derived.Shelf.Strings.Prefix
import Derived.Shelf.Strings.Runes
import Derived.Shelf.Strings.AsciiSet
import Derived.Shelf.Unicode.DecodeSlow
import Derived.WalkKit
import Derived.ProofKit
import Derived.OpenShut
import Derived.Carry
import Derived.ChangeSame
import Derived.Lib.Hide
import Derived.Deep.Draws
import Derived.WalkSpells
import Derived.WalkLawsBesides
import Derived.StillTactics
import Derived.Laws.Pointers
import Derived.Deep.RegionHeld3
import Derived.Deep.QuietTactic
import Derived.BigQuiet
import Derived.RowKit3
import Derived.Lib.OthersKept
import Derived.OwnWalk
import Derived.Lib.IndexLaws
import Derived.Lib.ItoaMem
import Derived.Lib.TrimByte
import Derived.Lib.SlTrimSet
import Derived.Lib.ParseIntB
namespace Go.Proofs.YtiekhbagpmnboaaGreatDoor
open Go.ChangeShapes Go.WideShapes Go.ChangeAt Go.RowKit

theorem bkeep {W w1 : World} (hb : Below W.heap.size W w1) (n : Nat) (hn : n ≤ W.heap.size) :
    (∀ b o, b < n → w1.cell? ⟨b, o, none⟩ = W.cell? ⟨b, o, none⟩) ∧ (∀ b o, b < n → w1.frozen? ⟨b, o, none⟩ = W.frozen? ⟨b, o, none⟩) ∧ n ≤ w1.heap.size :=
  ⟨fun b o h => hb.cell (p := ⟨b, o, Option.none⟩) (Nat.lt_of_lt_of_le h hn), fun b o h => hb.frozen (p := ⟨b, o, Option.none⟩) (Nat.lt_of_lt_of_le h hn), Nat.le_trans hn hb.size⟩
theorem below_drewN {B : Nat} {a w : World} (h : Below B a w) (n : Nat) : Below B a (w.drewN n) := ⟨h.os, h.tape, h.output, h.size, h.block⟩

theorem own : ownKnob Tryz.prog.godebug = none := by kernel_rfl
theorem laidOut : laidOutB Tryz.prog = true := by kernel_rfl

/-! ### Blocks that the walk counts: no two are one -/
@[simp, go_sem] theorem far2 (n : Nat) : (n + 1 + 1 = n) = False := eq_false (by omega)
@[simp, go_sem] theorem far2' (n : Nat) : (n = n + 1 + 1) = False := eq_false (by omega)
@[simp, go_sem] theorem far3 (n : Nat) : (n + 1 + 1 + 1 = n) = False := eq_false (by omega)
@[simp, go_sem] theorem far3' (n : Nat) : (n = n + 1 + 1 + 1) = False := eq_false (by omega)
@[simp, go_sem] theorem far4 (n : Nat) : (n + 1 + 1 + 1 + 1 = n) = False := eq_false (by omega)
@[simp, go_sem] theorem far4' (n : Nat) : (n = n + 1 + 1 + 1 + 1) = False := eq_false (by omega)
@[simp, go_sem] theorem far5 (n : Nat) : (n + 1 + 1 + 1 + 1 + 1 = n) = False := eq_false (by omega)
@[simp, go_sem] theorem far5' (n : Nat) : (n = n + 1 + 1 + 1 + 1 + 1) = False := eq_false (by omega)
@[simp, go_sem] theorem far6 (n : Nat) : (n + 1 + 1 + 1 + 1 + 1 + 1 = n) = False := eq_false (by omega)
@[simp, go_sem] theorem far6' (n : Nat) : (n = n + 1 + 1 + 1 + 1 + 1 + 1) = False := eq_false (by omega)

/-! ### An argument opened to its cells -/
section
variable {H : Type} {enc : TypeId × Value → H} {P : Program} {w : World} {base : Nat} {spare : Nat → Bool} {held : Bool}

/-- the fields lie one behind the other from o on, as many cells as told; how many in all -/
def inRow : Nat → List Nat → List Nat → Option Nat
  | o, [], [] => some o
  | o, p :: ps, n :: ns => if p = o then inRow (o + n) ps ns else Option.none
  | _, _, _ => Option.none

/-- the types of a type's cells, in order -/
def leaves (P : Program) : Nat → TypeId → Option (List TypeId)
  | 0, _ => Option.none
  | n + 1, t =>
    match P.underlying t with
    | some (.struct fs) => (fs.toList.mapM fun f => leaves P n f.type).bind fun ls =>
        if inRow 0 (fs.toList.map (·.offset)) (ls.map List.length) = some (P.cellsOf t) && (fs.toList.map fun f => P.cellsOf f.type) == ls.map List.length then some ls.flatten else Option.none
    | some (.array k e) => (leaves P n e).bind fun l => if P.cellsOf e = l.length && P.cellsOf t = k * l.length then some (List.replicate k l).flatten else Option.none
    | some _ => if P.cellsOf t = 1 then some [t] else Option.none
    | Option.none => Option.none

/-- one cell that reads at a type -/
def Reads1 {H : Type} (enc : TypeId × Value → H) (P : Program) (w : World) (base : Nat) (spare : Nat → Bool) (held : Bool) (t : TypeId) (v : Value) : Prop :=
  ∃ (n : Nat) (y : DataW H × List MemPlace), DataW.trod enc P w base spare held n t [v] = some y
def ReadsAll {H : Type} (enc : TypeId × Value → H) (P : Program) (w : World) (base : Nat) (spare : Nat → Bool) (held : Bool) : List TypeId → List Value → Prop
  | [], vs => vs = []
  | t :: ts, vs => ∃ v r, vs = v :: r ∧ Reads1 enc P w base spare held t v ∧ ReadsAll enc P w base spare held ts r

theorem ReadsAll.length : ∀ {ts : List TypeId} {vs : List Value}, ReadsAll enc P w base spare held ts vs → vs.length = ts.length
  | [], vs, h => by rw [show vs = [] from h]; rfl
  | t :: ts, vs, h => by
    obtain ⟨v, r, rfl, _, hr⟩ := h
    simp [ReadsAll.length hr]
theorem ReadsAll.append : ∀ {ts us : List TypeId} {vs xs : List Value}, ReadsAll enc P w base spare held ts vs → ReadsAll enc P w base spare held us xs → ReadsAll enc P w base spare held (ts ++ us) (vs ++ xs)
  | [], us, vs, xs, h, k => by rw [show vs = [] from h]; exact k
  | t :: ts, us, vs, xs, h, k => by
    obtain ⟨v, r, rfl, h1, hr⟩ := h
    exact ⟨v, r ++ xs, rfl, h1, ReadsAll.append hr k⟩

theorem readsAll_fields {n : Nat} (ih : ∀ t l (fuel : Nat) cs x, leaves P n t = some l → DataW.trod enc P w base spare held fuel t cs = some x → ReadsAll enc P w base spare held l cs) {cs : List Value} {m : Nat} {x : Field → DataW H × List MemPlace} :
    ∀ (fs : List Field) (ls : List (List TypeId)) (o tot : Nat), fs.mapM (fun f => leaves P n f.type) = some ls → inRow o (fs.map (·.offset)) (ls.map List.length) = some tot →
      (fs.map fun f => P.cellsOf f.type) = ls.map List.length → cs.length = tot → (∀ f ∈ fs, ∃ y, DataW.trod enc P w base spare held m f.type ((cs.drop f.offset).take (P.cellsOf f.type)) = some y) →
      ReadsAll enc P w base spare held ls.flatten (cs.drop o)
  | [], ls, o, tot, hl, hr, _, hlen, _ => by
    simp at hl; subst hl
    simp [inRow] at hr
    subst hr
    exact List.drop_eq_nil_of_le (by omega)
  | f :: fs, ls, o, tot, hl, hr, hc, hlen, hf => by
    simp only [List.mapM_cons, Option.bind_eq_bind, Option.bind_eq_some_iff, Option.pure_def, Option.some.injEq] at hl
    obtain ⟨l, h1, ls', h2, rfl⟩ := hl
    simp only [List.map_cons, inRow] at hr
    split at hr
    · rename_i ho
      simp only [List.map_cons, List.cons.injEq] at hc
      obtain ⟨y, hy⟩ := hf f (by simp)
      have e1 := ih f.type l m _ y h1 hy
      rw [ho, hc.1] at e1
      have e2 := readsAll_fields ih (x := x) fs ls' (o + l.length) tot h2 hr hc.2 hlen (fun g hg => hf g (by simp [hg]))
      have e3 : cs.drop o = (cs.drop o).take l.length ++ cs.drop (o + l.length) := by rw [← List.drop_drop, List.take_append_drop]
      rw [e3, List.flatten_cons]
      exact ReadsAll.append e1 e2
    · cases hr

theorem readsAll_elems {l : List TypeId} {cs : List Value} : ∀ (k o : Nat), cs.length = (o + k) * l.length → (∀ i, i < o + k → ReadsAll enc P w base spare held l ((cs.drop (i * l.length)).take l.length)) →
    ReadsAll enc P w base spare held (List.replicate k l).flatten (cs.drop (o * l.length))
  | 0, o, hlen, _ => by
    simp only [List.replicate_zero, List.flatten_nil]
    exact List.drop_eq_nil_of_le (by simp at hlen; omega)
  | k + 1, o, hlen, h => by
    have e1 := h o (by omega)
    have e2 := readsAll_elems k (o + 1) (by rw [hlen]; congr 1; omega) (fun i hi => h i (by omega))
    have e3 : cs.drop (o * l.length) = (cs.drop (o * l.length)).take l.length ++ cs.drop ((o + 1) * l.length) := by
      rw [Nat.add_mul, Nat.one_mul, ← List.drop_drop, List.take_append_drop]
    rw [e3, List.replicate_succ, List.flatten_cons]
    exact ReadsAll.append e1 e2

theorem one_of_trod {t : TypeId} {u : TypeDesc} {fuel : Nat} {cs : List Value} {x : DataW H × List MemPlace} (hu : P.underlying t = some u) (hs : ∀ fs, u ≠ .struct fs) (ha : ∀ k e, u ≠ .array k e)
    (h : DataW.trod enc P w base spare held fuel t cs = some x) : ∃ v, cs = [v] := by
  cases fuel with
  | zero => simp [DataW.trod] at h
  | succ m =>
    unfold DataW.trod at h
    rw [hu] at h
    split at h <;> first | exact ⟨_, rfl⟩ | (rename_i h1; simp at h1; exact absurd h1 (hs _)) | (rename_i h1; simp at h1; exact absurd h1 (ha _ _)) | (cases h)

theorem readsAll_of_trod : ∀ (n : Nat) (t : TypeId) (l : List TypeId) (fuel : Nat) (cs : List Value) (x : DataW H × List MemPlace), leaves P n t = some l → DataW.trod enc P w base spare held fuel t cs = some x → ReadsAll enc P w base spare held l cs
  | 0, t, l, fuel, cs, x, hl, h => by simp [leaves] at hl
  | n + 1, t, l, fuel, cs, x, hl, h => by
    have ih := readsAll_of_trod n
    rw [leaves] at hl
    split at hl
    · rename_i fs hu
      simp only [Option.bind_eq_some_iff] at hl
      obtain ⟨ls, h1, h2⟩ := hl
      split at h2
      · rename_i hc
        simp only [Bool.and_eq_true, decide_eq_true_eq, beq_iff_eq] at hc
        obtain ⟨hc1, hc2⟩ := hc
        obtain rfl := Option.some.inj h2
        obtain ⟨xs, m, _, _, hlen, hxl, hf⟩ := DataW.trod_struct hu h
        have := readsAll_fields (P := P) (cs := cs) (m := m) (x := fun _ => x) ih fs.toList ls 0 _ h1 hc1 hc2 hlen (fun f hfm => by
          obtain ⟨i, hi, rfl⟩ := List.getElem_of_mem hfm
          have hi' : i < fs.size := by simpa using hi
          have := hf i fs[i] (by simp)
          rw [show xs[i]? = some (xs[i]'(by omega)) from List.getElem?_eq_getElem (by omega)] at this
          exact ⟨_, by simpa using this⟩)
        simpa using this
      · cases h2
    · rename_i k e hu
      simp only [Option.bind_eq_some_iff] at hl
      obtain ⟨l', h1, h2⟩ := hl
      split at h2
      · rename_i hc
        simp only [Bool.and_eq_true, decide_eq_true_eq] at hc
        obtain ⟨hc1, hc2⟩ := hc
        obtain rfl := Option.some.inj h2
        obtain ⟨xs, m, _, _, hlen, hxl, hf⟩ := DataW.trod_array hu h
        have := readsAll_elems (enc := enc) (P := P) (w := w) (base := base) (spare := spare) (held := held) (l := l') (cs := cs) k 0 (by rw [hlen, hc2]; simp) (fun i hi => by
          have := hf i (by omega)
          rw [show xs[i]? = some (xs[i]'(by omega)) from List.getElem?_eq_getElem (by omega), hc1] at this
          exact ih e l' m _ _ h1 this)
        simpa using this
      · cases h2
    · rename_i u hs ha hu
      split at hl
      · obtain rfl := Option.some.inj hl
        obtain ⟨v, rfl⟩ := one_of_trod hu (fun fs he => hs fs he) (fun k e he => ha k e he) h
        exact ⟨v, [], rfl, ⟨fuel, x, h⟩, rfl⟩
      · cases hl
    · cases hl

theorem Reads1.i64 {t : TypeId} {v : Value} (ht : P.underlying t = some (.int .i64)) (h : Reads1 enc P w base spare held t v) : ∃ n : Int, v = .int .i64 n ∧ -9223372036854775808 ≤ n ∧ n ≤ 9223372036854775807 := by
  obtain ⟨n, y, h⟩ := h
  obtain ⟨a, e, _, wa⟩ := DataW.trod_int ht h
  exact ⟨a, by simpa using e, bounds_i64 wa⟩
theorem Reads1.bool {t : TypeId} {v : Value} (ht : P.underlying t = some .bool) (h : Reads1 enc P w base spare held t v) : ∃ b : Bool, v = .bool b := by
  obtain ⟨n, y, h⟩ := h
  obtain ⟨a, e, _⟩ := DataW.trod_bool ht h
  exact ⟨a, by simpa using e⟩
theorem Reads1.string {t : TypeId} {v : Value} (ht : P.underlying t = some .string) (h : Reads1 enc P w base spare held t v) : ∃ s : ByteArray, v = .string s ∧ s.size ≤ maxLen := by
  obtain ⟨n, y, h⟩ := h
  obtain ⟨a, e, _, wa⟩ := DataW.trod_string ht h
  exact ⟨a, by simpa using e, wa⟩

end

/-! ### The row's last step: the result is true, what came in reads as it did -/
section
variable {H : Type} {enc : TypeId × Value → H} {P : Program}
theorem trodAll_stays (hl : laidOutB P = true) {W W' : World} (hb : Below W.heap.size W W') : ∀ {ts : List TypeId} {vs : List Value} {ds : List (DataW H)} {ps : List MemPlace}, (ts.all fun t => P.readableRec t && decide (t < P.types.size)) = true →
    DataW.TrodAll enc P W 0 (fun _ => true) true ts vs ds ps → (∀ x ∈ ps, x.block < W.heap.size) → DataW.TrodAll enc P W' 0 (fun b => decide (b < W.heap.size)) true ts vs ds ps
  | [], [], [], _, _, h, _ => h
  | t :: ts, v :: vs, d :: ds, ps, hr, h, hlt => by
    obtain ⟨p, q, h1, h2, rfl⟩ := h
    simp only [List.all_cons, Bool.and_eq_true, decide_eq_true_eq] at hr
    exact ⟨p, q, Below.trod hl hr.1.1 hr.1.2 h1 hb (fun x hx => hlt x (by simp [hx])), trodAll_stays hl hb hr.2 h2 (fun x hx => hlt x (by simp [hx])), rfl⟩
theorem law_post {f : Func} {s : ChangeSpec} {W W' : World} {args : Array Value} {ds gs : List (DataW H)} {before : List MemPlace} {bt : TypeId} (hl : laidOutB P = true) (hbool : P.underlying bt = some .bool) (hrt : f.resultTypes = #[bt])
    (hvars : s.vars = []) (hspec : ∀ ds : List (DataW H), ds.length = f.params.size → s.fn H (ds ++ []) = { results := [.lit (.bool true)], args := ds }) (hr : (f.params.toList.all fun t => P.readableRec t && decide (t < P.types.size)) = true)
    (hW : DataW.Whole enc P f.params.toList s.vars false W args.toList ds gs before) (hb : Below W.heap.size W W') : s.post enc P f false true false false W args (.bool true) W' := by
  have hW' := hW
  have hlt : ∀ p ∈ before, p.block < W.heap.size := fun p hp => hW.lt p hp
  obtain ⟨p, q, hA, hV, rfl, _, _⟩ := hW
  rw [hvars] at hV
  obtain ⟨rfl, rfl⟩ := trodVars_none hV
  have hlen : ds.length = f.params.size := by
    have : ∀ {ts : List TypeId} {vs : List Value} {ds : List (DataW H)} {ps : List MemPlace}, DataW.TrodAll enc P W 0 (fun _ => true) true ts vs ds ps → ds.length = ts.length := by
      intro ts
      induction ts with
      | nil => intro vs ds ps h; match vs, ds, h with | [], [], _ => rfl
      | cons t ts ih => intro vs ds ps h; match vs, ds, h with | v :: vs, d :: ds, ⟨_, _, _, h2, _⟩ => simp [ih h2]
    simpa using this hA
  refine ⟨ds, [], p ++ [], [], p, [], hW', ?_, ?_, ?_, hb.frame _, fun h => by cases h⟩
  · rw [hspec ds hlen, hrt]
    exact trodAll_mk1 (shut_bool hbool true)
  · rw [hspec ds hlen]
    exact trodAll_stays hl hb hr hA (fun x hx => hlt x (by simp [hx]))
  · rw [hspec ds hlen, hvars]
    rfl
end
end Go.Proofs.YtiekhbagpmnboaaGreatDoor
namespace Go.Proofs
open Go.Shelf
def Tryz.lays161_ren : Go.Shelf.Ren := ⟨fun | 161 => 20 | 231 => 40 | 227 => 41 | 233 => 42 | 235 => 43 | 228 => 73 | 197 => 74 | 151 => 75 | 260 => 102 | 152 => 103 | 137 => 86 | 119 => 123 | 224 => 124 | 225 => 125 | 217 => 109 | 266 => 137 | n => n, fun | 9 => 9 | 4 => 4 | 3 => 3 | 5 => 5 | 117 => 86 | 116 => 85 | 0 => 0 | 124 => 89 | 105 => 117 | 21 => 21 | 119 => 151 | 46 => 152 | 139 => 155 | 138 => 154 | n => n, fun | 3 => 0 | 4 => 1 | n => n⟩
theorem Tryz.lays161 : Go.Proofs.Lays.n161 Tryz.prog Tryz.lays161_ren := {
  mixed := by kernel_rfl
  f119 := Tryz.func123.trans (congrArg some (by kernel_rfl))
  f137 := Tryz.func86.trans (congrArg some (by kernel_rfl))
  f151 := Tryz.func75.trans (congrArg some (by kernel_rfl))
  f152 := Tryz.func103.trans (congrArg some (by kernel_rfl))
  f161 := Tryz.func20.trans (congrArg some (by kernel_rfl))
  f197 := Tryz.func74.trans (congrArg some (by kernel_rfl))
  f217 := Tryz.func109.trans (congrArg some (by kernel_rfl))
  f224 := Tryz.func124.trans (congrArg some (by kernel_rfl))
  f225 := Tryz.func125.trans (congrArg some (by kernel_rfl))
  f227 := Tryz.func41.trans (congrArg some (by kernel_rfl))
  f228 := Tryz.func73.trans (congrArg some (by kernel_rfl))
  f231 := Tryz.func40.trans (congrArg some (by kernel_rfl))
  f233 := Tryz.func42.trans (congrArg some (by kernel_rfl))
  f235 := Tryz.func43.trans (congrArg some (by kernel_rfl))
  f260 := Tryz.func102.trans (congrArg some (by kernel_rfl))
  f266 := Tryz.func137.trans (congrArg some (by kernel_rfl))
  t0 := Tryz.underlying0
  a0 := Tryz.isAgg0
  z0 := Tryz.sizeOf0
  v0 := Tryz.zeroValue0
  t3 := Tryz.underlying3
  a3 := Tryz.isAgg3
  z3 := Tryz.sizeOf3
  v3 := Tryz.zeroValue3
  t4 := Tryz.underlying4
  a4 := Tryz.isAgg4
  z4 := Tryz.sizeOf4
  v4 := Tryz.zeroValue4
  t5 := Tryz.underlying5
  a5 := Tryz.isAgg5
  z5 := Tryz.sizeOf5
  v5 := Tryz.zeroValue5
  t9 := Tryz.underlying9
  a9 := Tryz.isAgg9
  z9 := Tryz.sizeOf9
  v9 := Tryz.zeroValue9
  t21 := Tryz.underlying21
  a21 := Tryz.isAgg21
  z21 := Tryz.sizeOf21
  v21 := Tryz.zeroValue21
  t46 := Tryz.underlying152
  a46 := Tryz.isAgg152
  z46 := Tryz.sizeOf152
  v46 := Tryz.zeroValue152
  t105 := Tryz.underlying117
  a105 := Tryz.isAgg117
  z105 := Tryz.sizeOf117
  v105 := Tryz.zeroValue117
  t116 := Tryz.underlying85
  a116 := Tryz.isAgg85
  z116 := Tryz.sizeOf85
  t117 := Tryz.underlying86
  a117 := Tryz.isAgg86
  z117 := Tryz.sizeOf86
  v117 := Tryz.zeroValue86
  t119 := Tryz.underlying151
  a119 := Tryz.isAgg151
  z119 := Tryz.sizeOf151
  t124 := Tryz.underlying89
  a124 := Tryz.isAgg89
  z124 := Tryz.sizeOf89
  v124 := Tryz.zeroValue89
  t138 := Tryz.underlying154
  a138 := Tryz.isAgg154
  z138 := Tryz.sizeOf154
  v138 := Tryz.zeroValue154
  t139 := Tryz.underlying155
  a139 := Tryz.isAgg155
  z139 := Tryz.sizeOf155
  v139 := Tryz.zeroValue155
  g3 := by kernel_rfl
  g4 := by kernel_rfl }
def Tryz.lays160_ren : Go.Shelf.Ren := ⟨fun | 160 => 104 | 232 => 126 | 231 => 40 | 227 => 41 | 234 => 127 | 233 => 42 | 236 => 128 | 235 => 43 | 228 => 73 | 271 => 144 | 151 => 75 | 197 => 74 | 120 => 149 | 152 => 103 | 260 => 102 | 137 => 86 | 119 => 123 | 224 => 124 | 225 => 125 | 217 => 109 | 266 => 137 | n => n, fun | 9 => 9 | 4 => 4 | 3 => 3 | 5 => 5 | 117 => 86 | 116 => 85 | 0 => 0 | 124 => 89 | 21 => 21 | 105 => 117 | 46 => 152 | 119 => 151 | 139 => 155 | 138 => 154 | n => n, fun | 3 => 0 | 4 => 1 | n => n⟩
theorem Tryz.lays160 : Go.Proofs.Lays.n160 Tryz.prog Tryz.lays160_ren := {
  mixed := by kernel_rfl
  f119 := Tryz.func123.trans (congrArg some (by kernel_rfl))
  f120 := Tryz.func149.trans (congrArg some (by kernel_rfl))
  f137 := Tryz.func86.trans (congrArg some (by kernel_rfl))
  f151 := Tryz.func75.trans (congrArg some (by kernel_rfl))
  f152 := Tryz.func103.trans (congrArg some (by kernel_rfl))
  f160 := Tryz.func104.trans (congrArg some (by kernel_rfl))
  f197 := Tryz.func74.trans (congrArg some (by kernel_rfl))
  f217 := Tryz.func109.trans (congrArg some (by kernel_rfl))
  f224 := Tryz.func124.trans (congrArg some (by kernel_rfl))
  f225 := Tryz.func125.trans (congrArg some (by kernel_rfl))
  f227 := Tryz.func41.trans (congrArg some (by kernel_rfl))
  f228 := Tryz.func73.trans (congrArg some (by kernel_rfl))
  f231 := Tryz.func40.trans (congrArg some (by kernel_rfl))
  f232 := Tryz.func126.trans (congrArg some (by kernel_rfl))
  f233 := Tryz.func42.trans (congrArg some (by kernel_rfl))
  f234 := Tryz.func127.trans (congrArg some (by kernel_rfl))
  f235 := Tryz.func43.trans (congrArg some (by kernel_rfl))
  f236 := Tryz.func128.trans (congrArg some (by kernel_rfl))
  f260 := Tryz.func102.trans (congrArg some (by kernel_rfl))
  f266 := Tryz.func137.trans (congrArg some (by kernel_rfl))
  f271 := Tryz.func144.trans (congrArg some (by kernel_rfl))
  t0 := Tryz.underlying0
  a0 := Tryz.isAgg0
  z0 := Tryz.sizeOf0
  v0 := Tryz.zeroValue0
  t3 := Tryz.underlying3
  a3 := Tryz.isAgg3
  z3 := Tryz.sizeOf3
  v3 := Tryz.zeroValue3
  t4 := Tryz.underlying4
  a4 := Tryz.isAgg4
  z4 := Tryz.sizeOf4
  v4 := Tryz.zeroValue4
  t5 := Tryz.underlying5
  a5 := Tryz.isAgg5
  z5 := Tryz.sizeOf5
  v5 := Tryz.zeroValue5
  t9 := Tryz.underlying9
  a9 := Tryz.isAgg9
  z9 := Tryz.sizeOf9
  v9 := Tryz.zeroValue9
  t21 := Tryz.underlying21
  a21 := Tryz.isAgg21
  z21 := Tryz.sizeOf21
  v21 := Tryz.zeroValue21
  t46 := Tryz.underlying152
  a46 := Tryz.isAgg152
  z46 := Tryz.sizeOf152
  v46 := Tryz.zeroValue152
  t105 := Tryz.underlying117
  a105 := Tryz.isAgg117
  z105 := Tryz.sizeOf117
  v105 := Tryz.zeroValue117
  t116 := Tryz.underlying85
  a116 := Tryz.isAgg85
  z116 := Tryz.sizeOf85
  t117 := Tryz.underlying86
  a117 := Tryz.isAgg86
  z117 := Tryz.sizeOf86
  v117 := Tryz.zeroValue86
  t119 := Tryz.underlying151
  a119 := Tryz.isAgg151
  z119 := Tryz.sizeOf151
  t124 := Tryz.underlying89
  a124 := Tryz.isAgg89
  z124 := Tryz.sizeOf89
  v124 := Tryz.zeroValue89
  t138 := Tryz.underlying154
  a138 := Tryz.isAgg154
  z138 := Tryz.sizeOf154
  v138 := Tryz.zeroValue154
  t139 := Tryz.underlying155
  a139 := Tryz.isAgg155
  z139 := Tryz.sizeOf155
  v139 := Tryz.zeroValue155
  g3 := by kernel_rfl
  g4 := by kernel_rfl }
def Tryz.lays137_ren : Go.Shelf.Ren := ⟨fun | 137 => 86 | 217 => 109 | 266 => 137 | n => n, fun | 9 => 9 | 5 => 5 | 3 => 3 | n => n, fun | n => n⟩
theorem Tryz.lays137 : Go.Proofs.Lays.n137 Tryz.prog Tryz.lays137_ren := {
  mixed := by kernel_rfl
  f137 := Tryz.func86.trans (congrArg some (by kernel_rfl))
  f217 := Tryz.func109.trans (congrArg some (by kernel_rfl))
  f266 := Tryz.func137.trans (congrArg some (by kernel_rfl))
  t3 := Tryz.underlying3
  a3 := Tryz.isAgg3
  z3 := Tryz.sizeOf3
  v3 := Tryz.zeroValue3
  t5 := Tryz.underlying5
  a5 := Tryz.isAgg5
  z5 := Tryz.sizeOf5
  v5 := Tryz.zeroValue5
  t9 := Tryz.underlying9
  a9 := Tryz.isAgg9
  z9 := Tryz.sizeOf9
  v9 := Tryz.zeroValue9 }
open Go.RowKit in
/-- strings.IndexByte: "IndexByte returns the index of the first instance of c in s, or -1 if c is not present in s.": IT RETURNS 'Lib.indexByte s c'; the world is as it was. (LAID: no walk: one application.) -/
theorem Tryz.strings_IndexByte (s : ByteArray) (c : Int) (w : World) :
    Calls Tryz.prog 86 #[.string s, .int .u8 c] w fun e w' => e = .returned (.int .i64 (Lib.indexByte s.data.toList c.toNat.toUInt8)) ∧ w' = w := Any.strings_IndexByte Tryz.lays137 s c w
def Tryz.lays103_ren : Go.Shelf.Ren := ⟨fun | 103 => 19 | 210 => 39 | 206 => 72 | n => n, fun | 9 => 9 | 4 => 4 | 24 => 55 | 3 => 3 | n => n, fun | n => n⟩
theorem Tryz.lays103 : Go.Proofs.Lays.n103 Tryz.prog Tryz.lays103_ren := {
  mixed := by kernel_rfl
  f103 := Tryz.func19.trans (congrArg some (by kernel_rfl))
  f206 := Tryz.func72.trans (congrArg some (by kernel_rfl))
  f210 := Tryz.func39.trans (congrArg some (by kernel_rfl))
  t3 := Tryz.underlying3
  a3 := Tryz.isAgg3
  z3 := Tryz.sizeOf3
  v3 := Tryz.zeroValue3
  t4 := Tryz.underlying4
  a4 := Tryz.isAgg4
  z4 := Tryz.sizeOf4
  v4 := Tryz.zeroValue4
  t9 := Tryz.underlying9
  a9 := Tryz.isAgg9
  z9 := Tryz.sizeOf9
  v9 := Tryz.zeroValue9
  t24 := Tryz.underlying55
  a24 := Tryz.isAgg55
  z24 := Tryz.sizeOf55
  v24 := Tryz.zeroValue55 }
open Go.RowKit in
/-- strings.CutPrefix: "CutPrefix returns s without the provided leading prefix string and reports whether it found the prefix. If s doesn't start with prefix, CutPrefix returns s, false. If prefix is the empty string, CutPrefix returns s, true.": IT RETURNS '(Lib.trimPrefix s p, Lib.hasPrefix s p)'; the world is as it was. (LAID: no walk: one application.) -/
theorem Tryz.strings_CutPrefix (s p : ByteArray) (w : World) :
    Calls Tryz.prog 19 #[.string s, .string p] w fun e w' => e = .returned (.tuple #[.string ⟨(Lib.trimPrefix s.data.toList p.data.toList).toArray⟩, .bool (Lib.hasPrefix s.data.toList p.data.toList)]) ∧ w' = w := Any.strings_CutPrefix Tryz.lays103 s p w
open Go.Lib in
open Go.Lib in
open Go.RowKit Go.Sort Go.Lib in
def Tryz.laysPu14_ren : Go.Shelf.Ren := ⟨fun | 14 => 77 | 16 => 105 | 17 => 106 | 19 => 129 | 20 => 130 | 21 => 131 | 22 => 132 | 23 => 133 | 24 => 134 | 25 => 145 | 27 => 147 | 26 => 146 | 28 => 150 | 29 => 151 | 30 => 152 | 31 => 153 | 32 => 154 | 33 => 155 | 35 => 157 | 34 => 156 | 36 => 158 | 37 => 159 | 38 => 160 | 39 => 161 | 40 => 162 | n => n, fun | 9 => 9 | 3 => 3 | 22 => 120 | 24 => 122 | 25 => 123 | 4 => 4 | 34 => 157 | 5 => 5 | 36 => 152 | 37 => 128 | 0 => 0 | 39 => 159 | 21 => 21 | 44 => 169 | 47 => 146 | 50 => 176 | 48 => 174 | 2 => 2 | 52 => 178 | 55 => 181 | 59 => 184 | 60 => 171 | 20 => 20 | 61 => 185 | 65 => 189 | 66 => 190 | 67 => 131 | n => n, fun | 0 => 3 | 1 => 4 | 2 => 5 | 3 => 6 | 4 => 7 | n => n⟩
theorem Tryz.laysPu14 : Go.Proofs.LaysPu.n14 Tryz.prog Tryz.laysPu14_ren := {
  mixed := by kernel_rfl
  f14 := Tryz.func77.trans (congrArg some (by kernel_rfl))
  f16 := Tryz.func105.trans (congrArg some (by kernel_rfl))
  f17 := Tryz.func106.trans (congrArg some (by kernel_rfl))
  f19 := Tryz.func129.trans (congrArg some (by kernel_rfl))
  f20 := Tryz.func130.trans (congrArg some (by kernel_rfl))
  f21 := Tryz.func131.trans (congrArg some (by kernel_rfl))
  f22 := Tryz.func132.trans (congrArg some (by kernel_rfl))
  f23 := Tryz.func133.trans (congrArg some (by kernel_rfl))
  f24 := Tryz.func134.trans (congrArg some (by kernel_rfl))
  f25 := Tryz.func145.trans (congrArg some (by kernel_rfl))
  f26 := Tryz.func146.trans (congrArg some (by kernel_rfl))
  f27 := Tryz.func147.trans (congrArg some (by kernel_rfl))
  f28 := Tryz.func150.trans (congrArg some (by kernel_rfl))
  f29 := Tryz.func151.trans (congrArg some (by kernel_rfl))
  f30 := Tryz.func152.trans (congrArg some (by kernel_rfl))
  f31 := Tryz.func153.trans (congrArg some (by kernel_rfl))
  f32 := Tryz.func154.trans (congrArg some (by kernel_rfl))
  f33 := Tryz.func155.trans (congrArg some (by kernel_rfl))
  f34 := Tryz.func156.trans (congrArg some (by kernel_rfl))
  f35 := Tryz.func157.trans (congrArg some (by kernel_rfl))
  f36 := Tryz.func158.trans (congrArg some (by kernel_rfl))
  f37 := Tryz.func159.trans (congrArg some (by kernel_rfl))
  f38 := Tryz.func160.trans (congrArg some (by kernel_rfl))
  f39 := Tryz.func161.trans (congrArg some (by kernel_rfl))
  f40 := Tryz.func162.trans (congrArg some (by kernel_rfl))
  t0 := Tryz.underlying0
  a0 := Tryz.isAgg0
  z0 := Tryz.sizeOf0
  v0 := Tryz.zeroValue0
  i0 := by kernel_rfl
  t2 := Tryz.underlying2
  a2 := Tryz.isAgg2
  z2 := Tryz.sizeOf2
  v2 := Tryz.zeroValue2
  i2 := by kernel_rfl
  t3 := Tryz.underlying3
  a3 := Tryz.isAgg3
  z3 := Tryz.sizeOf3
  v3 := Tryz.zeroValue3
  i3 := by kernel_rfl
  t4 := Tryz.underlying4
  a4 := Tryz.isAgg4
  z4 := Tryz.sizeOf4
  v4 := Tryz.zeroValue4
  i4 := by kernel_rfl
  t5 := Tryz.underlying5
  a5 := Tryz.isAgg5
  z5 := Tryz.sizeOf5
  v5 := Tryz.zeroValue5
  i5 := by kernel_rfl
  t9 := Tryz.underlying9
  a9 := Tryz.isAgg9
  z9 := Tryz.sizeOf9
  v9 := Tryz.zeroValue9
  i9 := by kernel_rfl
  t20 := Tryz.underlying20
  a20 := Tryz.isAgg20
  z20 := Tryz.sizeOf20
  v20 := Tryz.zeroValue20
  i20 := by kernel_rfl
  t21 := Tryz.underlying21
  a21 := Tryz.isAgg21
  z21 := Tryz.sizeOf21
  v21 := Tryz.zeroValue21
  i21 := by kernel_rfl
  t22 := Tryz.underlying120
  a22 := Tryz.isAgg120
  z22 := Tryz.sizeOf120
  v22 := Tryz.zeroValue120
  i22 := by kernel_rfl
  t24 := Tryz.underlying122
  a24 := Tryz.isAgg122
  z24 := Tryz.sizeOf122
  v24 := Tryz.zeroValue122
  i24 := by kernel_rfl
  t25 := Tryz.underlying123
  a25 := Tryz.isAgg123
  z25 := Tryz.sizeOf123
  v25 := Tryz.zeroValue123
  i25 := by kernel_rfl
  t34 := Tryz.underlying157
  a34 := Tryz.isAgg157
  z34 := Tryz.sizeOf157
  v34 := Tryz.zeroValue157
  i34 := by kernel_rfl
  c34 := by kernel_rfl
  t36 := Tryz.underlying152
  a36 := Tryz.isAgg152
  z36 := Tryz.sizeOf152
  v36 := Tryz.zeroValue152
  i36 := by kernel_rfl
  t37 := Tryz.underlying128
  a37 := Tryz.isAgg128
  z37 := Tryz.sizeOf128
  v37 := Tryz.zeroValue128
  i37 := by kernel_rfl
  t39 := Tryz.underlying159
  a39 := Tryz.isAgg159
  z39 := Tryz.sizeOf159
  v39 := Tryz.zeroValue159
  i39 := by kernel_rfl
  t44 := Tryz.underlying169
  a44 := Tryz.isAgg169
  z44 := Tryz.sizeOf169
  v44 := Tryz.zeroValue169
  i44 := by kernel_rfl
  t47 := Tryz.underlying146
  a47 := Tryz.isAgg146
  z47 := Tryz.sizeOf146
  v47 := Tryz.zeroValue146
  i47 := by kernel_rfl
  t48 := Tryz.underlying174
  a48 := Tryz.isAgg174
  z48 := Tryz.sizeOf174
  v48 := Tryz.zeroValue174
  i48 := by kernel_rfl
  t50 := Tryz.underlying176
  a50 := Tryz.isAgg176
  z50 := Tryz.sizeOf176
  v50 := Tryz.zeroValue176
  i50 := by kernel_rfl
  t52 := Tryz.underlying178
  a52 := Tryz.isAgg178
  z52 := Tryz.sizeOf178
  v52 := Tryz.zeroValue178
  i52 := by kernel_rfl
  t55 := Tryz.underlying181
  a55 := Tryz.isAgg181
  z55 := Tryz.sizeOf181
  v55 := Tryz.zeroValue181
  i55 := by kernel_rfl
  t59 := Tryz.underlying184
  a59 := Tryz.isAgg184
  z59 := Tryz.sizeOf184
  v59 := Tryz.zeroValue184
  i59 := by kernel_rfl
  t60 := Tryz.underlying171
  a60 := Tryz.isAgg171
  z60 := Tryz.sizeOf171
  v60 := Tryz.zeroValue171
  i60 := by kernel_rfl
  t61 := Tryz.underlying185
  a61 := Tryz.isAgg185
  z61 := Tryz.sizeOf185
  t65 := Tryz.underlying189
  a65 := Tryz.isAgg189
  z65 := Tryz.sizeOf189
  v65 := Tryz.zeroValue189
  i65 := by kernel_rfl
  t66 := Tryz.underlying190
  a66 := Tryz.isAgg190
  z66 := Tryz.sizeOf190
  v66 := Tryz.zeroValue190
  i66 := by kernel_rfl
  t67 := Tryz.underlying131
  a67 := Tryz.isAgg131
  z67 := Tryz.sizeOf131
  v67 := Tryz.zeroValue131
  i67 := by kernel_rfl
  g0 := by kernel_rfl
  m0 := by kernel_rfl
  g1 := by kernel_rfl
  m1 := by kernel_rfl
  g2 := by kernel_rfl
  m2 := by kernel_rfl
  g3 := by kernel_rfl
  m3 := by kernel_rfl
  g4 := by kernel_rfl
  m4 := by kernel_rfl }
open Go.RowKit in
/-- strconv.ParseUint(s, 10, 64), AT EVERY STRING THAT SPELLS A uint64 ('Lib.parseUintB 64 s.data.toList = .ok u'): u, AND NO ERROR. (LAID: no walk: one application.) -/
theorem Tryz.strconv_ParseUint_10_at64_ok (s : ByteArray) (hmax : s.size ≤ 9223372036854775806) (u : Nat) (h : Lib.parseUintB 64 s.data.toList = .ok u) (w : World) :
    Calls Tryz.prog 77 #[.string s, .int .i64 10, .int .i64 64] w fun e w' => e = .returned (.tuple #[.int .u64 u, .nilIface]) ∧ (w' = w ∨ w' = Lib.bytesWorld w 5 s) := Any.strconv_ParseUint_10_at64_ok Tryz.laysPu14 s hmax u h w
def Tryz.lays219_ren : Go.Shelf.Ren := ⟨fun | 219 => 108 | 217 => 109 | 225 => 125 | 224 => 124 | 267 => 136 | 266 => 137 | 314 => 148 | n => n, fun | 9 => 9 | 3 => 3 | 4 => 4 | 5 => 5 | 46 => 152 | 146 => 172 | 51 => 171 | n => n, fun | 1 => 2 | n => n⟩
theorem Tryz.lays219 : Go.Proofs.Lays.n219 Tryz.prog Tryz.lays219_ren := {
  mixed := by kernel_rfl
  f217 := Tryz.func109.trans (congrArg some (by kernel_rfl))
  f219 := Tryz.func108.trans (congrArg some (by kernel_rfl))
  f224 := Tryz.func124.trans (congrArg some (by kernel_rfl))
  f225 := Tryz.func125.trans (congrArg some (by kernel_rfl))
  f266 := Tryz.func137.trans (congrArg some (by kernel_rfl))
  f267 := Tryz.func136.trans (congrArg some (by kernel_rfl))
  f314 := Tryz.func148.trans (congrArg some (by kernel_rfl))
  t3 := Tryz.underlying3
  a3 := Tryz.isAgg3
  z3 := Tryz.sizeOf3
  v3 := Tryz.zeroValue3
  t4 := Tryz.underlying4
  a4 := Tryz.isAgg4
  z4 := Tryz.sizeOf4
  v4 := Tryz.zeroValue4
  t5 := Tryz.underlying5
  a5 := Tryz.isAgg5
  z5 := Tryz.sizeOf5
  v5 := Tryz.zeroValue5
  t9 := Tryz.underlying9
  a9 := Tryz.isAgg9
  z9 := Tryz.sizeOf9
  v9 := Tryz.zeroValue9
  t46 := Tryz.underlying152
  a46 := Tryz.isAgg152
  z46 := Tryz.sizeOf152
  v46 := Tryz.zeroValue152
  t51 := Tryz.underlying171
  a51 := Tryz.isAgg171
  z51 := Tryz.sizeOf171
  v51 := Tryz.zeroValue171
  t146 := Tryz.underlying172
  a146 := Tryz.isAgg172
  z146 := Tryz.sizeOf172
  v146 := Tryz.zeroValue172
  g1 := by kernel_rfl }
open Go.RowKit Go.Lib in
/-- internal/stringslite.Index (what strings.Index calls) AT A substr OF ONE BYTE c: IT RETURNS 'Lib.indexByte s c'; the world is as it was. (LAID: no walk: one application.) -/
theorem Tryz.stringslite_Index_one (s : ByteArray) (c : UInt8) (w : World) :
    Calls Tryz.prog 108 #[.string s, .string ⟨#[c]⟩] w fun e w' => e = .returned (.int .i64 (Lib.indexByte s.data.toList c)) ∧ w' = w := Any.stringslite_Index_one Tryz.lays219 s c w
def Tryz.lays99_ren : Go.Shelf.Ren := ⟨fun | 99 => 85 | 206 => 72 | n => n, fun | 9 => 9 | 4 => 4 | 3 => 3 | n => n, fun | n => n⟩
theorem Tryz.lays99 : Go.Proofs.Lays.n99 Tryz.prog Tryz.lays99_ren := {
  mixed := by kernel_rfl
  f99 := Tryz.func85.trans (congrArg some (by kernel_rfl))
  f206 := Tryz.func72.trans (congrArg some (by kernel_rfl))
  t3 := Tryz.underlying3
  a3 := Tryz.isAgg3
  z3 := Tryz.sizeOf3
  v3 := Tryz.zeroValue3
  t4 := Tryz.underlying4
  a4 := Tryz.isAgg4
  z4 := Tryz.sizeOf4
  v4 := Tryz.zeroValue4
  t9 := Tryz.underlying9
  a9 := Tryz.isAgg9
  z9 := Tryz.sizeOf9
  v9 := Tryz.zeroValue9 }
open Go.RowKit Go.Lib in
/-- strings.HasPrefix: "HasPrefix reports whether the string s begins with prefix.": IT RETURNS 'Lib.hasPrefix s prefix'; the world is as it was. (LAID: no walk: one application.) -/
theorem Tryz.strings_HasPrefix (s p : ByteArray) (w : World) :
    Calls Tryz.prog 85 #[.string s, .string p] w fun e w' => e = .returned (.bool (Lib.hasPrefix s.data.toList p.data.toList)) ∧ w' = w := Any.strings_HasPrefix Tryz.lays99 s p w
end Go.Proofs
namespace Go.Proofs.YtiekhbagpmnboaaGreatDoor
open Go

/-- four digits -/
def four (r : Nat) : List UInt8 := [UInt8.ofNat (48 + r / 1000), UInt8.ofNat (48 + r / 100 % 10), UInt8.ofNat (48 + r / 10 % 10), UInt8.ofNat (48 + r % 10)]
end Go.Proofs.YtiekhbagpmnboaaGreatDoor
namespace Go.Proofs.YtiekhbagpmnboaaGreatDoor
open Go

def isDig (b : UInt8) : Bool := decide (48 ≤ b.toNat) && decide (b.toNat ≤ 57)
/-- the number that digits stand for -/
def valF (v : Nat) (b : UInt8) : Nat := v * 10 + (b.toNat - 48)
def valL (l : List UInt8) : Nat := l.foldl valF 0
/-- digits, one to so many -/
def digOk (l : List UInt8) (m : Nat) : Bool := decide (0 < l.length) && decide (l.length ≤ m) && l.all isDig
/-- what may stand behind the whole part -/
def restOf : List UInt8 → Option (List UInt8)
  | [] => some []
  | b :: r => if b = 46 ∧ digOk r 4 = true then some r else .none
/-- a number of so many digits before and behind the point -/
def numOf (low : Bool) (D r : List UInt8) : Option Int :=
  if low = true ∧ valL (D ++ (r ++ List.replicate (4 - r.length) 48)) = 0 then .none
  else if valL (D ++ (r ++ List.replicate (4 - r.length) 48)) ≤ 9223372036854775807 then some (if low then -(valL (D ++ (r ++ List.replicate (4 - r.length) 48)) : Int) else (valL (D ++ (r ++ List.replicate (4 - r.length) 48)) : Int)) else .none
def wholeOk (D : List UInt8) : Bool := digOk D 15 && !(decide (1 < D.length) && D.head? == some 48)
def bodyOf (low : Bool) (t : List UInt8) : Option Int :=
  if wholeOk (t.takeWhile isDig) then
    match restOf (t.dropWhile isDig) with
    | some r => numOf low (t.takeWhile isDig) r
    | .none => .none
  else .none
def lowOf (l : List UInt8) : Bool := l.head? == some 45
def tailOf (l : List UInt8) : List UInt8 := if lowOf l then l.tail else l
/-- what Parse tells of a text -/
def numP (l : List UInt8) : Option Int := bodyOf (lowOf l) (tailOf l)
def numV (l : List UInt8) : Int := match numP l with | some x => x | .none => 0
def numOk (l : List UInt8) : Bool := (numP l).isSome

theorem all_take {t : List UInt8} (h : t.all isDig = true) : t.takeWhile isDig = t ∧ t.dropWhile isDig = [] := by
  induction t with
  | nil => simp
  | cons b t ih =>
    simp only [List.all_cons, Bool.and_eq_true] at h
    obtain ⟨h1, h2⟩ := ih h.2
    simp [h.1, h1, h2]
theorem all_take_dot {w r : List UInt8} {b : UInt8} (h : w.all isDig = true) (hb : isDig b = false) : (w ++ b :: r).takeWhile isDig = w ∧ (w ++ b :: r).dropWhile isDig = b :: r := by
  induction w with
  | nil => simp [hb]
  | cons c w ih =>
    simp only [List.all_cons, Bool.and_eq_true] at h
    obtain ⟨h1, h2⟩ := ih h.2
    simp [h.1, h1, h2]
theorem not_all {w r : List UInt8} (h : w.all isDig = false) (hd : ∀ b ∈ w, b ≠ 46) : ∃ b R, (w ++ r).dropWhile isDig = b :: R ∧ b ≠ 46 := by
  induction w with
  | nil => simp at h
  | cons c w ih =>
    cases hc : isDig c
    · exact ⟨c, w ++ r, by simp [hc], hd c (by simp)⟩
    · simp only [List.all_cons, hc, Bool.true_and] at h
      obtain ⟨b, R, e, hb⟩ := ih h (fun b hb => hd b (by simp [hb]))
      exact ⟨b, R, by simp [hc, e], hb⟩
theorem rest_other {b : UInt8} {R : List UInt8} (h : b ≠ 46) : restOf (b :: R) = .none := by simp [restOf, h]
theorem body_other {low : Bool} {t : List UInt8} (h : ∃ b R, t.dropWhile isDig = b :: R ∧ b ≠ 46) : bodyOf low t = .none := by
  obtain ⟨b, R, e, hb⟩ := h
  unfold bodyOf
  split
  · rw [e, rest_other hb]
  · rfl
/-- no point -/
theorem body_plain {low : Bool} {t : List UInt8} (h : Lib.indexByte t 46 = -1) : bodyOf low t = if wholeOk t then numOf low t [] else .none := by
  have hd : ∀ b ∈ t, b ≠ 46 := by
    intro b hb e
    subst e
    obtain ⟨i, hi, e⟩ := List.getElem_of_mem hb
    exact Lib.indexByte_none h i (by rw [List.getElem?_eq_getElem hi, e])
  cases ha : t.all isDig
  · rw [body_other (by have := not_all (r := []) ha hd; simpa using this)]
    simp [wholeOk, digOk, ha]
  · obtain ⟨h1, h2⟩ := all_take ha
    simp [bodyOf, h1, h2, restOf]
/-- a point at o -/
theorem body_point {low : Bool} {t : List UInt8} {o : Nat} (h : Lib.indexByte t 46 = o) (ho : o < t.length) {a b : List UInt8} (hA : a = t.take o) (hB : b = t.drop (o + 1)) :
    bodyOf low t = if wholeOk a && digOk b 4 then numOf low a b else .none := by
  obtain ⟨hg, hn⟩ := Lib.indexByte_some h
  have ht : t = a ++ 46 :: b := by
    have : t[o] = 46 := by rw [List.getElem?_eq_getElem ho] at hg; exact Option.some.inj hg
    rw [hA, hB, ← this, ← List.drop_eq_getElem_cons ho, List.take_append_drop]
  have hd : ∀ x ∈ a, x ≠ 46 := by
    intro x hx e
    subst e
    rw [hA] at hx
    obtain ⟨i, hi, e⟩ := List.getElem_of_mem hx
    have hio : i < o := by simp at hi; omega
    refine hn i hio ?_
    rw [List.getElem_take] at e
    rw [List.getElem?_eq_getElem (by omega), e]
  rw [ht]
  cases ha : a.all isDig
  · rw [body_other (not_all ha hd)]
    simp [wholeOk, digOk, ha]
  · obtain ⟨h1, h2⟩ := all_take_dot (r := b) (b := 46) ha (by decide)
    unfold bodyOf
    rw [h1, h2]
    cases hw : wholeOk a
    · simp
    · cases hk : digOk b 4
      · simp [restOf, hk]
      · simp [restOf, hk]

theorem val_snoc (l : List UInt8) (b : UInt8) : valL (l ++ [b]) = valL l * 10 + (b.toNat - 48) := by simp [valL, valF]
theorem valF_bound : ∀ (l : List UInt8) (v : Nat), l.all isDig = true → l.foldl valF v < (v + 1) * 10 ^ l.length
  | [], v, _ => by simp
  | b :: l, v, h => by
    simp only [List.all_cons, Bool.and_eq_true] at h
    have hb := h.1
    simp only [isDig, Bool.and_eq_true, decide_eq_true_eq] at hb
    have := valF_bound l (valF v b) h.2
    simp only [List.foldl_cons, List.length_cons, Nat.pow_succ]
    refine Nat.lt_of_lt_of_le this ?_
    rw [Nat.mul_comm (10 ^ l.length) 10, ← Nat.mul_assoc]
    refine Nat.mul_le_mul_right _ ?_
    unfold valF
    omega
theorem val_bound {l : List UInt8} (h : l.all isDig = true) : valL l < 10 ^ l.length := by
  have := valF_bound l 0 h
  simpa [valL] using this
theorem parse_ok : ∀ (l : List UInt8) (v : Nat), l.all isDig = true → (v + 1) * 10 ^ l.length ≤ 10000000000000000000 → Lib.parseUintM 18446744073709551615 v l = .ok (l.foldl valF v)
  | [], v, _, _ => by simp [Lib.parseUintM]
  | b :: l, v, h, hv => by
    simp only [List.all_cons, Bool.and_eq_true] at h
    have hb := h.1
    simp only [isDig, Bool.and_eq_true, decide_eq_true_eq] at hb
    have h10 : 1 ≤ 10 ^ l.length := Nat.one_le_pow _ _ (by omega)
    have hv2 : (v + 1) * 10 * 10 ^ l.length ≤ 10000000000000000000 := by
      rw [List.length_cons, Nat.pow_succ, Nat.mul_comm (10 ^ l.length) 10, ← Nat.mul_assoc] at hv
      exact hv
    have hv3 : (v + 1) * 10 ≤ 10000000000000000000 := Nat.le_trans (Nat.le_mul_of_pos_right _ h10) hv2
    have hv4 : (valF v b + 1) * 10 ^ l.length ≤ 10000000000000000000 := Nat.le_trans (Nat.mul_le_mul_right _ (by unfold valF; omega)) hv2
    simp only [Lib.parseUintM, List.foldl_cons]
    rw [if_pos hb, if_neg (by omega), if_neg (by omega)]
    exact parse_ok l _ h.2 hv4
theorem parse_ok64 {l : List UInt8} (h : l.all isDig = true) (h1 : 0 < l.length) (h2 : l.length ≤ 19) : Lib.parseUintB 64 l = .ok (valL l) := by
  unfold Lib.parseUintB
  rw [if_neg (by intro e; subst e; simp at h1)]
  refine parse_ok l 0 h ?_
  have : 10 ^ l.length ≤ 10 ^ 19 := Nat.pow_le_pow_right (by omega) h2
  omega
theorem dw_nil (p : UInt8 → Bool) : ∀ l : List UInt8, l.dropWhile p = [] ↔ ∀ b ∈ l, p b = true
  | [] => by simp
  | b :: l => by
    cases h : p b
    · simp [h]
    · simp [h, dw_nil p l]
theorem trim_digits (l : List UInt8) : (Lib.trimS l [48, 49, 50, 51, 52, 53, 54, 55, 56, 57] == []) = l.all isDig := by
  have hf : ∀ n : Fin 256, [48, 49, 50, 51, 52, 53, 54, 55, 56, 57].contains (UInt8.ofNat n.val) = isDig (UInt8.ofNat n.val) := by decide +kernel
  have hc : ∀ b : UInt8, [48, 49, 50, 51, 52, 53, 54, 55, 56, 57].contains b = isDig b := fun b => by
    have := hf ⟨b.toNat, b.toNat_lt⟩
    simpa using this
  unfold Lib.trimS Lib.trimLeftS Lib.trimRightS
  simp only [hc]
  rw [Bool.eq_iff_iff]
  simp only [beq_iff_eq, List.all_eq_true]
  constructor
  · intro h b hb
    rw [dw_nil] at h
    cases hd : isDig b with
    | true => rfl
    | false =>
      have hne : l.reverse.dropWhile isDig ≠ [] := by
        intro e
        rw [dw_nil] at e
        have := e b (by simpa using hb)
        rw [hd] at this; cases this
      cases hr : l.reverse.dropWhile isDig with
      | nil => exact absurd hr hne
      | cons c r =>
        have hcd : isDig c = false := by
          have := List.head?_dropWhile_not isDig l.reverse
          rw [hr] at this
          simpa using this
        have := h c (by rw [hr]; simp)
        rw [hcd] at this; cases this
  · intro h
    have e : l.reverse.dropWhile isDig = [] := by
      rw [dw_nil]
      intro b hb
      exact h b (by simpa using hb)
    rw [e]
    rfl
end Go.Proofs.YtiekhbagpmnboaaGreatDoor
namespace Go.Proofs.YtiekhbagpmnboaaGreatDoor
open Go.RowKit

theorem idx_cases (l : List UInt8) (c : UInt8) : Lib.indexByte l c = -1 ∨ ∃ o : Nat, Lib.indexByte l c = o ∧ o < l.length := by
  have h := Lib.indexByte_ge l c
  by_cases h0 : Lib.indexByte l c = -1
  · exact .inl h0
  · obtain ⟨o, ho⟩ := Int.eq_ofNat_of_zero_le (show 0 ≤ Lib.indexByte l c by omega)
    refine .inr ⟨o, ho, ?_⟩
    have := (Lib.indexByte_some ho).1
    exact (List.getElem?_eq_some_iff.1 this).1
theorem ext_take' (l : List UInt8) (n : Nat) : (⟨l.toArray⟩ : ByteArray).extract 0 n = ⟨(l.take n).toArray⟩ := by
  apply ByteArray.ext
  simp
theorem ext_drop' (l : List UInt8) (n m : Nat) (h : l.length ≤ m) : (⟨l.toArray⟩ : ByteArray).extract n m = ⟨(l.drop n).toArray⟩ := by
  apply ByteArray.ext
  simp
  exact List.take_of_length_le (by simp; omega)

set_option maxHeartbeats 400000 in
theorem lcut0 (l : List UInt8) (c : UInt8) (h : Lib.indexByte l c = -1) (w : World) : Calls Tryz.prog 81 #[.string ⟨l.toArray⟩, .string ⟨#[c]⟩] w fun e w' => e = .returned (.tuple #[.string ⟨l.toArray⟩, .string ⟨#[]⟩, .bool false]) ∧ Below w.heap.size w w' := by
  have hi := Lib.hid h
  clear h
  go_enter Tryz.func81, Tryz.ntmps81
  go_wp2_with fail
  refine (Tryz.stringslite_Index_one _ c _).mono ?_
  rintro e w1 ⟨rfl, rfl⟩
  rw [show (⟨l.toArray⟩ : ByteArray).data.toList = l from by simp, hi.out]
  go_wp2
  go_ret3
  exact ⟨rfl, by (repeat (first | (with_reducible exact Below.refl _ _) | (with_reducible refine Below.alloc ?_ (by first | omega | (dsimp only; omega) | (simp <;> omega)) _) | (with_reducible refine Below.setCell ?_ (by first | omega | (dsimp only; omega) | (simp <;> omega)) _) | (with_reducible refine Below.drew ?_) | (with_reducible refine below_drewN ?_ _) | (with_reducible refine Below.trans ?_ (Below.mono (by assumption) (by first | omega | (dsimp only; omega) | (simp <;> omega))))))⟩
set_option maxHeartbeats 400000 in
theorem lcut1 (l : List UInt8) (c : UInt8) (o : Nat) (h : Lib.indexByte l c = o) (ho : o < l.length) (hm : l.length ≤ 9223372036854775807) (w : World) : Calls Tryz.prog 81 #[.string ⟨l.toArray⟩, .string ⟨#[c]⟩] w fun e w' => e = .returned (.tuple #[.string ⟨(l.take o).toArray⟩, .string ⟨(l.drop (o + 1)).toArray⟩, .bool true]) ∧ Below w.heap.size w w' := by
  have hi := Lib.hid h
  clear h
  have hx1 := ext_take' l o
  have hx2 := ext_drop' l (o + 1) l.length (Nat.le_refl _)
  go_enter Tryz.func81, Tryz.ntmps81
  go_wp2_with fail
  refine (Tryz.stringslite_Index_one _ c _).mono ?_
  rintro e w1 ⟨rfl, rfl⟩
  rw [show (⟨l.toArray⟩ : ByteArray).data.toList = l from by simp, hi.out]
  go_wp2
  go_quiet (fail)
  go_wp2
  go_ret3
  exact ⟨rfl, by (repeat (first | (with_reducible exact Below.refl _ _) | (with_reducible refine Below.alloc ?_ (by first | omega | (dsimp only; omega) | (simp <;> omega)) _) | (with_reducible refine Below.setCell ?_ (by first | omega | (dsimp only; omega) | (simp <;> omega)) _) | (with_reducible refine Below.drew ?_) | (with_reducible refine below_drewN ?_ _) | (with_reducible refine Below.trans ?_ (Below.mono (by assumption) (by first | omega | (dsimp only; omega) | (simp <;> omega))))))⟩
set_option maxHeartbeats 400000 in
theorem scut0 (l : List UInt8) (c : UInt8) (h : Lib.indexByte l c = -1) (w : World) : Calls Tryz.prog 47 #[.string ⟨l.toArray⟩, .string ⟨#[c]⟩] w fun e w' => e = .returned (.tuple #[.string ⟨l.toArray⟩, .string ⟨#[]⟩, .bool false]) ∧ Below w.heap.size w w' := by
  go_enter Tryz.func47, Tryz.ntmps47
  go_wp2_with fail
  refine (lcut0 l c h _).mono ?_
  rintro e w1 ⟨rfl, hb⟩
  go_wp2
  go_ret3
  exact ⟨rfl, by assumption⟩
set_option maxHeartbeats 400000 in
theorem scut1 (l : List UInt8) (c : UInt8) (o : Nat) (h : Lib.indexByte l c = o) (ho : o < l.length) (hm : l.length ≤ 9223372036854775807) (w : World) : Calls Tryz.prog 47 #[.string ⟨l.toArray⟩, .string ⟨#[c]⟩] w fun e w' => e = .returned (.tuple #[.string ⟨(l.take o).toArray⟩, .string ⟨(l.drop (o + 1)).toArray⟩, .bool true]) ∧ Below w.heap.size w w' := by
  go_enter Tryz.func47, Tryz.ntmps47
  go_wp2_with fail
  refine (lcut1 l c o h ho hm _).mono ?_
  rintro e w1 ⟨rfl, hb⟩
  go_wp2
  go_ret3
  exact ⟨rfl, by assumption⟩
end Go.Proofs.YtiekhbagpmnboaaGreatDoor
namespace Go.Proofs.YtiekhbagpmnboaaGreatDoor
open Go.RowKit

/-- a number out of its exact value: too great ones have none -/
def exV (n : Int) : Int := if -9223372036854775807 ≤ n ∧ n ≤ 9223372036854775807 then n else 0
def exC (n : Int) : Int := if -9223372036854775807 ≤ n ∧ n ≤ 9223372036854775807 then 0 else 2
theorem ret_ii {a a' b b' : Int} (h : a = a') (k : b = b') : Ending.returned (.tuple #[.int .i64 a, .int .i64 b]) = Ending.returned (.tuple #[.int .i64 a', .int .i64 b']) := by rw [h, k]
theorem ret_ib {a a' : Int} {b b' : Bool} (h : a = a') (k : b = b') : Ending.returned (.tuple #[.int .i64 a, .bool b]) = Ending.returned (.tuple #[.int .i64 a', .bool b']) := by rw [h, k]
theorem ret_b {b b' : Bool} (k : b = b') : Ending.returned (.bool b) = Ending.returned (.bool b') := by rw [k]

set_option maxHeartbeats 400000 in
theorem signed_any (n : Int) (hn : 0 ≤ n ∧ n ≤ 18446744073709551615) (low : Bool) (w : World) : Calls Tryz.prog 78 #[.int .u64 n, .bool low] w fun e w' => e = .returned (.tuple #[.int .i64 (exV (if low then -n else n)), .int .i64 (exC (if low then -n else n))]) ∧ w = w' := by
  obtain ⟨n0, n1⟩ := hn
  cases low
  all_goals
    go_enter Tryz.func78, Tryz.ntmps78
    go_wp2
  all_goals go_ret2
  all_goals refine ⟨ret_ii ?_ ?_, rfl⟩
  all_goals simp [exV, exC]
  all_goals repeat' split
  all_goals omega
set_option maxHeartbeats 400000 in
theorem rsigned_any (n : Int) (hn : 0 ≤ n ∧ n ≤ 18446744073709551615) (low : Bool) (w : World) : Calls Tryz.prog 96 #[.int .u64 n, .bool low] w fun e w' => e = .returned (.tuple #[.int .i64 (exV (if low then -n else n)), .int .i64 (exC (if low then -n else n))]) ∧ w = w' := by
  obtain ⟨n0, n1⟩ := hn
  cases low
  all_goals
    go_enter Tryz.func96, Tryz.ntmps96
    go_wp2
  all_goals go_ret2
  all_goals refine ⟨ret_ii ?_ ?_, rfl⟩
  all_goals simp [exV, exC]
  all_goals repeat' split
  all_goals omega
end Go.Proofs.YtiekhbagpmnboaaGreatDoor
namespace Go.Proofs.YtiekhbagpmnboaaGreatDoor
open Go

theorem tw_all (p : UInt8 → Bool) : ∀ l : List UInt8, ∀ b ∈ l.takeWhile p, p b = true
  | [], b, h => by simp at h
  | a :: l, b, h => by
    cases ha : p a
    · simp [ha] at h
    · simp [ha] at h
      rcases h with rfl | h
      · exact ha
      · exact tw_all p l b h
end Go.Proofs.YtiekhbagpmnboaaGreatDoor
namespace Go.Proofs.YtiekhbagpmnboaaGreatDoor
open Go.RowKit

set_option maxHeartbeats 400000 in
theorem risdig (b : UInt8) (w : World) : Calls Tryz.prog 120 #[.int .u8 (b.toNat : Int)] w fun e w' => e = .returned (.bool (isDig b)) ∧ w = w' := by
  have hb := b.toNat_lt
  by_cases h1 : 48 ≤ b.toNat
  · by_cases h2 : b.toNat ≤ 57
    · have e := Lib.hid (show isDig b = true by simp [isDig, h1, h2])
      go_enter Tryz.func120, Tryz.ntmps120
      go_wp2
      go_ret
      exact ⟨ret_b (by rw [e.out]; simp; omega), rfl⟩
    · have e := Lib.hid (show isDig b = false by simp [isDig, h2])
      go_enter Tryz.func120, Tryz.ntmps120
      go_wp2
      go_ret
      exact ⟨ret_b (by rw [e.out]; simp; omega), rfl⟩
  · have e := Lib.hid (show isDig b = false by simp [isDig, h1])
    go_enter Tryz.func120, Tryz.ntmps120
    go_wp2
    go_ret
    exact ⟨by rw [e.out]; rfl, rfl⟩
theorem risdig_as (b : UInt8) (p : Bool) (h : isDig b = p) (w : World) : Calls Tryz.prog 120 #[.int .u8 (b.toNat : Int)] w fun e w' => e = .returned (.bool p) ∧ w = w' := by
  subst h; exact risdig b w
theorem tw_len (t : List UInt8) : (t.takeWhile isDig).length ≤ t.length := by
  exact List.IsPrefix.length_le (List.takeWhile_prefix isDig)
theorem tw_in (t : List UInt8) (j : Nat) (h : j < (t.takeWhile isDig).length) (h2 : j < t.length) : isDig t[j] = true := by
  have e : t[j] = (t.takeWhile isDig)[j] := by
    have := List.takeWhile_append_dropWhile (p := isDig) (l := t)
    rw [List.getElem_of_eq this.symm h2, List.getElem_append_left h]
  rw [e]
  exact tw_all isDig t _ (List.getElem_mem h)
theorem tw_out (t : List UInt8) (h2 : (t.takeWhile isDig).length < t.length) : isDig t[(t.takeWhile isDig).length] = false := by
  have e := List.takeWhile_append_dropWhile (p := isDig) (l := t)
  have hd := List.head?_dropWhile_not isDig t
  cases hr : t.dropWhile isDig with
  | nil => rw [hr, List.append_nil] at e; rw [e] at h2; omega
  | cons c r =>
    rw [hr] at hd
    have : t[(t.takeWhile isDig).length] = c := by
      rw [List.getElem_of_eq e.symm h2, List.getElem_append_right (Nat.le_refl _)]
      simp [hr]
    rw [this]
    simpa using hd
set_option maxHeartbeats 1000000 in
theorem rdigits_t (l : List UInt8) (at' k : Nat) (hl : l.length ≤ 9223372036854775807) (ha : at' ≤ l.length) (hk : ((l.drop at').takeWhile isDig).length = k) (w : World) : Calls Tryz.prog 95 #[.string ⟨l.toArray⟩, .int .i64 (at' : Int)] w fun e w' => e = .returned (.int .i64 (k : Int)) ∧ w = w' := by
  have hkl : k ≤ l.length - at' := by
    have := tw_len (l.drop at')
    rw [hk] at this
    simpa using this
  have hin : ∀ j (h : j < k) (h2 : at' + j < l.length), isDig l[at' + j] = true := fun j h h2 => by
    have := tw_in (l.drop at') j (by omega) (by simp; omega)
    simpa using this
  have hout : ∀ (h2 : at' + k < l.length), isDig l[at' + k] = false := fun h2 => by
    have := tw_out (l.drop at') (by rw [hk]; simp; omega)
    simp only [hk] at this
    simpa using this
  have hin' := Lib.hid hin
  have hout' := Lib.hid hout
  clear hin hout hk
  go_enter Tryz.func95, Tryz.ntmps95
  go_wp2
  go_loop [5] (fun n => ∃ j : Nat, j ≤ k ∧ n = .int .i64 (j : Int)) (fun n => k - (intOf n).toNat)
  case atStart => exact ⟨0, by omega, rfl⟩
  case round =>
    obtain ⟨j, hj, rfl⟩ := hrel
    by_cases h1 : at' + j < l.length
    · have hb : at' + j < (⟨l.toArray⟩ : ByteArray).size := by show at' + j < l.toArray.size; simpa using h1
      have hc : ((at' : Int) + (j : Int)).toNat = at' + j := by omega
      by_cases h2 : j < k
      · have hd := Lib.hid (hin'.out j h2 h1)
        go_wp2_with (go_at_call 120; refine (risdig_as ((⟨l.toArray⟩ : ByteArray)[at' + j]'hb) true hd.out _).mono ?_; rintro e w1 ⟨rfl, rfl⟩)
        go_round
        case rel => exact ⟨j + 1, by omega, by go_num⟩
        case measure => simp [intOf]; omega
      · obtain rfl : j = k := by omega
        have hd := Lib.hid (hout'.out h1)
        go_wp2_with (go_at_call 120; refine (risdig_as ((⟨l.toArray⟩ : ByteArray)[at' + j]'hb) false hd.out _).mono ?_; rintro e w1 ⟨rfl, rfl⟩)
        go_ret
        exact ⟨rfl, rfl⟩
    · obtain rfl : j = k := by omega
      go_wp2
      go_ret
      exact ⟨rfl, rfl⟩
end Go.Proofs.YtiekhbagpmnboaaGreatDoor
namespace Go.Proofs.YtiekhbagpmnboaaGreatDoor
open Go.RowKit

theorem rdigits_as (l : List UInt8) (z : Int) (at' k : Nat) (hz : z = (at' : Int)) (hl : l.length ≤ 9223372036854775807) (ha : at' ≤ l.length) (hk : ((l.drop at').takeWhile isDig).length = k) (w : World) : Calls Tryz.prog 95 #[.string ⟨l.toArray⟩, .int .i64 z] w fun e w' => e = .returned (.int .i64 (k : Int)) ∧ w = w' := by
  subst hz
  exact rdigits_t l at' k hl ha hk w
end Go.Proofs.YtiekhbagpmnboaaGreatDoor
namespace Go.Proofs.YtiekhbagpmnboaaGreatDoor
open Go

theorem rtw_len (t : List UInt8) : (t.takeWhile isDig).length ≤ t.length := List.IsPrefix.length_le (List.takeWhile_prefix isDig)
theorem rtw_take (t : List UInt8) : t.take (t.takeWhile isDig).length = t.takeWhile isDig := by
  have h : (t.takeWhile isDig ++ t.dropWhile isDig).take (t.takeWhile isDig).length = t.takeWhile isDig := List.take_left
  rwa [List.takeWhile_append_dropWhile] at h
theorem rtw_drop (t : List UInt8) : t.drop (t.takeWhile isDig).length = t.dropWhile isDig := by
  have h : (t.takeWhile isDig ++ t.dropWhile isDig).drop (t.takeWhile isDig).length = t.dropWhile isDig := List.drop_left
  rwa [List.takeWhile_append_dropWhile] at h
theorem rtw_all (t : List UInt8) : (t.takeWhile isDig).all isDig = true := by
  rw [List.all_eq_true]; exact tw_all isDig t
theorem rest_dig (R : List UInt8) (r : Nat) (h : (R.takeWhile isDig).length = r) : digOk R 4 = (decide (1 ≤ r) && decide (r ≤ 4) && decide (r = R.length)) := by
  have h1 := rtw_take R
  have h2 := rtw_all R
  rw [h] at h1
  by_cases hr : r = R.length
  · rw [hr, List.take_length] at h1
    rw [← h1] at h2
    simp only [digOk, h2, hr, decide_true, Bool.and_true]
    rw [Bool.eq_iff_iff]; simp; omega
  · have : R.all isDig = false := by
      cases ha : R.all isDig
      · rfl
      · have := (all_take ha).1
        rw [this] at h
        exact absurd h.symm hr
    simp [digOk, this, hr]
theorem whole_dig2 (t : List UInt8) (k : Nat) (h : (t.takeWhile isDig).length = k) : digOk (t.takeWhile isDig) 15 = (decide (1 ≤ k) && decide (k ≤ 15)) := by
  simp only [digOk, rtw_all, h, Bool.and_true]
  rw [Bool.eq_iff_iff]; simp; omega
theorem take_all {l : List UInt8} (h : l.all isDig = true) (j : Nat) : (l.take j).all isDig = true := by
  rw [List.all_eq_true] at *
  exact fun b hb => h b (List.mem_of_mem_take hb)
theorem val_take (l : List UInt8) (j : Nat) (hj : j < l.length) : valL (l.take (j + 1)) = valL (l.take j) * 10 + (l[j].toNat - 48) := by
  rw [List.take_succ_eq_append_getElem hj, val_snoc]
theorem val_small {l : List UInt8} (h : l.all isDig = true) (k : Nat) (hk : l.length ≤ k) : valL l < 10 ^ k :=
  Nat.lt_of_lt_of_le (val_bound h) (Nat.pow_le_pow_right (by omega) hk)
theorem dig_range {l : List UInt8} (h : l.all isDig = true) (j : Nat) (hj : j < l.length) : 48 ≤ l[j].toNat ∧ l[j].toNat ≤ 57 := by
  rw [List.all_eq_true] at h
  have := h l[j] (List.getElem_mem hj)
  simpa [isDig] using this
/-- the whole part, digit by digit -/
theorem loopV (D : List UInt8) (hD : D.all isDig = true) (h15 : D.length ≤ 15) (j : Nat) (hj : j < D.length) :
    48 ≤ D[j].toNat ∧ D[j].toNat ≤ 57 ∧ valL (D.take j) ≤ 1000000000000000 ∧ valL (D.take (j + 1)) = valL (D.take j) * 10 + (D[j].toNat - 48) := by
  obtain ⟨h1, h2⟩ := dig_range hD j hj
  refine ⟨h1, h2, ?_, val_take D j hj⟩
  have := val_small (take_all hD j) 15 (by simp; omega)
  omega
/-- the four digits behind -/
theorem loopU (D S : List UInt8) (hD : D.all isDig = true) (h15 : D.length ≤ 15) (hS : S.all isDig = true) (h4 : S.length = 4) (j : Nat) (hj : j < 4) :
    valL (D ++ S.take j) ≤ 1000000000000000000 ∧ valL (D ++ S.take (j + 1)) ≤ 18446744073709551615 ∧ valL (D ++ S.take (j + 1)) = valL (D ++ S.take j) * 10 + ((S[j]'(by omega)).toNat - 48) := by
  have a1 : (D ++ S.take j).all isDig = true := by rw [List.all_append, hD, take_all hS j]; rfl
  have a2 : (D ++ S.take (j + 1)).all isDig = true := by rw [List.all_append, hD, take_all hS (j + 1)]; rfl
  have b1 := val_small a1 18 (by simp; omega)
  have b2 := val_small a2 19 (by simp; omega)
  refine ⟨by omega, by omega, ?_⟩
  rw [List.take_succ_eq_append_getElem (by omega), ← List.append_assoc, val_snoc]
end Go.Proofs.YtiekhbagpmnboaaGreatDoor
