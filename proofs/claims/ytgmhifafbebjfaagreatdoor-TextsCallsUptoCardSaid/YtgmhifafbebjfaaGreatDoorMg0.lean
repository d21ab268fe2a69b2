/-
  Small lemmas that every proof of this seat uses: an argument of any type without pointers, opened to its cells; the row's last step; strings.Cut at a separator of one byte, any text.
-/
import Derived.Test.YtgmhifafbebjfaaGreatDoorRows
import Derived.Test.YtgmhifafbebjfaaGreatDoorShelf
import Derived.WalkKit
import Derived.ProofKit
import Derived.OpenShut
import Derived.Carry
import Derived.ChangeSame
import Derived.Lib.Hide
import Derived.Deep.Draws
import Derived.WalkSpells
import Derived.WalkLawsBesides
import Derived.StillTactics
import Derived.Laws.Pointers
import Derived.Deep.RegionHeld3
import Derived.Deep.QuietTactic
import Derived.BigQuiet
import Derived.RowKit3
import Derived.Lib.OthersKept
import Derived.OwnWalk
import Derived.Lib.IndexLaws
namespace Go.Proofs.YtgmhifafbebjfaaGreatDoor
open Go.ChangeShapes Go.WideShapes Go.ChangeAt Go.RowKit

theorem bcell {W w1 : World} (hb : Below W.heap.size W w1) : (∀ b o, b < W.heap.size → w1.cell? ⟨b, o, none⟩ = W.cell? ⟨b, o, none⟩) ∧ (∀ b o, b < W.heap.size → w1.frozen? ⟨b, o, none⟩ = W.frozen? ⟨b, o, none⟩) :=
  ⟨fun b o h => hb.cell (p := ⟨b, o, Option.none⟩) h, fun b o h => hb.frozen (p := ⟨b, o, Option.none⟩) h⟩

theorem bkeep {W w1 : World} (hb : Below W.heap.size W w1) (n : Nat) (hn : n ≤ W.heap.size) :
    (∀ b o, b < n → w1.cell? ⟨b, o, none⟩ = W.cell? ⟨b, o, none⟩) ∧ (∀ b o, b < n → w1.frozen? ⟨b, o, none⟩ = W.frozen? ⟨b, o, none⟩) ∧ n ≤ w1.heap.size :=
  ⟨fun b o h => hb.cell (p := ⟨b, o, Option.none⟩) (Nat.lt_of_lt_of_le h hn), fun b o h => hb.frozen (p := ⟨b, o, Option.none⟩) (Nat.lt_of_lt_of_le h hn), Nat.le_trans hn hb.size⟩
theorem below_drewN {B : Nat} {a w : World} (h : Below B a w) (n : Nat) : Below B a (w.drewN n) := ⟨h.os, h.tape, h.output, h.size, h.block⟩

theorem own : ownKnob Tryz.prog.godebug = none := by kernel_rfl
theorem laidOut : laidOutB Tryz.prog = true := by kernel_rfl

/-! ### Blocks that the walk counts: no two are one -/
@[simp, go_sem] theorem far2 (n : Nat) : (n + 1 + 1 = n) = False := eq_false (by omega)
@[simp, go_sem] theorem far2' (n : Nat) : (n = n + 1 + 1) = False := eq_false (by omega)
@[simp, go_sem] theorem far3 (n : Nat) : (n + 1 + 1 + 1 = n) = False := eq_false (by omega)
@[simp, go_sem] theorem far3' (n : Nat) : (n = n + 1 + 1 + 1) = False := eq_false (by omega)
@[simp, go_sem] theorem far4 (n : Nat) : (n + 1 + 1 + 1 + 1 = n) = False := eq_false (by omega)
@[simp, go_sem] theorem far4' (n : Nat) : (n = n + 1 + 1 + 1 + 1) = False := eq_false (by omega)
@[simp, go_sem] theorem far5 (n : Nat) : (n + 1 + 1 + 1 + 1 + 1 = n) = False := eq_false (by omega)
@[simp, go_sem] theorem far5' (n : Nat) : (n = n + 1 + 1 + 1 + 1 + 1) = False := eq_false (by omega)
@[simp, go_sem] theorem far6 (n : Nat) : (n + 1 + 1 + 1 + 1 + 1 + 1 = n) = False := eq_false (by omega)
@[simp, go_sem] theorem far6' (n : Nat) : (n = n + 1 + 1 + 1 + 1 + 1 + 1) = False := eq_false (by omega)

/-! ### An argument opened to its cells -/
section
variable {H : Type} {enc : TypeId × Value → H} {P : Program} {w : World} {base : Nat} {spare : Nat → Bool} {held : Bool}

/-- the fields lie one behind the other from o on, as many cells as told; how many in all -/
def inRow : Nat → List Nat → List Nat → Option Nat
  | o, [], [] => some o
  | o, p :: ps, n :: ns => if p = o then inRow (o + n) ps ns else Option.none
  | _, _, _ => Option.none

/-- the types of a type's cells, in order -/
def leaves (P : Program) : Nat → TypeId → Option (List TypeId)
  | 0, _ => Option.none
  | n + 1, t =>
    match P.underlying t with
    | some (.struct fs) => (fs.toList.mapM fun f => leaves P n f.type).bind fun ls =>
        if inRow 0 (fs.toList.map (·.offset)) (ls.map List.length) = some (P.cellsOf t) && (fs.toList.map fun f => P.cellsOf f.type) == ls.map List.length then some ls.flatten else Option.none
    | some (.array k e) => (leaves P n e).bind fun l => if P.cellsOf e = l.length && P.cellsOf t = k * l.length then some (List.replicate k l).flatten else Option.none
    | some _ => if P.cellsOf t = 1 then some [t] else Option.none
    | Option.none => Option.none

/-- one cell that reads at a type -/
def Reads1 {H : Type} (enc : TypeId × Value → H) (P : Program) (w : World) (base : Nat) (spare : Nat → Bool) (held : Bool) (t : TypeId) (v : Value) : Prop :=
  ∃ (n : Nat) (y : DataW H × List MemPlace), DataW.trod enc P w base spare held n t [v] = some y
def ReadsAll {H : Type} (enc : TypeId × Value → H) (P : Program) (w : World) (base : Nat) (spare : Nat → Bool) (held : Bool) : List TypeId → List Value → Prop
  | [], vs => vs = []
  | t :: ts, vs => ∃ v r, vs = v :: r ∧ Reads1 enc P w base spare held t v ∧ ReadsAll enc P w base spare held ts r

theorem ReadsAll.length : ∀ {ts : List TypeId} {vs : List Value}, ReadsAll enc P w base spare held ts vs → vs.length = ts.length
  | [], vs, h => by rw [show vs = [] from h]; rfl
  | t :: ts, vs, h => by
    obtain ⟨v, r, rfl, _, hr⟩ := h
    simp [ReadsAll.length hr]
theorem ReadsAll.append : ∀ {ts us : List TypeId} {vs xs : List Value}, ReadsAll enc P w base spare held ts vs → ReadsAll enc P w base spare held us xs → ReadsAll enc P w base spare held (ts ++ us) (vs ++ xs)
  | [], us, vs, xs, h, k => by rw [show vs = [] from h]; exact k
  | t :: ts, us, vs, xs, h, k => by
    obtain ⟨v, r, rfl, h1, hr⟩ := h
    exact ⟨v, r ++ xs, rfl, h1, ReadsAll.append hr k⟩

theorem readsAll_fields {n : Nat} (ih : ∀ t l (fuel : Nat) cs x, leaves P n t = some l → DataW.trod enc P w base spare held fuel t cs = some x → ReadsAll enc P w base spare held l cs) {cs : List Value} {m : Nat} {x : Field → DataW H × List MemPlace} :
    ∀ (fs : List Field) (ls : List (List TypeId)) (o tot : Nat), fs.mapM (fun f => leaves P n f.type) = some ls → inRow o (fs.map (·.offset)) (ls.map List.length) = some tot →
      (fs.map fun f => P.cellsOf f.type) = ls.map List.length → cs.length = tot → (∀ f ∈ fs, ∃ y, DataW.trod enc P w base spare held m f.type ((cs.drop f.offset).take (P.cellsOf f.type)) = some y) →
      ReadsAll enc P w base spare held ls.flatten (cs.drop o)
  | [], ls, o, tot, hl, hr, _, hlen, _ => by
    simp at hl; subst hl
    simp [inRow] at hr
    subst hr
    exact List.drop_eq_nil_of_le (by omega)
  | f :: fs, ls, o, tot, hl, hr, hc, hlen, hf => by
    simp only [List.mapM_cons, Option.bind_eq_bind, Option.bind_eq_some_iff, Option.pure_def, Option.some.injEq] at hl
    obtain ⟨l, h1, ls', h2, rfl⟩ := hl
    simp only [List.map_cons, inRow] at hr
    split at hr
    · rename_i ho
      simp only [List.map_cons, List.cons.injEq] at hc
      obtain ⟨y, hy⟩ := hf f (by simp)
      have e1 := ih f.type l m _ y h1 hy
      rw [ho, hc.1] at e1
      have e2 := readsAll_fields ih (x := x) fs ls' (o + l.length) tot h2 hr hc.2 hlen (fun g hg => hf g (by simp [hg]))
      have e3 : cs.drop o = (cs.drop o).take l.length ++ cs.drop (o + l.length) := by rw [← List.drop_drop, List.take_append_drop]
      rw [e3, List.flatten_cons]
      exact ReadsAll.append e1 e2
    · cases hr

theorem readsAll_elems {l : List TypeId} {cs : List Value} : ∀ (k o : Nat), cs.length = (o + k) * l.length → (∀ i, i < o + k → ReadsAll enc P w base spare held l ((cs.drop (i * l.length)).take l.length)) →
    ReadsAll enc P w base spare held (List.replicate k l).flatten (cs.drop (o * l.length))
  | 0, o, hlen, _ => by
    simp only [List.replicate_zero, List.flatten_nil]
    exact List.drop_eq_nil_of_le (by simp at hlen; omega)
  | k + 1, o, hlen, h => by
    have e1 := h o (by omega)
    have e2 := readsAll_elems k (o + 1) (by rw [hlen]; congr 1; omega) (fun i hi => h i (by omega))
    have e3 : cs.drop (o * l.length) = (cs.drop (o * l.length)).take l.length ++ cs.drop ((o + 1) * l.length) := by
      rw [Nat.add_mul, Nat.one_mul, ← List.drop_drop, List.take_append_drop]
    rw [e3, List.replicate_succ, List.flatten_cons]
    exact ReadsAll.append e1 e2

theorem one_of_trod {t : TypeId} {u : TypeDesc} {fuel : Nat} {cs : List Value} {x : DataW H × List MemPlace} (hu : P.underlying t = some u) (hs : ∀ fs, u ≠ .struct fs) (ha : ∀ k e, u ≠ .array k e)
    (h : DataW.trod enc P w base spare held fuel t cs = some x) : ∃ v, cs = [v] := by
  cases fuel with
  | zero => simp [DataW.trod] at h
  | succ m =>
    unfold DataW.trod at h
    rw [hu] at h
    split at h <;> first | exact ⟨_, rfl⟩ | (rename_i h1; simp at h1; exact absurd h1 (hs _)) | (rename_i h1; simp at h1; exact absurd h1 (ha _ _)) | (cases h)

theorem readsAll_of_trod : ∀ (n : Nat) (t : TypeId) (l : List TypeId) (fuel : Nat) (cs : List Value) (x : DataW H × List MemPlace), leaves P n t = some l → DataW.trod enc P w base spare held fuel t cs = some x → ReadsAll enc P w base spare held l cs
  | 0, t, l, fuel, cs, x, hl, h => by simp [leaves] at hl
  | n + 1, t, l, fuel, cs, x, hl, h => by
    have ih := readsAll_of_trod n
    rw [leaves] at hl
    split at hl
    · rename_i fs hu
      simp only [Option.bind_eq_some_iff] at hl
      obtain ⟨ls, h1, h2⟩ := hl
      split at h2
      · rename_i hc
        simp only [Bool.and_eq_true, decide_eq_true_eq, beq_iff_eq] at hc
        obtain ⟨hc1, hc2⟩ := hc
        obtain rfl := Option.some.inj h2
        obtain ⟨xs, m, _, _, hlen, hxl, hf⟩ := DataW.trod_struct hu h
        have := readsAll_fields (P := P) (cs := cs) (m := m) (x := fun _ => x) ih fs.toList ls 0 _ h1 hc1 hc2 hlen (fun f hfm => by
          obtain ⟨i, hi, rfl⟩ := List.getElem_of_mem hfm
          have hi' : i < fs.size := by simpa using hi
          have := hf i fs[i] (by simp)
          rw [show xs[i]? = some (xs[i]'(by omega)) from List.getElem?_eq_getElem (by omega)] at this
          exact ⟨_, by simpa using this⟩)
        simpa using this
      · cases h2
    · rename_i k e hu
      simp only [Option.bind_eq_some_iff] at hl
      obtain ⟨l', h1, h2⟩ := hl
      split at h2
      · rename_i hc
        simp only [Bool.and_eq_true, decide_eq_true_eq] at hc
        obtain ⟨hc1, hc2⟩ := hc
        obtain rfl := Option.some.inj h2
        obtain ⟨xs, m, _, _, hlen, hxl, hf⟩ := DataW.trod_array hu h
        have := readsAll_elems (enc := enc) (P := P) (w := w) (base := base) (spare := spare) (held := held) (l := l') (cs := cs) k 0 (by rw [hlen, hc2]; simp) (fun i hi => by
          have := hf i (by omega)
          rw [show xs[i]? = some (xs[i]'(by omega)) from List.getElem?_eq_getElem (by omega), hc1] at this
          exact ih e l' m _ _ h1 this)
        simpa using this
      · cases h2
    · rename_i u hs ha hu
      split at hl
      · obtain rfl := Option.some.inj hl
        obtain ⟨v, rfl⟩ := one_of_trod hu (fun fs he => hs fs he) (fun k e he => ha k e he) h
        exact ⟨v, [], rfl, ⟨fuel, x, h⟩, rfl⟩
      · cases hl
    · cases hl

theorem Reads1.i64 {t : TypeId} {v : Value} (ht : P.underlying t = some (.int .i64)) (h : Reads1 enc P w base spare held t v) : ∃ n : Int, v = .int .i64 n ∧ -9223372036854775808 ≤ n ∧ n ≤ 9223372036854775807 := by
  obtain ⟨n, y, h⟩ := h
  obtain ⟨a, e, _, wa⟩ := DataW.trod_int ht h
  exact ⟨a, by simpa using e, bounds_i64 wa⟩
theorem Reads1.bool {t : TypeId} {v : Value} (ht : P.underlying t = some .bool) (h : Reads1 enc P w base spare held t v) : ∃ b : Bool, v = .bool b := by
  obtain ⟨n, y, h⟩ := h
  obtain ⟨a, e, _⟩ := DataW.trod_bool ht h
  exact ⟨a, by simpa using e⟩
theorem Reads1.string {t : TypeId} {v : Value} (ht : P.underlying t = some .string) (h : Reads1 enc P w base spare held t v) : ∃ s : ByteArray, v = .string s ∧ s.size ≤ maxLen := by
  obtain ⟨n, y, h⟩ := h
  obtain ⟨a, e, _, wa⟩ := DataW.trod_string ht h
  exact ⟨a, by simpa using e, wa⟩

end

/-! ### The row's last step: the result is true, what came in reads as it did -/
section
variable {H : Type} {enc : TypeId × Value → H} {P : Program}
theorem trodAll_stays (hl : laidOutB P = true) {W W' : World} (hb : Below W.heap.size W W') : ∀ {ts : List TypeId} {vs : List Value} {ds : List (DataW H)} {ps : List MemPlace}, (ts.all fun t => P.readableRec t && decide (t < P.types.size)) = true →
    DataW.TrodAll enc P W 0 (fun _ => true) true ts vs ds ps → (∀ x ∈ ps, x.block < W.heap.size) → DataW.TrodAll enc P W' 0 (fun b => decide (b < W.heap.size)) true ts vs ds ps
  | [], [], [], _, _, h, _ => h
  | t :: ts, v :: vs, d :: ds, ps, hr, h, hlt => by
    obtain ⟨p, q, h1, h2, rfl⟩ := h
    simp only [List.all_cons, Bool.and_eq_true, decide_eq_true_eq] at hr
    exact ⟨p, q, Below.trod hl hr.1.1 hr.1.2 h1 hb (fun x hx => hlt x (by simp [hx])), trodAll_stays hl hb hr.2 h2 (fun x hx => hlt x (by simp [hx])), rfl⟩
theorem law_post {f : Func} {s : ChangeSpec} {W W' : World} {args : Array Value} {ds gs : List (DataW H)} {before : List MemPlace} {bt : TypeId} (hl : laidOutB P = true) (hbool : P.underlying bt = some .bool) (hrt : f.resultTypes = #[bt])
    (hvars : s.vars = []) (hspec : ∀ ds : List (DataW H), ds.length = f.params.size → s.fn H (ds ++ []) = { results := [.lit (.bool true)], args := ds }) (hr : (f.params.toList.all fun t => P.readableRec t && decide (t < P.types.size)) = true)
    (hW : DataW.Whole enc P f.params.toList s.vars false W args.toList ds gs before) (hb : Below W.heap.size W W') : s.post enc P f false true false false W args (.bool true) W' := by
  have hW' := hW
  have hlt : ∀ p ∈ before, p.block < W.heap.size := fun p hp => hW.lt p hp
  obtain ⟨p, q, hA, hV, rfl, _, _⟩ := hW
  rw [hvars] at hV
  obtain ⟨rfl, rfl⟩ := trodVars_none hV
  have hlen : ds.length = f.params.size := by
    have : ∀ {ts : List TypeId} {vs : List Value} {ds : List (DataW H)} {ps : List MemPlace}, DataW.TrodAll enc P W 0 (fun _ => true) true ts vs ds ps → ds.length = ts.length := by
      intro ts
      induction ts with
      | nil => intro vs ds ps h; match vs, ds, h with | [], [], _ => rfl
      | cons t ts ih => intro vs ds ps h; match vs, ds, h with | v :: vs, d :: ds, ⟨_, _, _, h2, _⟩ => simp [ih h2]
    simpa using this hA
  refine ⟨ds, [], p ++ [], [], p, [], hW', ?_, ?_, ?_, hb.frame _, fun h => by cases h⟩
  · rw [hspec ds hlen, hrt]
    exact trodAll_mk1 (shut_bool hbool true)
  · rw [hspec ds hlen]
    exact trodAll_stays hl hb hr hA (fun x hx => hlt x (by simp [hx]))
  · rw [hspec ds hlen, hvars]
    rfl
end
end Go.Proofs.YtgmhifafbebjfaaGreatDoor
namespace Go.Proofs.YtgmhifafbebjfaaGreatDoor
open Go.RowKit

theorem idx_cases (l : List UInt8) (c : UInt8) : Lib.indexByte l c = -1 ∨ ∃ o : Nat, Lib.indexByte l c = o ∧ o < l.length := by
  have h := Lib.indexByte_ge l c
  by_cases h0 : Lib.indexByte l c = -1
  · exact .inl h0
  · obtain ⟨o, ho⟩ := Int.eq_ofNat_of_zero_le (show 0 ≤ Lib.indexByte l c by omega)
    refine .inr ⟨o, ho, ?_⟩
    have := (Lib.indexByte_some ho).1
    exact (List.getElem?_eq_some_iff.1 this).1
theorem ext_take' (l : List UInt8) (n : Nat) : (⟨l.toArray⟩ : ByteArray).extract 0 n = ⟨(l.take n).toArray⟩ := by
  apply ByteArray.ext
  simp
theorem ext_drop' (l : List UInt8) (n m : Nat) (h : l.length ≤ m) : (⟨l.toArray⟩ : ByteArray).extract n m = ⟨(l.drop n).toArray⟩ := by
  apply ByteArray.ext
  simp
  exact List.take_of_length_le (by simp; omega)

set_option maxHeartbeats 400000 in
theorem lcut0 (l : List UInt8) (c : UInt8) (h : Lib.indexByte l c = -1) (w : World) : Calls Tryz.prog 189 #[.string ⟨l.toArray⟩, .string ⟨#[c]⟩] w fun e w' => e = .returned (.tuple #[.string ⟨l.toArray⟩, .string ⟨#[]⟩, .bool false]) ∧ Below w.heap.size w w' := by
  have hi := Lib.hid h
  clear h
  go_enter Tryz.func189, Tryz.ntmps189
  go_wp2_with fail
  refine (Tryz.stringslite_Index_one _ c _).mono ?_
  rintro e w1 ⟨rfl, rfl⟩
  rw [show (⟨l.toArray⟩ : ByteArray).data.toList = l from by simp, hi.out]
  go_wp2
  go_ret3
  exact ⟨rfl, by (repeat (first | (with_reducible exact Below.refl _ _) | (with_reducible refine Below.alloc ?_ (by first | omega | (dsimp only; omega) | (simp <;> omega)) _) | (with_reducible refine Below.setCell ?_ (by first | omega | (dsimp only; omega) | (simp <;> omega)) _) | (with_reducible refine Below.drew ?_) | (with_reducible refine below_drewN ?_ _) | (with_reducible refine Below.trans ?_ (Below.mono (by assumption) (by first | omega | (dsimp only; omega) | (simp <;> omega))))))⟩
set_option maxHeartbeats 400000 in
theorem lcut1 (l : List UInt8) (c : UInt8) (o : Nat) (h : Lib.indexByte l c = o) (ho : o < l.length) (hm : l.length ≤ 9223372036854775807) (w : World) : Calls Tryz.prog 189 #[.string ⟨l.toArray⟩, .string ⟨#[c]⟩] w fun e w' => e = .returned (.tuple #[.string ⟨(l.take o).toArray⟩, .string ⟨(l.drop (o + 1)).toArray⟩, .bool true]) ∧ Below w.heap.size w w' := by
  have hi := Lib.hid h
  clear h
  have hx1 := ext_take' l o
  have hx2 := ext_drop' l (o + 1) l.length (Nat.le_refl _)
  go_enter Tryz.func189, Tryz.ntmps189
  go_wp2_with fail
  refine (Tryz.stringslite_Index_one _ c _).mono ?_
  rintro e w1 ⟨rfl, rfl⟩
  rw [show (⟨l.toArray⟩ : ByteArray).data.toList = l from by simp, hi.out]
  go_wp2
  go_quiet (fail)
  go_wp2
  go_ret3
  exact ⟨rfl, by (repeat (first | (with_reducible exact Below.refl _ _) | (with_reducible refine Below.alloc ?_ (by first | omega | (dsimp only; omega) | (simp <;> omega)) _) | (with_reducible refine Below.setCell ?_ (by first | omega | (dsimp only; omega) | (simp <;> omega)) _) | (with_reducible refine Below.drew ?_) | (with_reducible refine below_drewN ?_ _) | (with_reducible refine Below.trans ?_ (Below.mono (by assumption) (by first | omega | (dsimp only; omega) | (simp <;> omega))))))⟩
set_option maxHeartbeats 400000 in
theorem scut0 (l : List UInt8) (c : UInt8) (h : Lib.indexByte l c = -1) (w : World) : Calls Tryz.prog 148 #[.string ⟨l.toArray⟩, .string ⟨#[c]⟩] w fun e w' => e = .returned (.tuple #[.string ⟨l.toArray⟩, .string ⟨#[]⟩, .bool false]) ∧ Below w.heap.size w w' := by
  go_enter Tryz.func148, Tryz.ntmps148
  go_wp2_with fail
  refine (lcut0 l c h _).mono ?_
  rintro e w1 ⟨rfl, hb⟩
  go_wp2
  go_ret3
  exact ⟨rfl, by assumption⟩
set_option maxHeartbeats 400000 in
theorem scut1 (l : List UInt8) (c : UInt8) (o : Nat) (h : Lib.indexByte l c = o) (ho : o < l.length) (hm : l.length ≤ 9223372036854775807) (w : World) : Calls Tryz.prog 148 #[.string ⟨l.toArray⟩, .string ⟨#[c]⟩] w fun e w' => e = .returned (.tuple #[.string ⟨(l.take o).toArray⟩, .string ⟨(l.drop (o + 1)).toArray⟩, .bool true]) ∧ Below w.heap.size w w' := by
  go_enter Tryz.func148, Tryz.ntmps148
  go_wp2_with fail
  refine (lcut1 l c o h ho hm _).mono ?_
  rintro e w1 ⟨rfl, hb⟩
  go_wp2
  go_ret3
  exact ⟨rfl, by assumption⟩
end Go.Proofs.YtgmhifafbebjfaaGreatDoor
