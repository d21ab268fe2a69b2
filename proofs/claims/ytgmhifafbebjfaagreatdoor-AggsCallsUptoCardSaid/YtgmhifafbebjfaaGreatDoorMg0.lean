/-
 Small lemmas that every proof of this seat uses: an argument of any type without pointers, opened to its cells; the row's last step; Package dec and the document's own: May, size, signed; Neg, Add, Sub of package dec, and the document's own; A map by texts that a literal makes, in the call's own memory: filled, looked into; Package dec: Mod of both; Package dec: Floor, Whole of both.
-/
import Derived.Test.YtgmhifafbebjfaaGreatDoorRows
import Derived.WalkKit
import Derived.ProofKit
import Derived.OpenShut
import Derived.Carry
import Derived.ChangeSame
import Derived.Lib.Hide
import Derived.Deep.Draws
import Derived.WalkSpells
import Derived.WalkLawsBesides
import Derived.StillTactics
import Derived.Laws.Pointers
import Derived.Deep.RegionHeld3
import Derived.Deep.QuietTactic
import Derived.BigQuiet
import Derived.RowKit3
import Derived.Lib.OthersKept
import Derived.OwnWalk
import Derived.Lib.IndexLaws
import Derived.Lib.ItoaMem
import Derived.Laws.BitsAllLaws
import Derived.Maps.OwnSet
import Derived.Maps.AppendAt
set_option maxRecDepth 100000
set_option maxHeartbeats 32000000
namespace Go.Proofs.YtgmhifafbebjfaaGreatDoor
open Go.ChangeShapes Go.WideShapes Go.ChangeAt Go.RowKit

theorem bcell {W w1 : World} (hb : Below W.heap.size W w1) : (∀ b o, b < W.heap.size → w1.cell? ⟨b, o, none⟩ = W.cell? ⟨b, o, none⟩) ∧ (∀ b o, b < W.heap.size → w1.frozen? ⟨b, o, none⟩ = W.frozen? ⟨b, o, none⟩) :=
 ⟨fun b o h => hb.cell (p := ⟨b, o, Option.none⟩) h, fun b o h => hb.frozen (p := ⟨b, o, Option.none⟩) h⟩

theorem bkeep {W w1 : World} (hb : Below W.heap.size W w1) (n : Nat) (hn : n ≤ W.heap.size) :
  (∀ b o, b < n → w1.cell? ⟨b, o, none⟩ = W.cell? ⟨b, o, none⟩) ∧ (∀ b o, b < n → w1.frozen? ⟨b, o, none⟩ = W.frozen? ⟨b, o, none⟩) ∧ n ≤ w1.heap.size :=
 ⟨fun b o h => hb.cell (p := ⟨b, o, Option.none⟩) (Nat.lt_of_lt_of_le h hn), fun b o h => hb.frozen (p := ⟨b, o, Option.none⟩) (Nat.lt_of_lt_of_le h hn), Nat.le_trans hn hb.size⟩
theorem below_drewN {B : Nat} {a w : World} (h : Below B a w) (n : Nat) : Below B a (w.drewN n) := ⟨h.os, h.tape, h.output, h.size, h.block⟩

theorem own : ownKnob Tryz.prog.godebug = none := by kernel_rfl
theorem laidOut : laidOutB Tryz.prog = true := by kernel_rfl

/-! ### Blocks that the walk counts: no two are one -/
@[simp, go_sem] theorem far2 (n : Nat) : (n + 1 + 1 = n) = False := eq_false (by omega)
@[simp, go_sem] theorem far2' (n : Nat) : (n = n + 1 + 1) = False := eq_false (by omega)
@[simp, go_sem] theorem far3 (n : Nat) : (n + 1 + 1 + 1 = n) = False := eq_false (by omega)
@[simp, go_sem] theorem far3' (n : Nat) : (n = n + 1 + 1 + 1) = False := eq_false (by omega)
@[simp, go_sem] theorem far4 (n : Nat) : (n + 1 + 1 + 1 + 1 = n) = False := eq_false (by omega)
@[simp, go_sem] theorem far4' (n : Nat) : (n = n + 1 + 1 + 1 + 1) = False := eq_false (by omega)
@[simp, go_sem] theorem far5 (n : Nat) : (n + 1 + 1 + 1 + 1 + 1 = n) = False := eq_false (by omega)
@[simp, go_sem] theorem far5' (n : Nat) : (n = n + 1 + 1 + 1 + 1 + 1) = False := eq_false (by omega)
@[simp, go_sem] theorem far6 (n : Nat) : (n + 1 + 1 + 1 + 1 + 1 + 1 = n) = False := eq_false (by omega)
@[simp, go_sem] theorem far6' (n : Nat) : (n = n + 1 + 1 + 1 + 1 + 1 + 1) = False := eq_false (by omega)

/-! ### An argument opened to its cells -/
section
variable {H : Type} {enc : TypeId × Value → H} {P : Program} {w : World} {base : Nat} {spare : Nat → Bool} {held : Bool}

def inRow : Nat → List Nat → List Nat → Option Nat
 | o, [], [] => some o
 | o, p :: ps, n :: ns => if p = o then inRow (o + n) ps ns else Option.none
 | _, _, _ => Option.none

def leaves (P : Program) : Nat → TypeId → Option (List TypeId)
 | 0, _ => Option.none
 |
  n + 1, t =>
  match P.underlying t with
  | some (.struct fs) => (fs.toList.mapM fun f => leaves P n f.type).bind fun ls =>
    if inRow 0 (fs.toList.map (·.offset)) (ls.map List.length) = some (P.cellsOf t) && (fs.toList.map fun f => P.cellsOf f.type) == ls.map List.length then some ls.flatten else Option.none
  | some (.array k e) => (leaves P n e).bind fun l => if P.cellsOf e = l.length && P.cellsOf t = k * l.length then some (List.replicate k l).flatten else Option.none
  | some _ => if P.cellsOf t = 1 then some [t] else Option.none
  | Option.none => Option.none

def Reads1 {H : Type} (enc : TypeId × Value → H) (P : Program) (w : World) (base : Nat) (spare : Nat → Bool) (held : Bool) (t : TypeId) (v : Value) : Prop :=
 ∃ (n : Nat) (y : DataW H × List MemPlace), DataW.trod enc P w base spare held n t [v] = some y
def ReadsAll {H : Type} (enc : TypeId × Value → H) (P : Program) (w : World) (base : Nat) (spare : Nat → Bool) (held : Bool) : List TypeId → List Value → Prop
 | [], vs => vs = []
 | t :: ts, vs => ∃ v r, vs = v :: r ∧ Reads1 enc P w base spare held t v ∧ ReadsAll enc P w base spare held ts r

theorem ReadsAll.length : ∀ {ts : List TypeId} {vs : List Value}, ReadsAll enc P w base spare held ts vs → vs.length = ts.length
 | [], vs, h => by rw [show vs = [] from h]; rfl
 |
  t :: ts, vs, h => by
  obtain ⟨v, r, rfl, _, hr⟩ := h
  simp [ReadsAll.length hr]
theorem ReadsAll.append : ∀ {ts us : List TypeId} {vs xs : List Value}, ReadsAll enc P w base spare held ts vs → ReadsAll enc P w base spare held us xs → ReadsAll enc P w base spare held (ts ++ us) (vs ++ xs)
 | [], us, vs, xs, h, k => by rw [show vs = [] from h]; exact k
 |
  t :: ts, us, vs, xs, h, k => by
  obtain ⟨v, r, rfl, h1, hr⟩ := h
  exact ⟨v, r ++ xs, rfl, h1, ReadsAll.append hr k⟩

theorem readsAll_fields {n : Nat} (ih : ∀ t l (fuel : Nat) cs x, leaves P n t = some l → DataW.trod enc P w base spare held fuel t cs = some x → ReadsAll enc P w base spare held l cs) {cs : List Value} {m : Nat} {x : Field → DataW H × List MemPlace} :
  ∀ (fs : List Field) (ls : List (List TypeId)) (o tot : Nat), fs.mapM (fun f => leaves P n f.type) = some ls → inRow o (fs.map (·.offset)) (ls.map List.length) = some tot →
   (fs.map fun f => P.cellsOf f.type) = ls.map List.length → cs.length = tot → (∀ f ∈ fs, ∃ y, DataW.trod enc P w base spare held m f.type ((cs.drop f.offset).take (P.cellsOf f.type)) = some y) →
   ReadsAll enc P w base spare held ls.flatten (cs.drop o)
 |
  [], ls, o, tot, hl, hr, _, hlen, _ => by
  simp at hl; subst hl
  simp [inRow] at hr
  subst hr
  exact List.drop_eq_nil_of_le (by omega)
 |
  f :: fs, ls, o, tot, hl, hr, hc, hlen, hf => by
  simp only [List.mapM_cons, Option.bind_eq_bind, Option.bind_eq_some_iff, Option.pure_def, Option.some.injEq] at hl
  obtain ⟨l, h1, ls', h2, rfl⟩ := hl
  simp only [List.map_cons, inRow] at hr
  split at hr
  ·rename_i ho
   simp only [List.map_cons, List.cons.injEq] at hc
   obtain ⟨y, hy⟩ := hf f (by simp)
   have e1 := ih f.type l m _ y h1 hy
   rw [ho, hc.1] at e1
   have e2 := readsAll_fields ih (x := x) fs ls' (o + l.length) tot h2 hr hc.2 hlen (fun g hg => hf g (by simp [hg]))
   have e3 : cs.drop o = (cs.drop o).take l.length ++ cs.drop (o + l.length) := by rw [← List.drop_drop, List.take_append_drop]
   rw [e3, List.flatten_cons]
   exact ReadsAll.append e1 e2
  ·cases hr

theorem readsAll_elems {l : List TypeId} {cs : List Value} : ∀ (k o : Nat), cs.length = (o + k) * l.length → (∀ i, i < o + k → ReadsAll enc P w base spare held l ((cs.drop (i * l.length)).take l.length)) →
  ReadsAll enc P w base spare held (List.replicate k l).flatten (cs.drop (o * l.length))
 |
  0, o, hlen, _ => by
  simp only [List.replicate_zero, List.flatten_nil]
  exact List.drop_eq_nil_of_le (by simp at hlen; omega)
 |
  k + 1, o, hlen, h => by
  have e1 := h o (by omega)
  have e2 := readsAll_elems k (o + 1) (by rw [hlen]; congr 1; omega) (fun i hi => h i (by omega))
  have e3 : cs.drop (o * l.length) = (cs.drop (o * l.length)).take l.length ++ cs.drop ((o + 1) * l.length) := by
   rw [Nat.add_mul, Nat.one_mul, ← List.drop_drop, List.take_append_drop]
  rw [e3, List.replicate_succ, List.flatten_cons]
  exact ReadsAll.append e1 e2

theorem one_of_trod {t : TypeId} {u : TypeDesc} {fuel : Nat} {cs : List Value} {x : DataW H × List MemPlace} (hu : P.underlying t = some u) (hs : ∀ fs, u ≠ .struct fs) (ha : ∀ k e, u ≠ .array k e)
  (h : DataW.trod enc P w base spare held fuel t cs = some x) : ∃ v, cs = [v] := by
 cases fuel with
 | zero => simp [DataW.trod] at h
 |
  succ m =>
  unfold DataW.trod at h
  rw [hu] at h
  split at h <;> first | exact ⟨_, rfl⟩ | (rename_i h1; simp at h1; exact absurd h1 (hs _)) | (rename_i h1; simp at h1; exact absurd h1 (ha _ _)) | (cases h)

theorem readsAll_of_trod : ∀ (n : Nat) (t : TypeId) (l : List TypeId) (fuel : Nat) (cs : List Value) (x : DataW H × List MemPlace), leaves P n t = some l → DataW.trod enc P w base spare held fuel t cs = some x → ReadsAll enc P w base spare held l cs
 | 0, t, l, fuel, cs, x, hl, h => by simp [leaves] at hl
 |
  n + 1, t, l, fuel, cs, x, hl, h => by
  have ih := readsAll_of_trod n
  rw [leaves] at hl
  split at hl
  ·rename_i fs hu
   simp only [Option.bind_eq_some_iff] at hl
   obtain ⟨ls, h1, h2⟩ := hl
   split at h2
   ·rename_i hc
    simp only [Bool.and_eq_true, decide_eq_true_eq, beq_iff_eq] at hc
    obtain ⟨hc1, hc2⟩ := hc
    obtain rfl := Option.some.inj h2
    obtain ⟨xs, m, _, _, hlen, hxl, hf⟩ := DataW.trod_struct hu h
    have := readsAll_fields (P := P) (cs := cs) (m := m) (x := fun _ => x) ih fs.toList ls 0 _ h1 hc1 hc2 hlen (fun f hfm => by
     obtain ⟨i, hi, rfl⟩ := List.getElem_of_mem hfm
     have hi' : i < fs.size := by simpa using hi
     have := hf i fs[i] (by simp)
     rw [show xs[i]? = some (xs[i]'(by omega)) from List.getElem?_eq_getElem (by omega)] at this
     exact ⟨_, by simpa using this⟩)
    simpa using this
   ·cases h2
  ·rename_i k e hu
   simp only [Option.bind_eq_some_iff] at hl
   obtain ⟨l', h1, h2⟩ := hl
   split at h2
   ·rename_i hc
    simp only [Bool.and_eq_true, decide_eq_true_eq] at hc
    obtain ⟨hc1, hc2⟩ := hc
    obtain rfl := Option.some.inj h2
    obtain ⟨xs, m, _, _, hlen, hxl, hf⟩ := DataW.trod_array hu h
    have := readsAll_elems (enc := enc) (P := P) (w := w) (base := base) (spare := spare) (held := held) (l := l') (cs := cs) k 0 (by rw [hlen, hc2]; simp) (fun i hi => by
     have := hf i (by omega)
     rw [show xs[i]? = some (xs[i]'(by omega)) from List.getElem?_eq_getElem (by omega), hc1] at this
     exact ih e l' m _ _ h1 this)
    simpa using this
   ·cases h2
  ·rename_i u hs ha hu
   split at hl
   ·obtain rfl := Option.some.inj hl
    obtain ⟨v, rfl⟩ := one_of_trod hu (fun fs he => hs fs he) (fun k e he => ha k e he) h
    exact ⟨v, [], rfl, ⟨fuel, x, h⟩, rfl⟩
   ·cases hl
  ·cases hl

theorem Reads1.i64 {t : TypeId} {v : Value} (ht : P.underlying t = some (.int .i64)) (h : Reads1 enc P w base spare held t v) : ∃ n : Int, v = .int .i64 n ∧ -9223372036854775808 ≤ n ∧ n ≤ 9223372036854775807 := by
 obtain ⟨n, y, h⟩ := h
 obtain ⟨a, e, _, wa⟩ := DataW.trod_int ht h
 exact ⟨a, by simpa using e, bounds_i64 wa⟩
theorem Reads1.bool {t : TypeId} {v : Value} (ht : P.underlying t = some .bool) (h : Reads1 enc P w base spare held t v) : ∃ b : Bool, v = .bool b := by
 obtain ⟨n, y, h⟩ := h
 obtain ⟨a, e, _⟩ := DataW.trod_bool ht h
 exact ⟨a, by simpa using e⟩
theorem Reads1.string {t : TypeId} {v : Value} (ht : P.underlying t = some .string) (h : Reads1 enc P w base spare held t v) : ∃ s : ByteArray, v = .string s ∧ s.size ≤ maxLen := by
 obtain ⟨n, y, h⟩ := h
 obtain ⟨a, e, _, wa⟩ := DataW.trod_string ht h
 exact ⟨a, by simpa using e, wa⟩

end

/-! ### The row's last step: the result is true, what came in reads as it did -/
section
variable {H : Type} {enc : TypeId × Value → H} {P : Program}
theorem trodAll_stays (hl : laidOutB P = true) {W W' : World} (hb : Below W.heap.size W W') : ∀ {ts : List TypeId} {vs : List Value} {ds : List (DataW H)} {ps : List MemPlace}, (ts.all fun t => P.readableRec t && decide (t < P.types.size)) = true →
  DataW.TrodAll enc P W 0 (fun _ => true) true ts vs ds ps → (∀ x ∈ ps, x.block < W.heap.size) → DataW.TrodAll enc P W' 0 (fun b => decide (b < W.heap.size)) true ts vs ds ps
 | [], [], [], _, _, h, _ => h
 |
  t :: ts, v :: vs, d :: ds, ps, hr, h, hlt => by
  obtain ⟨p, q, h1, h2, rfl⟩ := h
  simp only [List.all_cons, Bool.and_eq_true, decide_eq_true_eq] at hr
  exact ⟨p, q, Below.trod hl hr.1.1 hr.1.2 h1 hb (fun x hx => hlt x (by simp [hx])), trodAll_stays hl hb hr.2 h2 (fun x hx => hlt x (by simp [hx])), rfl⟩
theorem law_post {f : Func} {s : ChangeSpec} {W W' : World} {args : Array Value} {ds gs : List (DataW H)} {before : List MemPlace} {bt : TypeId} (hl : laidOutB P = true) (hbool : P.underlying bt = some .bool) (hrt : f.resultTypes = #[bt])
  (hvars : s.vars = []) (hspec : ∀ ds : List (DataW H), ds.length = f.params.size → s.fn H (ds ++ []) = { results := [.lit (.bool true)], args := ds }) (hr : (f.params.toList.all fun t => P.readableRec t && decide (t < P.types.size)) = true)
  (hW : DataW.Whole enc P f.params.toList s.vars false W args.toList ds gs before) (hb : Below W.heap.size W W') : s.post enc P f false true false false W args (.bool true) W' := by
 have hW' := hW
 have hlt : ∀ p ∈ before, p.block < W.heap.size := fun p hp => hW.lt p hp
 obtain ⟨p, q, hA, hV, rfl, _, _⟩ := hW
 rw [hvars] at hV
 obtain ⟨rfl, rfl⟩ := trodVars_none hV
 have hlen : ds.length = f.params.size := by
  have : ∀ {ts : List TypeId} {vs : List Value} {ds : List (DataW H)} {ps : List MemPlace}, DataW.TrodAll enc P W 0 (fun _ => true) true ts vs ds ps → ds.length = ts.length := by
   intro ts
   induction ts with
   | nil => intro vs ds ps h; match vs, ds, h with | [], [], _ => rfl
   | cons t ts ih => intro vs ds ps h; match vs, ds, h with | v :: vs, d :: ds, ⟨_, _, _, h2, _⟩ => simp [ih h2]
  simpa using this hA
 refine ⟨ds, [], p ++ [], [], p, [], hW', ?_, ?_, ?_, hb.frame _, fun h => by cases h⟩
 ·rw [hspec ds hlen, hrt]
  exact trodAll_mk1 (shut_bool hbool true)
 ·rw [hspec ds hlen]
  exact trodAll_stays hl hb hr hA (fun x hx => hlt x (by simp [hx]))
 ·rw [hspec ds hlen, hvars]
  rfl
end
end Go.Proofs.YtgmhifafbebjfaaGreatDoor
namespace Go.Proofs.YtgmhifafbebjfaaGreatDoor
open Go.RowKit

def decMay (x : Int) : Bool := !(decide (x = -9223372036854775808))
def exV (n : Int) : Int := if -9223372036854775807 ≤ n ∧ n ≤ 9223372036854775807 then n else 0
def exC (n : Int) : Int := if -9223372036854775807 ≤ n ∧ n ≤ 9223372036854775807 then 0 else 2
def absI (x : Int) : Int := if x < 0 then -x else x

theorem ret_ub {a a' : Int} {b b' : Bool} (h : a = a') (k : b = b') : Ending.returned (.tuple #[.int .u64 a, .bool b]) = Ending.returned (.tuple #[.int .u64 a', .bool b']) := by rw [h, k]
theorem ret_ii {a a' b b' : Int} (h : a = a') (k : b = b') : Ending.returned (.tuple #[.int .i64 a, .int .i64 b]) = Ending.returned (.tuple #[.int .i64 a', .int .i64 b']) := by rw [h, k]
theorem ret_ib {a a' : Int} {b b' : Bool} (h : a = a') (k : b = b') : Ending.returned (.tuple #[.int .i64 a, .bool b]) = Ending.returned (.tuple #[.int .i64 a', .bool b']) := by rw [h, k]
theorem ret_b {b b' : Bool} (k : b = b') : Ending.returned (.bool b) = Ending.returned (.bool b') := by rw [k]

theorem dmay_any (x : Int) (hx : -9223372036854775808 ≤ x ∧ x ≤ 9223372036854775807) (w : World) : Calls Tryz.prog 87 #[.int .i64 x] w fun e w' => e = .returned (.bool (decMay x)) ∧ w = w' := by
 obtain ⟨x0, x1⟩ := hx
 go_enter Tryz.func87, Tryz.ntmps87
 go_wp2
 all_goals go_ret
 all_goals refine ⟨ret_b (Bool.eq_iff_iff.2 ?_), rfl⟩
 all_goals simp [decMay]
 all_goals try omega
theorem drmay_any (x : Int) (hx : -9223372036854775808 ≤ x ∧ x ≤ 9223372036854775807) (w : World) : Calls Tryz.prog 164 #[.int .i64 x] w fun e w' => e = .returned (.bool (decMay x)) ∧ w = w' := by
 obtain ⟨x0, x1⟩ := hx
 go_enter Tryz.func164, Tryz.ntmps164
 go_wp2
 all_goals go_ret
 all_goals refine ⟨ret_b (Bool.eq_iff_iff.2 ?_), rfl⟩
 all_goals simp [decMay]
 all_goals try omega
theorem size_any (x : Int) (hx : -9223372036854775808 ≤ x ∧ x ≤ 9223372036854775807) (w : World) : Calls Tryz.prog 157 #[.int .i64 x] w fun e w' => e = .returned (.tuple #[.int .u64 (absI x), .bool (decide (x < 0))]) ∧ w = w' := by
 obtain ⟨x0, x1⟩ := hx
 go_enter Tryz.func157, Tryz.ntmps157
 go_wp2
 all_goals go_ret2
 all_goals refine ⟨ret_ub ?_ (Bool.eq_iff_iff.2 ?_), rfl⟩
 all_goals simp [absI, IntKind.wrap_u64]
 all_goals repeat' split
 all_goals omega
theorem rsize_any (x : Int) (hx : -9223372036854775808 ≤ x ∧ x ≤ 9223372036854775807) (w : World) : Calls Tryz.prog 165 #[.int .i64 x] w fun e w' => e = .returned (.tuple #[.int .u64 (absI x), .bool (decide (x < 0))]) ∧ w = w' := by
 obtain ⟨x0, x1⟩ := hx
 go_enter Tryz.func165, Tryz.ntmps165
 go_wp2
 all_goals go_ret2
 all_goals refine ⟨ret_ub ?_ (Bool.eq_iff_iff.2 ?_), rfl⟩
 all_goals simp [absI, IntKind.wrap_u64, wrap64]
 all_goals repeat' split
 all_goals omega
theorem signed_any (n : Int) (hn : 0 ≤ n ∧ n ≤ 18446744073709551615) (low : Bool) (w : World) : Calls Tryz.prog 198 #[.int .u64 n, .bool low] w fun e w' => e = .returned (.tuple #[.int .i64 (exV (if low then -n else n)), .int .i64 (exC (if low then -n else n))]) ∧ w = w' := by
 obtain ⟨n0, n1⟩ := hn
 cases low
 all_goals
  go_enter Tryz.func198, Tryz.ntmps198
  go_wp2
 all_goals go_ret2
 all_goals refine ⟨ret_ii ?_ ?_, rfl⟩
 all_goals simp [exV, exC]
 all_goals repeat' split
 all_goals omega
theorem rsigned_any (n : Int) (hn : 0 ≤ n ∧ n ≤ 18446744073709551615) (low : Bool) (w : World) : Calls Tryz.prog 168 #[.int .u64 n, .bool low] w fun e w' => e = .returned (.tuple #[.int .i64 (exV (if low then -n else n)), .int .i64 (exC (if low then -n else n))]) ∧ w = w' := by
 obtain ⟨n0, n1⟩ := hn
 cases low
 all_goals
  go_enter Tryz.func168, Tryz.ntmps168
  go_wp2
 all_goals go_ret2
 all_goals refine ⟨ret_ii ?_ ?_, rfl⟩
 all_goals simp [exV, exC]
 all_goals repeat' split
 all_goals omega
end Go.Proofs.YtgmhifafbebjfaaGreatDoor
namespace Go.Proofs.YtgmhifafbebjfaaGreatDoor
open Go.RowKit

theorem may_no {x : Int} (h : x = -9223372036854775808) : decMay x = false := by subst h; decide
theorem may_yes {x : Int} (h : x ≠ -9223372036854775808) : decMay x = true := by simp [decMay, h]
theorem sum_out {n : Int} (h : n < -9223372036854775807 ∨ 9223372036854775807 < n) : exV n = 0 ∧ exC n = 2 := by simp [exV, exC]; omega

end Go.Proofs.YtgmhifafbebjfaaGreatDoor
namespace Go.Proofs.YtgmhifafbebjfaaGreatDoor
open Go.RowKit

open Go.Maps (Keyed)

abbrev heldR (v : Value) : Option (DataW Value × List MemPlace) := some (.held v, [])
def keyL (s : ByteArray) : Lit := .string s.data.toList
def mkD : List (ByteArray × Value) → DataW Value
 | [] => .map []
 | (k, x) :: l => (mkD l).put (keyL k) (.held x)
def lookL (z : Value) : List (ByteArray × Value) → ByteArray → Value
 | [], _ => z
 | (k, x) :: l, s => if s = k then x else lookL z l s
def hasL : List (ByteArray × Value) → ByteArray → Bool
 | [], _ => false
 | (k, _) :: l, s => decide (s = k) || hasL l s
theorem keyL_inj {s t : ByteArray} (h : keyL s = keyL t) : s = t := by
 unfold keyL at h
 injection h with h
 exact ByteArray.ext (Array.toList_inj.1 h)
theorem isMap_mkD : ∀ l, Maps.IsMap (mkD l)
 | [] => Maps.isMap_empty
 | (_, _) :: l => (isMap_mkD l).put _ _
theorem atKey_mkD (z : Value) (s : ByteArray) : ∀ l, (mkD l).atKey (keyL s) (.held z) = .held (lookL z l s)
 | [] => rfl
 |
  (k, x) :: l => by
  unfold mkD lookL
  by_cases h : s = k
  ·subst h
   rw [if_pos rfl, Maps.atKey_put_same (isMap_mkD l) (by exact trivial)]
  ·rw [if_neg h, Maps.atKey_put_other (fun e => h (keyL_inj e))]
   exact atKey_mkD z s l
theorem has_mkD (s : ByteArray) : ∀ l, Maps.has (mkD l) (keyL s) = hasL l s
 | [] => rfl
 |
  (k, x) :: l => by
  unfold mkD hasL
  by_cases h : s = k
  ·subst h
   rw [Maps.has_put_same (isMap_mkD l) (by exact trivial)]; simp
  ·rw [Maps.has_put_other (fun e => h (keyL_inj e)), has_mkD s l]; simp [h]

theorem upon_insert {P : Program} {w : World} {o : Oper} {a : Act} {K : Act → World → Prop} {Q : Exit → Act → World → Prop} (t k e : TypeId) (hk : P.underlying k = some .string) (ht : P.underlying t = some (.map k e)) {b n : Nat} {l : List (ByteArray × Value)}
  (hown : w.ownsMap P k heldR b n (mkD l)) (hn : n < maxLen) {key : ByteArray} {val : Value} (hks : key.size ≤ maxLen)
  (hK : ∀ w', w'.ownsMap P k heldR b (n + 1) (mkD ((key, val) :: l)) → w.grownBy w' (some b) → Oper.upon P o a K Q (.ok Next.skip w')) :
  Oper.upon P o a K Q ((Sem.run P (Instr.mapUpdate t (.map (some b)) (.string key) val) w).andThen fun _ w' => .ok Next.skip w') := by
 obtain ⟨w', hrun, r1, r2⟩ := hown.update (Maps.string_keyed hk) ht hn (Go.WideMaps.keyOf_string_mk hk hks) (val := val) rfl
 rw [hrun]
 exact hK w' r1 r2
theorem run_look_T {P : Program} {w : World} {t k e : TypeId} (hk : P.underlying k = some .string) (ht : P.underlying t = some (.map k e)) {z : Value} (hz : (zeroValue e).run P w = .ok z w) {b n : Nat} {l : List (ByteArray × Value)}
  (hown : w.ownsMap P k heldR b n (mkD l)) {key : ByteArray} (hks : key.size ≤ maxLen) : (Instr.lookup t (.map (some b)) (.string key) true).run P w = .ok (.tuple #[lookL z l key, .bool (hasL l key)]) w := by
 obtain ⟨v, ps, hrun, hv⟩ := hown.look_ok (Maps.string_keyed hk) ht hz (zd := .held z) (zp := []) rfl (key := .string key) (kl := keyL key) (Go.WideMaps.keyOf_string_mk hk hks)
 rw [atKey_mkD] at hv
 rw [has_mkD] at hrun
 have hv' : v = lookL z l key := by injection hv with hv; injection hv with hv _; injection hv
 rw [← hv']; exact hrun
theorem lookL_all {p : Value → Prop} {z : Value} (hz : p z) (s : ByteArray) : ∀ l : List (ByteArray × Value), (∀ x ∈ l, p x.2) → p (lookL z l s)
 | [], _ => hz
 |
  (k, x) :: l, h => by
  unfold lookL
  split
  ·exact h (k, x) (by simp)
  ·exact lookL_all hz s l (fun y hy => h y (by simp [hy]))
def ResAt (w : World) (R k : Nat) : Prop := ∃ cs t, w.heap[R]? = some (.cells cs t (0, 0)) ∧ cs.size = k
theorem ResAt.new (w : World) (cs : Array Value) (t : TypeId) : ResAt (w.alloc (.cells cs t)) w.heap.size cs.size := ⟨cs, t, heap_alloc_new w _, rfl⟩
theorem ResAt.new5 (w : World) (a b c d e : Value) (t : TypeId) : ResAt (w.alloc (.cells #[a, b, c, d, e] t)) w.heap.size 5 := ResAt.new w _ t
theorem ResAt.lt {w : World} {R k : Nat} (h : ResAt w R k) : R < w.heap.size := by
 obtain ⟨cs, t, h, _⟩ := h
 exact (Array.getElem?_eq_some_iff.1 h).1
theorem ResAt.alloc {w : World} {R k : Nat} (h : ResAt w R k) (o : Obj) : ResAt (w.alloc o) R k := by
 obtain ⟨cs, t, h, hs⟩ := h
 exact ⟨cs, t, (Below.heap_alloc w o R (Array.getElem?_eq_some_iff.1 h).1).trans h, hs⟩
theorem ResAt.drew {w : World} {R k : Nat} (h : ResAt w R k) : ResAt w.drew R k := h
theorem ResAt.below {w w' : World} {B R k : Nat} (h : ResAt w R k) (hb : Below B w w') (hR : R < B) : ResAt w' R k := by
 obtain ⟨cs, t, h, hs⟩ := h
 exact ⟨cs, t, (hb.block R hR).trans h, hs⟩
theorem ResAt.grown {w w' : World} {r : Option Nat} {R k : Nat} (h : ResAt w R k) (hg : w.grownBy w' r) (hr : some R ≠ r) : ResAt w' R k := by
 obtain ⟨cs, t, h, hs⟩ := h
 exact ⟨cs, t, (hg.block R (Array.getElem?_eq_some_iff.1 h).1 hr).trans h, hs⟩
theorem ResAt.setCell {w : World} {R k : Nat} (h : ResAt w R k) (p : Addr) (v : Value) : ResAt (w.setCell p v) R k := by
 obtain ⟨cs, t, h, hs⟩ := h
 by_cases e : R = p.block
 ·subst e
  by_cases hp : p.spot.isSome = true
  ·exact ⟨cs, t, by simp [World.setCell, Array.getElem?_modify, h, hp], hs⟩
  ·exact ⟨cs.setIfInBounds p.off v, t, by simp [World.setCell, Array.getElem?_modify, h, hp], by simpa using hs⟩
 ·exact ⟨cs, t, (Below.heap_setCell w p v R e).trans h, hs⟩
theorem ResAt.of_setCell {w : World} {R k : Nat} {p : Addr} {v : Value} (h : ResAt (w.setCell p v) R k) : ResAt w R k := by
 obtain ⟨cs, t, h, hs⟩ := h
 by_cases e : R = p.block
 ·subst e
  simp only [World.setCell, Array.getElem?_modify, if_true] at h
  cases hw : w.heap[p.block]? with
  | none => rw [hw] at h; simp at h
  |
   some o =>
   rw [hw] at h
   cases o with
   |
    cells c e f =>
    simp at h
    obtain ⟨rfl, rfl, rfl⟩ := h
    exact ⟨c, e, by rw [hw], by split at hs <;> simpa using hs⟩
   | _ => simp at h
 ·exact ⟨cs, t, (Below.heap_setCell w p v R e).symm.trans h, hs⟩
@[go_sem] theorem resAt_setCell {w : World} {R k : Nat} (p : Addr) (v : Value) : ResAt (w.setCell p v) R k = ResAt w R k := propext ⟨ResAt.of_setCell, fun h => h.setCell p v⟩
@[go_sem high] theorem cell_res {w : World} {R j : Nat} {v : Value} (h : ResAt w R 5) (hj : j < 5) : (w.setCell ⟨R, j, none⟩ v).cell? ⟨R, j, none⟩ = some v := by
 obtain ⟨cs, t, hh, hs⟩ := h
 exact World.cell?_setCell_same' _ _ _ (by rw [cell_of_row w R j cs t (0, 0) hh, Array.getElem?_eq_getElem (by omega)]; rfl)
def cellOr (w : World) (p : Addr) : Value := (w.cell? p).getD undef
theorem cellOr_is {w : World} {p : Addr} (h : (w.cell? p).isSome = true) : w.cell? p = some (cellOr w p) := by
 unfold cellOr
 cases hc : w.cell? p
 ·rw [hc] at h; cases h
 ·rfl
@[go_sem low] theorem cell_or {w : World} {R j : Nat} (h : ResAt w R 5) (hj : j < 5) : w.cell? ⟨R, j, none⟩ = some (cellOr w ⟨R, j, none⟩) := by
 obtain ⟨cs, t, hh, hs⟩ := h
 exact cellOr_is (by rw [cell_of_row w R j cs t (0, 0) hh, Array.getElem?_eq_getElem (by omega)]; rfl)
@[go_sem low] theorem frozen_or {w : World} {R j : Nat} (h : ResAt w R 5) : w.frozen? ⟨R, j, none⟩ = false := by
 obtain ⟨cs, t, hh, hs⟩ := h
 simp [World.frozen?, hh]
theorem cell_new1 (w : World) (v : Value) (t : TypeId) : (w.alloc (.cells #[v] t)).cell? ⟨w.heap.size, 0, none⟩ = some v := by
 simp
theorem blk_new (w : World) (cs : Array Value) (t : TypeId) : (w.alloc (.cells cs t)).heap[w.heap.size]? = some (.cells cs t (0, 0)) := heap_alloc_new w _
theorem blk_alloc {w : World} {b : Nat} {o : Obj} (h : w.heap[b]? = some o) (x : Obj) : (w.alloc x).heap[b]? = some o :=
 (Below.heap_alloc w x b (Array.getElem?_eq_some_iff.1 h).1).trans h
theorem blk_grown {w w' : World} {r : Option Nat} {b : Nat} {o : Obj} (h : w.heap[b]? = some o) (hg : w.grownBy w' r) (hr : some b ≠ r) : w'.heap[b]? = some o := (hg.block b (Array.getElem?_eq_some_iff.1 h).1 hr).trans h
theorem blk_cell {w : World} {b : Nat} {cs : Array Value} {t : TypeId} (h : w.heap[b]? = some (.cells cs t (0, 0))) (j : Nat) : w.cell? ⟨b, j, none⟩ = cs[j]? := cell_of_row w b j cs t (0, 0) h
theorem blk_frozen {w : World} {b : Nat} {cs : Array Value} {t : TypeId} (h : w.heap[b]? = some (.cells cs t (0, 0))) (j : Nat) : w.frozen? ⟨b, j, none⟩ = false := by
 simp [World.frozen?, h]
theorem cell_grown {w w' : World} {r : Option Nat} (hg : w.grownBy w' r) {b j : Nat} {v : Value} (h : w.cell? ⟨b, j, none⟩ = some v) (hb : b < w.heap.size) (hr : some b ≠ r) : w'.cell? ⟨b, j, none⟩ = some v :=
 (World.cell?_of_block (hg.block b hb hr)).trans h
end Go.Proofs.YtgmhifafbebjfaaGreatDoor
namespace Go.Proofs.YtgmhifafbebjfaaGreatDoor
open Go.RowKit

theorem tmod_lt (a b : Int) (h : b ≠ 0) : -(b.natAbs : Int) < a.tmod b ∧ a.tmod b < b.natAbs := by
 have h1 : (a.tmod b).natAbs = a.natAbs % b.natAbs := Int.natAbs_tmod a b
 have h2 := Nat.mod_lt a.natAbs (show 0 < b.natAbs by omega)
 omega
end Go.Proofs.YtgmhifafbebjfaaGreatDoor
namespace Go.Proofs.YtgmhifafbebjfaaGreatDoor
open Go.RowKit

def wholeV (x : Int) : Int := if x ≠ -9223372036854775808 ∧ x.tmod 10000 = 0 then x.tdiv 10000 else 0
def wholeB (x : Int) : Bool := decide (x ≠ -9223372036854775808) && decide (x.tmod 10000 = 0)
theorem whole_no (x : Int) (hx : -9223372036854775808 ≤ x ∧ x ≤ 9223372036854775807) (h : x = -9223372036854775808) (w : World) : Calls Tryz.prog 17 #[.int .i64 x] w fun e w' => e = .returned (.tuple #[.int .i64 0, .bool false]) ∧ w = w' := by
 have m1 := may_no h
 clear h
 go_enter Tryz.func17, Tryz.ntmps17
 go_wp2_with (go_at_call 87; refine (dmay_any _ (by first | assumption | (constructor <;> omega)) _).mono ?_; rintro e w1 ⟨rfl, rfl⟩)
 go_ret2
 exact ⟨rfl, rfl⟩
theorem whole_part (x : Int) (hx : -9223372036854775808 ≤ x ∧ x ≤ 9223372036854775807) (h : x ≠ -9223372036854775808) (m : Int) (hm : x.tmod 10000 = m) (h4 : (m != 0) = true) (w : World) : Calls Tryz.prog 17 #[.int .i64 x] w fun e w' => e = .returned (.tuple #[.int .i64 0, .bool false]) ∧ w = w' := by
 have m1 := may_yes h
 have hr := tmod_lt x 10000 (by omega)
 rw [hm] at hr
 have hr1 : -10000 < m ∧ m < 10000 := by omega
 clear hr h
 go_enter Tryz.func17, Tryz.ntmps17
 go_wp2_with (go_at_call 87; refine (dmay_any _ (by first | assumption | (constructor <;> omega)) _).mono ?_; rintro e w1 ⟨rfl, rfl⟩)
 go_ret2
 exact ⟨rfl, rfl⟩
theorem whole_yes (x : Int) (hx : -9223372036854775808 ≤ x ∧ x ≤ 9223372036854775807) (h : x ≠ -9223372036854775808) (hm : x.tmod 10000 = 0) (w : World) : Calls Tryz.prog 17 #[.int .i64 x] w fun e w' => e = .returned (.tuple #[.int .i64 (x.tdiv 10000), .bool true]) ∧ w = w' := by
 have m1 := may_yes h
 have hd : -9223372036854775808 ≤ x.tdiv 10000 ∧ x.tdiv 10000 ≤ 9223372036854775807 := by
  have h1 := Int.mul_tdiv_add_tmod x 10000
  omega
 clear h
 go_enter Tryz.func17, Tryz.ntmps17
 go_wp2_with (go_at_call 87; refine (dmay_any _ (by first | assumption | (constructor <;> omega)) _).mono ?_; rintro e w1 ⟨rfl, rfl⟩)
 go_ret2
 first | exact ⟨rfl, rfl⟩ | (refine ⟨ret_ib ?_ rfl, rfl⟩; first | exact IntWalk.i64_in _ hd | (unfold wrap64; omega))
theorem whole_any (x : Int) (hx : -9223372036854775808 ≤ x ∧ x ≤ 9223372036854775807) (w : World) : Calls Tryz.prog 17 #[.int .i64 x] w fun e w' => e = .returned (.tuple #[.int .i64 (wholeV x), .bool (wholeB x)]) ∧ w = w' := by
 by_cases h : x = -9223372036854775808
 ·rw [show wholeV x = 0 from if_neg (by simp [h]), show wholeB x = false by simp [wholeB, h]]
  exact whole_no x hx h w
 by_cases hm : x.tmod 10000 = 0
 ·rw [show wholeV x = x.tdiv 10000 from if_pos ⟨h, hm⟩, show wholeB x = true by simp [wholeB, h, hm]]
  exact whole_yes x hx h hm w
 ·rw [show wholeV x = 0 from if_neg (by simp [hm]), show wholeB x = false by simp [wholeB, hm]]
  exact whole_part x hx h _ rfl (by simpa using hm) w
end Go.Proofs.YtgmhifafbebjfaaGreatDoor
