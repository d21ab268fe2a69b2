/-
  Small lemmas that every proof of this seat uses: an argument of any type without pointers, opened to its cells; the row's last step.
-/
import Derived.Test.YtdnocmpjclafdaaDoorRows
import Derived.WalkKit
import Derived.ProofKit
import Derived.OpenShut
import Derived.Carry
import Derived.ChangeSame
import Derived.Lib.Hide
import Derived.Deep.Draws
namespace Go.Proofs.YtdnocmpjclafdaaDoor
open Go.ChangeShapes Go.WideShapes Go.ChangeAt Go.RowKit

theorem bkeep {W w1 : World} (hb : Below W.heap.size W w1) (n : Nat) (hn : n ≤ W.heap.size) :
    (∀ b o, b < n → w1.cell? ⟨b, o, none⟩ = W.cell? ⟨b, o, none⟩) ∧ (∀ b o, b < n → w1.frozen? ⟨b, o, none⟩ = W.frozen? ⟨b, o, none⟩) ∧ n ≤ w1.heap.size :=
  ⟨fun b o h => hb.cell (p := ⟨b, o, Option.none⟩) (Nat.lt_of_lt_of_le h hn), fun b o h => hb.frozen (p := ⟨b, o, Option.none⟩) (Nat.lt_of_lt_of_le h hn), Nat.le_trans hn hb.size⟩
theorem below_drewN {B : Nat} {a w : World} (h : Below B a w) (n : Nat) : Below B a (w.drewN n) := ⟨h.os, h.tape, h.output, h.size, h.block⟩

theorem own : ownKnob Tryd.prog.godebug = none := by kernel_rfl
theorem laidOut : laidOutB Tryd.prog = true := by kernel_rfl

/-! ### Blocks that the walk counts: no two are one -/
@[simp, go_sem] theorem far2 (n : Nat) : (n + 1 + 1 = n) = False := eq_false (by omega)
@[simp, go_sem] theorem far2' (n : Nat) : (n = n + 1 + 1) = False := eq_false (by omega)
@[simp, go_sem] theorem far3 (n : Nat) : (n + 1 + 1 + 1 = n) = False := eq_false (by omega)
@[simp, go_sem] theorem far3' (n : Nat) : (n = n + 1 + 1 + 1) = False := eq_false (by omega)
@[simp, go_sem] theorem far4 (n : Nat) : (n + 1 + 1 + 1 + 1 = n) = False := eq_false (by omega)
@[simp, go_sem] theorem far4' (n : Nat) : (n = n + 1 + 1 + 1 + 1) = False := eq_false (by omega)
@[simp, go_sem] theorem far5 (n : Nat) : (n + 1 + 1 + 1 + 1 + 1 = n) = False := eq_false (by omega)
@[simp, go_sem] theorem far5' (n : Nat) : (n = n + 1 + 1 + 1 + 1 + 1) = False := eq_false (by omega)
@[simp, go_sem] theorem far6 (n : Nat) : (n + 1 + 1 + 1 + 1 + 1 + 1 = n) = False := eq_false (by omega)
@[simp, go_sem] theorem far6' (n : Nat) : (n = n + 1 + 1 + 1 + 1 + 1 + 1) = False := eq_false (by omega)

/-! ### An argument opened to its cells -/
section
variable {H : Type} {enc : TypeId × Value → H} {P : Program} {w : World} {base : Nat} {spare : Nat → Bool} {held : Bool}

/-- one cell that reads at a type -/
def Reads1 {H : Type} (enc : TypeId × Value → H) (P : Program) (w : World) (base : Nat) (spare : Nat → Bool) (held : Bool) (t : TypeId) (v : Value) : Prop :=
  ∃ (n : Nat) (y : DataW H × List MemPlace), DataW.trod enc P w base spare held n t [v] = some y
def ReadsAll {H : Type} (enc : TypeId × Value → H) (P : Program) (w : World) (base : Nat) (spare : Nat → Bool) (held : Bool) : List TypeId → List Value → Prop
  | [], vs => vs = []
  | t :: ts, vs => ∃ v r, vs = v :: r ∧ Reads1 enc P w base spare held t v ∧ ReadsAll enc P w base spare held ts r

theorem ReadsAll.length : ∀ {ts : List TypeId} {vs : List Value}, ReadsAll enc P w base spare held ts vs → vs.length = ts.length
  | [], vs, h => by rw [show vs = [] from h]; rfl
  | t :: ts, vs, h => by
    obtain ⟨v, r, rfl, _, hr⟩ := h
    simp [ReadsAll.length hr]
theorem Reads1.i64 {t : TypeId} {v : Value} (ht : P.underlying t = some (.int .i64)) (h : Reads1 enc P w base spare held t v) : ∃ n : Int, v = .int .i64 n ∧ -9223372036854775808 ≤ n ∧ n ≤ 9223372036854775807 := by
  obtain ⟨n, y, h⟩ := h
  obtain ⟨a, e, _, wa⟩ := DataW.trod_int ht h
  exact ⟨a, by simpa using e, bounds_i64 wa⟩
theorem Reads1.bool {t : TypeId} {v : Value} (ht : P.underlying t = some .bool) (h : Reads1 enc P w base spare held t v) : ∃ b : Bool, v = .bool b := by
  obtain ⟨n, y, h⟩ := h
  obtain ⟨a, e, _⟩ := DataW.trod_bool ht h
  exact ⟨a, by simpa using e⟩
theorem Reads1.string {t : TypeId} {v : Value} (ht : P.underlying t = some .string) (h : Reads1 enc P w base spare held t v) : ∃ s : ByteArray, v = .string s ∧ s.size ≤ maxLen := by
  obtain ⟨n, y, h⟩ := h
  obtain ⟨a, e, _, wa⟩ := DataW.trod_string ht h
  exact ⟨a, by simpa using e, wa⟩

end

/-! ### The row's last step: the result is true, what came in reads as it did -/
section
variable {H : Type} {enc : TypeId × Value → H} {P : Program}
theorem trodAll_stays (hl : laidOutB P = true) {W W' : World} (hb : Below W.heap.size W W') : ∀ {ts : List TypeId} {vs : List Value} {ds : List (DataW H)} {ps : List MemPlace}, (ts.all fun t => P.readableRec t && decide (t < P.types.size)) = true →
    DataW.TrodAll enc P W 0 (fun _ => true) true ts vs ds ps → (∀ x ∈ ps, x.block < W.heap.size) → DataW.TrodAll enc P W' 0 (fun b => decide (b < W.heap.size)) true ts vs ds ps
  | [], [], [], _, _, h, _ => h
  | t :: ts, v :: vs, d :: ds, ps, hr, h, hlt => by
    obtain ⟨p, q, h1, h2, rfl⟩ := h
    simp only [List.all_cons, Bool.and_eq_true, decide_eq_true_eq] at hr
    exact ⟨p, q, Below.trod hl hr.1.1 hr.1.2 h1 hb (fun x hx => hlt x (by simp [hx])), trodAll_stays hl hb hr.2 h2 (fun x hx => hlt x (by simp [hx])), rfl⟩
theorem law_post {f : Func} {s : ChangeSpec} {W W' : World} {args : Array Value} {ds gs : List (DataW H)} {before : List MemPlace} {bt : TypeId} (hl : laidOutB P = true) (hbool : P.underlying bt = some .bool) (hrt : f.resultTypes = #[bt])
    (hvars : s.vars = []) (hspec : ∀ ds : List (DataW H), ds.length = f.params.size → s.fn H (ds ++ []) = { results := [.lit (.bool true)], args := ds }) (hr : (f.params.toList.all fun t => P.readableRec t && decide (t < P.types.size)) = true)
    (hW : DataW.Whole enc P f.params.toList s.vars false W args.toList ds gs before) (hb : Below W.heap.size W W') : s.post enc P f false true false false W args (.bool true) W' := by
  have hW' := hW
  have hlt : ∀ p ∈ before, p.block < W.heap.size := fun p hp => hW.lt p hp
  obtain ⟨p, q, hA, hV, rfl, _, _⟩ := hW
  rw [hvars] at hV
  obtain ⟨rfl, rfl⟩ := trodVars_none hV
  have hlen : ds.length = f.params.size := by
    have : ∀ {ts : List TypeId} {vs : List Value} {ds : List (DataW H)} {ps : List MemPlace}, DataW.TrodAll enc P W 0 (fun _ => true) true ts vs ds ps → ds.length = ts.length := by
      intro ts
      induction ts with
      | nil => intro vs ds ps h; match vs, ds, h with | [], [], _ => rfl
      | cons t ts ih => intro vs ds ps h; match vs, ds, h with | v :: vs, d :: ds, ⟨_, _, _, h2, _⟩ => simp [ih h2]
    simpa using this hA
  refine ⟨ds, [], p ++ [], [], p, [], hW', ?_, ?_, ?_, hb.frame _, fun h => by cases h⟩
  · rw [hspec ds hlen, hrt]
    exact trodAll_mk1 (shut_bool hbool true)
  · rw [hspec ds hlen]
    exact trodAll_stays hl hb hr hA (fun x hx => hlt x (by simp [hx]))
  · rw [hspec ds hlen, hvars]
    rfl
end
end Go.Proofs.YtdnocmpjclafdaaDoor
