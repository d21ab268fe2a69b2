/-
  Contracts of In and Before, and of the document's own; Arguments of functions: how they lie in memory; Contracts of the document's In, May, Before, their results by name; Arguments of functions: may a single value be? (nums); Slices of things of several cells that came in: their lists; Values, entries, arguments that came in.
-/
import Derived.Test.YthobaffgllipfaaGreatRows
import Derived.Test.YthobaffgllipfaaGreatBase
import Derived.Test.YthobaffgllipfaaGreatAddrC
import Derived.Test.YthobaffgllipfaaGreatMg3
import Derived.Test.YthobaffgllipfaaGreatValA
import Derived.Test.YthobaffgllipfaaGreatValB
import Derived.Test.YthobaffgllipfaaGreatDecS
import Derived.Test.YthobaffgllipfaaGreatValC
import Derived.Test.YthobaffgllipfaaGreatMapK
import Derived.WalkSpells
import Derived.WalkLawsBesides
import Derived.StillTactics
import Derived.Laws.Pointers
import Derived.Deep.RegionHeld3
import Derived.Deep.QuietTactic
import Derived.BigQuiet
import Derived.RowKit3
import Derived.Lib.Hide
import Derived.Lib.OthersKept
import Derived.OwnWalk
import Derived.Lib.IndexLaws
import Derived.WalkKit
import Derived.ProofKit
import Derived.OpenShut
import Derived.Carry
import Derived.ChangeSame
import Derived.Deep.Draws
import Derived.Lib.ItoaMem
import Derived.Maps.OwnSet
import Derived.Maps.AppendAt
import Derived.Deep.Slices
import Derived.ChangeSlices
namespace Go.Proofs.YthobaffgllipfaaGreat
open Go.RowKit

set_option maxHeartbeats 400000 in
theorem in_any (t l b r row col : Int) (w : World) :
    Calls Tryz.prog 26 #[.agg #[.int .i64 t, .int .i64 l, .int .i64 b, .int .i64 r], .agg #[.int .i64 row, .int .i64 col]] w
      fun e w' => e = .returned (.bool (inB t l b r row col)) ∧ Below w.heap.size w w' := by
  go_enter Tryz.func26, Tryz.ntmps26
  go_wp2
  all_goals go_ret
  all_goals refine ⟨congrArg (fun b => Ending.returned (Value.bool b)) (Bool.eq_iff_iff.2 ?_), by (repeat (first | (with_reducible exact Below.refl _ _) | (with_reducible refine Below.alloc ?_ (by first | omega | (dsimp only; omega) | (simp <;> omega)) _) | (with_reducible refine Below.setCell ?_ (by first | omega | (dsimp only; omega) | (simp <;> omega)) _) | (with_reducible refine Below.drew ?_) | (with_reducible refine below_drewN ?_ _) | (with_reducible refine Below.trans ?_ (Below.mono (by assumption) (by first | omega | (dsimp only; omega) | (simp <;> omega))))))⟩
  all_goals simp [inB]
  all_goals omega
set_option maxHeartbeats 400000 in
theorem rin_any (t l b r row col : Int) (w : World) :
    Calls Tryz.prog 95 #[.agg #[.int .i64 t, .int .i64 l, .int .i64 b, .int .i64 r], .agg #[.int .i64 row, .int .i64 col]] w
      fun e w' => e = .returned (.bool (inB t l b r row col)) ∧ Below w.heap.size w w' := by
  go_enter Tryz.func95, Tryz.ntmps95
  go_wp2
  all_goals go_ret
  all_goals refine ⟨congrArg (fun b => Ending.returned (Value.bool b)) (Bool.eq_iff_iff.2 ?_), by (repeat (first | (with_reducible exact Below.refl _ _) | (with_reducible refine Below.alloc ?_ (by first | omega | (dsimp only; omega) | (simp <;> omega)) _) | (with_reducible refine Below.setCell ?_ (by first | omega | (dsimp only; omega) | (simp <;> omega)) _) | (with_reducible refine Below.drew ?_) | (with_reducible refine below_drewN ?_ _) | (with_reducible refine Below.trans ?_ (Below.mono (by assumption) (by first | omega | (dsimp only; omega) | (simp <;> omega))))))⟩
  all_goals simp [inB]
  all_goals omega
set_option maxHeartbeats 400000 in
theorem before_any (a b c d : Int) (w : World) :
    Calls Tryz.prog 27 #[.agg #[.int .i64 a, .int .i64 b], .agg #[.int .i64 c, .int .i64 d]] w
      fun e w' => e = .returned (.bool (befB a b c d)) ∧ Below w.heap.size w w' := by
  go_enter Tryz.func27, Tryz.ntmps27
  go_wp2
  all_goals go_ret
  all_goals simp only [bne_iff_ne, ne_eq, bne_eq_false_iff_eq] at *
  all_goals refine ⟨congrArg (fun b => Ending.returned (Value.bool b)) (Bool.eq_iff_iff.2 ?_), by (repeat (first | (with_reducible exact Below.refl _ _) | (with_reducible refine Below.alloc ?_ (by first | omega | (dsimp only; omega) | (simp <;> omega)) _) | (with_reducible refine Below.setCell ?_ (by first | omega | (dsimp only; omega) | (simp <;> omega)) _) | (with_reducible refine Below.drew ?_) | (with_reducible refine below_drewN ?_ _) | (with_reducible refine Below.trans ?_ (Below.mono (by assumption) (by first | omega | (dsimp only; omega) | (simp <;> omega))))))⟩
  all_goals simp [befB]
  all_goals omega
set_option maxHeartbeats 400000 in
theorem rbefore_any (a b c d : Int) (w : World) :
    Calls Tryz.prog 96 #[.agg #[.int .i64 a, .int .i64 b], .agg #[.int .i64 c, .int .i64 d]] w
      fun e w' => e = .returned (.bool (befB a b c d)) ∧ Below w.heap.size w w' := by
  go_enter Tryz.func96, Tryz.ntmps96
  go_wp2
  all_goals go_ret
  all_goals refine ⟨congrArg (fun b => Ending.returned (Value.bool b)) (Bool.eq_iff_iff.2 ?_), by (repeat (first | (with_reducible exact Below.refl _ _) | (with_reducible refine Below.alloc ?_ (by first | omega | (dsimp only; omega) | (simp <;> omega)) _) | (with_reducible refine Below.setCell ?_ (by first | omega | (dsimp only; omega) | (simp <;> omega)) _) | (with_reducible refine Below.drew ?_) | (with_reducible refine below_drewN ?_ _) | (with_reducible refine Below.trans ?_ (Below.mono (by assumption) (by first | omega | (dsimp only; omega) | (simp <;> omega))))))⟩
  all_goals simp [befB]
  all_goals omega
end Go.Proofs.YthobaffgllipfaaGreat
namespace Go.Proofs.YthobaffgllipfaaGreat
open Go.RowKit

/-- a value's cells by name -/
structure VL where
  t : Int
  n : Int
  s : ByteArray
  b : Bool
  c : Int
def VL.cs (v : VL) : List Value := [.int .i64 v.t, .int .i64 v.n, .string v.s, .bool v.b, .int .i64 v.c]
def VL.ok (v : VL) : Prop := -9223372036854775808 ≤ v.n ∧ v.n ≤ 9223372036854775807
def VL.may (v : VL) : Bool := vMay v.t v.n v.s v.b v.c
/-- a place with its value -/
structure EL where
  r : Int
  c : Int
  v : VL
def EL.cs (e : EL) : List Value := [.int .i64 e.r, .int .i64 e.c, .int .i64 e.v.t, .int .i64 e.v.n, .string e.v.s, .bool e.v.b, .int .i64 e.v.c]
/-- an argument -/
structure AL where
  many : Bool
  v : VL
  t : Int
  l : Int
  b : Int
  r : Int
  A : Option Addr
  cap : Nat
  es : List EL
def AL.cs (x : AL) : List Value := [.bool x.many, .int .i64 x.v.t, .int .i64 x.v.n, .string x.v.s, .bool x.v.b, .int .i64 x.v.c, .int .i64 x.t, .int .i64 x.l, .int .i64 x.b, .int .i64 x.r, .slice x.A x.es.length x.cap]
def AL.In (w : World) (B : Nat) (x : AL) : Prop := x.v.ok ∧ RdB w B x.A 7 (x.es.map EL.cs) ∧ (∀ e ∈ x.es, e.v.ok) ∧ x.es.length ≤ 9223372036854775807
theorem AL.In.below {w w' : World} {B : Nat} {x : AL} (h : x.In w B) (hb : Below B w w') : x.In w' B := ⟨h.1, h.2.1.below hb, h.2.2⟩
theorem AL.In.mono {w : World} {B B' : Nat} {x : AL} (h : x.In w B) (hB : B ≤ B') : x.In w B' := ⟨h.1, h.2.1.mono hB, h.2.2⟩
/-- may the entries be, from the k-th on? -/
def entOk (x : AL) (k : Nat) : Bool :=
  match x.es[k]? with
  | some e => inB x.t x.l x.b x.r e.r e.c && e.v.may && (match k with | 0 => true | j + 1 => match x.es[j]? with | some d => befB d.r d.c e.r e.c | none => true)
  | none => true
def entsOk (x : AL) : Bool := (List.range x.es.length).all (entOk x)
def v0 : VL := ⟨0, 0, ⟨#[]⟩, false, 0⟩
def vZero (v : VL) : Bool := vEq v.t v.n v.s v.b v.c 0 0 ⟨#[]⟩ false 0
def rZero (x : AL) : Bool := decide (x.t = 0) && decide (x.l = 0) && decide (x.b = 0) && decide (x.r = 0)
def argMay (x : AL) : Bool :=
  if x.many then mayRectB x.t x.l x.b x.r && vZero x.v && entsOk x else rZero x && decide (x.es = []) && x.v.may
theorem in_is (t l b r row col : Int) (z : Bool) (h : inB t l b r row col = z) (w : World) : Calls Tryz.prog 26 #[.agg #[.int .i64 t, .int .i64 l, .int .i64 b, .int .i64 r], .agg #[.int .i64 row, .int .i64 col]] w
      fun e w' => e = .returned (.bool z) ∧ Below w.heap.size w w' := by
  subst h; exact in_any t l b r row col w
theorem vmay_is (t n : Int) (s : ByteArray) (b : Bool) (c : Int) (hn : -9223372036854775808 ≤ n ∧ n ≤ 9223372036854775807) (z : Bool) (h : vMay t n s b c = z) (w : World) : Calls Tryz.prog 24 #[.agg #[.int .i64 t, .int .i64 n, .string s, .bool b, .int .i64 c]] w
      fun e w' => e = .returned (.bool z) ∧ Below w.heap.size w w' := by
  subst h; exact vmay_any t n s b c hn w
theorem before_is (a b c d : Int) (z : Bool) (h : befB a b c d = z) (w : World) : Calls Tryz.prog 27 #[.agg #[.int .i64 a, .int .i64 b], .agg #[.int .i64 c, .int .i64 d]] w
      fun e w' => e = .returned (.bool z) ∧ Below w.heap.size w w' := by
  subst h; exact before_any a b c d w
end Go.Proofs.YthobaffgllipfaaGreat
namespace Go.Proofs.YthobaffgllipfaaGreat
open Go.RowKit

theorem rin_is (t l b r row col : Int) (z : Bool) (h : inB t l b r row col = z) (w : World) : Calls Tryz.prog 95 #[.agg #[.int .i64 t, .int .i64 l, .int .i64 b, .int .i64 r], .agg #[.int .i64 row, .int .i64 col]] w
      fun e w' => e = .returned (.bool z) ∧ Below w.heap.size w w' := by
  subst h; exact rin_any t l b r row col w
theorem rvmay_is (t n : Int) (s : ByteArray) (b : Bool) (c : Int) (hn : -9223372036854775808 ≤ n ∧ n ≤ 9223372036854775807) (z : Bool) (h : vMay t n s b c = z) (w : World) : Calls Tryz.prog 93 #[.agg #[.int .i64 t, .int .i64 n, .string s, .bool b, .int .i64 c]] w
      fun e w' => e = .returned (.bool z) ∧ Below w.heap.size w w' := by
  subst h; exact rvmay_any t n s b c hn w
theorem rbefore_is (a b c d : Int) (z : Bool) (h : befB a b c d = z) (w : World) : Calls Tryz.prog 96 #[.agg #[.int .i64 a, .int .i64 b], .agg #[.int .i64 c, .int .i64 d]] w
      fun e w' => e = .returned (.bool z) ∧ Below w.heap.size w w' := by
  subst h; exact rbefore_any a b c d w
end Go.Proofs.YthobaffgllipfaaGreat
namespace Go.Proofs.YthobaffgllipfaaGreat
open Go.RowKit

set_option maxHeartbeats 1000000 in
theorem nmay_single (t n : Int) (s : ByteArray) (b : Bool) (c : Int) (hn : -9223372036854775808 ≤ n ∧ n ≤ 9223372036854775807) (rt rl rb rr : Int) (A : Option Addr) (m cap : Nat) (w : World) : Calls Tryz.prog 7 #[.agg #[.bool false, .int .i64 t, .int .i64 n, .string s, .bool b, .int .i64 c, .int .i64 rt, .int .i64 rl, .int .i64 rb, .int .i64 rr, .slice A m cap]] w fun e w' => e = .returned (.bool (((decide (rt = 0) && decide (rl = 0) && decide (rb = 0) && decide (rr = 0)) && decide (m = 0)) && vMay t n s b c)) ∧ Below w.heap.size w w' := by
  go_enter Tryz.func7, Tryz.ntmps7
  go_wp2_with (go_at_call 24; refine (vmay_any t n s b c hn _).mono ?_; rintro e w1 ⟨rfl, hb⟩)
  all_goals go_ret
  all_goals refine ⟨ret_b ?_, by (repeat (first | (with_reducible exact Below.refl _ _) | (with_reducible refine Below.alloc ?_ (by first | omega | (dsimp only; omega) | (simp <;> omega)) _) | (with_reducible refine Below.setCell ?_ (by first | omega | (dsimp only; omega) | (simp <;> omega)) _) | (with_reducible refine Below.drew ?_) | (with_reducible refine below_drewN ?_ _) | (with_reducible refine Below.trans ?_ (Below.mono (by assumption) (by first | omega | (dsimp only; omega) | (simp <;> omega))))))⟩
  all_goals simp [*]
end Go.Proofs.YthobaffgllipfaaGreat
namespace Go.Proofs.YthobaffgllipfaaGreat
open Go.RowKit Go.ChangeShapes Go.WideShapes Go.Deep

theorem cellLt {w : World} {b j : Nat} {v : Value} (h : w.cell? ⟨b, j, none⟩ = some v) : b < w.heap.size := by
  rcases Nat.lt_or_ge b w.heap.size with h1 | h1
  · exact h1
  · unfold World.cell? at h
    rw [Array.getElem?_eq_none h1] at h
    cases h
section
variable {H : Type} {enc : TypeId × Value → H} {P : Program} {w : World}
theorem trod_slice_form {t e : TypeId} {fuel : Nat} {v : Value} {y : DataW H × List MemPlace} {sp : Nat → Bool} {held : Bool} (ht : P.underlying t = some (.slice e)) (h : DataW.trod enc P w 0 sp held fuel t [v] = some y) : ∃ A n c, v = .slice A n c := by
  rcases Go.Deep.open_slice ht h with ⟨h0, _⟩ | ⟨a, len, cap, m, n', D, Pl, h0, _⟩
  · exact ⟨none, 0, 0, by simpa using h0⟩
  · exact ⟨some a, len, cap, by simpa using h0⟩
/-- a slice of things of k cells: its list, where it lies -/
theorem rd_sliceK {α : Type} (k : Nat) (hk : 0 < k) (cs : α → List Value) (p : α → Prop) (hcs : ∀ x, (cs x).length = k) {t e : TypeId} {v : Value} {fuel : Nat} {y : DataW H × List MemPlace} {sp : Nat → Bool} {held : Bool} (ht : P.underlying t = some (.slice e)) (hc : P.cellsOf e = k)
    (he : ∀ (n : Nat) (us : List Value) (z : DataW H × List MemPlace), DataW.trod enc P w 0 sp held n e us = some z → ∃ x : α, us = cs x ∧ p x)
    (h : DataW.trod enc P w 0 sp held fuel t [v] = some y) : ∃ (A : Option Addr) (l : List α) (cap : Nat), v = .slice A l.length cap ∧ l.length ≤ cap ∧ cap ≤ maxLen ∧ RdB w w.heap.size A k (l.map cs) ∧ (∀ x ∈ l, p x) ∧ (l = [] ∨ ∃ es sr, y.1 = .slice es sr ∧ es.length = l.length) ∧ (A = none → l.length = 0 ∧ cap = 0) := by
  rcases Go.Deep.open_slice ht h with ⟨h0, _⟩ | ⟨a, len, cap, m, n', D, Pl, h0, hb, hl, hm, hmm, hx, hi⟩
  · have h1 : v = .slice none 0 0 := by simpa using h0
    subst h1
    exact ⟨none, [], 0, rfl, Nat.le_refl _, Nat.zero_le _, fun i c hi => by simp at hi, fun x hx => by simp at hx, .inl rfl, fun _ => ⟨rfl, rfl⟩⟩
  · have h1 : v = .slice (some a) len cap := by simpa using h0
    subst h1
    rw [hc] at hi
    have hlm : len ≤ m := by rw [hmm]; split <;> omega
    have hch : ∀ i, i < len → ∃ x : α, p x ∧ ∀ j, j < k → w.cell? ((a.add (i * k)).add j) = (cs x)[j]? := fun i hlt => by
      obtain ⟨cs', hcells, htr⟩ := hi i (by omega)
      obtain ⟨x, rfl, hp⟩ := he _ _ _ htr
      obtain ⟨_, _, hat⟩ := World.cells?_some hcells
      exact ⟨x, hp, hat⟩
    obtain ⟨X, hX⟩ : ∃ X : (i : Nat) → i < len → α, ∀ i (h : i < len), p (X i h) ∧ ∀ j, j < k → w.cell? ((a.add (i * k)).add j) = (cs (X i h))[j]? := ⟨fun i h => (hch i h).choose, fun i h => (hch i h).choose_spec⟩
    have hlen : ((List.finRange len).map fun i => X i.1 i.2).length = len := by simp
    refine ⟨some a, (List.finRange len).map fun i => X i.1 i.2, cap, by rw [hlen], by rw [hlen]; exact hl, hm, ?_, ?_, .inr ?_, fun e => by cases e⟩
    · intro i c hic
      rw [List.getElem?_map] at hic
      have hlt : i < len := by
        rcases Nat.lt_or_ge i len with h | h
        · exact h
        · rw [List.getElem?_eq_none (by rw [hlen]; exact h)] at hic; cases hic
      rw [List.getElem?_eq_getElem (by rw [hlen]; exact hlt)] at hic
      simp at hic
      subst hic
      have h00 := (hX 0 (by omega)).2 0 hk
      rw [List.getElem?_eq_getElem (by rw [hcs]; exact hk)] at h00
      have hspot : a.spot = none := by simpa [Addr.add] using World.cell?_spot h00
      obtain ⟨b, o, sp'⟩ := a
      simp only at hspot
      subst hspot
      have hat : ∀ j, ((⟨b, o, none⟩ : Addr).add (i * k)).add j = ⟨b, o + i * k + j, none⟩ := fun j => by
        rw [Go.Deep.add_add]; unfold Addr.add
        split
        · rename_i h; simp only [Addr.mk.injEq, true_and, and_true]; omega
        · simp only [Addr.mk.injEq, true_and, and_true]; omega
      refine ⟨b, o, rfl, ?_, fun j u hj => ?_⟩
      · have h1 := (hX i hlt).2 0 hk
        rw [hat 0, List.getElem?_eq_getElem (by rw [hcs]; exact hk)] at h1
        exact cellLt h1
      · have hjk : j < k := by rw [← hcs (X i hlt)]; exact (List.getElem?_eq_some_iff.1 hj).1
        rw [← hat j, (hX i hlt).2 j hjk]; exact hj
    · intro x hx'
      obtain ⟨i, _, rfl⟩ := List.mem_map.1 hx'
      exact (hX i.1 i.2).1
    · exact ⟨(List.range len).map D, (List.range (m - len)).map fun j => D (len + j), by rw [hx], by simp⟩
/-- the same, of an argument -/
theorem rd_argK {α : Type} (k : Nat) (hk : 0 < k) (cs : α → List Value) (p : α → Prop) (hcs : ∀ x, (cs x).length = k) {r : Reach} {b0 : Nat} {t e : TypeId} {v : Value} {d : DataW H} {ps : List MemPlace} {sp : Nat → Bool} {held : Bool} (ht : P.underlying t = some (.slice e)) (hc : P.cellsOf e = k)
    (he : ∀ (n : Nat) (us : List Value) (z : DataW H × List MemPlace), DataW.trod enc P w 0 sp held n e us = some z → ∃ x : α, us = cs x ∧ p x)
    (hval : Value.okWide P w r b0 t v) (h : DataW.Trod enc P w 0 sp held t v d ps) : ∃ (A : Option Addr) (l : List α) (cap : Nat), v = .slice A l.length cap ∧ l.length ≤ cap ∧ cap ≤ maxLen ∧ RdB w w.heap.size A k (l.map cs) ∧ (∀ x ∈ l, p x) ∧ (l = [] ∨ ∃ es sr, d = .slice es sr ∧ es.length = l.length) ∧ (A = none → l.length = 0 ∧ cap = 0) := by
  obtain ⟨fuel, hf⟩ := h
  obtain ⟨A, n, c, rfl⟩ := okWide_slice ht hval
  exact rd_sliceK k hk cs p hcs ht hc he (y := (d, ps)) (by simpa [Value.cells] using hf)
end
end Go.Proofs.YthobaffgllipfaaGreat
namespace Go.Proofs.YthobaffgllipfaaGreat
open Go.RowKit Go.ChangeShapes Go.WideShapes Go.Deep

section
variable {H : Type} {enc : TypeId × Value → H} {w : World} {sp : Nat → Bool} {held : Bool}
theorem rd_val (fuel : Nat) (us : List Value) (z : DataW H × List MemPlace) (h : DataW.trod enc Tryz.prog w 0 sp held fuel 26 us = some z) : ∃ x : VL, us = x.cs ∧ x.ok := by
  have g := readsAll_of_trod 6 26 [23, 2, 9, 4, 24] fuel us z (by kernel_rfl) h
  obtain ⟨_, _, rfl, g0, _, _, rfl, g1, _, _, rfl, g2, _, _, rfl, g3, _, _, rfl, g4, rfl⟩ := g
  obtain ⟨t, rfl, b_t⟩ := Reads1.i64 Tryz.underlying23 g0
  obtain ⟨n, rfl, b_n⟩ := Reads1.i64 Tryz.underlying2 g1
  obtain ⟨s, rfl, b_s⟩ := Reads1.string Tryz.underlying9 g2
  obtain ⟨b, rfl⟩ := Reads1.bool Tryz.underlying4 g3
  obtain ⟨c, rfl, b_c⟩ := Reads1.i64 Tryz.underlying24 g4
  exact ⟨⟨t, n, s, b, c⟩, rfl, b_n⟩
theorem rd_ent (fuel : Nat) (us : List Value) (z : DataW H × List MemPlace) (h : DataW.trod enc Tryz.prog w 0 sp held fuel 61 us = some z) : ∃ x : EL, us = x.cs ∧ x.v.ok := by
  have g := readsAll_of_trod 6 61 [3, 3, 23, 2, 9, 4, 24] fuel us z (by kernel_rfl) h
  obtain ⟨_, _, rfl, g0, _, _, rfl, g1, _, _, rfl, g2, _, _, rfl, g3, _, _, rfl, g4, _, _, rfl, g5, _, _, rfl, g6, rfl⟩ := g
  obtain ⟨r, rfl, b_r⟩ := Reads1.i64 Tryz.underlying3 g0
  obtain ⟨q, rfl, b_q⟩ := Reads1.i64 Tryz.underlying3 g1
  obtain ⟨t, rfl, b_t⟩ := Reads1.i64 Tryz.underlying23 g2
  obtain ⟨n, rfl, b_n⟩ := Reads1.i64 Tryz.underlying2 g3
  obtain ⟨s, rfl, b_s⟩ := Reads1.string Tryz.underlying9 g4
  obtain ⟨b, rfl⟩ := Reads1.bool Tryz.underlying4 g5
  obtain ⟨c, rfl, b_c⟩ := Reads1.i64 Tryz.underlying24 g6
  exact ⟨⟨r, q, ⟨t, n, s, b, c⟩⟩, rfl, b_n⟩
theorem rd_arg (fuel : Nat) (us : List Value) (z : DataW H × List MemPlace) (h : DataW.trod enc Tryz.prog w 0 sp held fuel 35 us = some z) : ∃ x : AL, us = x.cs ∧ x.In w w.heap.size := by
  have g := readsAll_of_trod 6 35 [4, 23, 2, 9, 4, 24, 3, 3, 3, 3, 33] fuel us z (by kernel_rfl) h
  obtain ⟨_, _, rfl, g0, _, _, rfl, g1, _, _, rfl, g2, _, _, rfl, g3, _, _, rfl, g4, _, _, rfl, g5, _, _, rfl, g6, _, _, rfl, g7, _, _, rfl, g8, _, _, rfl, g9, _, _, rfl, g10, rfl⟩ := g
  obtain ⟨m, rfl⟩ := Reads1.bool Tryz.underlying4 g0
  obtain ⟨t, rfl, b_t⟩ := Reads1.i64 Tryz.underlying23 g1
  obtain ⟨n, rfl, b_n⟩ := Reads1.i64 Tryz.underlying2 g2
  obtain ⟨s, rfl, b_s⟩ := Reads1.string Tryz.underlying9 g3
  obtain ⟨b, rfl⟩ := Reads1.bool Tryz.underlying4 g4
  obtain ⟨c, rfl, b_c⟩ := Reads1.i64 Tryz.underlying24 g5
  obtain ⟨rt, rfl, b_rt⟩ := Reads1.i64 Tryz.underlying3 g6
  obtain ⟨rl, rfl, b_rl⟩ := Reads1.i64 Tryz.underlying3 g7
  obtain ⟨rb, rfl, b_rb⟩ := Reads1.i64 Tryz.underlying3 g8
  obtain ⟨rr, rfl, b_rr⟩ := Reads1.i64 Tryz.underlying3 g9
  obtain ⟨f10, y10, g10⟩ := g10
  obtain ⟨E, l, cap, rfl, hl, hcap, hR, hp, _, _⟩ := rd_sliceK 7 (by omega) EL.cs (fun x => x.v.ok) (fun _ => rfl) Tryz.underlying33 (by kernel_rfl) rd_ent g10
  unfold maxLen at hcap
  exact ⟨⟨m, ⟨t, n, s, b, c⟩, rt, rl, rb, rr, E, cap, l⟩, rfl, b_n, hR, hp, by show l.length ≤ _; omega⟩
set_option maxRecDepth 100000 in
theorem rd_args {r : Reach} {b0 : Nat} {v : Value} {d : DataW H} {ps : List MemPlace} (hval : Value.okWide Tryz.prog w r b0 22 v) (h : DataW.Trod enc Tryz.prog w 0 sp held 22 v d ps) : ∃ (A : Option Addr) (l : List AL) (cap : Nat), v = .slice A l.length cap ∧ l.length ≤ cap ∧ cap ≤ maxLen ∧ RdB w w.heap.size A 11 (l.map AL.cs) ∧ (∀ x ∈ l, x.In w w.heap.size) ∧ (l = [] ∨ ∃ es sr, d = .slice es sr ∧ es.length = l.length) ∧ (A = none → l.length = 0 ∧ cap = 0) :=
  rd_argK 11 (by omega) AL.cs (fun x => x.In w w.heap.size) (fun _ => rfl) Tryz.underlying22 (by kernel_rfl) rd_arg hval h
end
end Go.Proofs.YthobaffgllipfaaGreat
