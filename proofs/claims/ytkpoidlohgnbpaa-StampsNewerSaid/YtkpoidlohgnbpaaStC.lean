/-
  A clock in memory: its methods one by one.
-/
import Derived.Test.YtkpoidlohgnbpaaRows
import Derived.Test.YtkpoidlohgnbpaaBase
import Derived.Test.YtkpoidlohgnbpaaStK
import Derived.Test.YtkpoidlohgnbpaaAddrC
import Derived.StillTailTactics
import Derived.WalkSpells
import Derived.WalkLawsBesides
import Derived.StillTactics
import Derived.Laws.Pointers
import Derived.Deep.RegionHeld3
import Derived.Deep.QuietTactic
import Derived.BigQuiet
import Derived.RowKit3
import Derived.Lib.Hide
import Derived.Lib.OthersKept
import Derived.OwnWalk
import Derived.Lib.IndexLaws
import Derived.WalkKit
import Derived.ProofKit
import Derived.OpenShut
import Derived.Carry
import Derived.ChangeSame
import Derived.Deep.Draws
import Derived.DeepKeys4
import Derived.Maps.OwnSet
import Derived.Maps.AppendAt
import Derived.Maps.RangeWalk
import Derived.IntWalk
namespace Go.Proofs.Ytkpoidlohgnbpaa
open Go.RowKit Go.Maps

/-- the clock that lies in block k, its map in block b -/
def ClockAt (w : World) (k b n : Nat) (M L T : Int) (f : CF) (ch : Int) : Prop :=
  w.heap[k]? = some (.cells #[.int .i64 M, .int .i64 L, .int .i64 T, .map (some b), .int .i64 ch] 48 (0, 0)) ∧ CM w b n f
/-- but for two blocks nothing that was there has turned -/
structure Turn2 (w w' : World) (k b : Nat) : Prop where
  os : w'.os = w.os
  tape : w'.tape = w.tape
  output : w'.output = w.output
  size : w.heap.size ≤ w'.heap.size
  block : ∀ i, i < w.heap.size → i ≠ k → i ≠ b → w'.heap[i]? = w.heap[i]?
theorem Turn2.refl (w : World) (k b : Nat) : Turn2 w w k b := ⟨rfl, rfl, rfl, Nat.le_refl _, fun _ _ _ _ => rfl⟩
theorem Turn2.trans {w w1 w2 : World} {k b : Nat} (h : Turn2 w w1 k b) (g : Turn2 w1 w2 k b) : Turn2 w w2 k b :=
  ⟨g.os.trans h.os, g.tape.trans h.tape, g.output.trans h.output, Nat.le_trans h.size g.size, fun i hi h1 h2 => (g.block i (Nat.lt_of_lt_of_le hi h.size) h1 h2).trans (h.block i hi h1 h2)⟩
theorem Turn2.of_below {w w' : World} {k b : Nat} (h : Below w.heap.size w w') : Turn2 w w' k b := ⟨h.os, h.tape, h.output, h.size, fun i hi _ _ => h.block i hi⟩
theorem Turn2.of_grown {w w' : World} {k b : Nat} {row : Option Nat} (h : w.grownBy w' row) (hr : ∀ j, row = some j → w.heap.size ≤ j ∨ j = k ∨ j = b) : Turn2 w w' k b :=
  ⟨h.os, h.tape, h.output, h.size, fun i hi h1 h2 => h.block i hi (fun e => by
    rcases hr i e.symm with h3 | h3 | h3
    · omega
    · exact h1 h3
    · exact h2 h3)⟩
theorem Turn2.alloc (w : World) (o : Obj) {k b : Nat} : Turn2 w (w.alloc o) k b := .of_below ((Below.refl _ _).alloc (Nat.le_refl _) _)
theorem Turn2.drew (w : World) {k b : Nat} : Turn2 w w.drew k b := .of_below (Below.refl _ _).drew
theorem Turn2.drewN (w : World) (n : Nat) {k b : Nat} : Turn2 w (w.drewN n) k b := .of_below (below_drewN (Below.refl _ _) n)
theorem Turn2.setCell (w : World) {k b : Nat} (p : Addr) (hp : p.block = k ∨ w.heap.size ≤ p.block) (v : Value) : Turn2 w (w.setCell p v) k b :=
  ⟨rfl, rfl, rfl, by simp, fun i hi h1 _ => Below.heap_setCell w p v i (by rcases hp with h | h <;> omega)⟩
theorem Turn2.set {w w1 : World} {k b : Nat} (h : Turn2 w w1 k b) (p : Addr) (hp : p.block = k ∨ w.heap.size ≤ p.block) (v : Value) : Turn2 w (w1.setCell p v) k b :=
  ⟨h.os, h.tape, h.output, by simpa using h.size, fun i hi h1 h2 => (Below.heap_setCell w1 p v i (by rcases hp with h | h <;> omega)).trans (h.block i hi h1 h2)⟩
theorem Turn2.grown {w w1 w2 : World} {k b : Nat} {row : Option Nat} (h : Turn2 w w1 k b) (g : w1.grownBy w2 row) (hr : ∀ j, row = some j → w.heap.size ≤ j ∨ j = k ∨ j = b) : Turn2 w w2 k b :=
  ⟨g.os.trans h.os, g.tape.trans h.tape, g.output.trans h.output, Nat.le_trans h.size g.size, fun i hi h1 h2 => (g.block i (Nat.lt_of_lt_of_le hi h.size) (fun e => by
    rcases hr i e.symm with h3 | h3 | h3 <;> omega)).trans (h.block i hi h1 h2)⟩
theorem Turn2.later {w w1 w2 : World} {k b k' b' : Nat} (h : Turn2 w w1 k b) (g : Turn2 w1 w2 k' b') (hk : k' = k ∨ k' = b ∨ w.heap.size ≤ k') (hb : b' = b ∨ b' = k ∨ w.heap.size ≤ b') : Turn2 w w2 k b :=
  ⟨g.os.trans h.os, g.tape.trans h.tape, g.output.trans h.output, Nat.le_trans h.size g.size, fun i hi h1 h2 => (g.block i (Nat.lt_of_lt_of_le hi h.size) (by omega) (by omega)).trans (h.block i hi h1 h2)⟩
theorem Turn2.below {w w' : World} {k b B : Nat} (h : Turn2 w w' k b) (hB : B ≤ w.heap.size) (hk : B ≤ k) (hb : B ≤ b) : Below B w w' :=
  ⟨h.os, h.tape, h.output, h.size, fun i hi => h.block i (by omega) (by omega) (by omega)⟩
theorem ClockAt.lt {w : World} {k b n : Nat} {M L T ch : Int} {f : CF} (h : ClockAt w k b n M L T f ch) : k < w.heap.size := (Array.getElem?_eq_some_iff.1 h.1).1
theorem ClockAt.ne {w : World} {k b n : Nat} {M L T ch : Int} {f : CF} (h : ClockAt w k b n M L T f ch) : k ≠ b := by
  obtain ⟨h1, D, ⟨es, clock, hb, _⟩, _⟩ := h
  intro e
  rw [e, hb] at h1
  cases h1
theorem ClockAt.cells {w : World} {k b n : Nat} {M L T ch : Int} {f : CF} (h : ClockAt w k b n M L T f ch) :
    w.cell? ⟨k, 0, none⟩ = some (.int .i64 M) ∧ w.cell? ⟨k, 1, none⟩ = some (.int .i64 L) ∧ w.cell? ⟨k, 2, none⟩ = some (.int .i64 T) ∧ w.cell? ⟨k, 3, none⟩ = some (.map (some b)) ∧ w.cell? ⟨k, 4, none⟩ = some (.int .i64 ch) ∧ (∀ o, w.frozen? ⟨k, o, none⟩ = false) := by
  have hc : ∀ j, w.cell? ⟨k, j, none⟩ = _ := fun j => cell_of_row w k j _ _ (0, 0) h.1
  refine ⟨hc 0, hc 1, hc 2, hc 3, hc 4, fun o => by simp [World.frozen?, h.1]⟩
theorem ClockAt.same {w w' : World} {k b n : Nat} {M L T ch : Int} {f : CF} (h : ClockAt w k b n M L T f ch) (e1 : w'.heap[k]? = w.heap[k]?) (e2 : w'.heap[b]? = w.heap[b]?) : ClockAt w' k b n M L T f ch := ⟨e1.trans h.1, h.2.same e2⟩
theorem ClockAt.below {w w' : World} {k b n : Nat} {M L T ch : Int} {f : CF} (h : ClockAt w k b n M L T f ch) {B : Nat} (hb : Below B w w') (hB : w.heap.size ≤ B) : ClockAt w' k b n M L T f ch :=
  h.same (hb.block k (Nat.lt_of_lt_of_le h.lt hB)) (hb.block b (Nat.lt_of_lt_of_le h.2.lt hB))
/-- it has come back -/
def Back (e : Ending) : Prop := ∃ v, e = .returned v
def SeeEnd (w : World) (k b n : Nat) (M L T : Int) (f : CF) (ch : Int) (e : Ending) (w' : World) : Prop := Back e ∧ ClockAt w' k b n M L T f ch ∧ Turn2 w w' k b

set_option maxHeartbeats 1000000 in
theorem see_yes (r c : Int) (hm : mayB r c = true) (w : World) {k b n : Nat} {M L T ch : Int} {f : CF} (h : ClockAt w k b n M L T f ch) (hn : n < maxLen) (hW : W64 (r, c)) :
    Calls Try.prog 9 #[.pointer (some ⟨k, 0, none⟩), .agg #[.int .i64 r, .int .i64 c]] w (SeeEnd w k b (n + 1) M L T (updC f (r, c) (some ((getC f (r, c)).1, L))) ch) := by
  have hk := h.lt
  have hb0 := h.2.lt
  have h' := Lib.hid h
  obtain ⟨s1, s2, hs⟩ : ∃ s1 s2, getC f (r, c) = (s1, s2) := ⟨_, _, rfl⟩
  have hs' := Lib.hid hs
  clear h hs
  go_enter Try.func9, Try.ntmps9
  go_wp2_with (go_at_call 17; refine (may_any r c _).mono ?_; rintro e w1 ⟨rfl, hb⟩)
  have g0 : Below w.heap.size w w1 := ((Below.refl _ _).alloc (Nat.le_refl _) _).trans (hb.mono (by simp))
  have h1 := h'.out.below g0 (Nat.le_refl _)
  obtain ⟨c0, c1, c2, c3, c4, cf⟩ := h1.cells
  have hr := h1.2.looks hW
  rw [hs'.out] at hr
  have hx0 : w1.cell? ⟨w.heap.size, 0, none⟩ = some (.int .i64 r) := by rw [hb.cell (by simp)]; simp
  have hx1 : w1.cell? ⟨w.heap.size, 1, none⟩ = some (.int .i64 c) := by rw [hb.cell (by simp)]; simp
  have hz := hb.size
  simp only [World.size_alloc] at hz
  have h1' := Lib.hid h1
  clear h1 hb
  have hmm := h1'.out.2
  have n1 : k ≠ w1.heap.size := by omega
  have n2 : b ≠ w1.heap.size := by omega
  have n3 : w.heap.size ≠ w1.heap.size := by omega
  go_wp2
  go_region_held3 (fun w' => w'.cell? ⟨k, 3, none⟩ = some (.map (some b)) ∧ w'.cell? ⟨w.heap.size, 0, none⟩ = some (.int .i64 r) ∧ w'.cell? ⟨w.heap.size, 1, none⟩ = some (.int .i64 c) ∧ CM w' b n f ∧ (Instr.lookup 46 (.map (some b)) (.agg #[.int .i64 r, .int .i64 c]) false).run Try.prog w' = .ok (.agg #[.int .i64 s1, .int .i64 s2]) w')
    (((try go_split_ands); refine ⟨?_, ?_, ?_, ?_, ?_⟩ <;> first | (simp [go_sem, *]; done) | exact cell_al (by assumption) _ | ((repeat (first | exact hmm | (with_reducible refine CM.drew ?_) | (with_reducible refine CM.alloc ?_ _) | (with_reducible refine CM.setCell ?_ _ (by simp; omega) _))); done) | (refine CM.lookD (n := n) ?_ hs'.out hW; (repeat (first | exact hmm | (with_reducible refine CM.drew ?_) | (with_reducible refine CM.alloc ?_ _) | (with_reducible refine CM.setCell ?_ _ (by simp; omega) _))); done))) (fail)
  all_goals
    go_split_ands
    generalize hw2 : (w1.alloc (.cells #[.int .i64 s1, .int .i64 s2] 43)).drew = w2 at *
    have g2 : Below w1.heap.size w1 w2 := by rw [← hw2]; exact ((Below.refl _ _).alloc (Nat.le_refl _) _).drew
    have y0 : w2.cell? ⟨w1.heap.size, 0, none⟩ = some (.int .i64 s1) := by rw [← hw2]; simp
    have y1 : w2.cell? ⟨w1.heap.size, 1, none⟩ = some (.int .i64 s2) := by rw [← hw2]; simp
    have yf : w2.frozen? ⟨w1.heap.size, 1, none⟩ = false := by rw [← hw2]; simp
    have zs : w1.heap.size + 1 = w2.heap.size := by rw [← hw2]; simp
    clear hw2 hmm
    have k2 := h1'.out.below g2 (Nat.le_refl _)
    obtain ⟨d0, d1, d2, d3, d4, df⟩ := k2.cells
    have z0 : w2.cell? ⟨w.heap.size, 0, none⟩ = some (.int .i64 r) := (g2.cell (by simp; omega)).trans hx0
    have z1 : w2.cell? ⟨w.heap.size, 1, none⟩ = some (.int .i64 c) := (g2.cell (by simp; omega)).trans hx1
    have k2' := Lib.hid k2
    clear c0 c1 c2 c3 c4 cf hx0 hx1 hr
    have e0 : (w2.setCell ⟨w1.heap.size, 1, none⟩ (.int .i64 L)).cell? ⟨w1.heap.size, 0, none⟩ = some (.int .i64 s1) := (World.cell?_setCell_other _ _ _ _ (by simp)).trans y0
    have e1 : (w2.setCell ⟨w1.heap.size, 1, none⟩ (.int .i64 L)).cell? ⟨w1.heap.size, 1, none⟩ = some (.int .i64 L) := World.cell?_setCell_same' _ _ _ (by rw [y1]; rfl)
    have e2 : (w2.setCell ⟨w1.heap.size, 1, none⟩ (.int .i64 L)).cell? ⟨k, 3, none⟩ = some (.map (some b)) := (World.cell?_setCell_other _ _ _ _ (by simp <;> omega)).trans d3
    have e3 : (w2.setCell ⟨w1.heap.size, 1, none⟩ (.int .i64 L)).cell? ⟨w.heap.size, 0, none⟩ = some (.int .i64 r) := (World.cell?_setCell_other _ _ _ _ (by simp <;> omega)).trans z0
    have e4 : (w2.setCell ⟨w1.heap.size, 1, none⟩ (.int .i64 L)).cell? ⟨w.heap.size, 1, none⟩ = some (.int .i64 c) := (World.cell?_setCell_other _ _ _ _ (by simp <;> omega)).trans z1
    clear k2
    go_wp2
    generalize hw3 : w2.setCell ⟨w1.heap.size, 1, none⟩ (.int .i64 L) = w3 at *
    have k3 : ClockAt w3 k b n M L T f ch := k2'.out.same (by rw [← hw3]; exact Below.heap_setCell _ _ _ _ (by simpa using n1)) (by rw [← hw3]; exact Below.heap_setCell _ _ _ _ (by simpa using n2))
    have k3' := Lib.hid k3
    clear d0 d1 d2 d3 d4 df z0 z1 y0 y1 yf k3
    have v0 := cellV e0
    have v1 := cellV e1
    have v2 := cellV e2
    have v3 := cellV e3
    have v4 := cellV e4
    go_still_tail 6, (by kernel_rfl)
    have t3 : Turn2 w w3 k b := by
      rw [← hw3]
      exact ((Turn2.of_below g0).trans (Turn2.of_below g2)).set _ (.inr (by simp; omega)) _
    have t3' := Lib.hid t3
    clear t3
    refine wpList_store_c w3.drew rfl _ _ _ rfl b n f rfl k3'.out.2.drew hn (r, c) (s1, L) rfl rfl hW ?_
    intro w4 hcm hg4
    have hf : SeeEnd w k b (n + 1) M L T (updC f (r, c) (some ((getC f (r, c)).1, L))) ch (.returned (.tuple #[])) w4 := by
      refine ⟨⟨_, rfl⟩, ⟨(hg4.block k ?_ (by simpa using h'.out.ne)).trans k3'.out.1, by rw [hs'.out]; exact hcm⟩, t3'.out.trans ((Turn2.drew _).trans (Turn2.of_grown hg4 (fun j e => .inr (.inr (by simpa using e.symm)))))⟩
      exact k3'.out.lt
    go_wp2
    go_end0
    exact hf
end Go.Proofs.Ytkpoidlohgnbpaa
