/-
  stamps: what all numbered anew comes to; its parts.
-/
import Derived.Test.YtkpoidlohgnbpaaRows
import Derived.Test.YtkpoidlohgnbpaaBase
import Derived.Test.YtkpoidlohgnbpaaStK
import Derived.Test.YtkpoidlohgnbpaaAddrC
import Derived.Test.YtkpoidlohgnbpaaStC
import Derived.Test.YtkpoidlohgnbpaaStD
import Derived.Test.YtkpoidlohgnbpaaProg
import Derived.Test.YtkpoidlohgnbpaaShelf
import Derived.Test.YtkpoidlohgnbpaaStE
import Derived.Test.YtkpoidlohgnbpaaEq
import Derived.Sort.OwnSorted
import Derived.Sort.OwnSortedInts
import Derived.RangeFuncBox
import Derived.Maps.RangeWalk
import Derived.Maps.AppendAt
import Derived.WalkSpells
import Derived.WalkLawsBesides
import Derived.StillTactics
import Derived.Laws.Pointers
import Derived.Deep.RegionHeld3
import Derived.Deep.QuietTactic
import Derived.BigQuiet
import Derived.RowKit3
import Derived.Lib.Hide
import Derived.Lib.OthersKept
import Derived.OwnWalk
import Derived.Lib.IndexLaws
import Derived.Lib.ItoaMem
import Derived.WalkKit
import Derived.ProofKit
import Derived.OpenShut
import Derived.Carry
import Derived.ChangeSame
import Derived.Deep.Draws
import Derived.DeepKeys4
import Derived.Maps.OwnSet
import Derived.IntWalk
import Derived.StillTailTactics
import Derived.Shelf.Small.Bits
import Derived.Shelf.Strconv.Itoa0
import Derived.Shelf.Sort.Plain
import Derived.Ground.Names2Prog
import Derived.Shelf.Slices.SearchI
import Derived.Shelf.Slices.In.SortNone
import Derived.Shelf.Slices.Empties
namespace Go.Proofs.Ytkpoidlohgnbpaa
open Go.RowKit Go.Maps Go.Sort

theorem int_info : (Try.prog.info? 3).map (fun i => (i.zero, i.size, i.bytes)) = some (some (.int .i64 0), 1, 8) := by kernel_rfl
theorem ownsRow_form {w : World} {B size n : Nat} {e : TypeId} {v : Value} {xs : List Value} (h : w.ownsRow B e size v n xs) : ∃ A cap, v = .slice A n cap := by
  rcases h.2 with ⟨rfl, rfl⟩ | ⟨g, cap, _, rfl, _⟩
  · exact ⟨_, _, rfl⟩
  · exact ⟨_, _, rfl⟩
theorem ownsRow_set {w : World} {B size n : Nat} {e : TypeId} {v : Value} {xs : List Value} (h : w.ownsRow B e size v n xs) (p : Addr) (u : Value) (hb : p.block < B) : (w.setCell p u).ownsRow B e size v n xs := by
  refine h.kept (row := some p.block) ⟨rfl, rfl, rfl, by simp, fun i _ hi => Below.heap_setCell _ _ _ i (fun e => hi (by rw [e]))⟩ ?_
  cases hv : v.ownBlock with
  | none => exact .inl rfl
  | some g => exact .inr (fun e => by have := (h.lt g hv).1; injection e with e; omega)
theorem cell_a1 {w : World} {p : Addr} {v : Value} (h : w.cell? p = some v) (x : Obj) : (w.alloc x).cell? p = some v := cell_al h x
theorem frozen_a1 {w : World} {p : Addr} {v : Value} (h : w.cell? p = some v) (hf : w.frozen? p = false) (x : Obj) : (w.alloc x).frozen? p = false := by
  have h1 : p.block < w.heap.size := by
    unfold World.cell? at h
    rcases Nat.lt_or_ge p.block w.heap.size with h2 | h2
    · exact h2
    · rw [Array.getElem?_eq_none h2] at h; cases h
  exact (((Below.refl w.heap.size w).alloc (Nat.le_refl _) x).frozen h1).trans hf
theorem bel_grown {n : Nat} {w w1 w2 : World} {row : Option Nat} (h : RowKit.Below n w w1) (hn : n ≤ w1.heap.size) (hg : w1.grownBy w2 row) (hr : ∀ g, row = some g → n ≤ g) : RowKit.Below n w w2 :=
  h.trans ⟨hg.os, hg.tape, hg.output, hg.size, fun i hi => hg.block i (by omega) (fun e => by have := hr i (by first | exact e | exact e.symm); omega)⟩
theorem bel_set {n : Nat} {w w1 : World} (h : RowKit.Below n w w1) (p : Addr) (v : Value) (hp : n ≤ p.block) : RowKit.Below n w (w1.setCell p v) :=
  h.trans ⟨rfl, rfl, rfl, by simp, fun i hi => Below.heap_setCell _ _ _ i (by omega)⟩
theorem wpList_len_c (w : World) {ops : Array Oper} {rest : List Oper} {o : Oper} {a : Act} {Q : Exit → Act → World → Prop} (hg : o.guard = none) (m : Operand) (hop : o.op = Op.call { callee := Callee.builtin Builtin.len, args := #[m], argTypes := #[46] }) (b n : Nat) (f : CF) (hm : a.eval m = .map (some b)) (h : CM w b n f)
    (hK : ∀ x : Int, wpList Try.prog ops Q rest (a.put o.dst (.int .i64 x)) w) : wpList Try.prog ops Q (o :: rest) a w := by
  obtain ⟨D, h1, h2⟩ := h
  exact wpList_len_own w hg m _ hop _ _ Try.underlying46 heldR b n D hm h1 (hK _)
theorem cm_len {w : World} {b n : Nat} {f : CF} (h : CM w b n f) (ty : TypeId) : ∃ x : Int, (Builtin.len_ #[46] ty #[.map (some b)]).run Try.prog w = .ok (.int .i64 x) w := let ⟨_D, h1, _⟩ := h; ⟨_, h1.len Try.underlying46 ty⟩
theorem make_c (x : Int) (w : World) : (Instr.makeMap 46 (some (.int .i64 x))).run Try.prog w = .ok (.map (some w.heap.size)) (w.alloc (.map #[] 0)) := by
  simp [Instr.makeMap, run_underlying Try.underlying46, asInt, asIntOf, Result.andThen]
theorem ClockAt.set3 {w : World} {k b n : Nat} {M L T ch : Int} {f : CF} (h : ClockAt w k b n M L T f ch) {b' n' : Nat} {f' : CF} (h' : CM w b' n' f') (hne : b' ≠ k) : ClockAt (w.setCell ⟨k, 3, none⟩ (.map (some b'))) k b' n' M L T f' ch :=
  ⟨clock_set h.1 3 _, h'.setCell _ hne _⟩
theorem ClockAt.setO {w : World} {k b n : Nat} {M L T ch : Int} {f : CF} (h : ClockAt w k b n M L T f ch) (p : Addr) (h1 : k ≠ p.block) (h2 : b ≠ p.block) (v : Value) : ClockAt (w.setCell p v) k b n M L T f ch := h.same (Below.heap_setCell _ _ _ _ h1) (Below.heap_setCell _ _ _ _ h2)
theorem CR.setCell {w : World} {b r n cnt : Nat} {f : CF} {left : Int × Int → Bool} (h : CR w b r n f left cnt) (p : Addr) (hb : b ≠ p.block) (hr : r ≠ p.block) (v : Value) : CR (w.setCell p v) b r n f left cnt :=
  h.kept (row := some p.block) ⟨rfl, rfl, rfl, by simp, fun i _ hi => Below.heap_setCell _ _ _ i (fun e => hi (by rw [e]))⟩ (by simpa using hb) (by simpa using hr)
theorem CR.alloc {w : World} {b r n cnt : Nat} {f : CF} {left : Int × Int → Bool} (h : CR w b r n f left cnt) (o : Obj) : CR (w.alloc o) b r n f left cnt := h.kept (World.grownBy_alloc w o none) (by simp) (by simp)
theorem CR.drewN {w : World} {b r n cnt : Nat} {f : CF} {left : Int × Int → Bool} (h : CR w b r n f left cnt) (q : Nat) : CR (w.drewN q) b r n f left cnt := h
theorem CR.ne_row {w : World} {b r n cnt base m : Nat} {f : CF} {left : Int × Int → Bool} {e : TypeId} {size : Nat} {v : Value} {xs : List Value} (h : CR w b r n f left cnt) (hv : w.ownsRow base e size v m xs) : some r ≠ v.ownBlock := let ⟨_, _, h1, _⟩ := h; row_ne_iter hv h1
/-- the numbers that are collected of some cells -/
def colL (f : CF) (but : Int × Int) (ks : List (Int × Int)) : List Int := (ks.filter fun c => !cellEq c.1 c.2 but.1 but.2 && decide (0 < (getC f c).1)).map fun c => (getC f c).1
theorem colL_snoc (f : CF) (but : Int × Int) (ks : List (Int × Int)) (c : Int × Int) : colL f but (ks ++ [c]) = colL f but ks ++ if (!cellEq c.1 c.2 but.1 but.2 && decide (0 < (getC f c).1)) = true then [(getC f c).1] else [] := by
  unfold colL
  rw [List.filter_append, List.map_append]
  congr 1
  by_cases h : (!cellEq c.1 c.2 but.1 but.2 && decide (0 < (getC f c).1)) = true
  · rw [if_pos h, List.filter_cons, if_pos h]; rfl
  · rw [if_neg h, List.filter_cons, if_neg h]; rfl
theorem colL_len (f : CF) (but : Int × Int) (ks : List (Int × Int)) : (colL f but ks).length ≤ ks.length := by
  unfold colL; rw [List.length_map]; exact List.length_filter_le _ _
/-- the cells that the map has, each once -/
structure Keys (f : CF) (left : Int × Int → Bool) (ks : List (Int × Int)) : Prop where
  nodup : ks.Nodup
  wf : ∀ c ∈ ks, W64 c
  mem : ∀ c, W64 c → (c ∈ ks ↔ (f c).isSome = true ∧ left c = false)
theorem Keys.start (f : CF) : Keys f (fun c => (f c).isSome) [] := ⟨List.nodup_nil, by simp, fun c _ => by cases f c <;> simp⟩
theorem Keys.step {f : CF} {left : Int × Int → Bool} {ks : List (Int × Int)} (h : Keys f left ks) {c : Int × Int} (hc : W64 c) (hl : left c = true) (hf : (f c).isSome = true) : Keys f (fun d => left d && !decide (d = c)) (ks ++ [c]) := by
  refine ⟨?_, ?_, ?_⟩
  · rw [List.nodup_append]
    refine ⟨h.nodup, by simp, fun a ha b hb e => ?_⟩
    simp at hb; subst hb; subst e
    have := ((h.mem _ hc).1 ha).2
    rw [hl] at this; cases this
  · intro d hd
    rcases List.mem_append.1 hd with h1 | h1
    · exact h.wf d h1
    · simp at h1; subst h1; exact hc
  · intro d hd
    rw [List.mem_append, h.mem d hd, List.mem_singleton]
    by_cases e : d = c
    · subst e; simp [hf]
    · simp [e]
theorem sort_any (zs : List Int) (hl : zs.length < 4611686018427387904) (w : World) (base : Nat) (v : Value) (h : w.ownsRow base 3 1 v zs.length (zs.map (Value.int .i64))) : Calls Try.prog 19 #[v] w fun e w' => e = .returned (.tuple #[]) ∧ w'.ownsRow base 3 1 v zs.length ((zs.mergeSort fun x y => decide (x ≤ y)).map (Value.int .i64)) ∧ w.grownBy w' v.ownBlock := by
  have h0 := h
  rcases h.2 with ⟨rfl, hz⟩ | ⟨g, cap, cur, rfl, hbase, hb, h1, h2, h3, h4⟩
  · have hz2 : zs = [] := List.eq_nil_of_length_eq_zero hz
    subst hz2
    refine (Try.slices_Sort_int_none none 0 w).mono fun e w' ⟨h5, h6⟩ => ?_
    subst h6
    exact ⟨h5, by simpa using h0, ⟨rfl, rfl, rfl, Nat.le_refl _, fun _ _ _ => rfl⟩⟩
  · have hH : Holds (Value.int .i64) w g 0 zs.toArray := holds_of_blockI hb (by simpa using h4)
    refine (Try.slices_Sort_int g 0 cap zs w hH (Array.getElem?_eq_some_iff.1 hb).1 hl).mono fun e w' ⟨h5, n, os, h6⟩ => ?_
    subst h6
    exact ⟨h5, ownsRow_sortedI (by simp) hbase hb h1 h2 h3, grownBy_sortedI _⟩
theorem nums_row {w : World} {p base n : Nat} {v : Value} {zs : List Int} (hc : w.cell? ⟨p, 0, none⟩ = some v) (h : w.ownsRow base 3 1 v n (zs.map (Value.int .i64))) (hn : zs.length = n) : NumsAt w p zs := by
  subst hn
  rcases h.2 with ⟨rfl, hz⟩ | ⟨g, cap, cur, rfl, hbase, hb, h1, h2, h3, h4⟩
  · exact .inl ⟨hc, List.eq_nil_of_length_eq_zero hz⟩
  · refine .inr ⟨g, cap, hc, (Array.getElem?_eq_some_iff.1 hb).1, fun j hj => ?_⟩
    have := (holds_of_blockI hb (by simpa using h4) j (by simpa using hj)).1
    simpa [List.getD_eq_getElem?_getD, hj] using this
/-- a cell's stamps behind the numbering anew -/
def newS (zs : List Int) (s : Int × Int) : Int × Int := (if 0 < s.1 then (rkL zs s.1 : Nat) else s.1, (rkL zs s.2 : Nat))
def newF (zs : List Int) (f : CF) : CF := fun d => (f d).map (newS zs)
def visF (zs : List Int) (f : CF) (left : Int × Int → Bool) : CF := fun d => if left d = true then none else newF zs f d
def AnewEnd (w : World) (k b n : Nat) (M T : Int) (f : CF) (but : Int × Int) (ch : Int) (e : Ending) (w' : World) : Prop :=
  ∃ ks b', Keys f (fun _ => false) ks ∧ ks.length ≤ n ∧ w.heap.size ≤ b' ∧
    e = .returned (.agg #[.int .i64 (getC (newF ((colL f but ks).mergeSort fun x y => decide (x ≤ y)) f) but).1, .int .i64 (getC (newF ((colL f but ks).mergeSort fun x y => decide (x ≤ y)) f) but).2]) ∧
    ClockAt w' k b' n M ((colL f but ks).length : Nat) (T + 1) (newF ((colL f but ks).mergeSort fun x y => decide (x ≤ y)) f) ch ∧ Turn2 w w' k b
end Go.Proofs.Ytkpoidlohgnbpaa
