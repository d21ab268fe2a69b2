/-
  A map by texts that a literal makes, in the call's own memory: filled, looked into.
-/
import Derived.Test.YtgmhifafbebjfaaGreatDoorMg0
import Derived.Maps.OwnSet
import Derived.Maps.AppendAt
import Derived.Lib.ItoaMem
namespace Go.Proofs.YtgmhifafbebjfaaGreatDoor
open Go.RowKit

open Go.Maps (Keyed)

/-- how an element of a map that never leaves the call is read: as itself -/
abbrev heldR (v : Value) : Option (DataW Value × List MemPlace) := some (.held v, [])
def keyL (s : ByteArray) : Lit := .string s.data.toList
/-- the map that a literal makes, the last entry first -/
def mkD : List (ByteArray × Value) → DataW Value
  | [] => .map []
  | (k, x) :: l => (mkD l).put (keyL k) (.held x)
def lookL (z : Value) : List (ByteArray × Value) → ByteArray → Value
  | [], _ => z
  | (k, x) :: l, s => if s = k then x else lookL z l s
def hasL : List (ByteArray × Value) → ByteArray → Bool
  | [], _ => false
  | (k, _) :: l, s => decide (s = k) || hasL l s
theorem keyL_inj {s t : ByteArray} (h : keyL s = keyL t) : s = t := by
  unfold keyL at h
  injection h with h
  exact ByteArray.ext (Array.toList_inj.1 h)
theorem isMap_mkD : ∀ l, Maps.IsMap (mkD l)
  | [] => Maps.isMap_empty
  | (_, _) :: l => (isMap_mkD l).put _ _
theorem atKey_mkD (z : Value) (s : ByteArray) : ∀ l, (mkD l).atKey (keyL s) (.held z) = .held (lookL z l s)
  | [] => rfl
  | (k, x) :: l => by
    unfold mkD lookL
    by_cases h : s = k
    · subst h
      rw [if_pos rfl, Maps.atKey_put_same (isMap_mkD l) (by exact trivial)]
    · rw [if_neg h, Maps.atKey_put_other (fun e => h (keyL_inj e))]
      exact atKey_mkD z s l
theorem has_mkD (s : ByteArray) : ∀ l, Maps.has (mkD l) (keyL s) = hasL l s
  | [] => rfl
  | (k, x) :: l => by
    unfold mkD hasL
    by_cases h : s = k
    · subst h
      rw [Maps.has_put_same (isMap_mkD l) (by exact trivial)]; simp
    · rw [Maps.has_put_other (fun e => h (keyL_inj e)), has_mkD s l]; simp [h]

theorem upon_insert {P : Program} {w : World} {o : Oper} {a : Act} {K : Act → World → Prop} {Q : Exit → Act → World → Prop} (t k e : TypeId) (hk : P.underlying k = some .string) (ht : P.underlying t = some (.map k e)) {b n : Nat} {l : List (ByteArray × Value)}
    (hown : w.ownsMap P k heldR b n (mkD l)) (hn : n < maxLen) {key : ByteArray} {val : Value} (hks : key.size ≤ maxLen)
    (hK : ∀ w', w'.ownsMap P k heldR b (n + 1) (mkD ((key, val) :: l)) → w.grownBy w' (some b) → Oper.upon P o a K Q (.ok Next.skip w')) :
    Oper.upon P o a K Q ((Sem.run P (Instr.mapUpdate t (.map (some b)) (.string key) val) w).andThen fun _ w' => .ok Next.skip w') := by
  obtain ⟨w', hrun, r1, r2⟩ := hown.update (Maps.string_keyed hk) ht hn (Go.WideMaps.keyOf_string_mk hk hks) (val := val) rfl
  rw [hrun]
  exact hK w' r1 r2
theorem run_look_T {P : Program} {w : World} {t k e : TypeId} (hk : P.underlying k = some .string) (ht : P.underlying t = some (.map k e)) {z : Value} (hz : (zeroValue e).run P w = .ok z w) {b n : Nat} {l : List (ByteArray × Value)}
    (hown : w.ownsMap P k heldR b n (mkD l)) {key : ByteArray} (hks : key.size ≤ maxLen) : (Instr.lookup t (.map (some b)) (.string key) true).run P w = .ok (.tuple #[lookL z l key, .bool (hasL l key)]) w := by
  obtain ⟨v, ps, hrun, hv⟩ := hown.look_ok (Maps.string_keyed hk) ht hz (zd := .held z) (zp := []) rfl (key := .string key) (kl := keyL key) (Go.WideMaps.keyOf_string_mk hk hks)
  rw [atKey_mkD] at hv
  rw [has_mkD] at hrun
  have hv' : v = lookL z l key := by injection hv with hv; injection hv with hv _; injection hv
  rw [← hv']; exact hrun
/-- every entry has this form -/
theorem lookL_all {p : Value → Prop} {z : Value} (hz : p z) (s : ByteArray) : ∀ l : List (ByteArray × Value), (∀ x ∈ l, p x.2) → p (lookL z l s)
  | [], _ => hz
  | (k, x) :: l, h => by
    unfold lookL
    split
    · exact h (k, x) (by simp)
    · exact lookL_all hz s l (fun y hy => h y (by simp [hy]))
/-- block R is a row of k cells that may be written -/
def ResAt (w : World) (R k : Nat) : Prop := ∃ cs t, w.heap[R]? = some (.cells cs t (0, 0)) ∧ cs.size = k
theorem ResAt.new (w : World) (cs : Array Value) (t : TypeId) : ResAt (w.alloc (.cells cs t)) w.heap.size cs.size := ⟨cs, t, heap_alloc_new w _, rfl⟩
theorem ResAt.new5 (w : World) (a b c d e : Value) (t : TypeId) : ResAt (w.alloc (.cells #[a, b, c, d, e] t)) w.heap.size 5 := ResAt.new w _ t
theorem ResAt.lt {w : World} {R k : Nat} (h : ResAt w R k) : R < w.heap.size := by
  obtain ⟨cs, t, h, _⟩ := h
  exact (Array.getElem?_eq_some_iff.1 h).1
theorem ResAt.alloc {w : World} {R k : Nat} (h : ResAt w R k) (o : Obj) : ResAt (w.alloc o) R k := by
  obtain ⟨cs, t, h, hs⟩ := h
  exact ⟨cs, t, (Below.heap_alloc w o R (Array.getElem?_eq_some_iff.1 h).1).trans h, hs⟩
theorem ResAt.drew {w : World} {R k : Nat} (h : ResAt w R k) : ResAt w.drew R k := h
theorem ResAt.below {w w' : World} {B R k : Nat} (h : ResAt w R k) (hb : Below B w w') (hR : R < B) : ResAt w' R k := by
  obtain ⟨cs, t, h, hs⟩ := h
  exact ⟨cs, t, (hb.block R hR).trans h, hs⟩
theorem ResAt.grown {w w' : World} {r : Option Nat} {R k : Nat} (h : ResAt w R k) (hg : w.grownBy w' r) (hr : some R ≠ r) : ResAt w' R k := by
  obtain ⟨cs, t, h, hs⟩ := h
  exact ⟨cs, t, (hg.block R (Array.getElem?_eq_some_iff.1 h).1 hr).trans h, hs⟩
theorem ResAt.setCell {w : World} {R k : Nat} (h : ResAt w R k) (p : Addr) (v : Value) : ResAt (w.setCell p v) R k := by
  obtain ⟨cs, t, h, hs⟩ := h
  by_cases e : R = p.block
  · subst e
    by_cases hp : p.spot.isSome = true
    · exact ⟨cs, t, by simp [World.setCell, Array.getElem?_modify, h, hp], hs⟩
    · exact ⟨cs.setIfInBounds p.off v, t, by simp [World.setCell, Array.getElem?_modify, h, hp], by simpa using hs⟩
  · exact ⟨cs, t, (Below.heap_setCell w p v R e).trans h, hs⟩
theorem ResAt.of_setCell {w : World} {R k : Nat} {p : Addr} {v : Value} (h : ResAt (w.setCell p v) R k) : ResAt w R k := by
  obtain ⟨cs, t, h, hs⟩ := h
  by_cases e : R = p.block
  · subst e
    simp only [World.setCell, Array.getElem?_modify, if_true] at h
    cases hw : w.heap[p.block]? with
    | none => rw [hw] at h; simp at h
    | some o =>
      rw [hw] at h
      cases o with
      | cells c e f =>
        simp at h
        obtain ⟨rfl, rfl, rfl⟩ := h
        exact ⟨c, e, by rw [hw], by split at hs <;> simpa using hs⟩
      | _ => simp at h
  · exact ⟨cs, t, (Below.heap_setCell w p v R e).symm.trans h, hs⟩
@[go_sem] theorem resAt_setCell {w : World} {R k : Nat} (p : Addr) (v : Value) : ResAt (w.setCell p v) R k = ResAt w R k := propext ⟨ResAt.of_setCell, fun h => h.setCell p v⟩
@[go_sem high] theorem cell_res {w : World} {R j : Nat} {v : Value} (h : ResAt w R 5) (hj : j < 5) : (w.setCell ⟨R, j, none⟩ v).cell? ⟨R, j, none⟩ = some v := by
  obtain ⟨cs, t, hh, hs⟩ := h
  exact World.cell?_setCell_same' _ _ _ (by rw [cell_of_row w R j cs t (0, 0) hh, Array.getElem?_eq_getElem (by omega)]; rfl)
/-- what a cell holds, whatever it is -/
def cellOr (w : World) (p : Addr) : Value := (w.cell? p).getD undef
theorem cellOr_is {w : World} {p : Addr} (h : (w.cell? p).isSome = true) : w.cell? p = some (cellOr w p) := by
  unfold cellOr
  cases hc : w.cell? p
  · rw [hc] at h; cases h
  · rfl
@[go_sem low] theorem cell_or {w : World} {R j : Nat} (h : ResAt w R 5) (hj : j < 5) : w.cell? ⟨R, j, none⟩ = some (cellOr w ⟨R, j, none⟩) := by
  obtain ⟨cs, t, hh, hs⟩ := h
  exact cellOr_is (by rw [cell_of_row w R j cs t (0, 0) hh, Array.getElem?_eq_getElem (by omega)]; rfl)
@[go_sem low] theorem frozen_or {w : World} {R j : Nat} (h : ResAt w R 5) : w.frozen? ⟨R, j, none⟩ = false := by
  obtain ⟨cs, t, hh, hs⟩ := h
  simp [World.frozen?, hh]
theorem cell_new1 (w : World) (v : Value) (t : TypeId) : (w.alloc (.cells #[v] t)).cell? ⟨w.heap.size, 0, none⟩ = some v := by
  simp
theorem blk_new (w : World) (cs : Array Value) (t : TypeId) : (w.alloc (.cells cs t)).heap[w.heap.size]? = some (.cells cs t (0, 0)) := heap_alloc_new w _
theorem blk_alloc {w : World} {b : Nat} {o : Obj} (h : w.heap[b]? = some o) (x : Obj) : (w.alloc x).heap[b]? = some o :=
  (Below.heap_alloc w x b (Array.getElem?_eq_some_iff.1 h).1).trans h
theorem blk_grown {w w' : World} {r : Option Nat} {b : Nat} {o : Obj} (h : w.heap[b]? = some o) (hg : w.grownBy w' r) (hr : some b ≠ r) : w'.heap[b]? = some o := (hg.block b (Array.getElem?_eq_some_iff.1 h).1 hr).trans h
theorem blk_below {w w' : World} {B b : Nat} {o : Obj} (h : w.heap[b]? = some o) (hb : Below B w w') (hB : b < B) : w'.heap[b]? = some o := (hb.block b hB).trans h
theorem blk_cell {w : World} {b : Nat} {cs : Array Value} {t : TypeId} (h : w.heap[b]? = some (.cells cs t (0, 0))) (j : Nat) : w.cell? ⟨b, j, none⟩ = cs[j]? := cell_of_row w b j cs t (0, 0) h
theorem blk_frozen {w : World} {b : Nat} {cs : Array Value} {t : TypeId} (h : w.heap[b]? = some (.cells cs t (0, 0))) (j : Nat) : w.frozen? ⟨b, j, none⟩ = false := by
  simp [World.frozen?, h]
theorem cell_grown {w w' : World} {r : Option Nat} (hg : w.grownBy w' r) {b j : Nat} {v : Value} (h : w.cell? ⟨b, j, none⟩ = some v) (hb : b < w.heap.size) (hr : some b ≠ r) : w'.cell? ⟨b, j, none⟩ = some v :=
  (World.cell?_of_block (hg.block b hb hr)).trans h
end Go.Proofs.YtgmhifafbebjfaaGreatDoor
