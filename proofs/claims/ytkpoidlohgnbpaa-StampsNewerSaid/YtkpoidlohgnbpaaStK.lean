/-
  A map from cells to stamps: what it holds, as a function of the cell.
-/
import Derived.Test.YtkpoidlohgnbpaaRows
import Derived.Test.YtkpoidlohgnbpaaBase
import Derived.DeepKeys4
import Derived.Maps.OwnSet
import Derived.Maps.AppendAt
import Derived.Maps.RangeWalk
import Derived.WalkSpells
import Derived.WalkLawsBesides
import Derived.Lib.Hide
import Derived.IntWalk
import Derived.WalkKit
import Derived.ProofKit
import Derived.OpenShut
import Derived.Carry
import Derived.ChangeSame
import Derived.Deep.Draws
namespace Go.Proofs.Ytkpoidlohgnbpaa
open Go.RowKit Go.Maps
open Go.WideElems (Fit)

theorem cell_al {w : World} {p : Addr} {v : Value} (h : w.cell? p = some v) (x : Obj) : (w.alloc x).drew.cell? p = some v := by
  have h1 : p.block < w.heap.size := by
    unfold World.cell? at h
    rcases Nat.lt_or_ge p.block w.heap.size with h2 | h2
    · exact h2
    · rw [Array.getElem?_eq_none h2] at h; cases h
  exact (((Below.refl w.heap.size w).alloc (Nat.le_refl _) x).cell h1).trans h
theorem cellV {w : World} {p : Addr} {x : Value} (h : w.cell? p = some x) (v : World) (hv : v.heap = w.heap) : v.cell? p = some x := by
  rw [← h]; unfold World.cell?; rw [hv]
/-- numbers of a cell that may lie in a Go int -/
def W64 (c : Int × Int) : Prop := (-9223372036854775808 ≤ c.1 ∧ c.1 ≤ 9223372036854775807) ∧ (-9223372036854775808 ≤ c.2 ∧ c.2 ≤ 9223372036854775807)
/-- two numbers side by side: a cell, a cell's stamps -/
abbrev pv (c : Int × Int) : Value := .agg #[.int .i64 c.1, .int .i64 c.2]
theorem pv_inj {a b : Int × Int} (h : pv a = pv b) : a = b := by
  simp [pv] at h; exact Prod.ext h.1 h.2
theorem cellLaw : Keyed Try.prog 30 := Keyed.of_law (deep_law_laid laidOut (m := 2) (by omega) (of_decide_eq_true (by kernel_rfl)) (by kernel_rfl) (by rw [Try.underlying30]))
theorem cellKeyType : Try.prog.keyType 30 = true := by kernel_rfl
theorem cellCells : Try.prog.cellsOf 30 = 2 := by kernel_rfl
theorem intCells : Try.prog.cellsOf 3 = 1 := by kernel_rfl
theorem wf_i64 {n : Int} (h : -9223372036854775808 ≤ n ∧ n ≤ 9223372036854775807) : (Lit.int .i64 n).wf = true := WalkArith.wf_i64 h
theorem keyLits_cell (c : Int × Int) (h : W64 c) : Try.prog.keyLits (Try.prog.types.size + 1) 30 [.int .i64 c.1, .int .i64 c.2] = some [.int .i64 c.1, .int .i64 c.2] := by
  obtain ⟨n, hn⟩ : ∃ n, Try.prog.types.size = n + 1 := ⟨Try.prog.types.size - 1, by have : 0 < Try.prog.types.size := of_decide_eq_true (by kernel_rfl); omega⟩
  rw [hn]
  have h1 := wf_i64 h.1
  have h2 := wf_i64 h.2
  unfold Program.keyLits
  rw [Try.underlying30]
  simp only []
  rw [cellCells]
  simp [intCells, Program.keyLits, Try.underlying3, h1, h2]
theorem key_some (c : Int × Int) (h : W64 c) : keyOf Try.prog 30 (pv c) = some (.string (keyBytes [.int .i64 c.1, .int .i64 c.2])) := by
  unfold keyOf
  rw [Try.underlying30]
  simp only []
  rw [cellKeyType]
  have hf : (pv c).formed Try.prog 30 = true := by
    unfold Value.formed pv
    simp only []
    rw [Try.underlying30]
    simp only []
    rw [cellCells]; rfl
  rw [hf]
  have := keyLits_cell c h
  simp only [Value.cells, Bool.and_self, if_true] at this ⊢
  rw [this]; rfl

/-- how a map's stamps are read in the proof: as themselves -/
abbrev heldR (v : Value) : Option (DataW Value × List MemPlace) := some (.held v, [])
def ck (c : Int × Int) : Lit := .string (keyBytes [.int .i64 c.1, .int .i64 c.2])
theorem key_ck (c : Int × Int) (h : W64 c) : keyOf Try.prog 30 (pv c) = some (ck c) := key_some c h
theorem ck_inj {c d : Int × Int} (hc : W64 c) (hd : W64 d) (h : ck c = ck d) : c = d := pv_inj (cellLaw.inj (key_ck c hc) (h ▸ key_ck d hd))
theorem ck_key (c : Int × Int) : WideAt.IsKeyLit (ck c) := by unfold ck; exact trivial
theorem key_inv {v : Value} {kl : Lit} (h : keyOf Try.prog 30 v = some kl) : ∃ c : { c : Int × Int // W64 c }, v = pv c.1 := by
  unfold keyOf at h
  rw [Try.underlying30] at h
  simp only [] at h
  split at h
  · rename_i hf
    simp only [Bool.and_eq_true] at hf
    have hf := hf.2
    obtain ⟨cs, rfl⟩ : ∃ cs, v = .agg cs := by
      cases v <;> first | exact ⟨_, rfl⟩ | (simp [Value.formed, Try.underlying30] at hf)
    simp only [Value.formed, Try.underlying30] at hf
    rw [cellCells] at hf
    obtain ⟨a, b, rfl⟩ : ∃ a b, cs = #[a, b] := by
      have h2 : cs.size = 2 := by simpa using hf
      refine ⟨cs[0]'(by omega), cs[1]'(by omega), ?_⟩
      apply Array.ext (by simp [h2])
      intro i h1 h3
      rcases i with _ | _ | i
      · rfl
      · rfl
      · simp at h3; omega
    obtain ⟨n, hn⟩ : ∃ n, Try.prog.types.size = n + 1 := ⟨Try.prog.types.size - 1, by have : 0 < Try.prog.types.size := of_decide_eq_true (by kernel_rfl); omega⟩
    rw [hn] at h
    unfold Program.keyLits at h
    rw [Try.underlying30] at h
    simp only [] at h
    rw [cellCells] at h
    have hL : ∀ (v : Value) (ls : List Lit), Try.prog.keyLits Try.prog.types.size 3 [v] = some ls → ∃ x, v = .int .i64 x ∧ (Lit.int .i64 x).wf = true := fun v ls hl => by
      rw [hn] at hl
      unfold Program.keyLits at hl
      rw [Try.underlying3] at hl
      cases v <;> simp at hl
      obtain ⟨⟨rfl, hw⟩, _⟩ := hl
      exact ⟨_, rfl, hw⟩
    cases h1 : Try.prog.keyLits Try.prog.types.size 3 [a] with
    | none => rw [hn] at h1; simp [intCells, Value.cells, h1] at h
    | some l1 =>
      cases h2 : Try.prog.keyLits Try.prog.types.size 3 [b] with
      | none => rw [hn] at h2; simp [intCells, Value.cells, h2] at h
      | some l2 =>
        obtain ⟨x, rfl, hx⟩ := hL a l1 h1
        obtain ⟨y, rfl, hy⟩ := hL b l2 h2
        exact ⟨⟨(x, y), bounds_i64 hx, bounds_i64 hy⟩, rfl⟩
  · cases h

/-- what a map of cells holds -/
abbrev CF := Int × Int → Option (Int × Int)
def getC (f : CF) (c : Int × Int) : Int × Int := (f c).getD (0, 0)
def updC (f : CF) (c : Int × Int) (s : Option (Int × Int)) : CF := fun d => if d = c then s else f d
def Agree (D : DataW Value) (f : CF) : Prop := ∀ c, W64 c → Maps.has D (ck c) = (f c).isSome ∧ D.atKey (ck c) (.held (pv (0, 0))) = .held (pv (getC f c))
theorem Agree.put {D : DataW Value} {f : CF} (h : Agree D f) (hD : IsMap D) {c : Int × Int} (hc : W64 c) (s : Int × Int) : Agree (D.put (ck c) (.held (pv s))) (updC f c (some s)) := fun d hd => by
  by_cases e : d = c
  · subst e
    exact ⟨by rw [has_put_same hD (ck_key d)]; simp [updC], by rw [atKey_put_same hD (ck_key d)]; simp [updC, getC]⟩
  · have hne : ck d ≠ ck c := fun h => e (ck_inj hd hc h)
    rw [has_put_other hne, atKey_put_other hne]
    simpa [updC, getC, e] using h d hd
theorem Agree.del {D : DataW Value} {f : CF} (h : Agree D f) {c : Int × Int} (hc : W64 c) : Agree (D.del (ck c)) (updC f c none) := fun d hd => by
  by_cases e : d = c
  · subst e
    exact ⟨by rw [has_del_same]; simp [updC], by rw [atKey_del_same]; simp [updC, getC]⟩
  · have hne : ck d ≠ ck c := fun h => e (ck_inj hd hc h)
    rw [has_del_other hne, atKey_del_other hne]
    simpa [updC, getC, e] using h d hd
theorem agree_empty : Agree (.map []) (fun _ => none) := fun _ _ => ⟨rfl, rfl⟩
/-- block b is a map of at most n entries that holds f -/
def CM (w : World) (b n : Nat) (f : CF) : Prop := ∃ D, w.ownsMap Try.prog 30 heldR b n D ∧ Agree D f
theorem CM.made (w : World) : CM (w.alloc (.map #[] 0)) w.heap.size 0 (fun _ => none) := ⟨_, World.ownsMap_made _ _ _ _, agree_empty⟩
theorem CM.mono {w : World} {b n : Nat} {f : CF} (h : CM w b n f) {n' : Nat} (hn : n ≤ n') : CM w b n' f := let ⟨D, h1, h2⟩ := h; ⟨D, h1.mono hn, h2⟩
theorem CM.lt {w : World} {b n : Nat} {f : CF} (h : CM w b n f) : b < w.heap.size := let ⟨_, h1, _⟩ := h; h1.lt
theorem CM.kept {w w' : World} {b n : Nat} {f : CF} {row : Option Nat} (h : CM w b n f) (hg : w.grownBy w' row) (hne : some b ≠ row) : CM w' b n f := let ⟨D, h1, h2⟩ := h; ⟨D, h1.kept hg hne, h2⟩
theorem CM.same {w w' : World} {b n : Nat} {f : CF} (h : CM w b n f) (e : w'.heap[b]? = w.heap[b]?) : CM w' b n f := by
  obtain ⟨D, ⟨es, clock, hb, F, hs, hD⟩, h2⟩ := h
  exact ⟨D, ⟨es, clock, e.trans hb, F, hs, hD⟩, h2⟩
theorem CM.congr {w : World} {b n : Nat} {f g : CF} (h : CM w b n f) (e : ∀ c, W64 c → f c = g c) : CM w b n g := by
  obtain ⟨D, h1, h2⟩ := h
  exact ⟨D, h1, fun c hc => by have := h2 c hc; rw [e c hc] at this; simpa [getC, e c hc] using this⟩
theorem stZero (w : World) : (zeroValue 43).run Try.prog w = .ok (pv (0, 0)) w := by kernel_rfl
theorem CM.look {w : World} {b n : Nat} {f : CF} (h : CM w b n f) {c : Int × Int} (hc : W64 c) : (Instr.lookup 46 (.map (some b)) (pv c) false).run Try.prog w = .ok (pv (getC f c)) w := by
  obtain ⟨D, h1, h2⟩ := h
  obtain ⟨v, ps, hrun, hv⟩ := h1.lookup cellLaw Try.underlying46 (stZero w) (zd := .held (pv (0, 0))) (zp := []) rfl (key_ck c hc)
  rw [(h2 c hc).2] at hv
  have : v = pv (getC f c) := by injection hv with hv; injection hv with hv _; injection hv
  rw [← this]; exact hrun
theorem CM.look_ok {w : World} {b n : Nat} {f : CF} (h : CM w b n f) {c : Int × Int} (hc : W64 c) : (Instr.lookup 46 (.map (some b)) (pv c) true).run Try.prog w = .ok (.tuple #[pv (getC f c), .bool (f c).isSome]) w := by
  obtain ⟨D, h1, h2⟩ := h
  obtain ⟨v, ps, hrun, hv⟩ := h1.look_ok cellLaw Try.underlying46 (stZero w) (zd := .held (pv (0, 0))) (zp := []) rfl (key_ck c hc)
  rw [(h2 c hc).2] at hv
  have : v = pv (getC f c) := by injection hv with hv; injection hv with hv _; injection hv
  rw [← this, ← (h2 c hc).1]; exact hrun
theorem CM.looks {w : World} {b n : Nat} {f : CF} (h : CM w b n f) {c : Int × Int} (hc : W64 c) (v : World) (hv : v.heap = w.heap) : (Instr.lookup 46 (.map (some b)) (pv c) false).run Try.prog v = .ok (pv (getC f c)) v := (h.same (by rw [hv])).look hc
theorem CM.looks_ok {w : World} {b n : Nat} {f : CF} (h : CM w b n f) {c : Int × Int} (hc : W64 c) (v : World) (hv : v.heap = w.heap) : (Instr.lookup 46 (.map (some b)) (pv c) true).run Try.prog v = .ok (.tuple #[pv (getC f c), .bool (f c).isSome]) v := (h.same (by rw [hv])).look_ok hc
theorem CM.alloc {w : World} {b n : Nat} {f : CF} (h : CM w b n f) (o : Obj) : CM (w.alloc o) b n f := h.kept (World.grownBy_alloc w o none) (by simp)
theorem CM.drew {w : World} {b n : Nat} {f : CF} (h : CM w b n f) : CM w.drew b n f := h.same rfl
theorem CM.drewN {w : World} {b n : Nat} {f : CF} (h : CM w b n f) (q : Nat) : CM (w.drewN q) b n f := h.same rfl
theorem CM.setCell {w : World} {b n : Nat} {f : CF} (h : CM w b n f) (p : Addr) (hp : b ≠ p.block) (v : Value) : CM (w.setCell p v) b n f := h.same (Below.heap_setCell w p v b hp)
theorem CM.lookD {w : World} {b n : Nat} {f : CF} (h : CM w b n f) {r c s1 s2 : Int} (hs : getC f (r, c) = (s1, s2)) (hc : W64 (r, c)) : (Instr.lookup 46 (.map (some b)) (.agg #[.int .i64 r, .int .i64 c]) false).run Try.prog w = .ok (.agg #[.int .i64 s1, .int .i64 s2]) w := by
  have := h.look hc
  rw [hs] at this
  exact this
theorem wpList_store_c (w : World) {ops : Array Oper} {rest : List Oper} {o : Oper} {a : Act} {Q : Exit → Act → World → Prop} (hg : o.guard = none) (m x v : Operand) (hop : o.op = Op.mapUpdate 46 m x v) (b n : Nat) (f : CF) (hm : a.eval m = .map (some b)) (h : CM w b n f) (hn : n < maxLen) (c s : Int × Int) (hx : a.eval x = pv c) (hv : a.eval v = pv s) (hc : W64 c)
    (hK : ∀ w', CM w' b (n + 1) (updC f c (some s)) → w.grownBy w' (some b) → wpList Try.prog ops Q rest (a.put o.dst undef) w') : wpList Try.prog ops Q (o :: rest) a w := by
  refine wpList_plain hg fun K' hK' => ?_
  obtain ⟨D, h1, h2⟩ := h
  obtain ⟨w', hrun, r1, r2⟩ := h1.update cellLaw Try.underlying46 hn (key_ck c hc) (val := pv s) (d := .held (pv s)) (ps := []) rfl
  unfold Oper.wp
  simp [execOp, hop, hm, hx, hv, hrun, Result.andThen]
  exact hK' _ _ (hK w' ⟨_, r1, h2.put h1.isMap hc s⟩ r2)
theorem wpList_drop_c (w : World) {ops : Array Oper} {rest : List Oper} {o : Oper} {a : Act} {Q : Exit → Act → World → Prop} (hg : o.guard = none) (m x : Operand) (hop : o.op = Op.call { callee := Callee.builtin Builtin.delete, args := #[m, x], argTypes := #[46, 30] }) (b n : Nat) (f : CF) (hm : a.eval m = .map (some b)) (h : CM w b n f) (c : Int × Int) (hx : a.eval x = pv c) (hc : W64 c)
    (hK : ∀ w', CM w' b n (updC f c none) → w.grownBy w' (some b) → wpList Try.prog ops Q rest (a.put o.dst (.tuple #[])) w') : wpList Try.prog ops Q (o :: rest) a w := by
  obtain ⟨D, h1, h2⟩ := h
  exact wpList_delete_own w hg m x _ _ hop _ cellLaw Try.underlying46 heldR b n D hm h1 _ _ hx (key_ck c hc) (fun w' r1 r2 => hK w' ⟨_, r1, h2.del hc⟩ r2.grown)
/-- a loop over the map under way: which cells are still to come -/
def CR (w : World) (b r n : Nat) (f : CF) (left : Int × Int → Bool) (cnt : Nat) : Prop := ∃ D lf, w.ranges Try.prog 30 heldR b r n D lf cnt ∧ Agree D f ∧ ∀ c, W64 c → lf (ck c) = left c
theorem CR.kept {w w' : World} {b r n cnt : Nat} {f : CF} {left : Int × Int → Bool} {row : Option Nat} (h : CR w b r n f left cnt) (hg : w.grownBy w' row) (h1 : some b ≠ row) (h2 : some r ≠ row) : CR w' b r n f left cnt := let ⟨D, lf, h3, h4, h5⟩ := h; ⟨D, lf, h3.kept hg h1 h2, h4, h5⟩
theorem CR.left_eq {w : World} {b r n cnt : Nat} {f : CF} {left : Int × Int → Bool} (h : CR w b r n f left cnt) : w.rangeLeft b r = cnt := let ⟨_, _, h3, _⟩ := h; h3.left_eq
theorem CR.map {w : World} {b r n cnt : Nat} {f : CF} {left : Int × Int → Bool} (h : CR w b r n f left cnt) : CM w b n f := let ⟨D, _, h3, h4, _⟩ := h; ⟨D, h3.owns, h4⟩
theorem CR.lt {w : World} {b r n cnt : Nat} {f : CF} {left : Int × Int → Bool} (h : CR w b r n f left cnt) : r < w.heap.size := let ⟨_, _, h3, _⟩ := h; h3.lt
theorem CR.ne {w : World} {b r n cnt : Nat} {f : CF} {left : Int × Int → Bool} (h : CR w b r n f left cnt) : r ≠ b := let ⟨_, _, h3, _⟩ := h; h3.ne
theorem wpList_range_c (w : World) {ops : Array Oper} {rest : List Oper} {o : Oper} {a : Act} {Q : Exit → Act → World → Prop} (hg : o.guard = none) (m : Operand) (hop : o.op = Op.range 46 m) (b n : Nat) (f : CF) (hm : a.eval m = .map (some b)) (h : CM w b n f)
    (hK : ∀ w' cnt, CR w' b w.heap.size n f (fun c => (f c).isSome) cnt → cnt ≤ n → w.grownBy w' none → w'.heap.size = w.heap.size + 1 → wpList Try.prog ops Q rest (a.put o.dst (.pointer (some ⟨w.heap.size, 0, none⟩))) w') : wpList Try.prog ops Q (o :: rest) a w := by
  obtain ⟨D, h1, h2⟩ := h
  exact wpList_range_own w hg m _ hop _ _ cellLaw Try.underlying46 heldR b n D hm h1 (fun w' r1 r2 r3 => hK w' _ ⟨D, _, r1, h2, fun c hc => (h2 c hc).1⟩ h1.size_le r2 r3)
theorem wpList_next_c (w : World) {ops : Array Oper} {rest : List Oper} {o : Oper} {a : Act} {Q : Exit → Act → World → Prop} (hg : o.guard = none) (it : Operand) (hop : o.op = Op.next it false) (b r n : Nat) (f : CF) (left : Int × Int → Bool) (cnt : Nat) (hit : a.eval it = .pointer (some ⟨r, 0, none⟩)) (h : CR w b r n f left cnt)
    (hDone : (∀ c, W64 c → left c = false) → wpList Try.prog ops Q rest (a.put o.dst (.tuple #[.bool false])) w)
    (hMore : ∀ (c s : Int × Int) w' cnt', W64 c → left c = true → f c = some s → CR w' b r n f (fun d => left d && !decide (d = c)) cnt' → cnt' < cnt → w.grownBy w' (some r) → w'.heap.size = w.heap.size → (Instr.entry (.pointer (some ⟨r, 0, none⟩))).run Try.prog w' = .ok (.tuple #[pv c, pv s]) w' → wpList Try.prog ops Q rest (a.put o.dst (.tuple #[.bool true, pv c, pv s])) w') : wpList Try.prog ops Q (o :: rest) a w := by
  obtain ⟨D, lf, h1, h2, h3⟩ := h
  refine wpList_next_ranges w hg it hop _ cellLaw heldR (fun c : { c : Int × Int // W64 c } => pv c.1) (fun v : Value => v) (fun _ _ hk => key_inv hk) (fun v _ _ => ⟨v, rfl⟩) b r n D lf cnt hit h1 (fun _ hl => hDone fun c hc => by rw [← h3 c hc]; exact hl _) ?_
  intro x v kl y w' cnt' hk hl hR hat hr hlt hgr hsz hen
  obtain ⟨c, hc⟩ := x
  simp only at hk hen
  obtain rfl : kl = ck c := Option.some.inj (hk.symm.trans (key_ck c hc))
  have hy : y = (.held v, []) := (Option.some.inj hR).symm
  subst hy
  have hhas : (f c).isSome = true := by rw [← (h2 c hc).1]; exact has_true_of_atKey hat
  obtain ⟨s, hs⟩ := Option.isSome_iff_exists.1 hhas
  have hv : v = pv s := by
    have e1 := hat (.held (pv (0, 0)))
    rw [(h2 c hc).2] at e1
    have : getC f c = s := by simp [getC, hs]
    rw [this] at e1
    injection e1 with e1
    exact e1.symm
  subst hv
  refine hMore c s w' cnt' hc (by rw [← h3 c hc]; exact hl) hs ⟨D, _, hr, h2, fun d hd => ?_⟩ hlt hgr hsz hen
  rw [h3 d hd]
  congr 1
  by_cases e : d = c
  · subst e
    simp [Lit.sameKey, ck]
  · have : ck d ≠ ck c := fun h => e (ck_inj hd hc h)
    rw [sameKey_ne this]; simp [e]
end Go.Proofs.Ytkpoidlohgnbpaa
