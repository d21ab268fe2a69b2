/-
  A range over a function that keeps what it has yet to tell in a cell of its own.
-/
import Derived.Test.YtgmhifafbebjfaaGreatDoorMg0
import Derived.RangeFuncBox
import Derived.RangeFuncNested
import Derived.RangeFuncLeaves
import Derived.Shelf.Abstract
import Derived.OwnWalkIn
import Derived.TacticsInMore
import Derived.LoopNIn
import Derived.LoopIn
import Derived.Maps.AppendAt
import Derived.Maps.OwnIn
namespace Go.Proofs.YtgmhifafbebjfaaGreatDoor
open Go.RowKit Go.Shelf

/-- the record of a loop and the block of its rounds' deferred calls -/
structure RecAt (l D : Nat) (r : Loop) (W : World) : Prop where
  lp : W.heap[l]? = some (.loop r)
  blk : W.heap[D]? = some (.deferred (some []))
theorem RecAt.put {l D : Nat} {r r' : Loop} {W : World} (h : RecAt l D r W) (hne : l ≠ D) : RecAt l D r' (W.putObj l (.loop r')) :=
  ⟨World.putObj_heap_same (Array.getElem?_eq_some_iff.1 h.lp).1, (World.putObj_heap_other (Ne.symm hne)).trans h.blk⟩
theorem RecAt.from {l D B : Nat} {r : Loop} {W W' : World} (h : RecAt l D r W) (hk : KeepsFrom B W W') (h1 : B ≤ l) (h2 : B ≤ D) : RecAt l D r W' := ⟨hk.same _ _ h1 h.lp rfl, hk.same _ _ h2 h.blk rfl⟩
theorem RecAt.cell {l D b : Nat} {r : Loop} {W : World} (h : RecAt l D r W) (h1 : l ≠ b) (h2 : D ≠ b) (i : Nat) (v : Value) : RecAt l D r (W.setCell ⟨b, i, none⟩ v) :=
  ⟨(Below.heap_setCell _ _ _ _ h1).trans h.lp, (Below.heap_setCell _ _ _ _ h2).trans h.blk⟩
section
variable {α : Type} {F : Fence} {n : Nat} {P : Program}
/-- one round, out of the body's walk -/
theorem round_told {fn : FuncId} (hfn : F.fn fn) {ps : Array Tmp} {tm : Array Value} {assign body : Code} {l D B m : Nat} (hl : B ≤ l) (hD : B ≤ D) (hne : l ≠ D) {encs : α → Array Value} (hps : ∀ x, (encs x).size = ps.size) {Kp : World → World → Prop}
    (hKt : ∀ {X Y Z : World}, Kp X Y → Kp Y Z → Kp X Z) (hKb : ∀ (W : World) (l : Nat) (o o' : Obj), B ≤ l → W.heap[l]? = some o → o.isCells = false → Kp W (W.putObj l o'))
    (I : List α → World → Prop) (hI : OwnFrom B I) (a₁ : α → Act) (x : α) (pre : List α)
    (hassign : ∀ (W : World) (K : Act → World → Prop), K (a₁ x) W → assign.wpIn (F.inRound l) m P (Exit.then K (fun _ _ _ => False)) { tmps := (ps.zip (encs x)).foldl (fun t (p, v) => t.setIfInBounds p v) tm, defers := [] } W)
    (hbody : ∀ (W : World), I pre W → body.wpIn (F.inRound l) m P (ownPostG B Kp I (fun _ _ _ => False) (pre ++ [x]) W) (a₁ x) W)
    (rd : Loop) (hrd : rd = { state := .ready, pending := none, fn := fn, tmps := tm, params := ps, assign := assign, body := body, defers := D }) (W : World) (hi : I pre W) (hr : RecAt l D rd W) :
    YieldAt F m P l (encs x) W fun e W' => e = .returned (.bool true) ∧ (I (pre ++ [x]) W' ∧ RecAt l D rd W') ∧ Kp W W' := by
  subst hrd
  refine ⟨_, _, _, _, run_yield hr.lp (hps x), roundIn_of_wpIn hfn (hassign W _ ?_)⟩
  refine ⟨_, run_beginRound hr.lp rfl, ?_⟩
  have hr2 := hr.put (r' := { state := .busy, pending := none, fn := fn, tmps := tm, params := ps, assign := assign, body := body, defers := D }) hne
  have hk2 := hKb W l _ (.loop { state := .busy, pending := none, fn := fn, tmps := tm, params := ps, assign := assign, body := body, defers := D }) hl hr.lp rfl
  refine wpIn_mono (hbody _ (hI.putObj _ hi hl hr.lp rfl)) ?_
  rintro e a3 W3 hp
  cases e with
  | normal =>
    obtain ⟨hk3, hkp, hi3⟩ := hp
    have hr3 := hr2.from hk3 hl hD
    exact ⟨_, _, run_endRound none hr3.lp, rfl, ⟨hI.putObj _ hi3 hl hr3.lp rfl, hr3.put hne⟩, hKt (hKt hk2 hkp) (hKb _ _ _ _ hl hr3.lp rfl)⟩
  | ret => exact hp.2.elim
  | exit id => exact hp.2.elim
  | goto t => exact hp.2.elim
  | panic ch => exact hp.elim
  | outgrown => exact hp.elim
/-- the loop, where the iterator turns one cell of its own between two rounds -/
theorem range_state {g : Operand} {ps : Array Tmp} {assign body : Code} {Q : Exit → Act → World → Prop} {a : Act} {w : World}
    (hro : F.round = none) (h1 : 1 ≤ n) {gf : Nat} {lb : Array Value} (hg : a.eval g = .func (.func gf) #[] lb) (hFg : F.fn gf) (eg : ∀ args w, (callFunc gf args).run P w = .ok (.enter gf args) w)
    {encs : α → Array Value} (hps : ∀ x, (encs x).size = ps.size) {Kp : World → World → Prop}
    (hKt : ∀ {X Y Z : World}, Kp X Y → Kp Y Z → Kp X Z) (hKb : ∀ (W : World) (l : Nat) (o o' : Obj), w.heap.size ≤ l → W.heap[l]? = some o → o.isCells = false → Kp W (W.putObj l o'))
    (Bs : Nat) (hBs : Bs < w.heap.size) (I : List α → World → Prop) (hI : OwnFrom w.heap.size I) (hI2 : ∀ s W v, I s W → I s (W.setCell ⟨Bs, 0, none⟩ v)) (h0 : I [] w) (S : List α → Prop) (N : Nat)
    (hseq : ∀ (l : Nat) (J : List α → World → Prop) (W : World), Below w.heap.size w W → AbidesFrom W.heap.size J → (∀ s W v, J s W → J s (W.setCell ⟨Bs, 0, none⟩ v)) →
      (∀ pre x W1, J pre W1 → pre.length < N → YieldAt F (n - 1 - 1) P l (encs x) W1 fun e W' => e = .returned (.bool true) ∧ J (pre ++ [x]) W' ∧ Kp W1 W') → J [] W →
      CallsIn F (n - 1) P gf (#[.func (.yield l) #[] #[]] ++ lb) W fun e W' => (∃ v, e = .returned v) ∧ ∃ xs, S xs ∧ J xs W')
    (a₁ : α → Act)
    (hassign : ∀ (l : Nat) (x : α) (W : World) (K : Act → World → Prop), K (a₁ x) W → assign.wpIn (F.inRound l) (n - 1 - 1) P (Exit.then K (fun _ _ _ => False)) { tmps := (ps.zip (encs x)).foldl (fun t (p, v) => t.setIfInBounds p v) a.tmps, defers := [] } W)
    (hbody : ∀ (l : Nat) (pre : List α) (x : α) (W : World), w.heap.size ≤ l → pre.length < N → I pre W → body.wpIn (F.inRound l) (n - 1 - 1) P (ownPostG w.heap.size Kp I (fun _ _ _ => False) (pre ++ [x]) W) (a₁ x) W)
    (hdone : ∀ (D : Nat) (xs : List α) (W : World), w.heap.size ≤ D → S xs → I xs W → W.heap[D]? = some (.deferred (some [])) → Q .normal { a with defers := { target := .collected D, args := #[] } :: a.defers } W) :
    (Code.rangeFunc g ps assign body).wpIn F n P Q a w := by
  refine wpIn_rangeFunc fun fn hfn => ?_
  rw [hro]
  obtain ⟨rd, hrd⟩ : ∃ rd : Loop, rd = { state := .ready, pending := none, fn := fn, tmps := a.tmps, params := ps, assign := assign, body := body, defers := w.heap.size } := ⟨_, rfl⟩
  obtain ⟨W1, hW1⟩ : ∃ W1, (w.alloc (.deferred (some []))).alloc (.loop rd) = W1 := ⟨_, rfl⟩
  have hz : (w.alloc (.deferred (some []))).heap.size = w.heap.size + 1 := by simp
  have hr : RecAt (w.heap.size + 1) w.heap.size rd W1 := by
    rw [← hW1]
    refine ⟨?_, (Below.heap_alloc _ _ _ (by simp)).trans (World.alloc_heap_new w _)⟩
    rw [← hz]; exact World.alloc_heap_new _ _
  have hb : Below w.heap.size w W1 := by rw [← hW1]; exact ((Below.refl _ w).alloc (Nat.le_refl _) _).alloc (by omega) _
  have hi1 : I [] W1 := by rw [← hW1]; exact hI.alloc _ (hI.alloc _ h0)
  have hz1 : W1.heap.size = w.heap.size + 2 := by rw [← hW1]; simp
  refine ⟨w.heap.size + 1, [{ target := .collected w.heap.size, args := #[] }], W1, { target := .fn (.func gf) lb, args := #[.func (.yield (w.heap.size + 1)) #[] #[]] }, W1, gf, #[.func (.yield (w.heap.size + 1)) #[] #[]] ++ lb, W1, ?_, ?_, ?_, ?_, fun _ => h1, ?_⟩
  · rw [← hW1, hrd]; exact run_enterLoop_outer _ _ _ _ _
  · simp only [resolve, hg]
    simp [go_sem]
  · intro f' hf'; simp [Target.leads] at hf'; subst hf'; exact hFg
  · simp [invoke, go_sem, eg]
  · have hwk : ∀ {X : World} {row : Option Nat}, (∀ r, row = some r → W1.heap.size ≤ r ∧ ∃ o : Obj, X.heap[r]? = some o ∧ o.isWalk = true) → ∀ r, row = some r → w.heap.size ≤ r ∧ ∃ o : Obj, X.heap[r]? = some o ∧ o.isCells = false := fun hq r e => by
      obtain ⟨hB, o, ho, hw⟩ := hq r e
      exact ⟨by omega, o, ho, Obj.not_cells_of_walk hw⟩
    refine (hseq (w.heap.size + 1) (fun pre W => I pre W ∧ RecAt (w.heap.size + 1) w.heap.size rd W) W1 hb (fun s X Y row hs hgr hq => ?_) (fun s W v hs => ⟨hI2 s W v hs.1, hs.2.cell (by omega) (by omega) 0 v⟩) (fun pre x W hs hlt => ?_) ⟨hi1, hr⟩).mono ?_
    · exact ⟨hI s X Y row hs.1 hgr (hwk hq), (grownBy_keeps hgr (fun r e => (hq r e).2) hs.2.lp rfl).trans hs.2.lp, (grownBy_keeps hgr (fun r e => (hq r e).2) hs.2.blk rfl).trans hs.2.blk⟩
    · exact round_told (Kp := Kp) (B := w.heap.size) (l := w.heap.size + 1) (D := w.heap.size) hfn (by omega) (Nat.le_refl _) (by omega) hps hKt hKb I hI a₁ x pre (hassign (w.heap.size + 1) x) (fun W hi => hbody (w.heap.size + 1) pre x W (by omega) hlt hi) rd hrd W hs.1 hs.2
    · rintro e W2 ⟨⟨v, rfl⟩, xs, hS, hi, hr2⟩
      have he := run_endLoop (P := P) hr2.lp (by rw [hrd]; simp)
      refine ⟨none, W2.putObj (w.heap.size + 1) (.loop { rd with state := .exhausted }), ?_, hdone _ xs _ (Nat.le_refl _) hS (hI.putObj _ hi (by omega) hr2.lp rfl) ((World.putObj_heap_other (by omega)).trans hr2.blk)⟩
      have hp : rd.pending = none := by rw [hrd]
      rw [hp] at he
      rw [hp]; exact he
end
end Go.Proofs.YtgmhifafbebjfaaGreatDoor
