/-
  stamps: Change.
-/
import Derived.Test.YtkpoidlohgnbpaaRows
import Derived.Test.YtkpoidlohgnbpaaBase
import Derived.Test.YtkpoidlohgnbpaaStK
import Derived.Test.YtkpoidlohgnbpaaAddrC
import Derived.Test.YtkpoidlohgnbpaaStC
import Derived.Test.YtkpoidlohgnbpaaStD
import Derived.Test.YtkpoidlohgnbpaaProg
import Derived.Test.YtkpoidlohgnbpaaShelf
import Derived.Test.YtkpoidlohgnbpaaStE
import Derived.Test.YtkpoidlohgnbpaaEq
import Derived.Test.YtkpoidlohgnbpaaStG
import Derived.Test.YtkpoidlohgnbpaaStF
import Derived.Test.YtkpoidlohgnbpaaStL
import Derived.StillTailTactics
import Derived.IntWalk
import Derived.WalkSpells
import Derived.WalkLawsBesides
import Derived.StillTactics
import Derived.Laws.Pointers
import Derived.Deep.RegionHeld3
import Derived.Deep.QuietTactic
import Derived.BigQuiet
import Derived.RowKit3
import Derived.Lib.Hide
import Derived.Lib.OthersKept
import Derived.OwnWalk
import Derived.Lib.IndexLaws
import Derived.Lib.ItoaMem
import Derived.WalkKit
import Derived.ProofKit
import Derived.OpenShut
import Derived.Carry
import Derived.ChangeSame
import Derived.Deep.Draws
import Derived.DeepKeys4
import Derived.Maps.OwnSet
import Derived.Maps.AppendAt
import Derived.Maps.RangeWalk
import Derived.Shelf.Small.Bits
import Derived.Shelf.Strconv.Itoa0
import Derived.Shelf.Sort.Plain
import Derived.Ground.Names2Prog
import Derived.Shelf.Slices.SearchI
import Derived.Shelf.Slices.In.SortNone
import Derived.Shelf.Slices.Empties
import Derived.Sort.OwnSorted
import Derived.Sort.OwnSortedInts
import Derived.RangeFuncBox
namespace Go.Proofs.Ytkpoidlohgnbpaa
open Go.RowKit Go.Maps

/-- a block that was the map, or is new -/
def NewB (w : World) (b b2 : Nat) : Prop := b2 = b ∨ w.heap.size ≤ b2
def ChangeEnd (w : World) (k b n : Nat) (M L T : Int) (f : CF) (ch : Int) (c : Int × Int) (e : Ending) (w' : World) : Prop :=
  ∃ x f' L' T' ch' b' n', e = .returned (.int .i64 x) ∧ ChStep M f L T ch c x f' L' T' ch' ∧ ClockAt w' k b' n' M L' T' f' ch' ∧ n' ≤ n + 1 ∧ NewB w b b' ∧ Turn2 w w' k b
set_option maxRecDepth 100000 in
set_option maxHeartbeats 1000000 in
theorem change_no (r c : Int) (hm : mayB r c = false) (w : World) (k : Nat) : Calls Try.prog 10 #[.pointer (some ⟨k, 0, none⟩), .agg #[.int .i64 r, .int .i64 c]] w fun e w' => e = .returned (.int .i64 3) ∧ Below w.heap.size w w' := by
  go_enter Try.func10, Try.ntmps10
  go_wp2_with (go_at_call 17; refine (may_any r c _).mono ?_; rintro e w1 ⟨rfl, hb⟩)
  go_ret
  exact ⟨rfl, ((Below.refl _ _).alloc (Nat.le_refl _) _).trans (hb.mono (by simp))⟩
set_option maxRecDepth 100000 in
set_option maxHeartbeats 1000000 in
theorem change_full_pos (r c : Int) (hm : mayB r c = true) (w : World) {k b n : Nat} {M L T ch : Int} {f : CF} (h : ClockAt w k b n M L T f ch) (hn : n < 4398046511104) (hinv : ClkInv M f L ch) (hM : M ≤ 1099511627776) (hT : 0 ≤ T ∧ T ≤ 4611686018427387904) (h0 : 0 < (getC f (r, c)).1) (hchn : 0 ≤ ch ∧ ch ≤ n) (hfull : M - 1 ≤ othersC f (r, c) ch) : Calls Try.prog 10 #[.pointer (some ⟨k, 0, none⟩), .agg #[.int .i64 r, .int .i64 c]] w (ChangeEnd w k b n M L T f ch (r, c)) := by
  have hk := h.lt
  have hb0 := h.2.lt
  have h' := Lib.hid h
  obtain ⟨s1, s2, hs⟩ : ∃ s1 s2, getC f (r, c) = (s1, s2) := ⟨_, _, rfl⟩
  have hW : W64 (r, c) := mayB_w64 hm
  have hinv' := Lib.hid hinv
  have hl0 := hinv.last.1
  have hl1 := hinv.last.2
  have ho : othersC f (r, c) ch = (ch - 1) := by unfold othersC; rw [if_pos h0]
  rw [hs] at h0
  simp only at h0
  have ho' := Lib.hid ho
  rw [ho] at hfull
  clear ho
  have hch : 0 ≤ ch ∧ ch ≤ n := hchn
  have hs' := Lib.hid hs
  clear h hs hinv
  go_enter Try.func10, Try.ntmps10
  go_wp2_with (go_at_call 17; refine (may_any r c _).mono ?_; rintro e w1 ⟨rfl, hb⟩)
  have g0 : Below w.heap.size w w1 := ((Below.refl _ _).alloc (Nat.le_refl _) _).trans (hb.mono (by simp))
  have h1 := h'.out.below g0 (Nat.le_refl _)
  obtain ⟨c0, c1, c2, c3, c4, cf⟩ := h1.cells
  have hx0 : w1.cell? ⟨w.heap.size, 0, none⟩ = some (.int .i64 r) := by rw [hb.cell (by simp)]; simp
  have hx1 : w1.cell? ⟨w.heap.size, 1, none⟩ = some (.int .i64 c) := by rw [hb.cell (by simp)]; simp
  have hz := hb.size
  simp only [World.size_alloc] at hz
  have h1' := Lib.hid h1
  clear h1 hb
  have hmm := h1'.out.2
  have n1 : k ≠ w1.heap.size := by omega
  have n2 : b ≠ w1.heap.size := by omega
  have n3 : w.heap.size ≠ w1.heap.size := by omega
  go_wp2
  go_region_held3 (fun w' => w'.cell? ⟨k, 3, none⟩ = some (.map (some b)) ∧ w'.cell? ⟨w.heap.size, 0, none⟩ = some (.int .i64 r) ∧ w'.cell? ⟨w.heap.size, 1, none⟩ = some (.int .i64 c) ∧ CM w' b n f ∧ (Instr.lookup 46 (.map (some b)) (.agg #[.int .i64 r, .int .i64 c]) false).run Try.prog w' = .ok (.agg #[.int .i64 s1, .int .i64 s2]) w')
    (((try go_split_ands); refine ⟨?_, ?_, ?_, ?_, ?_⟩ <;> first | (simp [go_sem, *]; done) | exact cell_al (by assumption) _ | ((repeat (first | exact hmm | (with_reducible refine CM.drew ?_) | (with_reducible refine CM.alloc ?_ _) | (with_reducible refine CM.setCell ?_ _ (by simp; omega) _))); done) | (refine CM.lookD (n := n) ?_ hs'.out hW; (repeat (first | exact hmm | (with_reducible refine CM.drew ?_) | (with_reducible refine CM.alloc ?_ _) | (with_reducible refine CM.setCell ?_ _ (by simp; omega) _))); done))) (fail)
  all_goals
    go_split_ands
    generalize hw2 : (w1.alloc (.cells #[.int .i64 s1, .int .i64 s2] 43)).drew = w2 at *
    have g2 : Below w1.heap.size w1 w2 := by rw [← hw2]; exact ((Below.refl _ _).alloc (Nat.le_refl _) _).drew
    have y0 : w2.cell? ⟨w1.heap.size, 0, none⟩ = some (.int .i64 s1) := by rw [← hw2]; simp
    have y1 : w2.cell? ⟨w1.heap.size, 1, none⟩ = some (.int .i64 s2) := by rw [← hw2]; simp
    have yf0 : w2.frozen? ⟨w1.heap.size, 0, none⟩ = false := by rw [← hw2]; simp
    have yf1 : w2.frozen? ⟨w1.heap.size, 1, none⟩ = false := by rw [← hw2]; simp
    have zs2 : w1.heap.size + 1 = w2.heap.size := by rw [← hw2]; simp
    clear hw2 hmm
    have k2 := h1'.out.below g2 (Nat.le_refl _)
    obtain ⟨d0, d1, d2, d3, d4, df⟩ := k2.cells
    have z0 : w2.cell? ⟨w.heap.size, 0, none⟩ = some (.int .i64 r) := (g2.cell (by simp; omega)).trans hx0
    have z1 : w2.cell? ⟨w.heap.size, 1, none⟩ = some (.int .i64 c) := (g2.cell (by simp; omega)).trans hx1
    have k2' := Lib.hid k2
    have t2' := Lib.hid ((Turn2.of_below (k := k) (b := b) g0).trans (Turn2.of_below g2))
    clear c0 c1 c2 c3 c4 cf hx0 hx1 k2
    go_wp2
    go_ret
    exact ⟨50, f, L, T, ch, b, n, rfl, .full (by rw [ho'.out]; exact hfull), k2'.out, by omega, (.inl rfl : NewB w b b), t2'.out⟩
set_option maxRecDepth 100000 in
set_option maxHeartbeats 1000000 in
theorem change_full_zero (r c : Int) (hm : mayB r c = true) (w : World) {k b n : Nat} {M L T ch : Int} {f : CF} (h : ClockAt w k b n M L T f ch) (_hn : n < 4398046511104) (hinv : ClkInv M f L ch) (hM : M ≤ 1099511627776) (hT : 0 ≤ T ∧ T ≤ 4611686018427387904) (h0 : ¬ 0 < (getC f (r, c)).1) (hchn : 0 ≤ ch ∧ ch ≤ n) (hfull : M - 1 ≤ othersC f (r, c) ch) : Calls Try.prog 10 #[.pointer (some ⟨k, 0, none⟩), .agg #[.int .i64 r, .int .i64 c]] w (ChangeEnd w k b n M L T f ch (r, c)) := by
  have hk := h.lt
  have hb0 := h.2.lt
  have h' := Lib.hid h
  obtain ⟨s1, s2, hs⟩ : ∃ s1 s2, getC f (r, c) = (s1, s2) := ⟨_, _, rfl⟩
  have hW : W64 (r, c) := mayB_w64 hm
  have hinv' := Lib.hid hinv
  have hl0 := hinv.last.1
  have hl1 := hinv.last.2
  have ho : othersC f (r, c) ch = ch := by unfold othersC; rw [if_neg h0]
  rw [hs] at h0
  simp only at h0
  have ho' := Lib.hid ho
  rw [ho] at hfull
  clear ho
  have hch : 0 ≤ ch ∧ ch ≤ n := hchn
  have hs' := Lib.hid hs
  clear h hs hinv
  go_enter Try.func10, Try.ntmps10
  go_wp2_with (go_at_call 17; refine (may_any r c _).mono ?_; rintro e w1 ⟨rfl, hb⟩)
  have g0 : Below w.heap.size w w1 := ((Below.refl _ _).alloc (Nat.le_refl _) _).trans (hb.mono (by simp))
  have h1 := h'.out.below g0 (Nat.le_refl _)
  obtain ⟨c0, c1, c2, c3, c4, cf⟩ := h1.cells
  have hx0 : w1.cell? ⟨w.heap.size, 0, none⟩ = some (.int .i64 r) := by rw [hb.cell (by simp)]; simp
  have hx1 : w1.cell? ⟨w.heap.size, 1, none⟩ = some (.int .i64 c) := by rw [hb.cell (by simp)]; simp
  have hz := hb.size
  simp only [World.size_alloc] at hz
  have h1' := Lib.hid h1
  clear h1 hb
  have hmm := h1'.out.2
  have n1 : k ≠ w1.heap.size := by omega
  have n2 : b ≠ w1.heap.size := by omega
  have n3 : w.heap.size ≠ w1.heap.size := by omega
  go_wp2
  go_region_held3 (fun w' => w'.cell? ⟨k, 3, none⟩ = some (.map (some b)) ∧ w'.cell? ⟨w.heap.size, 0, none⟩ = some (.int .i64 r) ∧ w'.cell? ⟨w.heap.size, 1, none⟩ = some (.int .i64 c) ∧ CM w' b n f ∧ (Instr.lookup 46 (.map (some b)) (.agg #[.int .i64 r, .int .i64 c]) false).run Try.prog w' = .ok (.agg #[.int .i64 s1, .int .i64 s2]) w')
    (((try go_split_ands); refine ⟨?_, ?_, ?_, ?_, ?_⟩ <;> first | (simp [go_sem, *]; done) | exact cell_al (by assumption) _ | ((repeat (first | exact hmm | (with_reducible refine CM.drew ?_) | (with_reducible refine CM.alloc ?_ _) | (with_reducible refine CM.setCell ?_ _ (by simp; omega) _))); done) | (refine CM.lookD (n := n) ?_ hs'.out hW; (repeat (first | exact hmm | (with_reducible refine CM.drew ?_) | (with_reducible refine CM.alloc ?_ _) | (with_reducible refine CM.setCell ?_ _ (by simp; omega) _))); done))) (fail)
  all_goals
    go_split_ands
    generalize hw2 : (w1.alloc (.cells #[.int .i64 s1, .int .i64 s2] 43)).drew = w2 at *
    have g2 : Below w1.heap.size w1 w2 := by rw [← hw2]; exact ((Below.refl _ _).alloc (Nat.le_refl _) _).drew
    have y0 : w2.cell? ⟨w1.heap.size, 0, none⟩ = some (.int .i64 s1) := by rw [← hw2]; simp
    have y1 : w2.cell? ⟨w1.heap.size, 1, none⟩ = some (.int .i64 s2) := by rw [← hw2]; simp
    have yf0 : w2.frozen? ⟨w1.heap.size, 0, none⟩ = false := by rw [← hw2]; simp
    have yf1 : w2.frozen? ⟨w1.heap.size, 1, none⟩ = false := by rw [← hw2]; simp
    have zs2 : w1.heap.size + 1 = w2.heap.size := by rw [← hw2]; simp
    clear hw2 hmm
    have k2 := h1'.out.below g2 (Nat.le_refl _)
    obtain ⟨d0, d1, d2, d3, d4, df⟩ := k2.cells
    have z0 : w2.cell? ⟨w.heap.size, 0, none⟩ = some (.int .i64 r) := (g2.cell (by simp; omega)).trans hx0
    have z1 : w2.cell? ⟨w.heap.size, 1, none⟩ = some (.int .i64 c) := (g2.cell (by simp; omega)).trans hx1
    have k2' := Lib.hid k2
    have t2' := Lib.hid ((Turn2.of_below (k := k) (b := b) g0).trans (Turn2.of_below g2))
    clear c0 c1 c2 c3 c4 cf hx0 hx1 k2
    go_wp2
    go_ret
    exact ⟨50, f, L, T, ch, b, n, rfl, .full (by rw [ho'.out]; exact hfull), k2'.out, by omega, (.inl rfl : NewB w b b), t2'.out⟩
set_option maxRecDepth 100000 in
set_option maxHeartbeats 1000000 in
theorem change_next_pos (r c : Int) (hm : mayB r c = true) (w : World) {k b n : Nat} {M L T ch : Int} {f : CF} (h : ClockAt w k b n M L T f ch) (hn : n < 4398046511104) (hinv : ClkInv M f L ch) (hM : M ≤ 1099511627776) (hT : 0 ≤ T ∧ T ≤ 4611686018427387904) (h0 : 0 < (getC f (r, c)).1) (hchn : 0 ≤ ch ∧ ch ≤ n) (hfull : ¬ M - 1 ≤ othersC f (r, c) ch) (hl : L + 1 ≠ M) : Calls Try.prog 10 #[.pointer (some ⟨k, 0, none⟩), .agg #[.int .i64 r, .int .i64 c]] w (ChangeEnd w k b n M L T f ch (r, c)) := by
  have hk := h.lt
  have hb0 := h.2.lt
  have h' := Lib.hid h
  obtain ⟨s1, s2, hs⟩ : ∃ s1 s2, getC f (r, c) = (s1, s2) := ⟨_, _, rfl⟩
  have hW : W64 (r, c) := mayB_w64 hm
  have hinv' := Lib.hid hinv
  have hl0 := hinv.last.1
  have hl1 := hinv.last.2
  have hstep0 := ChStep.next (M := M) (f := f) (L := L) (T := T) (ch := ch) (c := (r, c)) hfull hl
  have hoo : othersC f (r, c) ch + 1 = ch := by unfold othersC; rw [if_pos h0]; omega
  have ho : othersC f (r, c) ch = (ch - 1) := by unfold othersC; rw [if_pos h0]
  rw [hs] at h0
  simp only at h0
  have ho' := Lib.hid ho
  rw [ho] at hfull
  clear ho
  have hch : 0 ≤ ch ∧ ch ≤ n := hchn
  have hstep : Hid (ChStep M f L T ch (r, c) 0 (updC f (r, c) (some (L + 1, s2))) (L + 1) T ch) := by rw [hs, hoo] at hstep0; exact Lib.hid hstep0
  clear hstep0 hoo
  have hs' := Lib.hid hs
  clear h hs hinv
  go_enter Try.func10, Try.ntmps10
  go_wp2_with (go_at_call 17; refine (may_any r c _).mono ?_; rintro e w1 ⟨rfl, hb⟩)
  have g0 : Below w.heap.size w w1 := ((Below.refl _ _).alloc (Nat.le_refl _) _).trans (hb.mono (by simp))
  have h1 := h'.out.below g0 (Nat.le_refl _)
  obtain ⟨c0, c1, c2, c3, c4, cf⟩ := h1.cells
  have hx0 : w1.cell? ⟨w.heap.size, 0, none⟩ = some (.int .i64 r) := by rw [hb.cell (by simp)]; simp
  have hx1 : w1.cell? ⟨w.heap.size, 1, none⟩ = some (.int .i64 c) := by rw [hb.cell (by simp)]; simp
  have hz := hb.size
  simp only [World.size_alloc] at hz
  have h1' := Lib.hid h1
  clear h1 hb
  have hmm := h1'.out.2
  have n1 : k ≠ w1.heap.size := by omega
  have n2 : b ≠ w1.heap.size := by omega
  have n3 : w.heap.size ≠ w1.heap.size := by omega
  go_wp2
  go_region_held3 (fun w' => w'.cell? ⟨k, 3, none⟩ = some (.map (some b)) ∧ w'.cell? ⟨w.heap.size, 0, none⟩ = some (.int .i64 r) ∧ w'.cell? ⟨w.heap.size, 1, none⟩ = some (.int .i64 c) ∧ CM w' b n f ∧ (Instr.lookup 46 (.map (some b)) (.agg #[.int .i64 r, .int .i64 c]) false).run Try.prog w' = .ok (.agg #[.int .i64 s1, .int .i64 s2]) w')
    (((try go_split_ands); refine ⟨?_, ?_, ?_, ?_, ?_⟩ <;> first | (simp [go_sem, *]; done) | exact cell_al (by assumption) _ | ((repeat (first | exact hmm | (with_reducible refine CM.drew ?_) | (with_reducible refine CM.alloc ?_ _) | (with_reducible refine CM.setCell ?_ _ (by simp; omega) _))); done) | (refine CM.lookD (n := n) ?_ hs'.out hW; (repeat (first | exact hmm | (with_reducible refine CM.drew ?_) | (with_reducible refine CM.alloc ?_ _) | (with_reducible refine CM.setCell ?_ _ (by simp; omega) _))); done))) (fail)
  all_goals
    go_split_ands
    generalize hw2 : (w1.alloc (.cells #[.int .i64 s1, .int .i64 s2] 43)).drew = w2 at *
    have g2 : Below w1.heap.size w1 w2 := by rw [← hw2]; exact ((Below.refl _ _).alloc (Nat.le_refl _) _).drew
    have y0 : w2.cell? ⟨w1.heap.size, 0, none⟩ = some (.int .i64 s1) := by rw [← hw2]; simp
    have y1 : w2.cell? ⟨w1.heap.size, 1, none⟩ = some (.int .i64 s2) := by rw [← hw2]; simp
    have yf0 : w2.frozen? ⟨w1.heap.size, 0, none⟩ = false := by rw [← hw2]; simp
    have yf1 : w2.frozen? ⟨w1.heap.size, 1, none⟩ = false := by rw [← hw2]; simp
    have zs2 : w1.heap.size + 1 = w2.heap.size := by rw [← hw2]; simp
    clear hw2 hmm
    have k2 := h1'.out.below g2 (Nat.le_refl _)
    obtain ⟨d0, d1, d2, d3, d4, df⟩ := k2.cells
    have z0 : w2.cell? ⟨w.heap.size, 0, none⟩ = some (.int .i64 r) := (g2.cell (by simp; omega)).trans hx0
    have z1 : w2.cell? ⟨w.heap.size, 1, none⟩ = some (.int .i64 c) := (g2.cell (by simp; omega)).trans hx1
    have k2' := Lib.hid k2
    have t2' := Lib.hid ((Turn2.of_below (k := k) (b := b) g0).trans (Turn2.of_below g2))
    clear c0 c1 c2 c3 c4 cf hx0 hx1 k2
    go_wp2
    have heq : ((L + 1 : Int) == M) = false := by simp [hl]
    have hwr : IntKind.i64.wrap (L + 1) = L + 1 := IntWalk.i64_in _ (by omega)
    go_quiet (fail)
    clear heq hwr d0 d1 d2 d3 d4 df
    have k3' := Lib.hid (k2'.out.drewN nq)
    have t3' := Lib.hid (t2'.out.trans (Turn2.drewN w2 nq))
    have v0 : (w2.drewN nq).cell? ⟨w1.heap.size, 0, none⟩ = some (.int .i64 s1) := y0
    have v1 : (w2.drewN nq).cell? ⟨w1.heap.size, 1, none⟩ = some (.int .i64 s2) := y1
    have v2 : (w2.drewN nq).cell? ⟨w.heap.size, 0, none⟩ = some (.int .i64 r) := z0
    have v3 : (w2.drewN nq).cell? ⟨w.heap.size, 1, none⟩ = some (.int .i64 c) := z1
    have vf : (w2.drewN nq).frozen? ⟨w1.heap.size, 0, none⟩ = false := yf0
    have vf1 : (w2.drewN nq).frozen? ⟨w1.heap.size, 1, none⟩ = false := yf1
    have zs3 : w1.heap.size + 1 = (w2.drewN nq).heap.size := zs2
    clear y0 y1 yf0 yf1 z0 z1 zs2 k2' t2' g2
    generalize w2.drewN nq = W at *
    have kX' := k3'
    have tX' := t3'
    have hbX : NewB w b b := .inl rfl
    have nb1 : b ≠ w1.heap.size := n2
    clear vf1
    obtain ⟨e0, e1, e2, e3, e4, ef⟩ := kX'.out.cells
    have kc1 := kX'.out.set1 (L + 1)
    obtain ⟨_, p1, _, p3, p4, pf⟩ := kc1.cells
    have kc1' := Lib.hid kc1
    clear kc1
    have q0 : (W.setCell ⟨k, 1, none⟩ (.int .i64 (L + 1))).cell? ⟨w1.heap.size, 0, none⟩ = some (.int .i64 s1) := (World.cell?_setCell_other _ _ _ _ (by simp <;> omega)).trans v0
    have q1 : (W.setCell ⟨k, 1, none⟩ (.int .i64 (L + 1))).cell? ⟨w1.heap.size, 1, none⟩ = some (.int .i64 s2) := (World.cell?_setCell_other _ _ _ _ (by simp <;> omega)).trans v1
    have q2 : (W.setCell ⟨k, 1, none⟩ (.int .i64 (L + 1))).cell? ⟨w.heap.size, 0, none⟩ = some (.int .i64 r) := (World.cell?_setCell_other _ _ _ _ (by simp <;> omega)).trans v2
    have q3 : (W.setCell ⟨k, 1, none⟩ (.int .i64 (L + 1))).cell? ⟨w.heap.size, 1, none⟩ = some (.int .i64 c) := (World.cell?_setCell_other _ _ _ _ (by simp <;> omega)).trans v3
    have qf : (W.setCell ⟨k, 1, none⟩ (.int .i64 (L + 1))).frozen? ⟨w1.heap.size, 0, none⟩ = false := by rw [World.frozen?_setCell]; exact vf
    go_wp2
    have r0 : ((W.setCell ⟨k, 1, none⟩ (.int .i64 (L + 1))).setCell ⟨w1.heap.size, 0, none⟩ (.int .i64 (L + 1))).cell? ⟨w1.heap.size, 0, none⟩ = some (.int .i64 (L + 1)) := World.cell?_setCell_same' _ _ _ (by rw [q0]; rfl)
    have r1 : ((W.setCell ⟨k, 1, none⟩ (.int .i64 (L + 1))).setCell ⟨w1.heap.size, 0, none⟩ (.int .i64 (L + 1))).cell? ⟨w1.heap.size, 1, none⟩ = some (.int .i64 s2) := (World.cell?_setCell_other _ _ _ _ (by simp <;> omega)).trans q1
    have r2 : ((W.setCell ⟨k, 1, none⟩ (.int .i64 (L + 1))).setCell ⟨w1.heap.size, 0, none⟩ (.int .i64 (L + 1))).cell? ⟨w.heap.size, 0, none⟩ = some (.int .i64 r) := (World.cell?_setCell_other _ _ _ _ (by simp <;> omega)).trans q2
    have r3 : ((W.setCell ⟨k, 1, none⟩ (.int .i64 (L + 1))).setCell ⟨w1.heap.size, 0, none⟩ (.int .i64 (L + 1))).cell? ⟨w.heap.size, 1, none⟩ = some (.int .i64 c) := (World.cell?_setCell_other _ _ _ _ (by simp <;> omega)).trans q3
    have r4 : ((W.setCell ⟨k, 1, none⟩ (.int .i64 (L + 1))).setCell ⟨w1.heap.size, 0, none⟩ (.int .i64 (L + 1))).cell? ⟨k, 3, none⟩ = some (.map (some b)) := (World.cell?_setCell_other _ _ _ _ (by simp <;> omega)).trans p3
    have k5 : ClockAt ((W.setCell ⟨k, 1, none⟩ (.int .i64 (L + 1))).setCell ⟨w1.heap.size, 0, none⟩ (.int .i64 (L + 1))) k b n M (L + 1) (T) (f) ch := kc1'.out.setO _ n1 nb1 _
    have t5 : Turn2 w ((W.setCell ⟨k, 1, none⟩ (.int .i64 (L + 1))).setCell ⟨w1.heap.size, 0, none⟩ (.int .i64 (L + 1))) k b := (tX'.out.set ⟨k, 1, none⟩ (.inl rfl) _).set ⟨w1.heap.size, 0, none⟩ (.inr (by simp; omega)) _
    have k5' := Lib.hid k5
    have t5' := Lib.hid t5
    clear k5 t5 q0 q1 q2 q3 qf p1 p3 p4 pf e0 e1 e2 e3 e4 ef v0 v1 v2 v3 vf
    generalize ((W.setCell ⟨k, 1, none⟩ (.int .i64 (L + 1))).setCell ⟨w1.heap.size, 0, none⟩ (.int .i64 (L + 1))) = w5 at *
    have r0' := cellV r0
    have r1' := cellV r1
    have r2' := cellV r2
    have r3' := cellV r3
    have r4' := cellV r4
    go_still_tail 6, (by kernel_rfl)
    refine wpList_store_c w5.drew rfl _ _ _ rfl b n (f) rfl k5'.out.2.drew (by unfold maxLen; omega) (r, c) (L + 1, s2) rfl rfl hW ?_
    intro w6 hcm hg6
    have k6 : ClockAt w6 k b (n + 1) M (L + 1) (T) (updC (f) (r, c) (some (L + 1, s2))) ch := ⟨(hg6.block k k5'.out.lt (by simpa using k5'.out.ne)).trans k5'.out.1, hcm⟩
    have t6 : Turn2 w w6 k b := by
      refine (t5'.out.trans (Turn2.drew _)).grown hg6 (fun j e => ?_)
      have hj : j = b := by simpa using e.symm
      rw [hj]
      rcases hbX with h9 | h9
      · exact .inr (.inr h9)
      · exact .inl h9
    obtain ⟨e0, e1, e2, e3, e4, ef⟩ := k6.cells
    have k6' := Lib.hid k6
    have t6' := Lib.hid t6
    clear k6 t6 hcm hg6 r0 r1 r2 r3 r4 r0' r1' r2' r3' r4'
    go_wp2
    go_ret
    exact ⟨0, _, _, _, _, _, _, rfl, hstep.out, k6'.out.set4 _, by omega, hbX, t6'.out.set _ (.inl rfl) _⟩
set_option maxRecDepth 100000 in
set_option maxHeartbeats 1000000 in
theorem change_next_zero (r c : Int) (hm : mayB r c = true) (w : World) {k b n : Nat} {M L T ch : Int} {f : CF} (h : ClockAt w k b n M L T f ch) (hn : n < 4398046511104) (hinv : ClkInv M f L ch) (hM : M ≤ 1099511627776) (hT : 0 ≤ T ∧ T ≤ 4611686018427387904) (h0 : ¬ 0 < (getC f (r, c)).1) (hchn : 0 ≤ ch ∧ ch ≤ n) (hfull : ¬ M - 1 ≤ othersC f (r, c) ch) (hl : L + 1 ≠ M) : Calls Try.prog 10 #[.pointer (some ⟨k, 0, none⟩), .agg #[.int .i64 r, .int .i64 c]] w (ChangeEnd w k b n M L T f ch (r, c)) := by
  have hk := h.lt
  have hb0 := h.2.lt
  have h' := Lib.hid h
  obtain ⟨s1, s2, hs⟩ : ∃ s1 s2, getC f (r, c) = (s1, s2) := ⟨_, _, rfl⟩
  have hW : W64 (r, c) := mayB_w64 hm
  have hinv' := Lib.hid hinv
  have hl0 := hinv.last.1
  have hl1 := hinv.last.2
  have hstep0 := ChStep.next (M := M) (f := f) (L := L) (T := T) (ch := ch) (c := (r, c)) hfull hl
  have hoo : othersC f (r, c) ch + 1 = (ch + 1) := by unfold othersC; rw [if_neg h0]
  have ho : othersC f (r, c) ch = ch := by unfold othersC; rw [if_neg h0]
  rw [hs] at h0
  simp only at h0
  have ho' := Lib.hid ho
  rw [ho] at hfull
  clear ho
  have hch : 0 ≤ ch ∧ ch ≤ n := hchn
  have hstep : Hid (ChStep M f L T ch (r, c) 0 (updC f (r, c) (some (L + 1, s2))) (L + 1) T (ch + 1)) := by rw [hs, hoo] at hstep0; exact Lib.hid hstep0
  clear hstep0 hoo
  have hs' := Lib.hid hs
  clear h hs hinv
  go_enter Try.func10, Try.ntmps10
  go_wp2_with (go_at_call 17; refine (may_any r c _).mono ?_; rintro e w1 ⟨rfl, hb⟩)
  have g0 : Below w.heap.size w w1 := ((Below.refl _ _).alloc (Nat.le_refl _) _).trans (hb.mono (by simp))
  have h1 := h'.out.below g0 (Nat.le_refl _)
  obtain ⟨c0, c1, c2, c3, c4, cf⟩ := h1.cells
  have hx0 : w1.cell? ⟨w.heap.size, 0, none⟩ = some (.int .i64 r) := by rw [hb.cell (by simp)]; simp
  have hx1 : w1.cell? ⟨w.heap.size, 1, none⟩ = some (.int .i64 c) := by rw [hb.cell (by simp)]; simp
  have hz := hb.size
  simp only [World.size_alloc] at hz
  have h1' := Lib.hid h1
  clear h1 hb
  have hmm := h1'.out.2
  have n1 : k ≠ w1.heap.size := by omega
  have n2 : b ≠ w1.heap.size := by omega
  have n3 : w.heap.size ≠ w1.heap.size := by omega
  go_wp2
  go_region_held3 (fun w' => w'.cell? ⟨k, 3, none⟩ = some (.map (some b)) ∧ w'.cell? ⟨w.heap.size, 0, none⟩ = some (.int .i64 r) ∧ w'.cell? ⟨w.heap.size, 1, none⟩ = some (.int .i64 c) ∧ CM w' b n f ∧ (Instr.lookup 46 (.map (some b)) (.agg #[.int .i64 r, .int .i64 c]) false).run Try.prog w' = .ok (.agg #[.int .i64 s1, .int .i64 s2]) w')
    (((try go_split_ands); refine ⟨?_, ?_, ?_, ?_, ?_⟩ <;> first | (simp [go_sem, *]; done) | exact cell_al (by assumption) _ | ((repeat (first | exact hmm | (with_reducible refine CM.drew ?_) | (with_reducible refine CM.alloc ?_ _) | (with_reducible refine CM.setCell ?_ _ (by simp; omega) _))); done) | (refine CM.lookD (n := n) ?_ hs'.out hW; (repeat (first | exact hmm | (with_reducible refine CM.drew ?_) | (with_reducible refine CM.alloc ?_ _) | (with_reducible refine CM.setCell ?_ _ (by simp; omega) _))); done))) (fail)
  all_goals
    go_split_ands
    generalize hw2 : (w1.alloc (.cells #[.int .i64 s1, .int .i64 s2] 43)).drew = w2 at *
    have g2 : Below w1.heap.size w1 w2 := by rw [← hw2]; exact ((Below.refl _ _).alloc (Nat.le_refl _) _).drew
    have y0 : w2.cell? ⟨w1.heap.size, 0, none⟩ = some (.int .i64 s1) := by rw [← hw2]; simp
    have y1 : w2.cell? ⟨w1.heap.size, 1, none⟩ = some (.int .i64 s2) := by rw [← hw2]; simp
    have yf0 : w2.frozen? ⟨w1.heap.size, 0, none⟩ = false := by rw [← hw2]; simp
    have yf1 : w2.frozen? ⟨w1.heap.size, 1, none⟩ = false := by rw [← hw2]; simp
    have zs2 : w1.heap.size + 1 = w2.heap.size := by rw [← hw2]; simp
    clear hw2 hmm
    have k2 := h1'.out.below g2 (Nat.le_refl _)
    obtain ⟨d0, d1, d2, d3, d4, df⟩ := k2.cells
    have z0 : w2.cell? ⟨w.heap.size, 0, none⟩ = some (.int .i64 r) := (g2.cell (by simp; omega)).trans hx0
    have z1 : w2.cell? ⟨w.heap.size, 1, none⟩ = some (.int .i64 c) := (g2.cell (by simp; omega)).trans hx1
    have k2' := Lib.hid k2
    have t2' := Lib.hid ((Turn2.of_below (k := k) (b := b) g0).trans (Turn2.of_below g2))
    clear c0 c1 c2 c3 c4 cf hx0 hx1 k2
    go_wp2
    have heq : ((L + 1 : Int) == M) = false := by simp [hl]
    have hwr : IntKind.i64.wrap (L + 1) = L + 1 := IntWalk.i64_in _ (by omega)
    go_quiet (fail)
    clear heq hwr d0 d1 d2 d3 d4 df
    have k3' := Lib.hid (k2'.out.drewN nq)
    have t3' := Lib.hid (t2'.out.trans (Turn2.drewN w2 nq))
    have v0 : (w2.drewN nq).cell? ⟨w1.heap.size, 0, none⟩ = some (.int .i64 s1) := y0
    have v1 : (w2.drewN nq).cell? ⟨w1.heap.size, 1, none⟩ = some (.int .i64 s2) := y1
    have v2 : (w2.drewN nq).cell? ⟨w.heap.size, 0, none⟩ = some (.int .i64 r) := z0
    have v3 : (w2.drewN nq).cell? ⟨w.heap.size, 1, none⟩ = some (.int .i64 c) := z1
    have vf : (w2.drewN nq).frozen? ⟨w1.heap.size, 0, none⟩ = false := yf0
    have vf1 : (w2.drewN nq).frozen? ⟨w1.heap.size, 1, none⟩ = false := yf1
    have zs3 : w1.heap.size + 1 = (w2.drewN nq).heap.size := zs2
    clear y0 y1 yf0 yf1 z0 z1 zs2 k2' t2' g2
    generalize w2.drewN nq = W at *
    have kX' := k3'
    have tX' := t3'
    have hbX : NewB w b b := .inl rfl
    have nb1 : b ≠ w1.heap.size := n2
    clear vf1
    obtain ⟨e0, e1, e2, e3, e4, ef⟩ := kX'.out.cells
    have kc1 := kX'.out.set1 (L + 1)
    obtain ⟨_, p1, _, p3, p4, pf⟩ := kc1.cells
    have kc1' := Lib.hid kc1
    clear kc1
    have q0 : (W.setCell ⟨k, 1, none⟩ (.int .i64 (L + 1))).cell? ⟨w1.heap.size, 0, none⟩ = some (.int .i64 s1) := (World.cell?_setCell_other _ _ _ _ (by simp <;> omega)).trans v0
    have q1 : (W.setCell ⟨k, 1, none⟩ (.int .i64 (L + 1))).cell? ⟨w1.heap.size, 1, none⟩ = some (.int .i64 s2) := (World.cell?_setCell_other _ _ _ _ (by simp <;> omega)).trans v1
    have q2 : (W.setCell ⟨k, 1, none⟩ (.int .i64 (L + 1))).cell? ⟨w.heap.size, 0, none⟩ = some (.int .i64 r) := (World.cell?_setCell_other _ _ _ _ (by simp <;> omega)).trans v2
    have q3 : (W.setCell ⟨k, 1, none⟩ (.int .i64 (L + 1))).cell? ⟨w.heap.size, 1, none⟩ = some (.int .i64 c) := (World.cell?_setCell_other _ _ _ _ (by simp <;> omega)).trans v3
    have qf : (W.setCell ⟨k, 1, none⟩ (.int .i64 (L + 1))).frozen? ⟨w1.heap.size, 0, none⟩ = false := by rw [World.frozen?_setCell]; exact vf
    go_wp2
    have r0 : ((W.setCell ⟨k, 1, none⟩ (.int .i64 (L + 1))).setCell ⟨w1.heap.size, 0, none⟩ (.int .i64 (L + 1))).cell? ⟨w1.heap.size, 0, none⟩ = some (.int .i64 (L + 1)) := World.cell?_setCell_same' _ _ _ (by rw [q0]; rfl)
    have r1 : ((W.setCell ⟨k, 1, none⟩ (.int .i64 (L + 1))).setCell ⟨w1.heap.size, 0, none⟩ (.int .i64 (L + 1))).cell? ⟨w1.heap.size, 1, none⟩ = some (.int .i64 s2) := (World.cell?_setCell_other _ _ _ _ (by simp <;> omega)).trans q1
    have r2 : ((W.setCell ⟨k, 1, none⟩ (.int .i64 (L + 1))).setCell ⟨w1.heap.size, 0, none⟩ (.int .i64 (L + 1))).cell? ⟨w.heap.size, 0, none⟩ = some (.int .i64 r) := (World.cell?_setCell_other _ _ _ _ (by simp <;> omega)).trans q2
    have r3 : ((W.setCell ⟨k, 1, none⟩ (.int .i64 (L + 1))).setCell ⟨w1.heap.size, 0, none⟩ (.int .i64 (L + 1))).cell? ⟨w.heap.size, 1, none⟩ = some (.int .i64 c) := (World.cell?_setCell_other _ _ _ _ (by simp <;> omega)).trans q3
    have r4 : ((W.setCell ⟨k, 1, none⟩ (.int .i64 (L + 1))).setCell ⟨w1.heap.size, 0, none⟩ (.int .i64 (L + 1))).cell? ⟨k, 3, none⟩ = some (.map (some b)) := (World.cell?_setCell_other _ _ _ _ (by simp <;> omega)).trans p3
    have k5 : ClockAt ((W.setCell ⟨k, 1, none⟩ (.int .i64 (L + 1))).setCell ⟨w1.heap.size, 0, none⟩ (.int .i64 (L + 1))) k b n M (L + 1) (T) (f) ch := kc1'.out.setO _ n1 nb1 _
    have t5 : Turn2 w ((W.setCell ⟨k, 1, none⟩ (.int .i64 (L + 1))).setCell ⟨w1.heap.size, 0, none⟩ (.int .i64 (L + 1))) k b := (tX'.out.set ⟨k, 1, none⟩ (.inl rfl) _).set ⟨w1.heap.size, 0, none⟩ (.inr (by simp; omega)) _
    have k5' := Lib.hid k5
    have t5' := Lib.hid t5
    clear k5 t5 q0 q1 q2 q3 qf p1 p3 p4 pf e0 e1 e2 e3 e4 ef v0 v1 v2 v3 vf
    generalize ((W.setCell ⟨k, 1, none⟩ (.int .i64 (L + 1))).setCell ⟨w1.heap.size, 0, none⟩ (.int .i64 (L + 1))) = w5 at *
    have r0' := cellV r0
    have r1' := cellV r1
    have r2' := cellV r2
    have r3' := cellV r3
    have r4' := cellV r4
    go_still_tail 6, (by kernel_rfl)
    refine wpList_store_c w5.drew rfl _ _ _ rfl b n (f) rfl k5'.out.2.drew (by unfold maxLen; omega) (r, c) (L + 1, s2) rfl rfl hW ?_
    intro w6 hcm hg6
    have k6 : ClockAt w6 k b (n + 1) M (L + 1) (T) (updC (f) (r, c) (some (L + 1, s2))) ch := ⟨(hg6.block k k5'.out.lt (by simpa using k5'.out.ne)).trans k5'.out.1, hcm⟩
    have t6 : Turn2 w w6 k b := by
      refine (t5'.out.trans (Turn2.drew _)).grown hg6 (fun j e => ?_)
      have hj : j = b := by simpa using e.symm
      rw [hj]
      rcases hbX with h9 | h9
      · exact .inr (.inr h9)
      · exact .inl h9
    obtain ⟨e0, e1, e2, e3, e4, ef⟩ := k6.cells
    have k6' := Lib.hid k6
    have t6' := Lib.hid t6
    clear k6 t6 hcm hg6 r0 r1 r2 r3 r4 r0' r1' r2' r3' r4'
    go_wp2
    go_ret
    exact ⟨0, _, _, _, _, _, _, rfl, hstep.out, k6'.out.set4 _, by omega, hbX, t6'.out.set _ (.inl rfl) _⟩
set_option maxRecDepth 100000 in
set_option maxHeartbeats 1000000 in
theorem change_anew_pos (r c : Int) (hm : mayB r c = true) (w : World) {k b n : Nat} {M L T ch : Int} {f : CF} (h : ClockAt w k b n M L T f ch) (hn : n < 4398046511104) (hinv : ClkInv M f L ch) (hM : M ≤ 1099511627776) (hT : 0 ≤ T ∧ T ≤ 4611686018427387904) (h0 : 0 < (getC f (r, c)).1) (hchn : 0 ≤ ch ∧ ch ≤ n) (hfull : ¬ M - 1 ≤ othersC f (r, c) ch) (hl : L + 1 = M) : Calls Try.prog 10 #[.pointer (some ⟨k, 0, none⟩), .agg #[.int .i64 r, .int .i64 c]] w (ChangeEnd w k b n M L T f ch (r, c)) := by
  have hk := h.lt
  have hb0 := h.2.lt
  have h' := Lib.hid h
  obtain ⟨s1, s2, hs⟩ : ∃ s1 s2, getC f (r, c) = (s1, s2) := ⟨_, _, rfl⟩
  have hW : W64 (r, c) := mayB_w64 hm
  have hinv' := Lib.hid hinv
  have hl0 := hinv.last.1
  have hl1 := hinv.last.2
  have hoo : othersC f (r, c) ch + 1 = ch := by unfold othersC; rw [if_pos h0]; omega
  have hfull' := Lib.hid hfull
  have hl' := Lib.hid hl
  clear hl
  have ho : othersC f (r, c) ch = (ch - 1) := by unfold othersC; rw [if_pos h0]
  rw [hs] at h0
  simp only at h0
  have ho' := Lib.hid ho
  rw [ho] at hfull
  clear ho
  have hch : 0 ≤ ch ∧ ch ≤ n := hchn
  have hoo' := Lib.hid hoo
  clear hoo
  have hs' := Lib.hid hs
  clear h hs hinv
  go_enter Try.func10, Try.ntmps10
  go_wp2_with (go_at_call 17; refine (may_any r c _).mono ?_; rintro e w1 ⟨rfl, hb⟩)
  have g0 : Below w.heap.size w w1 := ((Below.refl _ _).alloc (Nat.le_refl _) _).trans (hb.mono (by simp))
  have h1 := h'.out.below g0 (Nat.le_refl _)
  obtain ⟨c0, c1, c2, c3, c4, cf⟩ := h1.cells
  have hx0 : w1.cell? ⟨w.heap.size, 0, none⟩ = some (.int .i64 r) := by rw [hb.cell (by simp)]; simp
  have hx1 : w1.cell? ⟨w.heap.size, 1, none⟩ = some (.int .i64 c) := by rw [hb.cell (by simp)]; simp
  have hz := hb.size
  simp only [World.size_alloc] at hz
  have h1' := Lib.hid h1
  clear h1 hb
  have hmm := h1'.out.2
  have n1 : k ≠ w1.heap.size := by omega
  have n2 : b ≠ w1.heap.size := by omega
  have n3 : w.heap.size ≠ w1.heap.size := by omega
  go_wp2
  go_region_held3 (fun w' => w'.cell? ⟨k, 3, none⟩ = some (.map (some b)) ∧ w'.cell? ⟨w.heap.size, 0, none⟩ = some (.int .i64 r) ∧ w'.cell? ⟨w.heap.size, 1, none⟩ = some (.int .i64 c) ∧ CM w' b n f ∧ (Instr.lookup 46 (.map (some b)) (.agg #[.int .i64 r, .int .i64 c]) false).run Try.prog w' = .ok (.agg #[.int .i64 s1, .int .i64 s2]) w')
    (((try go_split_ands); refine ⟨?_, ?_, ?_, ?_, ?_⟩ <;> first | (simp [go_sem, *]; done) | exact cell_al (by assumption) _ | ((repeat (first | exact hmm | (with_reducible refine CM.drew ?_) | (with_reducible refine CM.alloc ?_ _) | (with_reducible refine CM.setCell ?_ _ (by simp; omega) _))); done) | (refine CM.lookD (n := n) ?_ hs'.out hW; (repeat (first | exact hmm | (with_reducible refine CM.drew ?_) | (with_reducible refine CM.alloc ?_ _) | (with_reducible refine CM.setCell ?_ _ (by simp; omega) _))); done))) (fail)
  all_goals
    go_split_ands
    generalize hw2 : (w1.alloc (.cells #[.int .i64 s1, .int .i64 s2] 43)).drew = w2 at *
    have g2 : Below w1.heap.size w1 w2 := by rw [← hw2]; exact ((Below.refl _ _).alloc (Nat.le_refl _) _).drew
    have y0 : w2.cell? ⟨w1.heap.size, 0, none⟩ = some (.int .i64 s1) := by rw [← hw2]; simp
    have y1 : w2.cell? ⟨w1.heap.size, 1, none⟩ = some (.int .i64 s2) := by rw [← hw2]; simp
    have yf0 : w2.frozen? ⟨w1.heap.size, 0, none⟩ = false := by rw [← hw2]; simp
    have yf1 : w2.frozen? ⟨w1.heap.size, 1, none⟩ = false := by rw [← hw2]; simp
    have zs2 : w1.heap.size + 1 = w2.heap.size := by rw [← hw2]; simp
    clear hw2 hmm
    have k2 := h1'.out.below g2 (Nat.le_refl _)
    obtain ⟨d0, d1, d2, d3, d4, df⟩ := k2.cells
    have z0 : w2.cell? ⟨w.heap.size, 0, none⟩ = some (.int .i64 r) := (g2.cell (by simp; omega)).trans hx0
    have z1 : w2.cell? ⟨w.heap.size, 1, none⟩ = some (.int .i64 c) := (g2.cell (by simp; omega)).trans hx1
    have k2' := Lib.hid k2
    have t2' := Lib.hid ((Turn2.of_below (k := k) (b := b) g0).trans (Turn2.of_below g2))
    clear c0 c1 c2 c3 c4 cf hx0 hx1 k2
    go_wp2
    have heq : ((L + 1 : Int) == M) = true := by simp [hl'.out]
    have hwr : IntKind.i64.wrap (L + 1) = L + 1 := IntWalk.i64_in _ (by omega)
    go_quiet (fail)
    clear heq hwr d0 d1 d2 d3 d4 df
    have k3' := Lib.hid (k2'.out.drewN nq)
    have t3' := Lib.hid (t2'.out.trans (Turn2.drewN w2 nq))
    have v0 : (w2.drewN nq).cell? ⟨w1.heap.size, 0, none⟩ = some (.int .i64 s1) := y0
    have v1 : (w2.drewN nq).cell? ⟨w1.heap.size, 1, none⟩ = some (.int .i64 s2) := y1
    have v2 : (w2.drewN nq).cell? ⟨w.heap.size, 0, none⟩ = some (.int .i64 r) := z0
    have v3 : (w2.drewN nq).cell? ⟨w.heap.size, 1, none⟩ = some (.int .i64 c) := z1
    have vf : (w2.drewN nq).frozen? ⟨w1.heap.size, 0, none⟩ = false := yf0
    have vf1 : (w2.drewN nq).frozen? ⟨w1.heap.size, 1, none⟩ = false := yf1
    have zs3 : w1.heap.size + 1 = (w2.drewN nq).heap.size := zs2
    clear y0 y1 yf0 yf1 z0 z1 zs2 k2' t2' g2
    generalize w2.drewN nq = W at *
    go_wp2_with fail
    refine (anew_any r c _ k3'.out (by omega) hW ⟨by omega, by omega⟩ (fun ks hk => col_nodup hinv'.out hk.nodup _)).mono ?_
    rintro e w4 ⟨ks, b4, hK, hkl, hb4, rfl, hck4, ht4⟩
    obtain ⟨a1, a2, ha⟩ : ∃ a1 a2, getC (newF ((colL f (r, c) ks).mergeSort fun x y => decide (x ≤ y)) f) (r, c) = (a1, a2) := ⟨_, _, rfl⟩
    have hstep0 := ChStep.anew (M := M) (f := f) (L := L) (T := T) (ch := ch) (c := (r, c)) (by have := hfull'.out; omega) hl'.out ((colL f (r, c) ks).mergeSort fun x y => decide (x ≤ y)) ks hK (List.mergeSort_perm _ _)
    rw [ha, hoo'.out, List.length_mergeSort] at hstep0
    have hcl := col_len hinv'.out hK hW
    rw [ho'.out] at hcl
    rw [ha]
    have kf : ∀ j, w4.cell? ⟨w1.heap.size, j, none⟩ = W.cell? ⟨w1.heap.size, j, none⟩ := fun j => World.cell?_of_block (a := ⟨w1.heap.size, j, none⟩) (ht4.block _ (by show w1.heap.size < W.heap.size; omega) (fun e => n1 e.symm) (fun e => n2 e.symm))
    have kfz : ∀ j, w4.frozen? ⟨w1.heap.size, j, none⟩ = W.frozen? ⟨w1.heap.size, j, none⟩ := fun j => World.frozen?_of_block (a := ⟨w1.heap.size, j, none⟩) (ht4.block _ (by show w1.heap.size < W.heap.size; omega) (fun e => n1 e.symm) (fun e => n2 e.symm))
    have kb : ∀ j, w4.cell? ⟨w.heap.size, j, none⟩ = W.cell? ⟨w.heap.size, j, none⟩ := fun j => World.cell?_of_block (a := ⟨w.heap.size, j, none⟩) (ht4.block _ (by show w.heap.size < W.heap.size; omega) (fun e => by simp at e; omega) (fun e => by simp at e; omega))
    have u0 := (kf 0).trans v0
    have u1 := (kf 1).trans v1
    have u2 := (kb 0).trans v2
    have u3 := (kb 1).trans v3
    have uf := (kfz 0).trans vf
    have uf1 := (kfz 1).trans vf1
    have t4' := Lib.hid (t3'.out.trans ht4)
    have k4' := Lib.hid hck4
    have zs4 := ht4.size
    clear kf kfz kb v0 v1 v2 v3 vf vf1 t3' k3' ht4 hck4
    generalize hF : newF ((colL f (r, c) ks).mergeSort fun x y => decide (x ≤ y)) f = F at *
    generalize hN : (colL f (r, c) ks).length = N at *
    have hstep := Lib.hid hstep0
    have hN0 : (N : Int) ≤ 1099511627776 := by omega
    clear hstep0 ha hF hN hK hcl
    have u1s : (w4.setCell ⟨w1.heap.size, 0, none⟩ (.int .i64 a1)).cell? ⟨w1.heap.size, 1, none⟩ = some (.int .i64 s2) := (World.cell?_setCell_other _ _ _ _ (by simp)).trans u1
    have ufs : (w4.setCell ⟨w1.heap.size, 0, none⟩ (.int .i64 a1)).frozen? ⟨w1.heap.size, 1, none⟩ = false := by rw [World.frozen?_setCell]; exact uf1
    have nb1 : b4 ≠ w1.heap.size := by omega
    have kX' := Lib.hid ((k4'.out.setO ⟨w1.heap.size, 0, none⟩ n1 nb1 (.int .i64 a1)).setO ⟨w1.heap.size, 1, none⟩ n1 nb1 (.int .i64 a2))
    have tX' := Lib.hid ((t4'.out.set ⟨w1.heap.size, 0, none⟩ (.inr (by simp; omega)) (.int .i64 a1)).set ⟨w1.heap.size, 1, none⟩ (.inr (by simp; omega)) (.int .i64 a2))
    have hbX : NewB w b b4 := .inr (by omega)
    have W2 : ∃ W2, W2 = (w4.setCell ⟨w1.heap.size, 0, none⟩ (.int .i64 a1)).setCell ⟨w1.heap.size, 1, none⟩ (.int .i64 a2) := ⟨_, rfl⟩
    have v0 : ((w4.setCell ⟨w1.heap.size, 0, none⟩ (.int .i64 a1)).setCell ⟨w1.heap.size, 1, none⟩ (.int .i64 a2)).cell? ⟨w1.heap.size, 0, none⟩ = some (.int .i64 a1) := (World.cell?_setCell_other _ _ _ _ (by simp)).trans (World.cell?_setCell_same' _ _ _ (by rw [u0]; rfl))
    have v1 : ((w4.setCell ⟨w1.heap.size, 0, none⟩ (.int .i64 a1)).setCell ⟨w1.heap.size, 1, none⟩ (.int .i64 a2)).cell? ⟨w1.heap.size, 1, none⟩ = some (.int .i64 a2) := World.cell?_setCell_same' _ _ _ (by rw [u1s]; rfl)
    have v2 : ((w4.setCell ⟨w1.heap.size, 0, none⟩ (.int .i64 a1)).setCell ⟨w1.heap.size, 1, none⟩ (.int .i64 a2)).cell? ⟨w.heap.size, 0, none⟩ = some (.int .i64 r) := (World.cell?_setCell_other _ _ _ _ (by simp <;> omega)).trans ((World.cell?_setCell_other _ _ _ _ (by simp <;> omega)).trans u2)
    have v3 : ((w4.setCell ⟨w1.heap.size, 0, none⟩ (.int .i64 a1)).setCell ⟨w1.heap.size, 1, none⟩ (.int .i64 a2)).cell? ⟨w.heap.size, 1, none⟩ = some (.int .i64 c) := (World.cell?_setCell_other _ _ _ _ (by simp <;> omega)).trans ((World.cell?_setCell_other _ _ _ _ (by simp <;> omega)).trans u3)
    have vf : ((w4.setCell ⟨w1.heap.size, 0, none⟩ (.int .i64 a1)).setCell ⟨w1.heap.size, 1, none⟩ (.int .i64 a2)).frozen? ⟨w1.heap.size, 0, none⟩ = false := by rw [World.frozen?_setCell, World.frozen?_setCell]; exact uf
    obtain ⟨e0, e1, e2, e3, e4, ef⟩ := kX'.out.cells
    clear W2
    go_upto_region 11 with (fail)
    clear e0 e1 e2 e3 e4 ef u0 u1 u2 u3 uf uf1 u1s ufs
    generalize (w4.setCell ⟨w1.heap.size, 0, none⟩ (.int .i64 a1)).setCell ⟨w1.heap.size, 1, none⟩ (.int .i64 a2) = W9 at *
    obtain ⟨e0, e1, e2, e3, e4, ef⟩ := kX'.out.cells
    have kc1 := kX'.out.set1 ((N : Int) + 1)
    obtain ⟨_, p1, _, p3, p4, pf⟩ := kc1.cells
    have kc1' := Lib.hid kc1
    clear kc1
    have q0 : (W9.setCell ⟨k, 1, none⟩ (.int .i64 ((N : Int) + 1))).cell? ⟨w1.heap.size, 0, none⟩ = some (.int .i64 a1) := (World.cell?_setCell_other _ _ _ _ (by simp <;> omega)).trans v0
    have q1 : (W9.setCell ⟨k, 1, none⟩ (.int .i64 ((N : Int) + 1))).cell? ⟨w1.heap.size, 1, none⟩ = some (.int .i64 a2) := (World.cell?_setCell_other _ _ _ _ (by simp <;> omega)).trans v1
    have q2 : (W9.setCell ⟨k, 1, none⟩ (.int .i64 ((N : Int) + 1))).cell? ⟨w.heap.size, 0, none⟩ = some (.int .i64 r) := (World.cell?_setCell_other _ _ _ _ (by simp <;> omega)).trans v2
    have q3 : (W9.setCell ⟨k, 1, none⟩ (.int .i64 ((N : Int) + 1))).cell? ⟨w.heap.size, 1, none⟩ = some (.int .i64 c) := (World.cell?_setCell_other _ _ _ _ (by simp <;> omega)).trans v3
    have qf : (W9.setCell ⟨k, 1, none⟩ (.int .i64 ((N : Int) + 1))).frozen? ⟨w1.heap.size, 0, none⟩ = false := by rw [World.frozen?_setCell]; exact vf
    go_wp2
    have r0 : ((W9.setCell ⟨k, 1, none⟩ (.int .i64 ((N : Int) + 1))).setCell ⟨w1.heap.size, 0, none⟩ (.int .i64 ((N : Int) + 1))).cell? ⟨w1.heap.size, 0, none⟩ = some (.int .i64 ((N : Int) + 1)) := World.cell?_setCell_same' _ _ _ (by rw [q0]; rfl)
    have r1 : ((W9.setCell ⟨k, 1, none⟩ (.int .i64 ((N : Int) + 1))).setCell ⟨w1.heap.size, 0, none⟩ (.int .i64 ((N : Int) + 1))).cell? ⟨w1.heap.size, 1, none⟩ = some (.int .i64 a2) := (World.cell?_setCell_other _ _ _ _ (by simp <;> omega)).trans q1
    have r2 : ((W9.setCell ⟨k, 1, none⟩ (.int .i64 ((N : Int) + 1))).setCell ⟨w1.heap.size, 0, none⟩ (.int .i64 ((N : Int) + 1))).cell? ⟨w.heap.size, 0, none⟩ = some (.int .i64 r) := (World.cell?_setCell_other _ _ _ _ (by simp <;> omega)).trans q2
    have r3 : ((W9.setCell ⟨k, 1, none⟩ (.int .i64 ((N : Int) + 1))).setCell ⟨w1.heap.size, 0, none⟩ (.int .i64 ((N : Int) + 1))).cell? ⟨w.heap.size, 1, none⟩ = some (.int .i64 c) := (World.cell?_setCell_other _ _ _ _ (by simp <;> omega)).trans q3
    have r4 : ((W9.setCell ⟨k, 1, none⟩ (.int .i64 ((N : Int) + 1))).setCell ⟨w1.heap.size, 0, none⟩ (.int .i64 ((N : Int) + 1))).cell? ⟨k, 3, none⟩ = some (.map (some b4)) := (World.cell?_setCell_other _ _ _ _ (by simp <;> omega)).trans p3
    have k5 : ClockAt ((W9.setCell ⟨k, 1, none⟩ (.int .i64 ((N : Int) + 1))).setCell ⟨w1.heap.size, 0, none⟩ (.int .i64 ((N : Int) + 1))) k b4 n M ((N : Int) + 1) (T + 1) (F) ch := kc1'.out.setO _ n1 nb1 _
    have t5 : Turn2 w ((W9.setCell ⟨k, 1, none⟩ (.int .i64 ((N : Int) + 1))).setCell ⟨w1.heap.size, 0, none⟩ (.int .i64 ((N : Int) + 1))) k b := (tX'.out.set ⟨k, 1, none⟩ (.inl rfl) _).set ⟨w1.heap.size, 0, none⟩ (.inr (by simp; omega)) _
    have k5' := Lib.hid k5
    have t5' := Lib.hid t5
    clear k5 t5 q0 q1 q2 q3 qf p1 p3 p4 pf e0 e1 e2 e3 e4 ef v0 v1 v2 v3 vf
    generalize ((W9.setCell ⟨k, 1, none⟩ (.int .i64 ((N : Int) + 1))).setCell ⟨w1.heap.size, 0, none⟩ (.int .i64 ((N : Int) + 1))) = w5 at *
    have r0' := cellV r0
    have r1' := cellV r1
    have r2' := cellV r2
    have r3' := cellV r3
    have r4' := cellV r4
    go_still_tail 6, (by kernel_rfl)
    refine wpList_store_c w5.drew rfl _ _ _ rfl b4 n (F) rfl k5'.out.2.drew (by unfold maxLen; omega) (r, c) ((N : Int) + 1, a2) rfl rfl hW ?_
    intro w6 hcm hg6
    have k6 : ClockAt w6 k b4 (n + 1) M ((N : Int) + 1) (T + 1) (updC (F) (r, c) (some ((N : Int) + 1, a2))) ch := ⟨(hg6.block k k5'.out.lt (by simpa using k5'.out.ne)).trans k5'.out.1, hcm⟩
    have t6 : Turn2 w w6 k b := by
      refine (t5'.out.trans (Turn2.drew _)).grown hg6 (fun j e => ?_)
      have hj : j = b4 := by simpa using e.symm
      rw [hj]
      rcases hbX with h9 | h9
      · exact .inr (.inr h9)
      · exact .inl h9
    obtain ⟨e0, e1, e2, e3, e4, ef⟩ := k6.cells
    have k6' := Lib.hid k6
    have t6' := Lib.hid t6
    clear k6 t6 hcm hg6 r0 r1 r2 r3 r4 r0' r1' r2' r3' r4'
    go_wp2
    go_ret
    exact ⟨0, _, _, _, _, _, _, rfl, hstep.out, k6'.out.set4 _, by omega, hbX, t6'.out.set _ (.inl rfl) _⟩
set_option maxRecDepth 100000 in
set_option maxHeartbeats 1000000 in
theorem change_anew_zero (r c : Int) (hm : mayB r c = true) (w : World) {k b n : Nat} {M L T ch : Int} {f : CF} (h : ClockAt w k b n M L T f ch) (hn : n < 4398046511104) (hinv : ClkInv M f L ch) (hM : M ≤ 1099511627776) (hT : 0 ≤ T ∧ T ≤ 4611686018427387904) (h0 : ¬ 0 < (getC f (r, c)).1) (hchn : 0 ≤ ch ∧ ch ≤ n) (hfull : ¬ M - 1 ≤ othersC f (r, c) ch) (hl : L + 1 = M) : Calls Try.prog 10 #[.pointer (some ⟨k, 0, none⟩), .agg #[.int .i64 r, .int .i64 c]] w (ChangeEnd w k b n M L T f ch (r, c)) := by
  have hk := h.lt
  have hb0 := h.2.lt
  have h' := Lib.hid h
  obtain ⟨s1, s2, hs⟩ : ∃ s1 s2, getC f (r, c) = (s1, s2) := ⟨_, _, rfl⟩
  have hW : W64 (r, c) := mayB_w64 hm
  have hinv' := Lib.hid hinv
  have hl0 := hinv.last.1
  have hl1 := hinv.last.2
  have hoo : othersC f (r, c) ch + 1 = (ch + 1) := by unfold othersC; rw [if_neg h0]
  have hfull' := Lib.hid hfull
  have hl' := Lib.hid hl
  clear hl
  have ho : othersC f (r, c) ch = ch := by unfold othersC; rw [if_neg h0]
  rw [hs] at h0
  simp only at h0
  have ho' := Lib.hid ho
  rw [ho] at hfull
  clear ho
  have hch : 0 ≤ ch ∧ ch ≤ n := hchn
  have hoo' := Lib.hid hoo
  clear hoo
  have hs' := Lib.hid hs
  clear h hs hinv
  go_enter Try.func10, Try.ntmps10
  go_wp2_with (go_at_call 17; refine (may_any r c _).mono ?_; rintro e w1 ⟨rfl, hb⟩)
  have g0 : Below w.heap.size w w1 := ((Below.refl _ _).alloc (Nat.le_refl _) _).trans (hb.mono (by simp))
  have h1 := h'.out.below g0 (Nat.le_refl _)
  obtain ⟨c0, c1, c2, c3, c4, cf⟩ := h1.cells
  have hx0 : w1.cell? ⟨w.heap.size, 0, none⟩ = some (.int .i64 r) := by rw [hb.cell (by simp)]; simp
  have hx1 : w1.cell? ⟨w.heap.size, 1, none⟩ = some (.int .i64 c) := by rw [hb.cell (by simp)]; simp
  have hz := hb.size
  simp only [World.size_alloc] at hz
  have h1' := Lib.hid h1
  clear h1 hb
  have hmm := h1'.out.2
  have n1 : k ≠ w1.heap.size := by omega
  have n2 : b ≠ w1.heap.size := by omega
  have n3 : w.heap.size ≠ w1.heap.size := by omega
  go_wp2
  go_region_held3 (fun w' => w'.cell? ⟨k, 3, none⟩ = some (.map (some b)) ∧ w'.cell? ⟨w.heap.size, 0, none⟩ = some (.int .i64 r) ∧ w'.cell? ⟨w.heap.size, 1, none⟩ = some (.int .i64 c) ∧ CM w' b n f ∧ (Instr.lookup 46 (.map (some b)) (.agg #[.int .i64 r, .int .i64 c]) false).run Try.prog w' = .ok (.agg #[.int .i64 s1, .int .i64 s2]) w')
    (((try go_split_ands); refine ⟨?_, ?_, ?_, ?_, ?_⟩ <;> first | (simp [go_sem, *]; done) | exact cell_al (by assumption) _ | ((repeat (first | exact hmm | (with_reducible refine CM.drew ?_) | (with_reducible refine CM.alloc ?_ _) | (with_reducible refine CM.setCell ?_ _ (by simp; omega) _))); done) | (refine CM.lookD (n := n) ?_ hs'.out hW; (repeat (first | exact hmm | (with_reducible refine CM.drew ?_) | (with_reducible refine CM.alloc ?_ _) | (with_reducible refine CM.setCell ?_ _ (by simp; omega) _))); done))) (fail)
  all_goals
    go_split_ands
    generalize hw2 : (w1.alloc (.cells #[.int .i64 s1, .int .i64 s2] 43)).drew = w2 at *
    have g2 : Below w1.heap.size w1 w2 := by rw [← hw2]; exact ((Below.refl _ _).alloc (Nat.le_refl _) _).drew
    have y0 : w2.cell? ⟨w1.heap.size, 0, none⟩ = some (.int .i64 s1) := by rw [← hw2]; simp
    have y1 : w2.cell? ⟨w1.heap.size, 1, none⟩ = some (.int .i64 s2) := by rw [← hw2]; simp
    have yf0 : w2.frozen? ⟨w1.heap.size, 0, none⟩ = false := by rw [← hw2]; simp
    have yf1 : w2.frozen? ⟨w1.heap.size, 1, none⟩ = false := by rw [← hw2]; simp
    have zs2 : w1.heap.size + 1 = w2.heap.size := by rw [← hw2]; simp
    clear hw2 hmm
    have k2 := h1'.out.below g2 (Nat.le_refl _)
    obtain ⟨d0, d1, d2, d3, d4, df⟩ := k2.cells
    have z0 : w2.cell? ⟨w.heap.size, 0, none⟩ = some (.int .i64 r) := (g2.cell (by simp; omega)).trans hx0
    have z1 : w2.cell? ⟨w.heap.size, 1, none⟩ = some (.int .i64 c) := (g2.cell (by simp; omega)).trans hx1
    have k2' := Lib.hid k2
    have t2' := Lib.hid ((Turn2.of_below (k := k) (b := b) g0).trans (Turn2.of_below g2))
    clear c0 c1 c2 c3 c4 cf hx0 hx1 k2
    go_wp2
    have heq : ((L + 1 : Int) == M) = true := by simp [hl'.out]
    have hwr : IntKind.i64.wrap (L + 1) = L + 1 := IntWalk.i64_in _ (by omega)
    go_quiet (fail)
    clear heq hwr d0 d1 d2 d3 d4 df
    have k3' := Lib.hid (k2'.out.drewN nq)
    have t3' := Lib.hid (t2'.out.trans (Turn2.drewN w2 nq))
    have v0 : (w2.drewN nq).cell? ⟨w1.heap.size, 0, none⟩ = some (.int .i64 s1) := y0
    have v1 : (w2.drewN nq).cell? ⟨w1.heap.size, 1, none⟩ = some (.int .i64 s2) := y1
    have v2 : (w2.drewN nq).cell? ⟨w.heap.size, 0, none⟩ = some (.int .i64 r) := z0
    have v3 : (w2.drewN nq).cell? ⟨w.heap.size, 1, none⟩ = some (.int .i64 c) := z1
    have vf : (w2.drewN nq).frozen? ⟨w1.heap.size, 0, none⟩ = false := yf0
    have vf1 : (w2.drewN nq).frozen? ⟨w1.heap.size, 1, none⟩ = false := yf1
    have zs3 : w1.heap.size + 1 = (w2.drewN nq).heap.size := zs2
    clear y0 y1 yf0 yf1 z0 z1 zs2 k2' t2' g2
    generalize w2.drewN nq = W at *
    go_wp2_with fail
    refine (anew_any r c _ k3'.out (by omega) hW ⟨by omega, by omega⟩ (fun ks hk => col_nodup hinv'.out hk.nodup _)).mono ?_
    rintro e w4 ⟨ks, b4, hK, hkl, hb4, rfl, hck4, ht4⟩
    obtain ⟨a1, a2, ha⟩ : ∃ a1 a2, getC (newF ((colL f (r, c) ks).mergeSort fun x y => decide (x ≤ y)) f) (r, c) = (a1, a2) := ⟨_, _, rfl⟩
    have hstep0 := ChStep.anew (M := M) (f := f) (L := L) (T := T) (ch := ch) (c := (r, c)) (by have := hfull'.out; omega) hl'.out ((colL f (r, c) ks).mergeSort fun x y => decide (x ≤ y)) ks hK (List.mergeSort_perm _ _)
    rw [ha, hoo'.out, List.length_mergeSort] at hstep0
    have hcl := col_len hinv'.out hK hW
    rw [ho'.out] at hcl
    rw [ha]
    have kf : ∀ j, w4.cell? ⟨w1.heap.size, j, none⟩ = W.cell? ⟨w1.heap.size, j, none⟩ := fun j => World.cell?_of_block (a := ⟨w1.heap.size, j, none⟩) (ht4.block _ (by show w1.heap.size < W.heap.size; omega) (fun e => n1 e.symm) (fun e => n2 e.symm))
    have kfz : ∀ j, w4.frozen? ⟨w1.heap.size, j, none⟩ = W.frozen? ⟨w1.heap.size, j, none⟩ := fun j => World.frozen?_of_block (a := ⟨w1.heap.size, j, none⟩) (ht4.block _ (by show w1.heap.size < W.heap.size; omega) (fun e => n1 e.symm) (fun e => n2 e.symm))
    have kb : ∀ j, w4.cell? ⟨w.heap.size, j, none⟩ = W.cell? ⟨w.heap.size, j, none⟩ := fun j => World.cell?_of_block (a := ⟨w.heap.size, j, none⟩) (ht4.block _ (by show w.heap.size < W.heap.size; omega) (fun e => by simp at e; omega) (fun e => by simp at e; omega))
    have u0 := (kf 0).trans v0
    have u1 := (kf 1).trans v1
    have u2 := (kb 0).trans v2
    have u3 := (kb 1).trans v3
    have uf := (kfz 0).trans vf
    have uf1 := (kfz 1).trans vf1
    have t4' := Lib.hid (t3'.out.trans ht4)
    have k4' := Lib.hid hck4
    have zs4 := ht4.size
    clear kf kfz kb v0 v1 v2 v3 vf vf1 t3' k3' ht4 hck4
    generalize hF : newF ((colL f (r, c) ks).mergeSort fun x y => decide (x ≤ y)) f = F at *
    generalize hN : (colL f (r, c) ks).length = N at *
    have hstep := Lib.hid hstep0
    have hN0 : (N : Int) ≤ 1099511627776 := by omega
    clear hstep0 ha hF hN hK hcl
    have u1s : (w4.setCell ⟨w1.heap.size, 0, none⟩ (.int .i64 a1)).cell? ⟨w1.heap.size, 1, none⟩ = some (.int .i64 s2) := (World.cell?_setCell_other _ _ _ _ (by simp)).trans u1
    have ufs : (w4.setCell ⟨w1.heap.size, 0, none⟩ (.int .i64 a1)).frozen? ⟨w1.heap.size, 1, none⟩ = false := by rw [World.frozen?_setCell]; exact uf1
    have nb1 : b4 ≠ w1.heap.size := by omega
    have kX' := Lib.hid ((k4'.out.setO ⟨w1.heap.size, 0, none⟩ n1 nb1 (.int .i64 a1)).setO ⟨w1.heap.size, 1, none⟩ n1 nb1 (.int .i64 a2))
    have tX' := Lib.hid ((t4'.out.set ⟨w1.heap.size, 0, none⟩ (.inr (by simp; omega)) (.int .i64 a1)).set ⟨w1.heap.size, 1, none⟩ (.inr (by simp; omega)) (.int .i64 a2))
    have hbX : NewB w b b4 := .inr (by omega)
    have W2 : ∃ W2, W2 = (w4.setCell ⟨w1.heap.size, 0, none⟩ (.int .i64 a1)).setCell ⟨w1.heap.size, 1, none⟩ (.int .i64 a2) := ⟨_, rfl⟩
    have v0 : ((w4.setCell ⟨w1.heap.size, 0, none⟩ (.int .i64 a1)).setCell ⟨w1.heap.size, 1, none⟩ (.int .i64 a2)).cell? ⟨w1.heap.size, 0, none⟩ = some (.int .i64 a1) := (World.cell?_setCell_other _ _ _ _ (by simp)).trans (World.cell?_setCell_same' _ _ _ (by rw [u0]; rfl))
    have v1 : ((w4.setCell ⟨w1.heap.size, 0, none⟩ (.int .i64 a1)).setCell ⟨w1.heap.size, 1, none⟩ (.int .i64 a2)).cell? ⟨w1.heap.size, 1, none⟩ = some (.int .i64 a2) := World.cell?_setCell_same' _ _ _ (by rw [u1s]; rfl)
    have v2 : ((w4.setCell ⟨w1.heap.size, 0, none⟩ (.int .i64 a1)).setCell ⟨w1.heap.size, 1, none⟩ (.int .i64 a2)).cell? ⟨w.heap.size, 0, none⟩ = some (.int .i64 r) := (World.cell?_setCell_other _ _ _ _ (by simp <;> omega)).trans ((World.cell?_setCell_other _ _ _ _ (by simp <;> omega)).trans u2)
    have v3 : ((w4.setCell ⟨w1.heap.size, 0, none⟩ (.int .i64 a1)).setCell ⟨w1.heap.size, 1, none⟩ (.int .i64 a2)).cell? ⟨w.heap.size, 1, none⟩ = some (.int .i64 c) := (World.cell?_setCell_other _ _ _ _ (by simp <;> omega)).trans ((World.cell?_setCell_other _ _ _ _ (by simp <;> omega)).trans u3)
    have vf : ((w4.setCell ⟨w1.heap.size, 0, none⟩ (.int .i64 a1)).setCell ⟨w1.heap.size, 1, none⟩ (.int .i64 a2)).frozen? ⟨w1.heap.size, 0, none⟩ = false := by rw [World.frozen?_setCell, World.frozen?_setCell]; exact uf
    obtain ⟨e0, e1, e2, e3, e4, ef⟩ := kX'.out.cells
    clear W2
    go_upto_region 11 with (fail)
    clear e0 e1 e2 e3 e4 ef u0 u1 u2 u3 uf uf1 u1s ufs
    generalize (w4.setCell ⟨w1.heap.size, 0, none⟩ (.int .i64 a1)).setCell ⟨w1.heap.size, 1, none⟩ (.int .i64 a2) = W9 at *
    obtain ⟨e0, e1, e2, e3, e4, ef⟩ := kX'.out.cells
    have kc1 := kX'.out.set1 ((N : Int) + 1)
    obtain ⟨_, p1, _, p3, p4, pf⟩ := kc1.cells
    have kc1' := Lib.hid kc1
    clear kc1
    have q0 : (W9.setCell ⟨k, 1, none⟩ (.int .i64 ((N : Int) + 1))).cell? ⟨w1.heap.size, 0, none⟩ = some (.int .i64 a1) := (World.cell?_setCell_other _ _ _ _ (by simp <;> omega)).trans v0
    have q1 : (W9.setCell ⟨k, 1, none⟩ (.int .i64 ((N : Int) + 1))).cell? ⟨w1.heap.size, 1, none⟩ = some (.int .i64 a2) := (World.cell?_setCell_other _ _ _ _ (by simp <;> omega)).trans v1
    have q2 : (W9.setCell ⟨k, 1, none⟩ (.int .i64 ((N : Int) + 1))).cell? ⟨w.heap.size, 0, none⟩ = some (.int .i64 r) := (World.cell?_setCell_other _ _ _ _ (by simp <;> omega)).trans v2
    have q3 : (W9.setCell ⟨k, 1, none⟩ (.int .i64 ((N : Int) + 1))).cell? ⟨w.heap.size, 1, none⟩ = some (.int .i64 c) := (World.cell?_setCell_other _ _ _ _ (by simp <;> omega)).trans v3
    have qf : (W9.setCell ⟨k, 1, none⟩ (.int .i64 ((N : Int) + 1))).frozen? ⟨w1.heap.size, 0, none⟩ = false := by rw [World.frozen?_setCell]; exact vf
    go_wp2
    have r0 : ((W9.setCell ⟨k, 1, none⟩ (.int .i64 ((N : Int) + 1))).setCell ⟨w1.heap.size, 0, none⟩ (.int .i64 ((N : Int) + 1))).cell? ⟨w1.heap.size, 0, none⟩ = some (.int .i64 ((N : Int) + 1)) := World.cell?_setCell_same' _ _ _ (by rw [q0]; rfl)
    have r1 : ((W9.setCell ⟨k, 1, none⟩ (.int .i64 ((N : Int) + 1))).setCell ⟨w1.heap.size, 0, none⟩ (.int .i64 ((N : Int) + 1))).cell? ⟨w1.heap.size, 1, none⟩ = some (.int .i64 a2) := (World.cell?_setCell_other _ _ _ _ (by simp <;> omega)).trans q1
    have r2 : ((W9.setCell ⟨k, 1, none⟩ (.int .i64 ((N : Int) + 1))).setCell ⟨w1.heap.size, 0, none⟩ (.int .i64 ((N : Int) + 1))).cell? ⟨w.heap.size, 0, none⟩ = some (.int .i64 r) := (World.cell?_setCell_other _ _ _ _ (by simp <;> omega)).trans q2
    have r3 : ((W9.setCell ⟨k, 1, none⟩ (.int .i64 ((N : Int) + 1))).setCell ⟨w1.heap.size, 0, none⟩ (.int .i64 ((N : Int) + 1))).cell? ⟨w.heap.size, 1, none⟩ = some (.int .i64 c) := (World.cell?_setCell_other _ _ _ _ (by simp <;> omega)).trans q3
    have r4 : ((W9.setCell ⟨k, 1, none⟩ (.int .i64 ((N : Int) + 1))).setCell ⟨w1.heap.size, 0, none⟩ (.int .i64 ((N : Int) + 1))).cell? ⟨k, 3, none⟩ = some (.map (some b4)) := (World.cell?_setCell_other _ _ _ _ (by simp <;> omega)).trans p3
    have k5 : ClockAt ((W9.setCell ⟨k, 1, none⟩ (.int .i64 ((N : Int) + 1))).setCell ⟨w1.heap.size, 0, none⟩ (.int .i64 ((N : Int) + 1))) k b4 n M ((N : Int) + 1) (T + 1) (F) ch := kc1'.out.setO _ n1 nb1 _
    have t5 : Turn2 w ((W9.setCell ⟨k, 1, none⟩ (.int .i64 ((N : Int) + 1))).setCell ⟨w1.heap.size, 0, none⟩ (.int .i64 ((N : Int) + 1))) k b := (tX'.out.set ⟨k, 1, none⟩ (.inl rfl) _).set ⟨w1.heap.size, 0, none⟩ (.inr (by simp; omega)) _
    have k5' := Lib.hid k5
    have t5' := Lib.hid t5
    clear k5 t5 q0 q1 q2 q3 qf p1 p3 p4 pf e0 e1 e2 e3 e4 ef v0 v1 v2 v3 vf
    generalize ((W9.setCell ⟨k, 1, none⟩ (.int .i64 ((N : Int) + 1))).setCell ⟨w1.heap.size, 0, none⟩ (.int .i64 ((N : Int) + 1))) = w5 at *
    have r0' := cellV r0
    have r1' := cellV r1
    have r2' := cellV r2
    have r3' := cellV r3
    have r4' := cellV r4
    go_still_tail 6, (by kernel_rfl)
    refine wpList_store_c w5.drew rfl _ _ _ rfl b4 n (F) rfl k5'.out.2.drew (by unfold maxLen; omega) (r, c) ((N : Int) + 1, a2) rfl rfl hW ?_
    intro w6 hcm hg6
    have k6 : ClockAt w6 k b4 (n + 1) M ((N : Int) + 1) (T + 1) (updC (F) (r, c) (some ((N : Int) + 1, a2))) ch := ⟨(hg6.block k k5'.out.lt (by simpa using k5'.out.ne)).trans k5'.out.1, hcm⟩
    have t6 : Turn2 w w6 k b := by
      refine (t5'.out.trans (Turn2.drew _)).grown hg6 (fun j e => ?_)
      have hj : j = b4 := by simpa using e.symm
      rw [hj]
      rcases hbX with h9 | h9
      · exact .inr (.inr h9)
      · exact .inl h9
    obtain ⟨e0, e1, e2, e3, e4, ef⟩ := k6.cells
    have k6' := Lib.hid k6
    have t6' := Lib.hid t6
    clear k6 t6 hcm hg6 r0 r1 r2 r3 r4 r0' r1' r2' r3' r4'
    go_wp2
    go_ret
    exact ⟨0, _, _, _, _, _, _, rfl, hstep.out, k6'.out.set4 _, by omega, hbX, t6'.out.set _ (.inl rfl) _⟩
end Go.Proofs.Ytkpoidlohgnbpaa
