/-
  A clock in memory: Last, Turns, Newer.
-/
import Derived.Test.YtkpoidlohgnbpaaRows
import Derived.Test.YtkpoidlohgnbpaaBase
import Derived.Test.YtkpoidlohgnbpaaStK
import Derived.Test.YtkpoidlohgnbpaaAddrC
import Derived.Test.YtkpoidlohgnbpaaStC
import Derived.WalkSpells
import Derived.WalkLawsBesides
import Derived.StillTactics
import Derived.Laws.Pointers
import Derived.Deep.RegionHeld3
import Derived.Deep.QuietTactic
import Derived.BigQuiet
import Derived.RowKit3
import Derived.Lib.Hide
import Derived.Lib.OthersKept
import Derived.OwnWalk
import Derived.Lib.IndexLaws
import Derived.Lib.ItoaMem
import Derived.WalkKit
import Derived.ProofKit
import Derived.OpenShut
import Derived.Carry
import Derived.ChangeSame
import Derived.Deep.Draws
import Derived.DeepKeys4
import Derived.Maps.OwnSet
import Derived.Maps.AppendAt
import Derived.Maps.RangeWalk
import Derived.IntWalk
import Derived.StillTailTactics
namespace Go.Proofs.Ytkpoidlohgnbpaa
open Go.RowKit Go.Maps

@[go_sem] theorem field0 (a b : Int) (w : World) : (Instr.field 43 (.agg #[.int .i64 a, .int .i64 b]) 0).run Try.prog w = .ok (.int .i64 a) w := by kernel_rfl
@[go_sem] theorem field1 (a b : Int) (w : World) : (Instr.field 43 (.agg #[.int .i64 a, .int .i64 b]) 1).run Try.prog w = .ok (.int .i64 b) w := by kernel_rfl
theorem clock_set {w : World} {k : Nat} {cs : Array Value} {t : TypeId} {z : Nat × Nat} (h : w.heap[k]? = some (.cells cs t z)) (j : Nat) (v : Value) : (w.setCell ⟨k, j, none⟩ v).heap[k]? = some (.cells (cs.setIfInBounds j v) t z) := by
  simp [World.setCell, Array.getElem?_modify, h]
theorem ClockAt.set4 {w : World} {k b n : Nat} {M L T ch : Int} {f : CF} (h : ClockAt w k b n M L T f ch) (x : Int) : ClockAt (w.setCell ⟨k, 4, none⟩ (.int .i64 x)) k b n M L T f x :=
  ⟨clock_set h.1 4 _, h.2.setCell _ (fun e => h.ne e.symm) _⟩
theorem ClockAt.set1 {w : World} {k b n : Nat} {M L T ch : Int} {f : CF} (h : ClockAt w k b n M L T f ch) (x : Int) : ClockAt (w.setCell ⟨k, 1, none⟩ (.int .i64 x)) k b n M x T f ch :=
  ⟨clock_set h.1 1 _, h.2.setCell _ (fun e => h.ne e.symm) _⟩
theorem ClockAt.set2 {w : World} {k b n : Nat} {M L T ch : Int} {f : CF} (h : ClockAt w k b n M L T f ch) (x : Int) : ClockAt (w.setCell ⟨k, 2, none⟩ (.int .i64 x)) k b n M L x f ch :=
  ⟨clock_set h.1 2 _, h.2.setCell _ (fun e => h.ne e.symm) _⟩
theorem ClockAt.alloc {w : World} {k b n : Nat} {M L T ch : Int} {f : CF} (h : ClockAt w k b n M L T f ch) (o : Obj) : ClockAt (w.alloc o) k b n M L T f ch := h.below ((Below.refl _ _).alloc (Nat.le_refl _) _) (Nat.le_refl _)
theorem ClockAt.drew {w : World} {k b n : Nat} {M L T ch : Int} {f : CF} (h : ClockAt w k b n M L T f ch) : ClockAt w.drew k b n M L T f ch := h
theorem ClockAt.drewN {w : World} {k b n : Nat} {M L T ch : Int} {f : CF} (h : ClockAt w k b n M L T f ch) (q : Nat) : ClockAt (w.drewN q) k b n M L T f ch := h
theorem ClockAt.mono {w : World} {k b n : Nat} {M L T ch : Int} {f : CF} (h : ClockAt w k b n M L T f ch) {n' : Nat} (hn : n ≤ n') : ClockAt w k b n' M L T f ch := ⟨h.1, h.2.mono hn⟩
theorem ClockAt.kept {w w' : World} {k b n : Nat} {M L T ch : Int} {f : CF} {row : Option Nat} (h : ClockAt w k b n M L T f ch) (hg : w.grownBy w' row) (h1 : some k ≠ row) (h2 : some b ≠ row) : ClockAt w' k b n M L T f ch := h.same (hg.block k h.lt h1) (hg.block b h.2.lt h2)
set_option maxRecDepth 100000 in
set_option maxHeartbeats 1000000 in
theorem clast_any (w : World) {k b n : Nat} {M L T ch : Int} {f : CF} (h : ClockAt w k b n M L T f ch) : Calls Try.prog 13 #[.pointer (some ⟨k, 0, none⟩)] w fun e w' => e = .returned (.int .i64 L) ∧ w = w' := by
  obtain ⟨c0, c1, c2, c3, c4, cf⟩ := h.cells
  go_enter Try.func13, Try.ntmps13
  go_wp2
  go_ret
  exact ⟨rfl, rfl⟩
set_option maxRecDepth 100000 in
set_option maxHeartbeats 1000000 in
theorem cturns_any (w : World) {k b n : Nat} {M L T ch : Int} {f : CF} (h : ClockAt w k b n M L T f ch) : Calls Try.prog 14 #[.pointer (some ⟨k, 0, none⟩)] w fun e w' => e = .returned (.int .i64 T) ∧ w = w' := by
  obtain ⟨c0, c1, c2, c3, c4, cf⟩ := h.cells
  go_enter Try.func14, Try.ntmps14
  go_wp2
  go_ret
  exact ⟨rfl, rfl⟩
set_option maxRecDepth 100000 in
set_option maxHeartbeats 1000000 in
theorem newer_any (r1 c1 r2 c2 : Int) (w : World) {k b n : Nat} {M L T ch : Int} {f : CF} (h : ClockAt w k b n M L T f ch) (hW1 : W64 (r1, c1)) (hW2 : W64 (r2, c2)) : Calls Try.prog 12 #[.pointer (some ⟨k, 0, none⟩), .agg #[.int .i64 r1, .int .i64 c1], .agg #[.int .i64 r2, .int .i64 c2]] w fun e w' => e = .returned (.bool (decide ((getC f (r2, c2)).2 < (getC f (r1, c1)).1))) ∧ Below w.heap.size w w' := by
  have hk := h.lt
  obtain ⟨s1, s2, hs⟩ : ∃ s1 s2, getC f (r1, c1) = (s1, s2) := ⟨_, _, rfl⟩
  obtain ⟨t1, t2, ht⟩ : ∃ t1 t2, getC f (r2, c2) = (t1, t2) := ⟨_, _, rfl⟩
  have h2 := (h.alloc (.cells #[.int .i64 r1, .int .i64 c1] 30)).alloc (.cells #[.int .i64 r2, .int .i64 c2] 30)
  obtain ⟨d0, d1, d2, d3, d4, df⟩ := h2.cells
  have hmm := h2.2
  have hs' := Lib.hid hs
  have ht' := Lib.hid ht
  clear h h2 hs ht d0 d1 d2 d4 df
  go_enter Try.func12, Try.ntmps12
  go_wp2
  go_region_held3 (fun w' => w'.cell? ⟨k, 3, none⟩ = some (.map (some b)) ∧ w'.cell? ⟨w.heap.size, 0, none⟩ = some (.int .i64 r1) ∧ w'.cell? ⟨w.heap.size, 1, none⟩ = some (.int .i64 c1) ∧ w'.cell? ⟨w.heap.size + 1, 0, none⟩ = some (.int .i64 r2) ∧ w'.cell? ⟨w.heap.size + 1, 1, none⟩ = some (.int .i64 c2) ∧ (Instr.lookup 46 (.map (some b)) (.agg #[.int .i64 r1, .int .i64 c1]) false).run Try.prog w' = .ok (.agg #[.int .i64 s1, .int .i64 s2]) w' ∧ (Instr.lookup 46 (.map (some b)) (.agg #[.int .i64 r2, .int .i64 c2]) false).run Try.prog w' = .ok (.agg #[.int .i64 t1, .int .i64 t2]) w')
    (first | ((try go_split_ands); refine ⟨?_, ?_, ?_, ?_, ?_, ?_, ?_⟩ <;> first | (simp [go_sem, *]; done) | exact CM.lookD (n := n) hmm.drew hs'.out hW1 | exact CM.lookD (n := n) hmm.drew ht'.out hW2)) (fail)
  all_goals go_split_ands
  all_goals go_wp2
  all_goals go_ret
  all_goals exact ⟨by rw [hs'.out, ht'.out]; rfl, by (repeat (first | (with_reducible exact Below.refl _ _) | (with_reducible refine Below.alloc ?_ (by first | omega | (dsimp only; omega) | (simp <;> omega)) _) | (with_reducible refine Below.setCell ?_ (by first | omega | (dsimp only; omega) | (simp <;> omega)) _) | (with_reducible refine Below.drew ?_) | (with_reducible refine below_drewN ?_ _) | (with_reducible refine Below.trans ?_ (Below.mono (by assumption) (by first | omega | (dsimp only; omega) | (simp <;> omega))))))⟩
theorem CM.lookO {w : World} {b n : Nat} {f : CF} (h : CM w b n f) {r c s1 s2 : Int} {z : Bool} (hs : getC f (r, c) = (s1, s2)) (hz : (f (r, c)).isSome = z) (hc : W64 (r, c)) : (Instr.lookup 46 (.map (some b)) (.agg #[.int .i64 r, .int .i64 c]) true).run Try.prog w = .ok (.tuple #[.agg #[.int .i64 s1, .int .i64 s2], .bool z]) w := by
  have := h.look_ok hc
  rw [hs, hz] at this
  exact this
set_option maxRecDepth 100000 in
set_option maxHeartbeats 1000000 in
theorem get_any (r c : Int) (w : World) {k b n : Nat} {M L T ch : Int} {f : CF} (h : ClockAt w k b n M L T f ch) (hW : W64 (r, c)) : Calls Try.prog 15 #[.pointer (some ⟨k, 0, none⟩), .agg #[.int .i64 r, .int .i64 c]] w fun e w' => e = .returned (.tuple #[.agg #[.int .i64 (getC f (r, c)).1, .int .i64 (getC f (r, c)).2], .bool (f (r, c)).isSome]) ∧ Below w.heap.size w w' := by
  have hk := h.lt
  have hb0 := h.2.lt
  obtain ⟨s1, s2, hs⟩ : ∃ s1 s2, getC f (r, c) = (s1, s2) := ⟨_, _, rfl⟩
  obtain ⟨z, hz⟩ : ∃ z, (f (r, c)).isSome = z := ⟨_, rfl⟩
  rw [hs, hz]
  have h2 := (h.alloc (.cells #[.int .i64 r, .int .i64 c] 30)).alloc (.cells #[.int .i64 0, .int .i64 0] 43)
  obtain ⟨d0, d1, d2, d3, d4, df⟩ := h2.cells
  have hmm := h2.2
  have hs' := Lib.hid hs
  have hz' := Lib.hid hz
  clear h h2 hs hz d0 d1 d2 d4 df
  go_enter Try.func15, Try.ntmps15
  go_wp2
  go_region_held3 (fun w' => w'.cell? ⟨k, 3, none⟩ = some (.map (some b)) ∧ w'.cell? ⟨w.heap.size, 0, none⟩ = some (.int .i64 r) ∧ w'.cell? ⟨w.heap.size, 1, none⟩ = some (.int .i64 c) ∧ CM w' b n f ∧ (Instr.lookup 46 (.map (some b)) (.agg #[.int .i64 r, .int .i64 c]) true).run Try.prog w' = .ok (.tuple #[.agg #[.int .i64 s1, .int .i64 s2], .bool z]) w')
    (first | ((try go_split_ands); refine ⟨?_, ?_, ?_, ?_, ?_⟩ <;> first | (simp [go_sem, *]; done) | exact cell_al (by assumption) _ | ((repeat (first | exact hmm | (with_reducible refine CM.drew ?_) | (with_reducible refine CM.alloc ?_ _) | (with_reducible refine CM.setCell ?_ _ (by simp; omega) _))); done) | (refine CM.lookO (n := n) ?_ hs'.out hz'.out hW; (repeat (first | exact hmm | (with_reducible refine CM.drew ?_) | (with_reducible refine CM.alloc ?_ _) | (with_reducible refine CM.setCell ?_ _ (by simp; omega) _))); done))) (fail)
  all_goals go_split_ands
  all_goals go_wp2
  all_goals refine bodyPost_ret (v := .tuple #[.agg #[.int .i64 s1, .int .i64 s2], .bool z]) ?_ rfl ⟨rfl, by (repeat (first | (with_reducible exact Below.refl _ _) | (with_reducible refine Below.alloc ?_ (by first | omega | (dsimp only; omega) | (simp <;> omega)) _) | (with_reducible refine Below.setCell ?_ (by first | omega | (dsimp only; omega) | (simp <;> omega)) _) | (with_reducible refine Below.drew ?_) | (with_reducible refine below_drewN ?_ _) | (with_reducible refine Below.trans ?_ (Below.mono (by assumption) (by first | omega | (dsimp only; omega) | (simp <;> omega))))))⟩
  all_goals simp [results, Try.results15, go_sem, *]
def NewAt (w : World) (M : Int) (e : Ending) (w' : World) : Prop := ∃ k b, e = .returned (.tuple #[.pointer (some ⟨k, 0, none⟩), .int .i64 0]) ∧ w.heap.size ≤ k ∧ w.heap.size ≤ b ∧ ClockAt w' k b 0 M 0 0 (fun _ => none) 0 ∧ Below w.heap.size w w'
set_option maxRecDepth 100000 in
set_option maxHeartbeats 1000000 in
theorem new_no (M : Int) (h : M < 2 ∨ 1099511627776 < M) (w : World) : Calls Try.prog 6 #[.int .i64 M] w fun e w' => e = .returned (.tuple #[.pointer none, .int .i64 1]) ∧ w = w' := by
  rcases h with h | h
  · go_enter Try.func6, Try.ntmps6
    go_wp2
    go_ret2
    exact ⟨rfl, rfl⟩
  · have h2 : ¬ M < 2 := by omega
    go_enter Try.func6, Try.ntmps6
    go_wp2
    go_ret2
    exact ⟨rfl, rfl⟩
set_option maxRecDepth 100000 in
set_option maxHeartbeats 1000000 in
theorem new_yes (M : Int) (h1 : 2 ≤ M) (h2 : M ≤ 1099511627776) (w : World) : Calls Try.prog 6 #[.int .i64 M] w (NewAt w M) := by
  have h3 : ¬ M < 2 := by omega
  have h4 : ¬ 1099511627776 < M := by omega
  have hmm := @run_makeMap Try.prog
  go_enter Try.func6, Try.ntmps6
  go_wp2
  go_ret2
  refine ⟨w.heap.size + 1, w.heap.size, by simp, by omega, by omega, ⟨?_, ?_⟩, by (repeat (first | (with_reducible exact Below.refl _ _) | (with_reducible refine Below.alloc ?_ (by first | omega | (dsimp only; omega) | (simp <;> omega)) _) | (with_reducible refine Below.setCell ?_ (by first | omega | (dsimp only; omega) | (simp <;> omega)) _) | (with_reducible refine Below.drew ?_) | (with_reducible refine below_drewN ?_ _) | (with_reducible refine Below.trans ?_ (Below.mono (by assumption) (by first | omega | (dsimp only; omega) | (simp <;> omega))))))⟩
  · have := heap_alloc_new (w.alloc (.map #[] 0)) (.cells #[.int .i64 M, .int .i64 0, .int .i64 0, .map (some w.heap.size), .int .i64 0] 48)
    simpa using this
  · exact (CM.made w).alloc _
set_option maxRecDepth 100000 in
set_option maxHeartbeats 1000000 in
theorem drop_pos (r c : Int) (w : World) {k b n : Nat} {M L T ch : Int} {f : CF} (h : ClockAt w k b n M L T f ch) (hW : W64 (r, c)) (h0 : 0 < (getC f (r, c)).1) (hch : 0 ≤ ch ∧ ch ≤ 4611686018427387904) : Calls Try.prog 11 #[.pointer (some ⟨k, 0, none⟩), .agg #[.int .i64 r, .int .i64 c]] w (SeeEnd w k b n M L T (updC f (r, c) none) (ch - 1)) := by
  have hk := h.lt
  have hb0 := h.2.lt
  obtain ⟨s1, s2, hs⟩ : ∃ s1 s2, getC f (r, c) = (s1, s2) := ⟨_, _, rfl⟩
  rw [hs] at h0
  simp only at h0
  have h2 := h.alloc (.cells #[.int .i64 r, .int .i64 c] 30)
  obtain ⟨d0, d1, d2, d3, d4, df⟩ := h2.cells
  have hmm := h2.2
  have hs' := Lib.hid hs
  have h2' := Lib.hid h2
  have h' := Lib.hid h
  have n1 : k ≠ w.heap.size := by omega
  clear h h2 hs
  go_enter Try.func11, Try.ntmps11
  go_wp2
  go_region_held3 (fun w' => w'.cell? ⟨k, 3, none⟩ = some (.map (some b)) ∧ w'.cell? ⟨w.heap.size, 0, none⟩ = some (.int .i64 r) ∧ w'.cell? ⟨w.heap.size, 1, none⟩ = some (.int .i64 c) ∧ (Instr.lookup 46 (.map (some b)) (.agg #[.int .i64 r, .int .i64 c]) false).run Try.prog w' = .ok (.agg #[.int .i64 s1, .int .i64 s2]) w')
    (first | ((try go_split_ands); refine ⟨?_, ?_, ?_, ?_⟩ <;> first | (simp [go_sem, *]; done) | exact CM.lookD (n := n) hmm.drew hs'.out hW)) (fail)
  all_goals
    go_split_ands
    clear hmm
    have z0 : (w.alloc (.cells #[.int .i64 r, .int .i64 c] 30)).drew.cell? ⟨w.heap.size, 0, none⟩ = some (.int .i64 r) := by simp
    have z1 : (w.alloc (.cells #[.int .i64 r, .int .i64 c] 30)).drew.cell? ⟨w.heap.size, 1, none⟩ = some (.int .i64 c) := by simp
    have k2 : ClockAt (w.alloc (.cells #[.int .i64 r, .int .i64 c] 30)).drew k b n M L T f ch := h2'.out.drew
    have t2 : Turn2 w (w.alloc (.cells #[.int .i64 r, .int .i64 c] 30)).drew k b := (Turn2.alloc w _).trans (Turn2.drew _)
    clear d0 d1 d2 d3 d4 df h2'
    generalize (w.alloc (.cells #[.int .i64 r, .int .i64 c] 30)).drew = w2 at *
    obtain ⟨d0, d1, d2, d3, d4, df⟩ := k2.cells
    have k2' := Lib.hid k2
    have t2' := Lib.hid t2
    clear k2 t2
    go_wp2
    have e2 : (w2.setCell ⟨k, 4, none⟩ (.int .i64 (ch - 1))).cell? ⟨k, 3, none⟩ = some (.map (some b)) := (World.cell?_setCell_other _ _ _ _ (by simp)).trans d3
    have e3 : (w2.setCell ⟨k, 4, none⟩ (.int .i64 (ch - 1))).cell? ⟨w.heap.size, 0, none⟩ = some (.int .i64 r) := (World.cell?_setCell_other _ _ _ _ (by simp <;> omega)).trans z0
    have e4 : (w2.setCell ⟨k, 4, none⟩ (.int .i64 (ch - 1))).cell? ⟨w.heap.size, 1, none⟩ = some (.int .i64 c) := (World.cell?_setCell_other _ _ _ _ (by simp <;> omega)).trans z1
    have k3 : ClockAt (w2.setCell ⟨k, 4, none⟩ (.int .i64 (ch - 1))) k b n M L T f (ch - 1) := k2'.out.set4 _
    have t3 : Turn2 w (w2.setCell ⟨k, 4, none⟩ (.int .i64 (ch - 1))) k b := t2'.out.set _ (.inl rfl) _
    have k3' := Lib.hid k3
    have t3' := Lib.hid t3
    clear k3 t3 d0 d1 d2 d3 d4 df z0 z1
    generalize w2.setCell ⟨k, 4, none⟩ (.int .i64 (ch - 1)) = w3 at *
    have v2 := cellV e2
    have v3 := cellV e3
    have v4 := cellV e4
    go_still_tail 5, (by kernel_rfl)
    refine wpList_drop_c w3.drew (by rfl) _ _ (by rfl) b n f (by rfl) k3'.out.2.drew (r, c) (by rfl) hW ?_
    intro w4 hcm hg4
    have hf : SeeEnd w k b n M L T (updC f (r, c) none) (ch - 1) (.returned (.tuple #[])) w4 :=
      ⟨⟨_, rfl⟩, ⟨(hg4.block k k3'.out.lt (by simpa using h'.out.ne)).trans k3'.out.1, hcm⟩, t3'.out.trans ((Turn2.drew _).trans (Turn2.of_grown hg4 (fun j e => .inr (.inr (by simpa using e.symm)))))⟩
    go_wp2
    go_end0
    exact hf
set_option maxRecDepth 100000 in
set_option maxHeartbeats 1000000 in
theorem drop_zero (r c : Int) (w : World) {k b n : Nat} {M L T ch : Int} {f : CF} (h : ClockAt w k b n M L T f ch) (hW : W64 (r, c)) (h0 : ¬ 0 < (getC f (r, c)).1) (hch : 0 ≤ ch ∧ ch ≤ 4611686018427387904) : Calls Try.prog 11 #[.pointer (some ⟨k, 0, none⟩), .agg #[.int .i64 r, .int .i64 c]] w (SeeEnd w k b n M L T (updC f (r, c) none) (ch)) := by
  have hk := h.lt
  have hb0 := h.2.lt
  obtain ⟨s1, s2, hs⟩ : ∃ s1 s2, getC f (r, c) = (s1, s2) := ⟨_, _, rfl⟩
  rw [hs] at h0
  simp only at h0
  have h2 := h.alloc (.cells #[.int .i64 r, .int .i64 c] 30)
  obtain ⟨d0, d1, d2, d3, d4, df⟩ := h2.cells
  have hmm := h2.2
  have hs' := Lib.hid hs
  have h2' := Lib.hid h2
  have h' := Lib.hid h
  have n1 : k ≠ w.heap.size := by omega
  clear h h2 hs
  go_enter Try.func11, Try.ntmps11
  go_wp2
  go_region_held3 (fun w' => w'.cell? ⟨k, 3, none⟩ = some (.map (some b)) ∧ w'.cell? ⟨w.heap.size, 0, none⟩ = some (.int .i64 r) ∧ w'.cell? ⟨w.heap.size, 1, none⟩ = some (.int .i64 c) ∧ (Instr.lookup 46 (.map (some b)) (.agg #[.int .i64 r, .int .i64 c]) false).run Try.prog w' = .ok (.agg #[.int .i64 s1, .int .i64 s2]) w')
    (first | ((try go_split_ands); refine ⟨?_, ?_, ?_, ?_⟩ <;> first | (simp [go_sem, *]; done) | exact CM.lookD (n := n) hmm.drew hs'.out hW)) (fail)
  all_goals
    go_split_ands
    clear hmm
    go_wp2
    have e3 : (w.alloc (.cells #[.int .i64 r, .int .i64 c] 30)).drew.cell? ⟨w.heap.size, 0, none⟩ = some (.int .i64 r) := by simp
    have e4 : (w.alloc (.cells #[.int .i64 r, .int .i64 c] 30)).drew.cell? ⟨w.heap.size, 1, none⟩ = some (.int .i64 c) := by simp
    have e2 : (w.alloc (.cells #[.int .i64 r, .int .i64 c] 30)).drew.cell? ⟨k, 3, none⟩ = some (.map (some b)) := d3
    have k3 : ClockAt (w.alloc (.cells #[.int .i64 r, .int .i64 c] 30)).drew k b n M L T f ch := h2'.out.drew
    have t3 : Turn2 w (w.alloc (.cells #[.int .i64 r, .int .i64 c] 30)).drew k b := (Turn2.alloc w _).trans (Turn2.drew _)
    have k3' := Lib.hid k3
    have t3' := Lib.hid t3
    clear k3 t3 d0 d1 d2 d3 d4 df
    generalize (w.alloc (.cells #[.int .i64 r, .int .i64 c] 30)).drew = w3 at *
    have v2 := cellV e2
    have v3 := cellV e3
    have v4 := cellV e4
    go_still_tail 5, (by kernel_rfl)
    refine wpList_drop_c w3.drew (by rfl) _ _ (by rfl) b n f (by rfl) k3'.out.2.drew (r, c) (by rfl) hW ?_
    intro w4 hcm hg4
    have hf : SeeEnd w k b n M L T (updC f (r, c) none) (ch) (.returned (.tuple #[])) w4 :=
      ⟨⟨_, rfl⟩, ⟨(hg4.block k k3'.out.lt (by simpa using h'.out.ne)).trans k3'.out.1, hcm⟩, t3'.out.trans ((Turn2.drew _).trans (Turn2.of_grown hg4 (fun j e => .inr (.inr (by simpa using e.symm)))))⟩
    go_wp2
    go_end0
    exact hf
end Go.Proofs.Ytkpoidlohgnbpaa
