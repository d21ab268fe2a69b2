/-
  stamps: the methods joined; the law's known.
-/
import Derived.Test.YtkpoidlohgnbpaaRows
import Derived.Test.YtkpoidlohgnbpaaBase
import Derived.Test.YtkpoidlohgnbpaaStK
import Derived.Test.YtkpoidlohgnbpaaAddrC
import Derived.Test.YtkpoidlohgnbpaaStC
import Derived.Test.YtkpoidlohgnbpaaStD
import Derived.Test.YtkpoidlohgnbpaaProg
import Derived.Test.YtkpoidlohgnbpaaShelf
import Derived.Test.YtkpoidlohgnbpaaStE
import Derived.Test.YtkpoidlohgnbpaaEq
import Derived.Test.YtkpoidlohgnbpaaStG
import Derived.Test.YtkpoidlohgnbpaaStF
import Derived.Test.YtkpoidlohgnbpaaStL
import Derived.Test.YtkpoidlohgnbpaaStH
import Derived.WalkSpells
import Derived.WalkLawsBesides
import Derived.StillTactics
import Derived.Laws.Pointers
import Derived.Deep.RegionHeld3
import Derived.Deep.QuietTactic
import Derived.BigQuiet
import Derived.RowKit3
import Derived.Lib.Hide
import Derived.Lib.OthersKept
import Derived.OwnWalk
import Derived.Lib.IndexLaws
import Derived.Lib.ItoaMem
import Derived.WalkKit
import Derived.ProofKit
import Derived.OpenShut
import Derived.Carry
import Derived.ChangeSame
import Derived.Deep.Draws
import Derived.DeepKeys4
import Derived.Maps.OwnSet
import Derived.Maps.AppendAt
import Derived.Maps.RangeWalk
import Derived.IntWalk
import Derived.StillTailTactics
import Derived.Shelf.Small.Bits
import Derived.Shelf.Strconv.Itoa0
import Derived.Shelf.Sort.Plain
import Derived.Ground.Names2Prog
import Derived.Shelf.Slices.SearchI
import Derived.Shelf.Slices.In.SortNone
import Derived.Shelf.Slices.Empties
import Derived.Sort.OwnSorted
import Derived.Sort.OwnSortedInts
import Derived.RangeFuncBox
namespace Go.Proofs.Ytkpoidlohgnbpaa
open Go.RowKit Go.Maps

theorem Turn2.keep {w w' : World} {k b i : Nat} (h : Turn2 w w' k b) (hi : i < w.heap.size) (h1 : i ≠ k) (h2 : i ≠ b) : (∀ j, w'.cell? ⟨i, j, none⟩ = w.cell? ⟨i, j, none⟩) ∧ (∀ j, w'.frozen? ⟨i, j, none⟩ = w.frozen? ⟨i, j, none⟩) :=
  ⟨fun j => World.cell?_of_block (a := ⟨i, j, none⟩) (h.block i hi h1 h2), fun j => World.frozen?_of_block (a := ⟨i, j, none⟩) (h.block i hi h1 h2)⟩
theorem ChangeEnd.turn {w w' : World} {k b n : Nat} {M L T ch : Int} {f : CF} {c : Int × Int} {e : Ending} (g : ChangeEnd w k b n M L T f ch c e w') : Turn2 w w' k b := by
  obtain ⟨x, f', L', T', ch', b', n', h1, h2, h3, h4, h5, h6⟩ := g; exact h6
theorem change_yes (r c : Int) (hm : mayB r c = true) (w : World) {k b n : Nat} {M L T ch : Int} {f : CF} (h : ClockAt w k b n M L T f ch) (hn : n < 4398046511104) (hinv : ClkInv M f L ch) (hM : M ≤ 1099511627776) (hT : 0 ≤ T ∧ T ≤ 4611686018427387904) (hchn : 0 ≤ ch ∧ ch ≤ n) : Calls Try.prog 10 #[.pointer (some ⟨k, 0, none⟩), .agg #[.int .i64 r, .int .i64 c]] w (ChangeEnd w k b n M L T f ch (r, c)) := by
  by_cases h0 : 0 < (getC f (r, c)).1 <;> by_cases hf : M - 1 ≤ othersC f (r, c) ch
  · exact change_full_pos r c hm w h hn hinv hM hT h0 hchn hf
  · by_cases hl : L + 1 = M
    · exact change_anew_pos r c hm w h hn hinv hM hT h0 hchn hf hl
    · exact change_next_pos r c hm w h hn hinv hM hT h0 hchn hf hl
  · exact change_full_zero r c hm w h hn hinv hM hT h0 hchn hf
  · by_cases hl : L + 1 = M
    · exact change_anew_zero r c hm w h hn hinv hM hT h0 hchn hf hl
    · exact change_next_zero r c hm w h hn hinv hM hT h0 hchn hf hl
theorem drop_any (r c : Int) (w : World) {k b n : Nat} {M L T ch : Int} {f : CF} (h : ClockAt w k b n M L T f ch) (hW : W64 (r, c)) (hch : 0 ≤ ch ∧ ch ≤ 4611686018427387904) : Calls Try.prog 11 #[.pointer (some ⟨k, 0, none⟩), .agg #[.int .i64 r, .int .i64 c]] w (SeeEnd w k b n M L T (updC f (r, c) none) (othersC f (r, c) ch)) := by
  unfold othersC
  by_cases h0 : 0 < (getC f (r, c)).1
  · rw [if_pos h0]; exact drop_pos r c w h hW h0 hch
  · rw [if_neg h0]; exact drop_zero r c w h hW h0 hch
set_option maxRecDepth 100000 in
set_option maxHeartbeats 1000000 in
theorem see_no (r c : Int) (hm : mayB r c = false) (w : World) (k : Nat) : Calls Try.prog 9 #[.pointer (some ⟨k, 0, none⟩), .agg #[.int .i64 r, .int .i64 c]] w fun e w' => Back e ∧ Below w.heap.size w w' := by
  go_enter Try.func9, Try.ntmps9
  go_wp2_with (go_at_call 17; refine (may_any r c _).mono ?_; rintro e w1 ⟨rfl, hb⟩)
  go_end0
  exact ⟨⟨_, rfl⟩, ((Below.refl _ _).alloc (Nat.le_refl _) _).trans (hb.mono (by simp))⟩
/-- a clock and its map lie at or behind a block -/
structure ClkB (B : Nat) (w0 w : World) (k b n : Nat) (M L T : Int) (f : CF) (ch : Int) : Prop where
  clock : ClockAt w k b n M L T f ch
  inv : ClkInv M f L ch
  past : B ≤ k ∧ B ≤ b
  below : Below B w0 w
  size : B ≤ w0.heap.size
  cn : ch ≤ n
theorem ClkInv.ch_le {M L ch : Int} {f : CF} (h : ClkInv M f L ch) : 0 ≤ ch := by obtain ⟨ks, _, h2⟩ := h.cnt; omega
theorem ClkB.change {B : Nat} {w0 w w' : World} {k b n : Nat} {M L T ch : Int} {f : CF} {c : Int × Int} {e : Ending} (h : ClkB B w0 w k b n M L T f ch) (hc : mayB c.1 c.2 = true) (g : ChangeEnd w k b n M L T f ch c e w') :
    ∃ x f' L' T' ch' b', e = .returned (.int .i64 x) ∧ ChStep M f L T ch c x f' L' T' ch' ∧ ClkB B w0 w' k b' (n + 1) M L' T' f' ch' ∧ T ≤ T' ∧ T' ≤ T + 1 := by
  obtain ⟨x, f', L', T', ch', b', n', h1, h2, h3, h4, h5, h6⟩ := g
  have hi := inv_step h.inv hc h2
  have hs := h.below.size
  have hB := h.size
  have hp := h.past
  have hcn := h.cn
  have hc1 : ch' ≤ ch + 1 := by
    have : othersC f c ch ≤ ch := by unfold othersC; split <;> omega
    cases h2 <;> omega
  exact ⟨x, f', L', T', ch', b', h1, h2, ⟨h3.mono h4, hi.1, ⟨hp.1, by rcases h5 with h5 | h5 <;> omega⟩, h.below.trans (h6.below (by omega) hp.1 hp.2), hB, by omega⟩, hi.2⟩
theorem ClkB.see {B : Nat} {w0 w w' : World} {k b n : Nat} {M L T ch : Int} {f : CF} {c : Int × Int} {e : Ending} (h : ClkB B w0 w k b n M L T f ch) (hc : mayB c.1 c.2 = true) (g : SeeEnd w k b (n + 1) M L T (updC f c (some ((getC f c).1, L))) ch e w') : Back e ∧ ClkB B w0 w' k b (n + 1) M L T (updC f c (some ((getC f c).1, L))) ch := by
  have hs := h.below.size
  have hB := h.size
  have hcn := h.cn
  exact ⟨g.1, g.2.1, inv_see h.inv hc, h.past, h.below.trans (g.2.2.below (by omega) h.past.1 h.past.2), hB, by omega⟩
theorem ClkB.drop {B : Nat} {w0 w w' : World} {k b n : Nat} {M L T ch : Int} {f : CF} {c : Int × Int} {e : Ending} (h : ClkB B w0 w k b n M L T f ch) (hc : W64 c) (g : SeeEnd w k b n M L T (updC f c none) (othersC f c ch) e w') : Back e ∧ ClkB B w0 w' k b n M L T (updC f c none) (othersC f c ch) := by
  have hs := h.below.size
  have hB := h.size
  have hcn := h.cn
  exact ⟨g.1, g.2.1, inv_drop h.inv hc, h.past, h.below.trans (g.2.2.below (by omega) h.past.1 h.past.2), hB, by unfold othersC; split <;> omega⟩
theorem ClkB.later {B : Nat} {w0 w w' : World} {k b n : Nat} {M L T ch : Int} {f : CF} (h : ClkB B w0 w k b n M L T f ch) (hb : Below w.heap.size w w') : ClkB B w0 w' k b n M L T f ch := by
  have hs := h.below.size
  have hB := h.size
  exact ⟨h.clock.below hb (Nat.le_refl _), h.inv, h.past, h.below.trans (hb.mono (by omega)), hB, h.cn⟩
set_option maxRecDepth 100000 in
set_option maxHeartbeats 1000000 in
theorem known_any (w : World) : Calls Try.prog 5 #[] w fun e w' => e = .returned (.bool true) ∧ Below w.heap.size w w' := by
  go_enter Try.func5, Try.ntmps5
  go_wp2_with fail
  refine (new_yes 4 (by omega) (by omega) _).mono ?_
  rintro e w1 ⟨k, b, rfl, hk, hb, hcl, hbl⟩
  have hkb : ClkB w.heap.size w w1 k b 0 4 0 0 (fun _ => none) 0 := ⟨hcl, ClkInv.start (by omega), ⟨hk, hb⟩, hbl, Nat.le_refl _, by omega⟩
  have hkb' := Lib.hid hkb
  clear hkb hcl
  go_wp2_with fail
  have k1 := hkb'.out.later (w' := w1.alloc (.cells #[.int .i64 1, .int .i64 1] 30)) ((Below.refl _ _).alloc (Nat.le_refl _) _)
  refine (change_yes 1 1 (by decide) _ k1.clock (by omega) k1.inv (by omega) (by omega) (by omega)).mono ?_
  rintro e w2 hce
  obtain ⟨x, f', L', T', ch', b', rfl, hst, k2, hT2⟩ := k1.change (c := (1, 1)) (by decide) hce
  have hz1 := hbl.size
  have hkl := hkb'.out.clock.lt
  have hbl2 := hkb'.out.clock.2.lt
  obtain ⟨kc, kf⟩ := hce.turn.keep (i := w1.heap.size) (by simp) (by omega) (by omega)
  have x0 : w2.cell? ⟨w1.heap.size, 0, none⟩ = some (.int .i64 1) := by rw [kc]; simp
  have x1 : w2.cell? ⟨w1.heap.size, 1, none⟩ = some (.int .i64 1) := by rw [kc]; simp
  have hz2 := hce.turn.size
  simp only [World.size_alloc] at hz2
  have hL : x = 0 ∧ L' = 1 ∧ getC f' (1, 1) = (1, 0) ∧ getC f' (2, 1) = (0, 0) ∧ (f' (1, 1)).isSome = true := by
    cases hst with
    | full h => exact absurd h (by simp [othersC, getC])
    | next h h2 => exact ⟨rfl, rfl, by simp [getC, updC], by simp [getC, updC], by simp [updC]⟩
    | anew h h2 => exact absurd h2 (by omega)
  obtain ⟨rfl, rfl, hg, hg2, hsome⟩ := hL
  have hg' := Lib.hid hg
  have hg2' := Lib.hid hg2
  have hsome' := Lib.hid hsome
  have k2' := Lib.hid k2
  clear hg hg2 hsome hst hce kc kf k1 k2
  go_wp2_with fail
  refine (get_any 1 1 _ k2'.out.clock (mayB_w64 (by decide))).mono ?_
  rintro e w3 ⟨rfl, hb3⟩
  have q3 := hb3
  obtain ⟨hc3, hf3, hz3⟩ := bkeep hb3 w2.heap.size (Nat.le_refl _)
  have k3' := Lib.hid (k2'.out.later hb3)
  rw [hg'.out, hsome'.out]
  have y0 : w3.cell? ⟨w1.heap.size, 0, none⟩ = some (.int .i64 1) := (hc3 _ _ (by omega)).trans x0
  have y1 : w3.cell? ⟨w1.heap.size, 1, none⟩ = some (.int .i64 1) := (hc3 _ _ (by omega)).trans x1
  have k4' := Lib.hid (k3'.out.later (w' := w3.alloc (.cells #[.int .i64 1, .int .i64 0] 43)) ((Below.refl _ _).alloc (Nat.le_refl _) _))
  have z0 : (w3.alloc (.cells #[.int .i64 1, .int .i64 0] 43)).cell? ⟨w1.heap.size, 0, none⟩ = some (.int .i64 1) := cell_a1 y0 _
  have z1 : (w3.alloc (.cells #[.int .i64 1, .int .i64 0] 43)).cell? ⟨w1.heap.size, 1, none⟩ = some (.int .i64 1) := cell_a1 y1 _
  clear x0 x1 y0 y1 hc3 hf3
  go_wp2_with fail
  refine (newer_any 1 1 2 1 _ k4'.out.clock (mayB_w64 (by decide)) (mayB_w64 (by decide))).mono ?_
  rintro e w5 ⟨rfl, hb5⟩
  rw [hg'.out, hg2'.out]
  have k5' := Lib.hid (k4'.out.later hb5)
  go_wp2_with fail
  refine (clast_any _ k5'.out.clock).mono ?_
  rintro e w6 ⟨rfl, rfl⟩
  go_wp2
  go_ret
  exact ⟨rfl, k5'.out.below⟩
end Go.Proofs.Ytkpoidlohgnbpaa
