/-
  stamps: all numbered anew.
-/
import Derived.Test.YtkpoidlohgnbpaaRows
import Derived.Test.YtkpoidlohgnbpaaBase
import Derived.Test.YtkpoidlohgnbpaaStK
import Derived.Test.YtkpoidlohgnbpaaAddrC
import Derived.Test.YtkpoidlohgnbpaaStC
import Derived.Test.YtkpoidlohgnbpaaStD
import Derived.Test.YtkpoidlohgnbpaaProg
import Derived.Test.YtkpoidlohgnbpaaShelf
import Derived.Test.YtkpoidlohgnbpaaStE
import Derived.Test.YtkpoidlohgnbpaaEq
import Derived.Test.YtkpoidlohgnbpaaStG
import Derived.Sort.OwnSorted
import Derived.Sort.OwnSortedInts
import Derived.RangeFuncBox
import Derived.Maps.RangeWalk
import Derived.Maps.AppendAt
import Derived.WalkSpells
import Derived.WalkLawsBesides
import Derived.StillTactics
import Derived.Laws.Pointers
import Derived.Deep.RegionHeld3
import Derived.Deep.QuietTactic
import Derived.BigQuiet
import Derived.RowKit3
import Derived.Lib.Hide
import Derived.Lib.OthersKept
import Derived.OwnWalk
import Derived.Lib.IndexLaws
import Derived.Lib.ItoaMem
import Derived.WalkKit
import Derived.ProofKit
import Derived.OpenShut
import Derived.Carry
import Derived.ChangeSame
import Derived.Deep.Draws
import Derived.DeepKeys4
import Derived.Maps.OwnSet
import Derived.IntWalk
import Derived.StillTailTactics
import Derived.Shelf.Small.Bits
import Derived.Shelf.Strconv.Itoa0
import Derived.Shelf.Sort.Plain
import Derived.Ground.Names2Prog
import Derived.Shelf.Slices.SearchI
import Derived.Shelf.Slices.In.SortNone
import Derived.Shelf.Slices.Empties
namespace Go.Proofs.Ytkpoidlohgnbpaa
open Go.RowKit Go.Maps Go.Sort

set_option maxRecDepth 100000 in
set_option maxHeartbeats 8000000 in
theorem anew_any (r c : Int) (w : World) {k b n : Nat} {M L T ch : Int} {f : CF} (h : ClockAt w k b n M L T f ch) (hn : n ≤ 4398046511104) (hW : W64 (r, c)) (hT : 0 ≤ T ∧ T ≤ 4611686018427387904) (hnd : ∀ ks, Keys f (fun _ => false) ks → (colL f (r, c) ks).Nodup) : Calls Try.prog 18 #[.pointer (some ⟨k, 0, none⟩), .agg #[.int .i64 r, .int .i64 c]] w (AnewEnd w k b n M T f (r, c) ch) := by
  obtain ⟨i0, hi, hz0, hz1, hz2⟩ := info_parts int_info
  have hk := h.lt
  have hb0 := h.2.lt
  have hkb := h.ne
  have h' := Lib.hid h
  have hnd' := Lib.hid hnd
  have h3 := ((h.alloc (.cells #[.int .i64 r, .int .i64 c] 30)).alloc (.cells #[.int .i64 0, .int .i64 0] 43)).alloc (.cells #[.slice none 0 0] 51)
  obtain ⟨d0, d1, d2, d3, d4, df⟩ := h3.cells
  have hcm := h3.2
  have b3 : Below w.heap.size w (((w.alloc (.cells #[.int .i64 r, .int .i64 c] 30)).alloc (.cells #[.int .i64 0, .int .i64 0] 43)).alloc (.cells #[.slice none 0 0] 51)) := (((Below.refl _ _).alloc (Nat.le_refl _) _).alloc (by simp) _).alloc (by simp; omega) _
  have h3' := Lib.hid h3
  have x0 : (((w.alloc (.cells #[.int .i64 r, .int .i64 c] 30)).alloc (.cells #[.int .i64 0, .int .i64 0] 43)).alloc (.cells #[.slice none 0 0] 51)).cell? ⟨w.heap.size, 0, none⟩ = some (.int .i64 r) := by rw [World.cell?_alloc_past _ _ _ (by simp; omega), World.cell?_alloc_past _ _ _ (by simp), World.cell?_alloc_at _ _ _ _ rfl]; rfl
  have x1 : (((w.alloc (.cells #[.int .i64 r, .int .i64 c] 30)).alloc (.cells #[.int .i64 0, .int .i64 0] 43)).alloc (.cells #[.slice none 0 0] 51)).cell? ⟨w.heap.size, 1, none⟩ = some (.int .i64 c) := by rw [World.cell?_alloc_past _ _ _ (by simp; omega), World.cell?_alloc_past _ _ _ (by simp), World.cell?_alloc_at _ _ _ _ rfl]; rfl
  have x2 : (((w.alloc (.cells #[.int .i64 r, .int .i64 c] 30)).alloc (.cells #[.int .i64 0, .int .i64 0] 43)).alloc (.cells #[.slice none 0 0] 51)).cell? ⟨w.heap.size + 1, 0, none⟩ = some (.int .i64 0) := by rw [World.cell?_alloc_past _ _ _ (by simp), World.cell?_alloc_at _ _ _ _ (by simp)]; rfl
  have x3 : (((w.alloc (.cells #[.int .i64 r, .int .i64 c] 30)).alloc (.cells #[.int .i64 0, .int .i64 0] 43)).alloc (.cells #[.slice none 0 0] 51)).cell? ⟨w.heap.size + 1, 1, none⟩ = some (.int .i64 0) := by rw [World.cell?_alloc_past _ _ _ (by simp), World.cell?_alloc_at _ _ _ _ (by simp)]; rfl
  have x4 : (((w.alloc (.cells #[.int .i64 r, .int .i64 c] 30)).alloc (.cells #[.int .i64 0, .int .i64 0] 43)).alloc (.cells #[.slice none 0 0] 51)).cell? ⟨w.heap.size + 2, 0, none⟩ = some (.slice none 0 0) := by rw [World.cell?_alloc_at _ _ _ _ (by simp)]; rfl
  have x5 : (((w.alloc (.cells #[.int .i64 r, .int .i64 c] 30)).alloc (.cells #[.int .i64 0, .int .i64 0] 43)).alloc (.cells #[.slice none 0 0] 51)).frozen? ⟨w.heap.size + 2, 0, none⟩ = false := World.frozen?_alloc_at _ _ _ _ (by simp)
  have x6 : (((w.alloc (.cells #[.int .i64 r, .int .i64 c] 30)).alloc (.cells #[.int .i64 0, .int .i64 0] 43)).alloc (.cells #[.slice none 0 0] 51)).frozen? ⟨w.heap.size + 1, 0, none⟩ = false ∧ (((w.alloc (.cells #[.int .i64 r, .int .i64 c] 30)).alloc (.cells #[.int .i64 0, .int .i64 0] 43)).alloc (.cells #[.slice none 0 0] 51)).frozen? ⟨w.heap.size + 1, 1, none⟩ = false := ⟨by rw [World.frozen?_alloc_past _ _ _ (by simp), World.frozen?_alloc_at _ _ _ _ (by simp)], by rw [World.frozen?_alloc_past _ _ _ (by simp), World.frozen?_alloc_at _ _ _ _ (by simp)]⟩
  have hz3 : (((w.alloc (.cells #[.int .i64 r, .int .i64 c] 30)).alloc (.cells #[.int .i64 0, .int .i64 0] 43)).alloc (.cells #[.slice none 0 0] 51)).heap.size = w.heap.size + 3 := by simp
  have hXX := Lib.hid (And.intro x0 (And.intro x1 (And.intro x2 (And.intro x3 (And.intro x4 (And.intro x5 (And.intro x6 hz3)))))))
  clear h h3 hnd x0 x1 x2 x3 x4 x5 x6 hz3
  go_enter Try.func18, Try.ntmps18
  go_wp2_with (first
    | (at_range; refine wpList_range_c _ rfl _ rfl b n f rfl hcm ?_; intro wi cnt0 hcr0 hcnt0 hgi hszi)
    | go_in)
  go_frame
  have hzi : wi.heap.size = w.heap.size + 4 := by rw [hszi]; simp
  obtain ⟨x0, x1, x2, x3, x4, x5, x6, hz3⟩ := hXX.out
  clear hXX
  rw [hz3] at hcr0
  have hbi : Below (w.heap.size + 3) (((w.alloc (.cells #[.int .i64 r, .int .i64 c] 30)).alloc (.cells #[.int .i64 0, .int .i64 0] 43)).alloc (.cells #[.slice none 0 0] 51)) wi := ⟨hgi.os, hgi.tape, hgi.output, hgi.size, fun i hi => hgi.block i (by omega) (by simp)⟩
  clear hgi hszi hcm d0 d1 d2 d3 d4 df
  generalize (((w.alloc (.cells #[.int .i64 r, .int .i64 c] 30)).alloc (.cells #[.int .i64 0, .int .i64 0] 43)).alloc (.cells #[.slice none 0 0] 51)) = w3 at *
  rw [hz3]
  have y0 := (hbi.cell (p := ⟨w.heap.size, 0, none⟩) (by simp)).trans x0
  have y4 := (hbi.cell (p := ⟨w.heap.size + 2, 0, none⟩) (by simp)).trans x4
  have y5 := (hbi.frozen (p := ⟨w.heap.size + 2, 0, none⟩) (by simp)).trans x5
  have hX := Lib.hid (And.intro x0 (And.intro x1 (And.intro x2 (And.intro x3 x6))))
  clear x0 x1 x2 x3 x4 x5 x6
  go_loopw [6] (fun _ wr => ∃ (left : Int × Int → Bool) (cnt : Nat) (ks : List (Int × Int)) (v : Value), CR wr b (w.heap.size + 3) n f left cnt ∧ cnt + ks.length ≤ n ∧ Hid (Keys f left ks) ∧ wr.cell? ⟨w.heap.size + 2, 0, none⟩ = some v ∧ wr.frozen? ⟨w.heap.size + 2, 0, none⟩ = false ∧ Hid (wr.ownsRow (w.heap.size + 3) 3 1 v (colL f (r, c) ks).length ((colL f (r, c) ks).map (Value.int .i64))) ∧ Below (w.heap.size + 2) w3 wr ∧ w.heap.size + 4 ≤ wr.heap.size) (fun _ wr => wr.rangeLeft b (w.heap.size + 3))
  case atStart => exact ⟨_, cnt0, [], _, hcr0, by simpa using hcnt0, Lib.hid (Keys.start f), y4, y5, Lib.hid (World.ownsRow_nil _ _ _ _), hbi.mono (by omega), by omega⟩
  case round =>
    obtain ⟨left, cnt, ks, v, hcr, hcks, hKs, hv, hvf, hown, hbr, hzr⟩ := hrel
    obtain ⟨A0, cp0, rfl⟩ := ownsRow_form hown.out
    go_wp2_with (first
      | (at_next; go_loud (refine wpList_next_c _ rfl _ rfl b (w.heap.size + 3) n f left cnt rfl hcr ?_ ?_))
      | go_in)
    · intro hdone
      have hKf := Lib.hid (show Keys f (fun _ => false) ks from ⟨hKs.out.nodup, hKs.out.wf, fun c hc => by rw [hKs.out.mem c hc, hdone c.1 c.2 hc]⟩)
      have hndz := hnd'.out ks hKf.out
      have hkl : ks.length ≤ n := by omega
      have hck := h3'.out.same (hbr.block k (by omega)) (hbr.block b (by omega))
      have hll := colL_len f (r, c) ks
      have hRC := Lib.hid (And.intro ((hbr.cell (p := ⟨w.heap.size, 0, none⟩) (by simp)).trans hX.out.1) ((hbr.cell (p := ⟨w.heap.size, 1, none⟩) (by simp)).trans hX.out.2.1))
      clear hcr hKs hdone
      obtain ⟨zs0, hzs0⟩ : ∃ zs0, colL f (r, c) ks = zs0 := ⟨_, rfl⟩
      rw [hzs0] at hndz hll hown hv
      have C := Lib.hid (sort_any zs0 (by omega) wr _ _ hown.out)
      go_wp2_with fail
      refine C.out.mono ?_
      rintro e w5 ⟨rfl, hown5, hgr5⟩
      have hne5 : ∀ g, (Value.slice A0 zs0.length cp0).ownBlock = some g → w.heap.size + 3 ≤ g := fun g hg => (hown.out.lt g hg).1
      have h5s := hgr5.size
      have hck5 := hck.kept hgr5 (fun e => by have := hne5 k e.symm; omega) (fun e => by have := hne5 b e.symm; omega)
      have hcv5 := (World.cell?_of_block (a := ⟨w.heap.size + 2, 0, none⟩) (hgr5.block (w.heap.size + 2) (by omega) (fun e => by have := hne5 _ e.symm; omega))).trans hv
      have hN5 := nums_row hcv5 hown5 (by rw [List.length_mergeSort])
      have hlz : (zs0.mergeSort fun x y => decide (x ≤ y)).length = zs0.length := List.length_mergeSort _
      have hsz := List.pairwise_mergeSort (le := fun x y : Int => decide (x ≤ y)) (by intro a b c; simp; omega) (by intro a b; simp; omega) zs0
      have hndz2 := (List.mergeSort_perm zs0 (fun x y => decide (x ≤ y))).nodup_iff.2 hndz
      obtain ⟨zs, hzs⟩ : ∃ zs, zs0.mergeSort (fun x y => decide (x ≤ y)) = zs := ⟨_, rfl⟩
      rw [hzs] at hN5 hlz hsz hndz2
      replace hsz : zs.Pairwise (· ≤ ·) := hsz.imp (fun h => of_decide_eq_true h)
      have b5 : RowKit.Below (w.heap.size + 2) wr w5 := ⟨hgr5.os, hgr5.tape, hgr5.output, hgr5.size, fun i hi => hgr5.block i (by omega) (fun e => by have := hne5 _ e.symm; omega)⟩
      have hRC5 := Lib.hid (And.intro ((b5.cell (p := ⟨w.heap.size, 0, none⟩) (by simp)).trans hRC.out.1) ((b5.cell (p := ⟨w.heap.size, 1, none⟩) (by simp)).trans hRC.out.2))
      have hown5' := Lib.hid hown5
      have hv' := Lib.hid hv
      have hvf' := Lib.hid hvf
      have hN5' := Lib.hid hN5
      have hck5' := Lib.hid hck5
      have g5 := Lib.hid (hbr.trans b5)
      obtain ⟨e0, e1, e2, e3, e4, ef⟩ := hck5.cells
      have hmk := make_c
      have hcm5 := hck5.2
      obtain ⟨mx, hlen⟩ := cm_len hcm5 3
      obtain ⟨B, hB⟩ : ∃ B, w5.heap.size = B := ⟨_, rfl⟩
      have e3b := cell_a1 e3 (.map #[] 0)
      have hz6 : (w5.alloc (.map #[] 0)).heap.size = B + 1 := by simp [hB]
      have hN6 := Lib.hid (show NumsAt (w5.alloc (.map #[] 0)) (w.heap.size + 2) zs from hN5'.out.below (B := w5.heap.size) ((Below.refl _ _).alloc (Nat.le_refl _) _) (by omega) (fun g cap hg => by
        rcases hN5'.out with ⟨q1, _⟩ | ⟨g', cap', q1, q2, _⟩
        · rw [q1] at hg; cases hg
        · rw [q1] at hg; cases hg; exact q2))
      have hNg : Hid (∀ g cap, (w5.alloc (.map #[] 0)).cell? ⟨w.heap.size + 2, 0, none⟩ = some (.slice (some ⟨g, 0, none⟩) zs.length cap) → g < B) := Lib.hid (fun g cap hg => by
        rcases hN5'.out with ⟨q1, _⟩ | ⟨g', cap', q1, q2, _⟩
        · rw [cell_a1 q1 _] at hg; cases hg
        · rw [cell_a1 q1 _] at hg; cases hg; omega)
      have hM6 := Lib.hid (hB ▸ CM.made w5 : CM (w5.alloc (.map #[] 0)) B 0 (fun _ => none))
      clear hbr b5 hown5 hv hvf hN5 hck5 hown hck C hRC
      go_wp2_with (first
        | (at_range; refine wpList_range_c _ rfl _ rfl b n f rfl (hcm5.alloc _) ?_; intro wi cnt0 hcr0 hcnt0 hgi hszi)
        | go_in)
      go_frame
      rw [hz6] at hcr0
      have hbi6 : RowKit.Below (B + 1) (w5.alloc (.map #[] 0)) wi := ⟨hgi.os, hgi.tape, hgi.output, hgi.size, fun i hi => hgi.block i (by omega) (by simp)⟩
      have hzi6 : wi.heap.size = B + 2 := by rw [hszi, hz6]
      have hMi := hM6.out.same (hbi6.block B (by omega))
      clear hgi hszi
      try simp only [hz6]
      go_loopw [10] (fun _ wr2 => ∃ (left : Int × Int → Bool) (cnt m : Nat), CR wr2 b (B + 1) n f left cnt ∧ CM wr2 B m (visF zs f left) ∧ m + cnt ≤ n ∧ RowKit.Below B (w5.alloc (.map #[] 0)) wr2 ∧ B + 2 ≤ wr2.heap.size) (fun _ wr2 => wr2.rangeLeft b (B + 1))
      case atStart => exact ⟨_, cnt0, 0, hcr0, hMi.congr (fun d _ => by by_cases e : (f d).isSome = true <;> simp_all [visF, newF]), by omega, hbi6.mono (by omega), by omega⟩
      case round =>
        obtain ⟨left2, cnt2, m, hcr2, hcm2, hmc, hb2, hzb2⟩ := hrel
        go_wp2_with (first
          | (at_next; go_loud (refine wpList_next_c _ rfl _ rfl b (B + 1) n f left2 cnt2 rfl hcr2 ?_ ?_))
          | go_in)
        · intro hdone2
          have hcm9 := hcm2.congr (g := newF zs f) (fun d hd => by simp [visF, hdone2 d.1 d.2 hd])
          have g9 : RowKit.Below B w5 wr := ((Below.refl _ _).alloc (by omega) _).trans hb2
          have hck9 := hck5'.out.below g9 (by omega)
          have hv9 := (g9.cell (p := ⟨w.heap.size + 2, 0, none⟩) (by simp; omega)).trans hcv5
          obtain ⟨f0, f1, f2, f3, f4, ff⟩ := hck9.cells
          have hck9' := Lib.hid hck9
          have r0 := (g9.cell (p := ⟨w.heap.size, 0, none⟩) (by simp; omega)).trans hRC5.out.1
          have r1 := (g9.cell (p := ⟨w.heap.size, 1, none⟩) (by simp; omega)).trans hRC5.out.2
          obtain ⟨t1, t2, hts⟩ : ∃ t1 t2, getC (newF zs f) (r, c) = (t1, t2) := ⟨_, _, rfl⟩
          have hkB : k ≠ B := by omega
          have hck10 := (((hck9.set3 hcm9 (fun e => hkB e.symm)).set1 (zs0.length : Nat)).set2 (T + 1)).mono (n' := n) (by omega)
          have hl10 := hck10.2.lookD hts hW
          have hck10' := Lib.hid hck10
          have G := g5.out.trans (g9.mono (by omega))
          have q2 := (G.cell (p := ⟨w.heap.size + 1, 0, none⟩) (by simp)).trans hX.out.2.2.1
          have q3 := (G.cell (p := ⟨w.heap.size + 1, 1, none⟩) (by simp)).trans hX.out.2.2.2.1
          have q4 := (G.frozen (p := ⟨w.heap.size + 1, 0, none⟩) (by simp)).trans hX.out.2.2.2.2.1
          have q5 := (G.frozen (p := ⟨w.heap.size + 1, 1, none⟩) (by simp)).trans hX.out.2.2.2.2.2
          have hT10 := ((((Turn2.of_below (k := k) (b := b) (b3.trans (G.mono (by omega)))).set ⟨k, 3, none⟩ (.inl rfl) (.map (some B))).set ⟨k, 1, none⟩ (.inl rfl) (.int .i64 (zs0.length : Nat))).set ⟨k, 2, none⟩ (.inl rfl) (.int .i64 (T + 1)))
          have hT10' := Lib.hid hT10
          clear hck10 hck9 hT10 G hcm9 hcm2
          go_wp2
          have n1 : k ≠ w.heap.size + 1 := by omega
          have n2 : w.heap.size + 1 ≠ k := by omega
          refine bodyPost_ret (v := .agg #[.int .i64 t1, .int .i64 t2]) (by simp [results, Try.results18, go_sem, q2, q3]) rfl ?_
          refine ⟨ks, B, hKf.out, hkl, by omega, ?_, ?_, ?_⟩
          · rw [hzs0, hzs, hts]
          · rw [hzs0, hzs]; exact (hck10'.out.setO _ (by simp; omega) (by simp; omega) _).setO _ (by simp; omega) (by simp; omega) _
          · exact (hT10'.out.set _ (.inr (by simp)) _).set _ (.inr (by simp)) _
        · intro c1 c2 s1 s2 w1 cnt1 hck hlk hfk hcr1 hlt hg1 hs1 hen
          try simp only [pv] at hen
          have g1 : RowKit.Below B (w5.alloc (.map #[] 0)) w1 := hb2.trans ⟨hg1.os, hg1.tape, hg1.output, hg1.size, fun i hi => hg1.block i (by omega) (by simp; omega)⟩
          have hcm1 := Lib.hid (hcm2.kept hg1 (by simp))
          have hcr1' := Lib.hid hcr1
          have hcrl' := Lib.hid hcr2.left_eq
          have hfk' := Lib.hid hfk
          have hck' := Lib.hid hck
          clear hcr2 hcr1 hcm2 hfk hck hg1 hb2
          by_cases h0 : 0 < s1
          · go_wp2_with fail
            refine (rank_any _ zs hsz hndz2 (by omega) _ _ (hN6.out.below (by repeat' (first | exact g1 | (refine bel_set ?_ _ _ (by first | omega | (simp <;> omega))) | (refine RowKit.Below.alloc ?_ (by first | omega | (simp <;> omega)) _) | (refine below_drewN ?_ _))) (by omega) hNg.out)).mono ?_
            rintro e wq ⟨rfl, q, rfl⟩
            go_wp2_with fail
            refine (rank_any _ zs hsz hndz2 (by omega) _ _ (hN6.out.below (by repeat' (first | exact g1 | (refine bel_set ?_ _ _ (by first | omega | (simp <;> omega))) | (refine RowKit.Below.alloc ?_ (by first | omega | (simp <;> omega)) _) | (refine below_drewN ?_ _))) (by omega) hNg.out)).mono ?_
            rintro e wq ⟨rfl, q2, rfl⟩
            go_wp2_with (first
              | (at_mapUpdate; refine wpList_store_c _ rfl _ _ _ rfl B m (visF zs f left2) rfl (by repeat' (first | exact hcm1.out | (refine CM.setCell ?_ _ (by simp; omega) _) | (refine CM.alloc ?_ _) | (refine CM.drewN ?_ _))) (by unfold maxLen; omega) (c1, c2) ((rkL zs s1 : Nat), (rkL zs s2 : Nat)) rfl rfl hck'.out ?_; intro w3 hcm3 hgr3; have hcrf : CR w3 b (B + 1) n f (fun d => left2 d && !decide (d = (c1, c2))) cnt1 := CR.kept (by repeat' (first | exact hcr1'.out | (refine CR.setCell ?_ _ (by simp; omega) (by simp; omega) _) | (refine CR.alloc ?_ _) | (refine CR.drewN ?_ _))) hgr3 (by simp; omega) (by simp); have hb3 : RowKit.Below B (w5.alloc (.map #[] 0)) w3 := bel_grown (by repeat' (first | exact g1 | (refine bel_set ?_ _ _ (by first | omega | (simp <;> omega))) | (refine RowKit.Below.alloc ?_ (by first | omega | (simp <;> omega)) _) | (refine below_drewN ?_ _))) (by simp; omega) hgr3 (by simp); simp only [show ∀ (a : Act) v, a.put none v = a from fun _ _ => rfl])
              | go_in)
            go_roundw
            case rel =>
              refine ⟨_, cnt1, m + 1, hcrf, hcm3.congr (fun d _ => ?_), by omega, hb3, by have := hgr3.size; simp at this; omega⟩
              by_cases e : d = (c1, c2)
              · subst e; simp [updC, visF, newF, hfk'.out, newS, h0]
              · simp [updC, visF, e]
            case measure => rw [hcrf.left_eq, hcrl'.out]; exact hlt
          · go_wp2_with fail
            refine (rank_any _ zs hsz hndz2 (by omega) _ _ (hN6.out.below (by repeat' (first | exact g1 | (refine bel_set ?_ _ _ (by first | omega | (simp <;> omega))) | (refine RowKit.Below.alloc ?_ (by first | omega | (simp <;> omega)) _) | (refine below_drewN ?_ _))) (by omega) hNg.out)).mono ?_
            rintro e wq ⟨rfl, q, rfl⟩
            go_wp2_with (first
              | (at_mapUpdate; refine wpList_store_c _ rfl _ _ _ rfl B m (visF zs f left2) rfl (by repeat' (first | exact hcm1.out | (refine CM.setCell ?_ _ (by simp; omega) _) | (refine CM.alloc ?_ _) | (refine CM.drewN ?_ _))) (by unfold maxLen; omega) (c1, c2) (s1, (rkL zs s2 : Nat)) rfl rfl hck'.out ?_; intro w3 hcm3 hgr3; have hcrf : CR w3 b (B + 1) n f (fun d => left2 d && !decide (d = (c1, c2))) cnt1 := CR.kept (by repeat' (first | exact hcr1'.out | (refine CR.setCell ?_ _ (by simp; omega) (by simp; omega) _) | (refine CR.alloc ?_ _) | (refine CR.drewN ?_ _))) hgr3 (by simp; omega) (by simp); have hb3 : RowKit.Below B (w5.alloc (.map #[] 0)) w3 := bel_grown (by repeat' (first | exact g1 | (refine bel_set ?_ _ _ (by first | omega | (simp <;> omega))) | (refine RowKit.Below.alloc ?_ (by first | omega | (simp <;> omega)) _) | (refine below_drewN ?_ _))) (by simp; omega) hgr3 (by simp); simp only [show ∀ (a : Act) v, a.put none v = a from fun _ _ => rfl])
              | go_in)
            go_roundw
            case rel =>
              refine ⟨_, cnt1, m + 1, hcrf, hcm3.congr (fun d _ => ?_), by omega, hb3, by have := hgr3.size; simp at this; omega⟩
              by_cases e : d = (c1, c2)
              · subst e; simp [updC, visF, newF, hfk'.out, newS] <;> (intro h9; omega)
              · simp [updC, visF, e]
            case measure => rw [hcrf.left_eq, hcrl'.out]; exact hlt
    · intro c1 c2 s1 s2 w1 cnt1 hck hlk hfk hcr1 hlt hg1 hs1 hen
      try simp only [pv] at hen
      have hb1 : Below (w.heap.size + 2) wr w1 := ⟨hg1.os, hg1.tape, hg1.output, hg1.size, fun i hi => hg1.block i (by omega) (by simp; omega)⟩
      have g1 : Below (w.heap.size + 2) w3 w1 := hbr.trans hb1
      have z0 : w1.cell? ⟨w.heap.size, 0, none⟩ = some (.int .i64 r) := (g1.cell (p := ⟨w.heap.size, 0, none⟩) (by simp)).trans hX.out.1
      have z1 : w1.cell? ⟨w.heap.size, 1, none⟩ = some (.int .i64 c) := (g1.cell (p := ⟨w.heap.size, 1, none⟩) (by simp)).trans hX.out.2.1
      have hvb : w1.heap[w.heap.size + 2]? = wr.heap[w.heap.size + 2]? := hg1.block _ (by omega) (by simp)
      have z4 : w1.cell? ⟨w.heap.size + 2, 0, none⟩ = some (.slice A0 (colL f (r, c) ks).length cp0) := (World.cell?_of_block (a := ⟨w.heap.size + 2, 0, none⟩) hvb).trans hv
      have z5 : w1.frozen? ⟨w.heap.size + 2, 0, none⟩ = false := (World.frozen?_of_block (a := ⟨w.heap.size + 2, 0, none⟩) hvb).trans hvf
      have z0b : ((w1.alloc (.cells #[.int .i64 c1, .int .i64 c2] 30)).alloc (.cells #[.int .i64 s1, .int .i64 s2] 43)).cell? ⟨w.heap.size, 0, none⟩ = some (.int .i64 r) := cell_a1 (cell_a1 z0 _) _
      have z1b : ((w1.alloc (.cells #[.int .i64 c1, .int .i64 c2] 30)).alloc (.cells #[.int .i64 s1, .int .i64 s2] 43)).cell? ⟨w.heap.size, 1, none⟩ = some (.int .i64 c) := cell_a1 (cell_a1 z1 _) _
      have z4b : ((w1.alloc (.cells #[.int .i64 c1, .int .i64 c2] 30)).alloc (.cells #[.int .i64 s1, .int .i64 s2] 43)).cell? ⟨w.heap.size + 2, 0, none⟩ = some (.slice A0 (colL f (r, c) ks).length cp0) := cell_a1 (cell_a1 z4 _) _
      have z4c : (((w1.alloc (.cells #[.int .i64 c1, .int .i64 c2] 30)).alloc (.cells #[.int .i64 s1, .int .i64 s2] 43)).alloc (.cells #[.int .i64 s1] 3)).cell? ⟨w.heap.size + 2, 0, none⟩ = some (.slice A0 (colL f (r, c) ks).length cp0) := cell_a1 z4b _
      have z5b : ((w1.alloc (.cells #[.int .i64 c1, .int .i64 c2] 30)).alloc (.cells #[.int .i64 s1, .int .i64 s2] 43)).frozen? ⟨w.heap.size + 2, 0, none⟩ = false := frozen_a1 (cell_a1 z4 _) (frozen_a1 z4 z5 _) _
      have z5c : (((w1.alloc (.cells #[.int .i64 c1, .int .i64 c2] 30)).alloc (.cells #[.int .i64 s1, .int .i64 s2] 43)).alloc (.cells #[.int .i64 s1] 3)).frozen? ⟨w.heap.size + 2, 0, none⟩ = false := frozen_a1 z4b z5b _
      have hown1 := hown.out.kept hg1 (by
        have := hcr.ne_row hown.out
        cases hv : (Value.slice A0 (colL f (r, c) ks).length cp0).ownBlock with
        | none => exact .inl rfl
        | some g => rw [hv] at this; exact .inr (fun e => this e.symm))
      have hneo : ∀ g, (Value.slice A0 (colL f (r, c) ks).length cp0).ownBlock = some g → w.heap.size + 3 ≤ g := fun g hg => (hown1.lt g hg).1
      have hner := hcr1.ne_row hown1
      have hgc : getC f (c1, c2) = (s1, s2) := by simp [getC, hfk]
      have hsn := colL_snoc f (r, c) ks (c1, c2)
      rw [hgc] at hsn
      simp only at hsn
      have hKn := Lib.hid (hKs.out.step hck hlk (by rw [hfk]; rfl))
      have hsn' := Lib.hid hsn
      have hown1' := Lib.hid hown1
      have hcr1' := Lib.hid hcr1
      have hcrl := hcr.left_eq
      have hcrl' := Lib.hid hcrl
      have hlen := colL_len f (r, c) ks
      clear hsn hown1 hcr1 hcrl hcr hv hvf hgc hck hlk hfk hg1
      cases he : cellEq c1 c2 r c
      · by_cases h0 : 0 < s1
        · have hxs := Lib.hid (show colL f (r, c) (ks ++ [(c1, c2)]) = colL f (r, c) ks ++ [s1] from by rw [hsn'.out, he, decide_eq_true h0]; rfl)
          go_wp2_with (first
            | (at_builtin; go_loud (refine wpList_append_own_at _ rfl _ _ 51 rfl (w.heap.size + 3) 3 i0 (.int .i64 0) 1 8 Try.underlying51 hi hz0 hz1 hz2 rfl (by decide) _ _ _ rfl (((hown1'.out.alloc _).alloc _).alloc _) ⟨wr.heap.size + 1 + 1, 0, none⟩ 1 1 [.int .i64 s1] rfl rfl (by intro j u hj; have := cell_one_new ((w1.alloc (.cells #[.int .i64 c1, .int .i64 c2] 30)).alloc (.cells #[.int .i64 s1, .int .i64 s2] 43)) (.int .i64 s1) 3 j u hj; simpa [hs1] using this) (by simp [Value.oneCell']) (by unfold maxLen; omega) (by omega) (by simp; omega) ?_); intro v' w2 hown2 hgrow2 _ hloc2; obtain ⟨g', cap', rfl⟩ := ownsRow_succ hown2; have q0 := hgrow2.block (w.heap.size + 2) (by simp; omega) (fun e => by have := hneo _ (by first | exact e | exact e.symm); omega); have q4 := (World.cell?_of_block (a := ⟨w.heap.size + 2, 0, none⟩) q0).trans z4c; have q5 := (World.frozen?_of_block (a := ⟨w.heap.size + 2, 0, none⟩) q0).trans z5c)
            | go_in)
          go_roundw
          case rel =>
            refine ⟨_, cnt1, ks ++ [(c1, c2)], _, ((((hcr1'.out.alloc _).alloc _).alloc _).kept hgrow2 (fun e => by have := hneo _ e.symm; omega) hner).setCell _ (by simp; omega) (by simp) _, by simp; omega, hKn, World.cell?_setCell_same' _ _ _ (by rw [q4]; rfl), by first | (simp [q5]; done) | (rw [World.frozen?_setCell]; exact q5), Lib.hid ?_, bel_set (bel_grown (((g1.alloc (by omega) _).alloc (by simp; omega) _).alloc (by simp; omega) _) (by simp; omega) hgrow2 (fun g hg => by have := hneo g hg; omega)) _ _ (by simp), by have := hgrow2.size; simp at this ⊢; omega⟩
            rw [hxs.out]
            have := ownsRow_set hown2 ⟨w.heap.size + 2, 0, none⟩ (.slice (some ⟨g', 0, none⟩) ((colL f (r, c) ks).length + 1) cap') (by simp)
            simpa using this
          case measure => rw [(((((hcr1'.out.alloc _).alloc _).alloc _).kept hgrow2 (fun e => by have := hneo _ e.symm; omega) hner).setCell _ (by simp; omega) (by simp) _).left_eq, hcrl'.out]; exact hlt
        · have hxs := Lib.hid (show colL f (r, c) (ks ++ [(c1, c2)]) = colL f (r, c) ks from by rw [hsn'.out, he, decide_eq_false h0]; simp)
          go_wp2
          go_roundw
          case rel =>
            have z4e := z4b
            refine ⟨_, cnt1, ks ++ [(c1, c2)], _, (hcr1'.out.alloc _).alloc _, by simp; omega, hKn, z4e, z5b, Lib.hid ?_, (g1.alloc (by omega) _).alloc (by simp; omega) _, by simp; omega⟩
            rw [hxs.out]; exact (hown1'.out.alloc _).alloc _
          case measure => rw [((hcr1'.out.alloc _).alloc _).left_eq, hcrl'.out]; exact hlt
      · have hxs := Lib.hid (show colL f (r, c) (ks ++ [(c1, c2)]) = colL f (r, c) ks from by rw [hsn'.out, he]; simp)
        go_wp2
        go_roundw
        case rel =>
          have z4e := z4b
          refine ⟨_, cnt1, ks ++ [(c1, c2)], _, (hcr1'.out.alloc _).alloc _, by simp; omega, hKn, z4e, z5b, Lib.hid ?_, (g1.alloc (by omega) _).alloc (by simp; omega) _, by simp; omega⟩
          rw [hxs.out]; exact (hown1'.out.alloc _).alloc _
        case measure => rw [((hcr1'.out.alloc _).alloc _).left_eq, hcrl'.out]; exact hlt
end Go.Proofs.Ytkpoidlohgnbpaa
