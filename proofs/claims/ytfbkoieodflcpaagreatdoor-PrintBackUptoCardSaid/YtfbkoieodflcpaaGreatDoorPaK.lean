/-
  parse: the reader's call, whole.
-/
import Derived.Test.YtfbkoieodflcpaaGreatDoorMg3
import Derived.Test.YtfbkoieodflcpaaGreatDoorRows
import Derived.Test.YtfbkoieodflcpaaGreatDoorMg0
import Derived.Test.YtfbkoieodflcpaaGreatDoorProg
import Derived.Test.YtfbkoieodflcpaaGreatDoorShelf
import Derived.Test.YtfbkoieodflcpaaGreatDoorMg4
import Derived.Test.YtfbkoieodflcpaaGreatDoorAddrC
import Derived.Test.YtfbkoieodflcpaaGreatDoorMg6
import Derived.Test.YtfbkoieodflcpaaGreatDoorValA
import Derived.Test.YtfbkoieodflcpaaGreatDoorValB
import Derived.Test.YtfbkoieodflcpaaGreatDoorMg9
import Derived.Test.YtfbkoieodflcpaaGreatDoorMg10
import Derived.Test.YtfbkoieodflcpaaGreatDoorPaP
import Derived.Test.YtfbkoieodflcpaaGreatDoorPaF
import Derived.Test.YtfbkoieodflcpaaGreatDoorPaW
import Derived.Test.YtfbkoieodflcpaaGreatDoorPaX
import Derived.Test.YtfbkoieodflcpaaGreatDoorPaY
import Derived.Test.YtfbkoieodflcpaaGreatDoorMg22
import Derived.Test.YtfbkoieodflcpaaGreatDoorPaZ
import Derived.Test.YtfbkoieodflcpaaGreatDoorMg42
import Derived.Test.YtfbkoieodflcpaaGreatDoorPaC
import Derived.BigRegion
import Derived.Maps.AppendAt
import Derived.WalkSpells
import Derived.WalkLawsBesides
import Derived.StillTactics
import Derived.Laws.Pointers
import Derived.Deep.RegionHeld3
import Derived.Deep.QuietTactic
import Derived.BigQuiet
import Derived.RowKit3
import Derived.Lib.Hide
import Derived.Lib.OthersKept
import Derived.OwnWalk
import Derived.Lib.IndexLaws
import Derived.Lib.ItoaMem
import Derived.Lib.TrimByte
import Derived.Lib.SlTrimSet
import Derived.Lib.ParseIntB
import Derived.WalkKit
import Derived.ProofKit
import Derived.OpenShut
import Derived.Carry
import Derived.ChangeSame
import Derived.Deep.Draws
import Derived.Shelf.Strings.Builder1
import Derived.Shelf.Strings.Builder2
import Derived.Shelf.Strings.Trim
import Derived.Shelf.Small.Utf8
import Derived.Shelf.Small.Strs
import Derived.Shelf.Small.Wraps
import Derived.Shelf.Strings.BuilderF
import Derived.Shelf.Strings.BuilderK
import Derived.Shelf.Utf8.RuneCount
import Derived.Shelf.Strconv.Itoa0
import Derived.Shelf.Strconv.Itoa1
import Derived.Shelf.LaysM
import Derived.Shelf.Strconv.Itoa2
import Derived.Shelf.Strconv.Itoa3
import Derived.Ground.MpProg
import Derived.Shelf.Pu.ParseUintPublic10
import Derived.Shelf.Strings.Search1
import Derived.Shelf.Strings.Search2
import Derived.Shelf.Strings.Search3
import Derived.Shelf.Strings.Cut
import Derived.Shelf.Strings.Count
import Derived.Shelf.Strings.Shaped
import Derived.Shelf.Strings.Prefix
import Derived.Shelf.Strings.Split
import Derived.Shelf.Strings.Replace
import Derived.Shelf.Strings.SplitShaped
import Derived.Shelf.Unicode.Decode
import Derived.Shelf.Strings.Runes
import Derived.Shelf.Strings.RuneCount
import Derived.Shelf.Strings.AsciiSet
import Derived.Shelf.Unicode.DecodeSlow
import Derived.Shelf.Unicode.DecodeAny
import Derived.Shelf.Unicode.DecodeLast
import Derived.Lib.ItoaNum
import Derived.Maps.OwnSet
import Derived.Deep.RegionLaw
import Derived.Deep.AppendLies
import Derived.ScopeJumps
import Derived.WalkMore
namespace Go.Proofs.YtfbkoieodflcpaaGreatDoor
open Go.RowKit

theorem blRow_flat : ∀ l : List Bool, (l.map fun b => [Value.bool b]).flatten = blRow l
  | [] => rfl
  | b :: l => by
    have := blRow_flat l
    simp only [List.map_cons, List.flatten_cons, this]
    rfl
theorem Apart.grow {R k : Nat} {w1 w2 : World} {cs : Array Value} {t : TypeId} {fr : Nat × Nat} {row : Option Nat} (h : Apart R w1 k cs t fr) (hg : w1.grownBy w2 row) (hR : R < w1.heap.size) (hr : some R ≠ row) (hk : some k ≠ row) : Apart R w2 k cs t fr :=
  ⟨(hg.block k (heap_lt h.blk) hk).trans h.blk, h.ne, by rw [nown_eq (hg.cell_far ⟨R, 14, none⟩ hR hr)]; exact h.own⟩
set_option maxRecDepth 100000 in
set_option maxHeartbeats 4000000 in
theorem pcall2 (tb : Tb) (tv : TV) (htb : tb = tbOf tv.l) (R f : Nat) (HE : ∀ s w q, RSt tv R w s → px tb f (.lev 0) s = some q → Calls Tryz.prog 25 #[.pointer (some ⟨R, 0, none⟩)] w fun e w' => RRes tv R w q e w') (s : PS) (r : PR) (hok : ¬ 16 < s.now.str.size) (hkn : tb.known s.now.str = true) (h0 : bindR (some s.step.opens) (px tb f (.args s.now.str s.now.place [])) = some r) (w : World) (hR : RSt tv R w s) : Calls Tryz.prog 144 #[.pointer (some ⟨R, 0, none⟩)] w fun e w' => RRes tv R w r e w' := by
  obtain ⟨i0, hi, hz0, hz1, hz2x⟩ := info_parts bool_info
  have hlt := hR.lt
  have hm := method_known
  have hb0 : Below w.heap.size w (w.alloc (.cells #[.int .i64 s.now.kind, .int .i64 s.now.place, .int .i64 s.now.num, .string s.now.str, .int .i64 s.now.r, .int .i64 s.now.c, .int .i64 s.now.t, .int .i64 s.now.l, .int .i64 s.now.b, .int .i64 s.now.q, .int .i64 s.now.code] 77)) := (Below.refl _ _).alloc (Nat.le_refl _) _
  have CS := fun n => pstep tv R s ((w.alloc (.cells #[.int .i64 s.now.kind, .int .i64 s.now.place, .int .i64 s.now.num, .string s.now.str, .int .i64 s.now.r, .int .i64 s.now.c, .int .i64 s.now.t, .int .i64 s.now.l, .int .i64 s.now.b, .int .i64 s.now.q, .int .i64 s.now.code] 77)).drewN n) (hR.up (below_drewN hb0 n))
  have hkk := fun n => KeepR.up (below_drewN hb0 n) hlt
  have hAp := fun n => hR.apart (below_drewN hb0 n) (Nat.le_refl _) (heap_alloc_new w (.cells #[.int .i64 s.now.kind, .int .i64 s.now.place, .int .i64 s.now.num, .string s.now.str, .int .i64 s.now.r, .int .i64 s.now.c, .int .i64 s.now.t, .int .i64 s.now.l, .int .i64 s.now.b, .int .i64 s.now.q, .int .i64 s.now.code] 77))
  have hR' := hR
  obtain ⟨A, cap, N, h⟩ := hR
  have c1 : w.cell? ⟨R, 1, none⟩ = some (.int .i64 s.now.kind) := by rw [cell_of_row w R 1 _ _ _ h.blk]; rfl
  have c2 : w.cell? ⟨R, 2, none⟩ = some (.int .i64 s.now.place) := by rw [cell_of_row w R 2 _ _ _ h.blk]; rfl
  have c3 : w.cell? ⟨R, 3, none⟩ = some (.int .i64 s.now.num) := by rw [cell_of_row w R 3 _ _ _ h.blk]; rfl
  have c4 : w.cell? ⟨R, 4, none⟩ = some (.string s.now.str) := by rw [cell_of_row w R 4 _ _ _ h.blk]; rfl
  have c5 : w.cell? ⟨R, 5, none⟩ = some (.int .i64 s.now.r) := by rw [cell_of_row w R 5 _ _ _ h.blk]; rfl
  have c6 : w.cell? ⟨R, 6, none⟩ = some (.int .i64 s.now.c) := by rw [cell_of_row w R 6 _ _ _ h.blk]; rfl
  have c7 : w.cell? ⟨R, 7, none⟩ = some (.int .i64 s.now.t) := by rw [cell_of_row w R 7 _ _ _ h.blk]; rfl
  have c8 : w.cell? ⟨R, 8, none⟩ = some (.int .i64 s.now.l) := by rw [cell_of_row w R 8 _ _ _ h.blk]; rfl
  have c9 : w.cell? ⟨R, 9, none⟩ = some (.int .i64 s.now.b) := by rw [cell_of_row w R 9 _ _ _ h.blk]; rfl
  have c10 : w.cell? ⟨R, 10, none⟩ = some (.int .i64 s.now.q) := by rw [cell_of_row w R 10 _ _ _ h.blk]; rfl
  have c11 : w.cell? ⟨R, 11, none⟩ = some (.int .i64 s.now.code) := by rw [cell_of_row w R 11 _ _ _ h.blk]; rfl
  have c12 : w.cell? ⟨R, 12, none⟩ = some (.iface 31 tv.s) := by rw [cell_of_row w R 12 _ _ _ h.blk]; rfl
  have hT := fun n => fknown tv R s.now.str ((w.alloc (.cells #[.int .i64 s.now.kind, .int .i64 s.now.place, .int .i64 s.now.num, .string s.now.str, .int .i64 s.now.r, .int .i64 s.now.c, .int .i64 s.now.t, .int .i64 s.now.l, .int .i64 s.now.b, .int .i64 s.now.q, .int .i64 s.now.code] 77)).drewN n) (h.tab.below (below_drewN (hb0.mono (by omega)) n))
  rw [← htb, hkn] at hT
  clear h hkn
  have hsz : decide ((s.now.str.size : Int) > 16) = false := by simp; omega
  have hsz2 : ¬ (16 : Int) < (s.now.str.size : Int) := by omega
  go_enter Tryz.func144, Tryz.ntmps144
  go_wp2
  go_quiet ((go_at_call 186; exact Calls.quiet_of_same ((hT _).mono fun _ _ h => h)))
  have hA0 := hAp nq
  have hk0 := hkk nq
  have CS0 := CS nq
  clear CS hkk hAp hT hm c1 c2 c3 c4 c5 c6 c7 c8 c9 c10 c11 c12 hb0
  go_wp2_with fail
  refine CS0.mono ?_
  rintro e w1 ⟨rfl, hR1, k1⟩
  have hA1 := hA0.kept k1
  have hk1 := hk0.trans k1
  clear CS0 hA0 hk0 k1
  have CB := pbegin tv R s.step w1 hR1
  rcases bindR_some h0 with ⟨e1, a1, h1, rfl⟩ | ⟨s1, h1, h2⟩
  · injection h1 with h1
    rw [h1] at CB
    go_wp2_with fail
    refine CB.mono ?_
    rintro e w2 ⟨k2, rfl⟩
    exact ⟨rfl, hk1.trans k2, rfl⟩
  · injection h1 with h1
    rw [h1] at CB
    obtain ⟨e1, _, _⟩ := opens_some h1
    have hop : 1 ≤ s1.opn := by
      have ho : 0 ≤ s.opn := by obtain ⟨A, cap, N, h⟩ := hR'; exact h.o1
      rw [e1, PS.step_opn]
      show 1 ≤ s.step.opn + 1
      rw [PS.step_opn]; omega
    clear e1 h1 h0
    go_wp2_with fail
    refine CB.mono ?_
    rintro e w2 ⟨k2, rfl, hR2⟩
    have hA2 := hA1.kept k2
    have hk2 := hk1.trans k2
    have hz2 : w.heap.size + 1 ≤ w2.heap.size := by have := heap_lt hA2.blk; omega
    clear CB hA1 hk1 k2 hR1
    go_wp2
    go_loopw [3] (fun v wr => ∃ (g : Nat) (rects : List Bool) (s2 : PS), g ≤ f ∧ px tb g (.args s.now.str s.now.place rects) s2 = some r ∧ KeepR R w wr ∧ RSt tv R wr s2 ∧ Apart R wr w.heap.size #[.int .i64 s.now.kind, .int .i64 s.now.place, .int .i64 s.now.num, .string s.now.str, .int .i64 s.now.r, .int .i64 s.now.c, .int .i64 s.now.t, .int .i64 s.now.l, .int .i64 s.now.b, .int .i64 s.now.q, .int .i64 s.now.code] 77 (0, 0) ∧ wr.ownsRow (w.heap.size + 1) 4 1 v rects.length (blRow rects) ∧ (∀ q, v.ownBlock = some q → nown wr R ≠ some q) ∧ rects.length ≤ 16 ∧ 1 ≤ s2.opn ∧ w.heap.size + 1 ≤ wr.heap.size) (fun _ wr => restLen R wr)
    case atStart => exact ⟨f, [], s1, Nat.le_refl _, h2, hk2, hR2, hA2, World.ownsRow_nil _ _ _ _, (fun q hq => by cases hq), by simp, hop, hz2⟩
    case round =>
      clear h2 hk2 hR2 hA2 hop hz2 hok hsz hsz2
      obtain ⟨g, rects, s2, hg, hpx, hk, hR2, hA, hown, hna, h16, hop, hz2⟩ := hrel
      obtain ⟨g', rfl, hcase⟩ := args_some hpx
      clear hpx
      have CI := pis tv R s2 [41] wr hR2
      have hrl := restLen_of hR2
      have hRl := hR2.lt
      obtain ⟨A3, cap3, rfl⟩ := ownsRow_form' hown
      rcases hcase with ⟨h41, hcase⟩ | ⟨h41, hne, h44, rfl⟩ | ⟨h41, s3, hs3, hcase⟩
      · rw [h41] at CI
        clear h41
        have hm2 := method_takes
        have hKR : ∃ A cap N, RS tv R wr s2 A cap N := hR2
        obtain ⟨A8, cap8, N8, h8⟩ := hKR
        have c12 : wr.cell? ⟨R, 12, none⟩ = some (.iface 31 tv.s) := by rw [cell_of_row wr R 12 _ _ _ h8.blk]; rfl
        have htab := h8.tab
        clear h8
        have m3 : wr.cell? ⟨w.heap.size, 3, none⟩ = some (.string s.now.str) := by rw [cell_of_row wr (w.heap.size) 3 _ _ _ hA.blk]; rfl
        have hrd : RdBl wr wr.heap.size A3 rects := by
          obtain ⟨A9, cap9, e9, h9⟩ := ownsRow_rdk (l := rects.map fun b => [.bool b]) (by omega) (fun c hc => by obtain ⟨y, _, rfl⟩ := List.mem_map.1 hc; rfl) (by simp) (show wr.ownsRow (w.heap.size + 1) 4 1 (.slice A3 rects.length cap3) rects.length (rects.map fun b => [Value.bool b]).flatten by
            rw [blRow_flat]; exact hown)
          injection e9 with e1 e2 e3
          subst e1
          exact h9
        have CT := fun W (hW : Below wr.heap.size wr W) => ftakes tv R s.now.str rects A3 cap3 h16 W (htab.below (hW.mono (by omega))) (by have := hW.size; omega) ((hrd.below hW).mono hW.size)
        rw [← htb] at CT
        clear htab hrd hown hna
        rcases hcase with ⟨ht, rfl⟩ | ⟨ht, hcase⟩
        · rw [ht] at CT
          clear ht htb
          go_wp2_with fail
          refine CI.mono ?_
          rintro e w2 ⟨rfl, he2⟩
          have he2 := he2.symm
          subst he2
          clear CI
          go_wp2
          refine wp_region_noPanic ?_
          refine wp_region_held_drew (S := fun w' => w'.cell? ⟨R, 12, none⟩ = some (.iface 31 tv.s) ∧ w'.cell? ⟨w.heap.size, 3, none⟩ = some (.string s.now.str) ∧ Below wr.heap.size wr w') (by kernel_rfl) ⟨c12, m3, (Below.refl _ _).drew⟩ (fun hHeld => ?_)
          refine wpAnyH_take (i := 0) (oi := ⟨_, _, _, _, _, _⟩) (v := ?v1) rfl (by kernel_rfl) (by kernel_rfl) (by kernel_rfl) (fun _ _ _ h => h) (Or.inl ⟨by rfl, ?hy1⟩) hHeld ?rest1
          case hy1 => (intro w2 hSw; (try dsimp only at hSw); go_split_ands; go_simp; first | done | with_reducible rfl)
          try simp only [Act.put, List.setIfInBounds_toArray, List.set_cons_zero, List.set_cons_succ]
          refine wpAnyH_take (i := 1) (oi := ⟨_, _, _, _, _, _⟩) (v := ?v2) rfl (by kernel_rfl) (by kernel_rfl) (by kernel_rfl) (fun _ _ _ h => h) (Or.inl ⟨by rfl, ?hy2⟩) hHeld ?rest2
          case hy2 => (intro w2 hSw; (try dsimp only at hSw); go_split_ands; go_simp; first | done | with_reducible rfl)
          try simp only [Act.put, List.setIfInBounds_toArray, List.set_cons_zero, List.set_cons_succ]
          refine wpAnyH_take (i := 2) (oi := ⟨_, _, _, _, _, _⟩) (v := ?v3) rfl (by kernel_rfl) (by kernel_rfl) (by kernel_rfl) (fun _ _ _ h => h) (Or.inl ⟨by rfl, ?hy3⟩) hHeld ?rest3
          case hy3 => (intro w2 hSw; (try dsimp only at hSw); go_split_ands; go_simp; first | done | with_reducible rfl)
          try simp only [Act.put, List.setIfInBounds_toArray, List.set_cons_zero, List.set_cons_succ]
          refine wpAnyH_take (i := 3) (oi := ⟨_, _, _, _, _, _⟩) (v := ?v4) rfl (by kernel_rfl) (by kernel_rfl) (by kernel_rfl) (fun _ _ _ h => h) (Or.inl ⟨by rfl, ?hy4⟩) hHeld ?rest4
          case hy4 => (intro w2 hSw; (try dsimp only at hSw); go_split_ands; go_simp; first | done | with_reducible rfl)
          try simp only [Act.put, List.setIfInBounds_toArray, List.set_cons_zero, List.set_cons_succ]
          refine wpAnyH_take (i := 4) (oi := ⟨_, _, _, _, _, _⟩) (v := ?v5) rfl (by kernel_rfl) (by kernel_rfl) (by kernel_rfl) (fun _ _ _ h => h) (Or.inl ⟨by rfl, ?hy5⟩) hHeld ?rest5
          case hy5 => (intro w2 hSw; (try dsimp only at hSw); go_split_ands; go_simp; first | done | with_reducible rfl)
          try simp only [Act.put, List.setIfInBounds_toArray, List.set_cons_zero, List.set_cons_succ]
          refine wpAnyH_take (i := 5) (oi := ⟨_, _, _, _, _, _⟩) (v := ?v6) rfl (by kernel_rfl) (by kernel_rfl) (by kernel_rfl) (fun _ _ _ h => h) (Or.inl ⟨by rfl, ?hy6⟩) hHeld ?rest6
          case hy6 => (intro w2 hSw; (try dsimp only at hSw); go_split_ands; go_simp; first | done | with_reducible rfl)
          try simp only [Act.put, List.setIfInBounds_toArray, List.set_cons_zero, List.set_cons_succ]
          refine wpAnyH_take (i := 6) (oi := ⟨_, _, _, _, _, _⟩) (v := ?v7) rfl (by kernel_rfl) (by kernel_rfl) (by kernel_rfl) (fun _ _ _ h => h) (Or.inl ⟨by rfl, ?hy7⟩) hHeld ?rest7
          case hy7 => (intro w2 hSw; (try dsimp only at hSw); go_split_ands; go_simp; first | done | with_reducible rfl)
          try simp only [Act.put, List.setIfInBounds_toArray, List.set_cons_zero, List.set_cons_succ]
          refine wpAnyH_ready (rs := [7]) (by kernel_rfl) (by simp) ?_
          refine AllReadyH.cons (o := ⟨_, _, _, _, _, _⟩) rfl (fun K hK => ?_) AllReadyH.nil
          go_split_ands
          go_simp
          refine (CT _ ((Below.refl _ _).drew)).mono ?_
          rintro e w1 ⟨rfl, hb0⟩
          have hb : Below wr.heap.size wr w1 := ((Below.refl wr.heap.size wr).drew).trans hb0
          refine hK.out _ _ ?_ (fun hHeld => ?_)
          · exact ⟨(hb.cell (p := ⟨R, 12, none⟩) hRl).trans c12, (hb.cell (p := ⟨w.heap.size, 3, none⟩) (by dsimp only; omega)).trans m3, hb⟩
          clear hK K
          try simp only [Act.put, List.setIfInBounds_toArray, List.set_cons_zero, List.set_cons_succ]
          refine wpAnyH_take (i := 8) (oi := ⟨_, _, _, _, _, _⟩) (v := ?v8) rfl (by kernel_rfl) (by kernel_rfl) (by kernel_rfl) (fun _ _ _ h => h) (Or.inl ⟨by rfl, ?hy8⟩) hHeld ?rest8
          case hy8 => (intro w2 hSw; (try dsimp only at hSw); go_split_ands; go_simp; first | done | with_reducible rfl)
          try simp only [Act.put, List.setIfInBounds_toArray, List.set_cons_zero, List.set_cons_succ]
          refine wpAnyH_done (by kernel_rfl) ?_ _
          refine NoPanic.normal ?_
          obtain ⟨_, n3, hbq⟩ := hHeld
          have hA1 := hA.kept (KeepR.up hbq hRl)
          have n1 : w1.cell? ⟨w.heap.size, 1, none⟩ = some (.int .i64 s.now.place) := by rw [cell_of_row w1 (w.heap.size) 1 _ _ _ hA1.blk]; rfl
          have hkq := hk.trans (KeepR.up hbq hRl)
          go_wp2
          exact ⟨rfl, hkq, rfl⟩
        · rw [ht] at CT
          clear ht htb
          go_wp2_with fail
          refine CI.mono ?_
          rintro e w2 ⟨rfl, he2⟩
          have he2 := he2.symm
          subst he2
          clear CI
          go_wp2
          refine wp_region_noPanic ?_
          refine wp_region_held_drew (S := fun w' => w'.cell? ⟨R, 12, none⟩ = some (.iface 31 tv.s) ∧ w'.cell? ⟨w.heap.size, 3, none⟩ = some (.string s.now.str) ∧ Below wr.heap.size wr w') (by kernel_rfl) ⟨c12, m3, (Below.refl _ _).drew⟩ (fun hHeld => ?_)
          refine wpAnyH_take (i := 0) (oi := ⟨_, _, _, _, _, _⟩) (v := ?v9) rfl (by kernel_rfl) (by kernel_rfl) (by kernel_rfl) (fun _ _ _ h => h) (Or.inl ⟨by rfl, ?hy9⟩) hHeld ?rest9
          case hy9 => (intro w2 hSw; (try dsimp only at hSw); go_split_ands; go_simp; first | done | with_reducible rfl)
          try simp only [Act.put, List.setIfInBounds_toArray, List.set_cons_zero, List.set_cons_succ]
          refine wpAnyH_take (i := 1) (oi := ⟨_, _, _, _, _, _⟩) (v := ?v10) rfl (by kernel_rfl) (by kernel_rfl) (by kernel_rfl) (fun _ _ _ h => h) (Or.inl ⟨by rfl, ?hy10⟩) hHeld ?rest10
          case hy10 => (intro w2 hSw; (try dsimp only at hSw); go_split_ands; go_simp; first | done | with_reducible rfl)
          try simp only [Act.put, List.setIfInBounds_toArray, List.set_cons_zero, List.set_cons_succ]
          refine wpAnyH_take (i := 2) (oi := ⟨_, _, _, _, _, _⟩) (v := ?v11) rfl (by kernel_rfl) (by kernel_rfl) (by kernel_rfl) (fun _ _ _ h => h) (Or.inl ⟨by rfl, ?hy11⟩) hHeld ?rest11
          case hy11 => (intro w2 hSw; (try dsimp only at hSw); go_split_ands; go_simp; first | done | with_reducible rfl)
          try simp only [Act.put, List.setIfInBounds_toArray, List.set_cons_zero, List.set_cons_succ]
          refine wpAnyH_take (i := 3) (oi := ⟨_, _, _, _, _, _⟩) (v := ?v12) rfl (by kernel_rfl) (by kernel_rfl) (by kernel_rfl) (fun _ _ _ h => h) (Or.inl ⟨by rfl, ?hy12⟩) hHeld ?rest12
          case hy12 => (intro w2 hSw; (try dsimp only at hSw); go_split_ands; go_simp; first | done | with_reducible rfl)
          try simp only [Act.put, List.setIfInBounds_toArray, List.set_cons_zero, List.set_cons_succ]
          refine wpAnyH_take (i := 4) (oi := ⟨_, _, _, _, _, _⟩) (v := ?v13) rfl (by kernel_rfl) (by kernel_rfl) (by kernel_rfl) (fun _ _ _ h => h) (Or.inl ⟨by rfl, ?hy13⟩) hHeld ?rest13
          case hy13 => (intro w2 hSw; (try dsimp only at hSw); go_split_ands; go_simp; first | done | with_reducible rfl)
          try simp only [Act.put, List.setIfInBounds_toArray, List.set_cons_zero, List.set_cons_succ]
          refine wpAnyH_take (i := 5) (oi := ⟨_, _, _, _, _, _⟩) (v := ?v14) rfl (by kernel_rfl) (by kernel_rfl) (by kernel_rfl) (fun _ _ _ h => h) (Or.inl ⟨by rfl, ?hy14⟩) hHeld ?rest14
          case hy14 => (intro w2 hSw; (try dsimp only at hSw); go_split_ands; go_simp; first | done | with_reducible rfl)
          try simp only [Act.put, List.setIfInBounds_toArray, List.set_cons_zero, List.set_cons_succ]
          refine wpAnyH_take (i := 6) (oi := ⟨_, _, _, _, _, _⟩) (v := ?v15) rfl (by kernel_rfl) (by kernel_rfl) (by kernel_rfl) (fun _ _ _ h => h) (Or.inl ⟨by rfl, ?hy15⟩) hHeld ?rest15
          case hy15 => (intro w2 hSw; (try dsimp only at hSw); go_split_ands; go_simp; first | done | with_reducible rfl)
          try simp only [Act.put, List.setIfInBounds_toArray, List.set_cons_zero, List.set_cons_succ]
          refine wpAnyH_ready (rs := [7]) (by kernel_rfl) (by simp) ?_
          refine AllReadyH.cons (o := ⟨_, _, _, _, _, _⟩) rfl (fun K hK => ?_) AllReadyH.nil
          go_split_ands
          go_simp
          refine (CT _ ((Below.refl _ _).drew)).mono ?_
          rintro e w1 ⟨rfl, hb0⟩
          have hb : Below wr.heap.size wr w1 := ((Below.refl wr.heap.size wr).drew).trans hb0
          refine hK.out _ _ ?_ (fun hHeld => ?_)
          · exact ⟨(hb.cell (p := ⟨R, 12, none⟩) hRl).trans c12, (hb.cell (p := ⟨w.heap.size, 3, none⟩) (by dsimp only; omega)).trans m3, hb⟩
          clear hK K
          try simp only [Act.put, List.setIfInBounds_toArray, List.set_cons_zero, List.set_cons_succ]
          refine wpAnyH_take (i := 8) (oi := ⟨_, _, _, _, _, _⟩) (v := ?v16) rfl (by kernel_rfl) (by kernel_rfl) (by kernel_rfl) (fun _ _ _ h => h) (Or.inl ⟨by rfl, ?hy16⟩) hHeld ?rest16
          case hy16 => (intro w2 hSw; (try dsimp only at hSw); go_split_ands; go_simp; first | done | with_reducible rfl)
          try simp only [Act.put, List.setIfInBounds_toArray, List.set_cons_zero, List.set_cons_succ]
          refine wpAnyH_done (by kernel_rfl) ?_ _
          refine NoPanic.normal ?_
          obtain ⟨_, n3, hbq⟩ := hHeld
          have hA1 := hA.kept (KeepR.up hbq hRl)
          have n1 : w1.cell? ⟨w.heap.size, 1, none⟩ = some (.int .i64 s.now.place) := by rw [cell_of_row w1 (w.heap.size) 1 _ _ _ hA1.blk]; rfl
          have hkq := hk.trans (KeepR.up hbq hRl)
          have CO := padd tv R s2 (callN s.now.str rects.length) s.now.place w1 (hR2.up hbq)
          simp only [callN, vl0] at CO
          rcases hcase with ⟨e1, a1, h6, rfl⟩ | ⟨s4, h6, rfl⟩
          · simp only [callN, vl0] at h6
            rw [h6] at CO
            clear h6
            go_wp2_with fail
            refine CO.mono ?_
            rintro e w6 ⟨k6, rfl⟩
            exact ⟨rfl, hkq.trans k6, rfl⟩
          · obtain ⟨es4, _⟩ := add_some h6
            have hop4 : 1 ≤ s4.opn := by rw [es4]; exact hop
            simp only [callN, vl0] at h6
            rw [h6] at CO
            clear h6 es4
            go_wp2_with fail
            refine CO.mono ?_
            rintro e w6 ⟨k6, rfl, hR6⟩
            have CN := pend tv R s4 hop4 w6 hR6
            go_wp2_with fail
            refine CN.mono ?_
            rintro e w7 ⟨k7, h7⟩
            cases hcl : s4.closes with
            | ok s5 =>
              rw [hcl] at h7
              obtain ⟨rfl, h8⟩ := h7
              go_wp2
              first | go_end0 | refine bodyPost_ret (results_none rfl _ _ _) rfl ?_
              refine ⟨(hkq.trans k6).trans k7, ?_⟩
              rw [hcl]
              exact ⟨rfl, h8⟩
            | bad e2 a2 =>
              rw [hcl] at h7
              obtain rfl := h7
              refine ⟨rfl, (hkq.trans k6).trans k7, ?_⟩
              rw [hcl]
      · rw [h41] at CI
        clear h41
        have hr0 : 0 < rects.length := by cases rects with | nil => exact absurd rfl hne | cons _ _ => simp
        have hg0 : (0 : Int) < (rects.length : Int) := by omega
        have CI2 := pis tv R s2 [44] wr hR2
        have CF := pfail tv R s2 wr hR2
        cases h4 : s2.is [44] with
        | false =>
          rw [h4] at CI2
          clear h44 h4 hne
          go_wp2_with fail
          refine CI.mono ?_
          rintro e w2 ⟨rfl, he2⟩
          have he2 := he2.symm
          subst he2
          go_wp2_with fail
          refine CI2.mono ?_
          rintro e w2 ⟨rfl, he2⟩
          have he2 := he2.symm
          subst he2
          go_wp2_with fail
          refine CF.mono ?_
          rintro e w3 ⟨k3, rfl⟩
          exact ⟨rfl, hk.trans k3, rfl⟩
        | true =>
          have hn16 : rects.length = 16 := by
            rcases h44 with h | h
            · rw [h4] at h; cases h
            · exact h
          have hni : ((rects.length : Int) == 16) = true := by simp; omega
          rw [h4] at CI2
          clear h44 h4 hne
          go_wp2_with fail
          refine CI.mono ?_
          rintro e w2 ⟨rfl, he2⟩
          have he2 := he2.symm
          subst he2
          go_wp2_with fail
          refine CI2.mono ?_
          rintro e w2 ⟨rfl, he2⟩
          have he2 := he2.symm
          subst he2
          go_wp2_with fail
          refine CF.mono ?_
          rintro e w3 ⟨k3, rfl⟩
          exact ⟨rfl, hk.trans k3, rfl⟩
      · rw [h41] at CI
        clear h41
        rcases hs3 with ⟨hr0, hs⟩ | ⟨hne, h44, hn16, hs⟩
        · have hr1 : rects.length < 1 := by rw [hr0]; simp
          have hg0 : ¬ (0 : Int) < (rects.length : Int) := by omega
          have hR3 : RSt tv R wr s3 := by rw [hs]; exact hR2
          have hop3 : 1 ≤ s3.opn := by rw [hs]; exact hop
          have hle3 : s3.rest.length ≤ s2.rest.length := by rw [hs]; exact Nat.le_refl _
          clear hr0 hs hR2
          go_wp2_with fail
          refine CI.mono ?_
          rintro e w2 ⟨rfl, he2⟩
          have he2 := he2.symm
          subst he2
          have hRq := hR3.lt
          have hKR : ∃ A cap N, RS tv R wr s3 A cap N := hR3
          obtain ⟨A8, cap8, N8, h8⟩ := hKR
          have c1 : wr.cell? ⟨R, 1, none⟩ = some (.int .i64 s3.now.kind) := by rw [cell_of_row wr R 1 _ _ _ h8.blk]; rfl
          have c2 : wr.cell? ⟨R, 2, none⟩ = some (.int .i64 s3.now.place) := by rw [cell_of_row wr R 2 _ _ _ h8.blk]; rfl
          have c3 : wr.cell? ⟨R, 3, none⟩ = some (.int .i64 s3.now.num) := by rw [cell_of_row wr R 3 _ _ _ h8.blk]; rfl
          have c4 : wr.cell? ⟨R, 4, none⟩ = some (.string s3.now.str) := by rw [cell_of_row wr R 4 _ _ _ h8.blk]; rfl
          have c5 : wr.cell? ⟨R, 5, none⟩ = some (.int .i64 s3.now.r) := by rw [cell_of_row wr R 5 _ _ _ h8.blk]; rfl
          have c6 : wr.cell? ⟨R, 6, none⟩ = some (.int .i64 s3.now.c) := by rw [cell_of_row wr R 6 _ _ _ h8.blk]; rfl
          have c7 : wr.cell? ⟨R, 7, none⟩ = some (.int .i64 s3.now.t) := by rw [cell_of_row wr R 7 _ _ _ h8.blk]; rfl
          have c8 : wr.cell? ⟨R, 8, none⟩ = some (.int .i64 s3.now.l) := by rw [cell_of_row wr R 8 _ _ _ h8.blk]; rfl
          have c9 : wr.cell? ⟨R, 9, none⟩ = some (.int .i64 s3.now.b) := by rw [cell_of_row wr R 9 _ _ _ h8.blk]; rfl
          have c10 : wr.cell? ⟨R, 10, none⟩ = some (.int .i64 s3.now.q) := by rw [cell_of_row wr R 10 _ _ _ h8.blk]; rfl
          have c11 : wr.cell? ⟨R, 11, none⟩ = some (.int .i64 s3.now.code) := by rw [cell_of_row wr R 11 _ _ _ h8.blk]; rfl
          clear h8
          rcases hcase with ⟨h5, hcase⟩ | ⟨h5, hcase⟩
          · have e5 : (s3.now.kind == 5) = true := by simp [h5]
            have h5h := Lib.hid h5
            clear h5
            have hW2 : Below wr.heap.size wr ((wr.alloc (.cells #[.int .i64 s3.now.kind, .int .i64 s3.now.place, .int .i64 s3.now.num, .string s3.now.str, .int .i64 s3.now.r, .int .i64 s3.now.c, .int .i64 s3.now.t, .int .i64 s3.now.l, .int .i64 s3.now.b, .int .i64 s3.now.q, .int .i64 s3.now.code] 77)).alloc (.cells #[.bool true] 4)) := ((Below.refl _ _).alloc (Nat.le_refl _) _).alloc (by simp) _
            have hn2 : nown ((wr.alloc (.cells #[.int .i64 s3.now.kind, .int .i64 s3.now.place, .int .i64 s3.now.num, .string s3.now.str, .int .i64 s3.now.r, .int .i64 s3.now.c, .int .i64 s3.now.t, .int .i64 s3.now.l, .int .i64 s3.now.b, .int .i64 s3.now.q, .int .i64 s3.now.code] 77)).alloc (.cells #[.bool true] 4)) R = nown wr R := nown_eq (hW2.cell (p := ⟨R, 14, none⟩) hRq)
            have hvg := heap_alloc_new (wr.alloc (.cells #[.int .i64 s3.now.kind, .int .i64 s3.now.place, .int .i64 s3.now.num, .string s3.now.str, .int .i64 s3.now.r, .int .i64 s3.now.c, .int .i64 s3.now.t, .int .i64 s3.now.l, .int .i64 s3.now.b, .int .i64 s3.now.q, .int .i64 s3.now.code] 77)) (.cells #[.bool true] 4)
            rw [World.size_alloc] at hvg
            have hbx : ((wr.alloc (.cells #[.int .i64 s3.now.kind, .int .i64 s3.now.place, .int .i64 s3.now.num, .string s3.now.str, .int .i64 s3.now.r, .int .i64 s3.now.c, .int .i64 s3.now.t, .int .i64 s3.now.l, .int .i64 s3.now.b, .int .i64 s3.now.q, .int .i64 s3.now.code] 77)).alloc (.cells #[.bool true] 4)).heap[wr.heap.size]? = some (.cells #[.int .i64 s3.now.kind, .int .i64 s3.now.place, .int .i64 s3.now.num, .string s3.now.str, .int .i64 s3.now.r, .int .i64 s3.now.c, .int .i64 s3.now.t, .int .i64 s3.now.l, .int .i64 s3.now.b, .int .i64 s3.now.q, .int .i64 s3.now.code] 77 (0, 0)) := (Lib.alloc_old _ _ _ (by simp)).trans (heap_alloc_new wr (.cells #[.int .i64 s3.now.kind, .int .i64 s3.now.place, .int .i64 s3.now.num, .string s3.now.str, .int .i64 s3.now.r, .int .i64 s3.now.c, .int .i64 s3.now.t, .int .i64 s3.now.l, .int .i64 s3.now.b, .int .i64 s3.now.q, .int .i64 s3.now.code] 77))
            go_wp2_with (at_builtin; refine wpList_append_own_at _ rfl _ _ 198 rfl (w.heap.size + 1) 4 i0 (.bool false) 1 1 Tryz.underlying198 hi hz0 hz1 hz2x rfl (by decide) _ _ _ rfl ((hown.alloc _).alloc _) ⟨wr.heap.size + 1, 0, none⟩ 1 1 [.bool true] rfl rfl (World.news_of_block (cs := #[.bool true]) (t := 4) (fr := (0, 0)) hvg) (by simp [Value.oneCell']) (by unfold maxLen; omega) (by omega) (by simp; omega) ?_; intro v' w5 hown5 hgrow5 _ hat5; have hbx5 : w5.heap[wr.heap.size]? = some (.cells #[.int .i64 s3.now.kind, .int .i64 s3.now.place, .int .i64 s3.now.num, .string s3.now.str, .int .i64 s3.now.r, .int .i64 s3.now.c, .int .i64 s3.now.t, .int .i64 s3.now.l, .int .i64 s3.now.b, .int .i64 s3.now.q, .int .i64 s3.now.code] 77 (0, 0)) := (hgrow5.block wr.heap.size (by simp; omega) (fun e => by have := (hown.lt wr.heap.size e.symm).2; omega)).trans hbx; have x0 : w5.cell? ⟨wr.heap.size, 0, none⟩ = some (.int .i64 s3.now.kind) := (by rw [cell_of_row w5 (wr.heap.size) 0 _ _ _ hbx5]; rfl); have x1 : w5.cell? ⟨wr.heap.size, 1, none⟩ = some (.int .i64 s3.now.place) := (by rw [cell_of_row w5 (wr.heap.size) 1 _ _ _ hbx5]; rfl); have x6 : w5.cell? ⟨wr.heap.size, 6, none⟩ = some (.int .i64 s3.now.t) := (by rw [cell_of_row w5 (wr.heap.size) 6 _ _ _ hbx5]; rfl); have x7 : w5.cell? ⟨wr.heap.size, 7, none⟩ = some (.int .i64 s3.now.l) := (by rw [cell_of_row w5 (wr.heap.size) 7 _ _ _ hbx5]; rfl); have x8 : w5.cell? ⟨wr.heap.size, 8, none⟩ = some (.int .i64 s3.now.b) := (by rw [cell_of_row w5 (wr.heap.size) 8 _ _ _ hbx5]; rfl); have x9 : w5.cell? ⟨wr.heap.size, 9, none⟩ = some (.int .i64 s3.now.q) := (by rw [cell_of_row w5 (wr.heap.size) 9 _ _ _ hbx5]; rfl))
            have hk5 : KeepR R w w5 := (hk.trans (KeepR.up hW2 hRq)).grow (by simp; omega) hgrow5 (fun q hq => by have := hown.lt q hq; omega)
            have hR5 : RSt tv R w5 s3 := (hR3.up hW2).grow hgrow5 (fun q hq => ⟨by have := hown.lt q hq; omega, by rw [hn2]; exact hna q hq⟩)
            have hn5 : nown w5 R = nown wr R := (nown_eq (hgrow5.cell_far ⟨R, 14, none⟩ (by simp; omega) (fun e => by have := hown.lt R e.symm; omega))).trans hn2
            have hna5 : ∀ q, v'.ownBlock = some q → nown w5 R ≠ some q := fun q hq => by
              rw [hn5]
              rcases hat5 with e | e
              · exact hna q (e.symm.trans hq)
              · rw [hq] at e
                injection e with e
                intro e2
                have := (hR3.fresh q e2).2
                simp at e
                omega
            have hA5 : Apart R w5 w.heap.size #[.int .i64 s.now.kind, .int .i64 s.now.place, .int .i64 s.now.num, .string s.now.str, .int .i64 s.now.r, .int .i64 s.now.c, .int .i64 s.now.t, .int .i64 s.now.l, .int .i64 s.now.b, .int .i64 s.now.q, .int .i64 s.now.code] 77 (0, 0) := (hA.kept (KeepR.up hW2 hRq)).grow hgrow5 (by simp; omega) (fun e => by have := hown.lt R e.symm; omega) (fun e => by have := (hown.lt w.heap.size e.symm).1; omega)
            have hl5 : w5.ownsRow (w.heap.size + 1) 4 1 v' (rects ++ [true]).length (blRow (rects ++ [true])) := by
              have e : blRow (rects ++ [true]) = blRow rects ++ [.bool true] := by simp [blRow]
              rw [e, List.length_append]; exact hown5
            have hz5 : w.heap.size + 1 ≤ w5.heap.size := by have := hgrow5.size; simp at this; omega
            clear hown5 hgrow5 hat5 hn5 hbx hvg hW2 hn2 c1 c2 c3 c4 c5 c6 c7 c8 c9 c10 c11
            have CO := padd tv R s3 (rectN' s3.now.t s3.now.l s3.now.b s3.now.q) s3.now.place w5 hR5
            simp only [rectN', vl0] at CO
            have hl3 := kind_last (x := s3.now) (by rw [h5h.out]; omega) (by rw [h5h.out]; omega)
            have hwf3 := hR5.wf
            rcases hcase with ⟨e1, a1, h6, rfl⟩ | ⟨s4, h6, h7⟩
            · simp only [rectN', vl0] at h6
              rw [h6] at CO
              clear h6
              go_wp2_with fail
              refine CO.mono ?_
              rintro e w6 ⟨k6, rfl⟩
              exact ⟨rfl, hk5.trans k6, rfl⟩
            · obtain ⟨es4, _⟩ := add_some h6
              have hsl : s4.step.rest.length + 1 = s3.rest.length := by
                have hw4 : s4.wf := by rw [es4]; exact hwf3
                have := PS.step_len hw4 (by rw [es4]; exact hl3)
                rw [this, es4]
              have hop4 : 1 ≤ s4.step.opn := by rw [PS.step_opn, es4]; exact hop3
              simp only [rectN', vl0] at h6
              rw [h6] at CO
              clear h6 es4
              go_wp2_with fail
              refine CO.mono ?_
              rintro e w6 ⟨k6, rfl, hR6⟩
              obtain ⟨hl6, hna6⟩ := own_keep hl5 (by omega) hna5 k6
              have hA6 := hA5.kept k6
              have CS := pstep tv R s4 w6 hR6
              go_wp2_with fail
              refine CS.mono ?_
              rintro e w7 ⟨rfl, hR7, k7⟩
              obtain ⟨hl7, hna7⟩ := own_keep hl6 (by omega) hna6 k7
              have hA7 := hA6.kept k7
              have hlen7 := restLen_of hR7
              have hz7 : w.heap.size + 1 ≤ w7.heap.size := by have := heap_lt hA7.blk; omega
              clear CS CO CI x0 x1 x6 x7 x8 x9 hl6 hl5 hA6 hA5
              go_wp2
              go_roundw
              case rel => exact ⟨g', rects ++ [true], s4.step, by omega, h7, hk5.trans (k6.trans k7), hR7, hA7, hl7, hna7, by simp; omega, hop4, hz7⟩
              case measure => omega
          · have e5 : (s3.now.kind == 5) = false := by simp [h5]
            have h5h := Lib.hid h5
            clear h5
            have hW2 : Below wr.heap.size wr ((wr.alloc (.cells #[.int .i64 s3.now.kind, .int .i64 s3.now.place, .int .i64 s3.now.num, .string s3.now.str, .int .i64 s3.now.r, .int .i64 s3.now.c, .int .i64 s3.now.t, .int .i64 s3.now.l, .int .i64 s3.now.b, .int .i64 s3.now.q, .int .i64 s3.now.code] 77)).alloc (.cells #[.bool false] 4)) := ((Below.refl _ _).alloc (Nat.le_refl _) _).alloc (by simp) _
            have hn2 : nown ((wr.alloc (.cells #[.int .i64 s3.now.kind, .int .i64 s3.now.place, .int .i64 s3.now.num, .string s3.now.str, .int .i64 s3.now.r, .int .i64 s3.now.c, .int .i64 s3.now.t, .int .i64 s3.now.l, .int .i64 s3.now.b, .int .i64 s3.now.q, .int .i64 s3.now.code] 77)).alloc (.cells #[.bool false] 4)) R = nown wr R := nown_eq (hW2.cell (p := ⟨R, 14, none⟩) hRq)
            have hvg := heap_alloc_new (wr.alloc (.cells #[.int .i64 s3.now.kind, .int .i64 s3.now.place, .int .i64 s3.now.num, .string s3.now.str, .int .i64 s3.now.r, .int .i64 s3.now.c, .int .i64 s3.now.t, .int .i64 s3.now.l, .int .i64 s3.now.b, .int .i64 s3.now.q, .int .i64 s3.now.code] 77)) (.cells #[.bool false] 4)
            rw [World.size_alloc] at hvg
            have hbx : ((wr.alloc (.cells #[.int .i64 s3.now.kind, .int .i64 s3.now.place, .int .i64 s3.now.num, .string s3.now.str, .int .i64 s3.now.r, .int .i64 s3.now.c, .int .i64 s3.now.t, .int .i64 s3.now.l, .int .i64 s3.now.b, .int .i64 s3.now.q, .int .i64 s3.now.code] 77)).alloc (.cells #[.bool false] 4)).heap[wr.heap.size]? = some (.cells #[.int .i64 s3.now.kind, .int .i64 s3.now.place, .int .i64 s3.now.num, .string s3.now.str, .int .i64 s3.now.r, .int .i64 s3.now.c, .int .i64 s3.now.t, .int .i64 s3.now.l, .int .i64 s3.now.b, .int .i64 s3.now.q, .int .i64 s3.now.code] 77 (0, 0)) := (Lib.alloc_old _ _ _ (by simp)).trans (heap_alloc_new wr (.cells #[.int .i64 s3.now.kind, .int .i64 s3.now.place, .int .i64 s3.now.num, .string s3.now.str, .int .i64 s3.now.r, .int .i64 s3.now.c, .int .i64 s3.now.t, .int .i64 s3.now.l, .int .i64 s3.now.b, .int .i64 s3.now.q, .int .i64 s3.now.code] 77))
            go_wp2_with (at_builtin; refine wpList_append_own_at _ rfl _ _ 198 rfl (w.heap.size + 1) 4 i0 (.bool false) 1 1 Tryz.underlying198 hi hz0 hz1 hz2x rfl (by decide) _ _ _ rfl ((hown.alloc _).alloc _) ⟨wr.heap.size + 1, 0, none⟩ 1 1 [.bool false] rfl rfl (World.news_of_block (cs := #[.bool false]) (t := 4) (fr := (0, 0)) hvg) (by simp [Value.oneCell']) (by unfold maxLen; omega) (by omega) (by simp; omega) ?_; intro v' w5 hown5 hgrow5 _ hat5; have hbx5 : w5.heap[wr.heap.size]? = some (.cells #[.int .i64 s3.now.kind, .int .i64 s3.now.place, .int .i64 s3.now.num, .string s3.now.str, .int .i64 s3.now.r, .int .i64 s3.now.c, .int .i64 s3.now.t, .int .i64 s3.now.l, .int .i64 s3.now.b, .int .i64 s3.now.q, .int .i64 s3.now.code] 77 (0, 0)) := (hgrow5.block wr.heap.size (by simp; omega) (fun e => by have := (hown.lt wr.heap.size e.symm).2; omega)).trans hbx; have x0 : w5.cell? ⟨wr.heap.size, 0, none⟩ = some (.int .i64 s3.now.kind) := (by rw [cell_of_row w5 (wr.heap.size) 0 _ _ _ hbx5]; rfl))
            have hk5 : KeepR R w w5 := (hk.trans (KeepR.up hW2 hRq)).grow (by simp; omega) hgrow5 (fun q hq => by have := hown.lt q hq; omega)
            have hR5 : RSt tv R w5 s3 := (hR3.up hW2).grow hgrow5 (fun q hq => ⟨by have := hown.lt q hq; omega, by rw [hn2]; exact hna q hq⟩)
            have hn5 : nown w5 R = nown wr R := (nown_eq (hgrow5.cell_far ⟨R, 14, none⟩ (by simp; omega) (fun e => by have := hown.lt R e.symm; omega))).trans hn2
            have hna5 : ∀ q, v'.ownBlock = some q → nown w5 R ≠ some q := fun q hq => by
              rw [hn5]
              rcases hat5 with e | e
              · exact hna q (e.symm.trans hq)
              · rw [hq] at e
                injection e with e
                intro e2
                have := (hR3.fresh q e2).2
                simp at e
                omega
            have hA5 : Apart R w5 w.heap.size #[.int .i64 s.now.kind, .int .i64 s.now.place, .int .i64 s.now.num, .string s.now.str, .int .i64 s.now.r, .int .i64 s.now.c, .int .i64 s.now.t, .int .i64 s.now.l, .int .i64 s.now.b, .int .i64 s.now.q, .int .i64 s.now.code] 77 (0, 0) := (hA.kept (KeepR.up hW2 hRq)).grow hgrow5 (by simp; omega) (fun e => by have := hown.lt R e.symm; omega) (fun e => by have := (hown.lt w.heap.size e.symm).1; omega)
            have hl5 : w5.ownsRow (w.heap.size + 1) 4 1 v' (rects ++ [false]).length (blRow (rects ++ [false])) := by
              have e : blRow (rects ++ [false]) = blRow rects ++ [.bool false] := by simp [blRow]
              rw [e, List.length_append]; exact hown5
            have hz5 : w.heap.size + 1 ≤ w5.heap.size := by have := hgrow5.size; simp at this; omega
            clear hown5 hgrow5 hat5 hn5 hbx hvg hW2 hn2 c1 c2 c3 c4 c5 c6 c7 c8 c9 c10 c11
            have hC := fun q hq => HE s3 w5 q hR5 (px_mono tb (show g' ≤ f by omega) hq)
            rcases hcase with ⟨e1, a1, h6, rfl⟩ | ⟨s4, h6, h7⟩
            · have CE := hC _ h6
              clear h6 hC
              go_wp2_with fail
              refine CE.mono ?_
              rintro e w6 ⟨k6, rfl⟩
              exact ⟨rfl, hk5.trans k6, rfl⟩
            · have CE := hC _ h6
              have haf := px_after tb hR5.wf (show Md.ok (.lev 0) from Nat.zero_le 4) h6
              have hal := haf.len
              have hao := haf.opn
              simp only [Md.strict, Md.opn] at hal hao
              clear h6 hC haf
              go_wp2_with fail
              refine CE.mono ?_
              rintro e w6 ⟨k6, rfl, hR6⟩
              obtain ⟨hl6, hna6⟩ := own_keep hl5 (by omega) hna5 k6
              have hA6 := hA5.kept k6
              have hlen6 := restLen_of hR6
              have hz6 : w.heap.size + 1 ≤ w6.heap.size := by have := heap_lt hA6.blk; omega
              clear CE CI x0 hl5 hA5
              go_wp2
              go_roundw
              case rel => exact ⟨g', rects ++ [false], s4, by omega, h7, hk5.trans k6, hR6, hA6, hl6, hna6, by simp; omega, by omega, hz6⟩
              case measure => omega
        · have hr1 : 0 < rects.length := by cases rects with | nil => exact absurd rfl hne | cons _ _ => simp
          have hg0 : (0 : Int) < (rects.length : Int) := by omega
          have hni : ((rects.length : Int) == 16) = false := by simp; omega
          have CI2 := pis tv R s2 [44] wr hR2
          rw [h44] at CI2
          have CS0 := pstep tv R s2 wr hR2
          have hop3 : 1 ≤ s3.opn := by rw [hs, PS.step_opn]; exact hop
          have hle3 : s3.rest.length ≤ s2.rest.length := by rw [hs]; exact PS.step_le s2
          clear h44 hne
          go_wp2_with fail
          refine CI.mono ?_
          rintro e w2 ⟨rfl, he2⟩
          have he2 := he2.symm
          subst he2
          go_wp2_with fail
          refine CI2.mono ?_
          rintro e w2 ⟨rfl, he2⟩
          have he2 := he2.symm
          subst he2
          go_wp2_with fail
          refine CS0.mono ?_
          rintro e w4 ⟨rfl, hR4, k4⟩
          have hR3 : RSt tv R w4 s3 := by rw [hs]; exact hR4
          obtain ⟨hown4, hna4⟩ := own_keep hown (by omega) hna k4
          have hA4 := hA.kept k4
          have hk4 := hk.trans k4
          have hz4 : w.heap.size + 1 ≤ w4.heap.size := by have := heap_lt hA4.blk; omega
          clear hs hR2 hR4 CS0 CI2 hown hna hA hk k4
          have hRq := hR3.lt
          have hKR : ∃ A cap N, RS tv R w4 s3 A cap N := hR3
          obtain ⟨A8, cap8, N8, h8⟩ := hKR
          have c1 : w4.cell? ⟨R, 1, none⟩ = some (.int .i64 s3.now.kind) := by rw [cell_of_row w4 R 1 _ _ _ h8.blk]; rfl
          have c2 : w4.cell? ⟨R, 2, none⟩ = some (.int .i64 s3.now.place) := by rw [cell_of_row w4 R 2 _ _ _ h8.blk]; rfl
          have c3 : w4.cell? ⟨R, 3, none⟩ = some (.int .i64 s3.now.num) := by rw [cell_of_row w4 R 3 _ _ _ h8.blk]; rfl
          have c4 : w4.cell? ⟨R, 4, none⟩ = some (.string s3.now.str) := by rw [cell_of_row w4 R 4 _ _ _ h8.blk]; rfl
          have c5 : w4.cell? ⟨R, 5, none⟩ = some (.int .i64 s3.now.r) := by rw [cell_of_row w4 R 5 _ _ _ h8.blk]; rfl
          have c6 : w4.cell? ⟨R, 6, none⟩ = some (.int .i64 s3.now.c) := by rw [cell_of_row w4 R 6 _ _ _ h8.blk]; rfl
          have c7 : w4.cell? ⟨R, 7, none⟩ = some (.int .i64 s3.now.t) := by rw [cell_of_row w4 R 7 _ _ _ h8.blk]; rfl
          have c8 : w4.cell? ⟨R, 8, none⟩ = some (.int .i64 s3.now.l) := by rw [cell_of_row w4 R 8 _ _ _ h8.blk]; rfl
          have c9 : w4.cell? ⟨R, 9, none⟩ = some (.int .i64 s3.now.b) := by rw [cell_of_row w4 R 9 _ _ _ h8.blk]; rfl
          have c10 : w4.cell? ⟨R, 10, none⟩ = some (.int .i64 s3.now.q) := by rw [cell_of_row w4 R 10 _ _ _ h8.blk]; rfl
          have c11 : w4.cell? ⟨R, 11, none⟩ = some (.int .i64 s3.now.code) := by rw [cell_of_row w4 R 11 _ _ _ h8.blk]; rfl
          clear h8
          rcases hcase with ⟨h5, hcase⟩ | ⟨h5, hcase⟩
          · have e5 : (s3.now.kind == 5) = true := by simp [h5]
            have h5h := Lib.hid h5
            clear h5
            have hW2 : Below w4.heap.size w4 ((w4.alloc (.cells #[.int .i64 s3.now.kind, .int .i64 s3.now.place, .int .i64 s3.now.num, .string s3.now.str, .int .i64 s3.now.r, .int .i64 s3.now.c, .int .i64 s3.now.t, .int .i64 s3.now.l, .int .i64 s3.now.b, .int .i64 s3.now.q, .int .i64 s3.now.code] 77)).alloc (.cells #[.bool true] 4)) := ((Below.refl _ _).alloc (Nat.le_refl _) _).alloc (by simp) _
            have hn2 : nown ((w4.alloc (.cells #[.int .i64 s3.now.kind, .int .i64 s3.now.place, .int .i64 s3.now.num, .string s3.now.str, .int .i64 s3.now.r, .int .i64 s3.now.c, .int .i64 s3.now.t, .int .i64 s3.now.l, .int .i64 s3.now.b, .int .i64 s3.now.q, .int .i64 s3.now.code] 77)).alloc (.cells #[.bool true] 4)) R = nown w4 R := nown_eq (hW2.cell (p := ⟨R, 14, none⟩) hRq)
            have hvg := heap_alloc_new (w4.alloc (.cells #[.int .i64 s3.now.kind, .int .i64 s3.now.place, .int .i64 s3.now.num, .string s3.now.str, .int .i64 s3.now.r, .int .i64 s3.now.c, .int .i64 s3.now.t, .int .i64 s3.now.l, .int .i64 s3.now.b, .int .i64 s3.now.q, .int .i64 s3.now.code] 77)) (.cells #[.bool true] 4)
            rw [World.size_alloc] at hvg
            have hbx : ((w4.alloc (.cells #[.int .i64 s3.now.kind, .int .i64 s3.now.place, .int .i64 s3.now.num, .string s3.now.str, .int .i64 s3.now.r, .int .i64 s3.now.c, .int .i64 s3.now.t, .int .i64 s3.now.l, .int .i64 s3.now.b, .int .i64 s3.now.q, .int .i64 s3.now.code] 77)).alloc (.cells #[.bool true] 4)).heap[w4.heap.size]? = some (.cells #[.int .i64 s3.now.kind, .int .i64 s3.now.place, .int .i64 s3.now.num, .string s3.now.str, .int .i64 s3.now.r, .int .i64 s3.now.c, .int .i64 s3.now.t, .int .i64 s3.now.l, .int .i64 s3.now.b, .int .i64 s3.now.q, .int .i64 s3.now.code] 77 (0, 0)) := (Lib.alloc_old _ _ _ (by simp)).trans (heap_alloc_new w4 (.cells #[.int .i64 s3.now.kind, .int .i64 s3.now.place, .int .i64 s3.now.num, .string s3.now.str, .int .i64 s3.now.r, .int .i64 s3.now.c, .int .i64 s3.now.t, .int .i64 s3.now.l, .int .i64 s3.now.b, .int .i64 s3.now.q, .int .i64 s3.now.code] 77))
            go_wp2_with (at_builtin; refine wpList_append_own_at _ rfl _ _ 198 rfl (w.heap.size + 1) 4 i0 (.bool false) 1 1 Tryz.underlying198 hi hz0 hz1 hz2x rfl (by decide) _ _ _ rfl ((hown4.alloc _).alloc _) ⟨w4.heap.size + 1, 0, none⟩ 1 1 [.bool true] rfl rfl (World.news_of_block (cs := #[.bool true]) (t := 4) (fr := (0, 0)) hvg) (by simp [Value.oneCell']) (by unfold maxLen; omega) (by omega) (by simp; omega) ?_; intro v' w5 hown5 hgrow5 _ hat5; have hbx5 : w5.heap[w4.heap.size]? = some (.cells #[.int .i64 s3.now.kind, .int .i64 s3.now.place, .int .i64 s3.now.num, .string s3.now.str, .int .i64 s3.now.r, .int .i64 s3.now.c, .int .i64 s3.now.t, .int .i64 s3.now.l, .int .i64 s3.now.b, .int .i64 s3.now.q, .int .i64 s3.now.code] 77 (0, 0)) := (hgrow5.block w4.heap.size (by simp; omega) (fun e => by have := (hown4.lt w4.heap.size e.symm).2; omega)).trans hbx; have x0 : w5.cell? ⟨w4.heap.size, 0, none⟩ = some (.int .i64 s3.now.kind) := (by rw [cell_of_row w5 (w4.heap.size) 0 _ _ _ hbx5]; rfl); have x1 : w5.cell? ⟨w4.heap.size, 1, none⟩ = some (.int .i64 s3.now.place) := (by rw [cell_of_row w5 (w4.heap.size) 1 _ _ _ hbx5]; rfl); have x6 : w5.cell? ⟨w4.heap.size, 6, none⟩ = some (.int .i64 s3.now.t) := (by rw [cell_of_row w5 (w4.heap.size) 6 _ _ _ hbx5]; rfl); have x7 : w5.cell? ⟨w4.heap.size, 7, none⟩ = some (.int .i64 s3.now.l) := (by rw [cell_of_row w5 (w4.heap.size) 7 _ _ _ hbx5]; rfl); have x8 : w5.cell? ⟨w4.heap.size, 8, none⟩ = some (.int .i64 s3.now.b) := (by rw [cell_of_row w5 (w4.heap.size) 8 _ _ _ hbx5]; rfl); have x9 : w5.cell? ⟨w4.heap.size, 9, none⟩ = some (.int .i64 s3.now.q) := (by rw [cell_of_row w5 (w4.heap.size) 9 _ _ _ hbx5]; rfl))
            have hk5 : KeepR R w w5 := (hk4.trans (KeepR.up hW2 hRq)).grow (by simp; omega) hgrow5 (fun q hq => by have := hown4.lt q hq; omega)
            have hR5 : RSt tv R w5 s3 := (hR3.up hW2).grow hgrow5 (fun q hq => ⟨by have := hown4.lt q hq; omega, by rw [hn2]; exact hna4 q hq⟩)
            have hn5 : nown w5 R = nown w4 R := (nown_eq (hgrow5.cell_far ⟨R, 14, none⟩ (by simp; omega) (fun e => by have := hown4.lt R e.symm; omega))).trans hn2
            have hna5 : ∀ q, v'.ownBlock = some q → nown w5 R ≠ some q := fun q hq => by
              rw [hn5]
              rcases hat5 with e | e
              · exact hna4 q (e.symm.trans hq)
              · rw [hq] at e
                injection e with e
                intro e2
                have := (hR3.fresh q e2).2
                simp at e
                omega
            have hA5 : Apart R w5 w.heap.size #[.int .i64 s.now.kind, .int .i64 s.now.place, .int .i64 s.now.num, .string s.now.str, .int .i64 s.now.r, .int .i64 s.now.c, .int .i64 s.now.t, .int .i64 s.now.l, .int .i64 s.now.b, .int .i64 s.now.q, .int .i64 s.now.code] 77 (0, 0) := (hA4.kept (KeepR.up hW2 hRq)).grow hgrow5 (by simp; omega) (fun e => by have := hown4.lt R e.symm; omega) (fun e => by have := (hown4.lt w.heap.size e.symm).1; omega)
            have hl5 : w5.ownsRow (w.heap.size + 1) 4 1 v' (rects ++ [true]).length (blRow (rects ++ [true])) := by
              have e : blRow (rects ++ [true]) = blRow rects ++ [.bool true] := by simp [blRow]
              rw [e, List.length_append]; exact hown5
            have hz5 : w.heap.size + 1 ≤ w5.heap.size := by have := hgrow5.size; simp at this; omega
            clear hown5 hgrow5 hat5 hn5 hbx hvg hW2 hn2 c1 c2 c3 c4 c5 c6 c7 c8 c9 c10 c11
            have CO := padd tv R s3 (rectN' s3.now.t s3.now.l s3.now.b s3.now.q) s3.now.place w5 hR5
            simp only [rectN', vl0] at CO
            have hl3 := kind_last (x := s3.now) (by rw [h5h.out]; omega) (by rw [h5h.out]; omega)
            have hwf3 := hR5.wf
            rcases hcase with ⟨e1, a1, h6, rfl⟩ | ⟨s4, h6, h7⟩
            · simp only [rectN', vl0] at h6
              rw [h6] at CO
              clear h6
              go_wp2_with fail
              refine CO.mono ?_
              rintro e w6 ⟨k6, rfl⟩
              exact ⟨rfl, hk5.trans k6, rfl⟩
            · obtain ⟨es4, _⟩ := add_some h6
              have hsl : s4.step.rest.length + 1 = s3.rest.length := by
                have hw4 : s4.wf := by rw [es4]; exact hwf3
                have := PS.step_len hw4 (by rw [es4]; exact hl3)
                rw [this, es4]
              have hop4 : 1 ≤ s4.step.opn := by rw [PS.step_opn, es4]; exact hop3
              simp only [rectN', vl0] at h6
              rw [h6] at CO
              clear h6 es4
              go_wp2_with fail
              refine CO.mono ?_
              rintro e w6 ⟨k6, rfl, hR6⟩
              obtain ⟨hl6, hna6⟩ := own_keep hl5 (by omega) hna5 k6
              have hA6 := hA5.kept k6
              have CS := pstep tv R s4 w6 hR6
              go_wp2_with fail
              refine CS.mono ?_
              rintro e w7 ⟨rfl, hR7, k7⟩
              obtain ⟨hl7, hna7⟩ := own_keep hl6 (by omega) hna6 k7
              have hA7 := hA6.kept k7
              have hlen7 := restLen_of hR7
              have hz7 : w.heap.size + 1 ≤ w7.heap.size := by have := heap_lt hA7.blk; omega
              clear CS CO CI x0 x1 x6 x7 x8 x9 hl6 hl5 hA6 hA5
              go_wp2
              go_roundw
              case rel => exact ⟨g', rects ++ [true], s4.step, by omega, h7, hk5.trans (k6.trans k7), hR7, hA7, hl7, hna7, by simp; omega, hop4, hz7⟩
              case measure => omega
          · have e5 : (s3.now.kind == 5) = false := by simp [h5]
            have h5h := Lib.hid h5
            clear h5
            have hW2 : Below w4.heap.size w4 ((w4.alloc (.cells #[.int .i64 s3.now.kind, .int .i64 s3.now.place, .int .i64 s3.now.num, .string s3.now.str, .int .i64 s3.now.r, .int .i64 s3.now.c, .int .i64 s3.now.t, .int .i64 s3.now.l, .int .i64 s3.now.b, .int .i64 s3.now.q, .int .i64 s3.now.code] 77)).alloc (.cells #[.bool false] 4)) := ((Below.refl _ _).alloc (Nat.le_refl _) _).alloc (by simp) _
            have hn2 : nown ((w4.alloc (.cells #[.int .i64 s3.now.kind, .int .i64 s3.now.place, .int .i64 s3.now.num, .string s3.now.str, .int .i64 s3.now.r, .int .i64 s3.now.c, .int .i64 s3.now.t, .int .i64 s3.now.l, .int .i64 s3.now.b, .int .i64 s3.now.q, .int .i64 s3.now.code] 77)).alloc (.cells #[.bool false] 4)) R = nown w4 R := nown_eq (hW2.cell (p := ⟨R, 14, none⟩) hRq)
            have hvg := heap_alloc_new (w4.alloc (.cells #[.int .i64 s3.now.kind, .int .i64 s3.now.place, .int .i64 s3.now.num, .string s3.now.str, .int .i64 s3.now.r, .int .i64 s3.now.c, .int .i64 s3.now.t, .int .i64 s3.now.l, .int .i64 s3.now.b, .int .i64 s3.now.q, .int .i64 s3.now.code] 77)) (.cells #[.bool false] 4)
            rw [World.size_alloc] at hvg
            have hbx : ((w4.alloc (.cells #[.int .i64 s3.now.kind, .int .i64 s3.now.place, .int .i64 s3.now.num, .string s3.now.str, .int .i64 s3.now.r, .int .i64 s3.now.c, .int .i64 s3.now.t, .int .i64 s3.now.l, .int .i64 s3.now.b, .int .i64 s3.now.q, .int .i64 s3.now.code] 77)).alloc (.cells #[.bool false] 4)).heap[w4.heap.size]? = some (.cells #[.int .i64 s3.now.kind, .int .i64 s3.now.place, .int .i64 s3.now.num, .string s3.now.str, .int .i64 s3.now.r, .int .i64 s3.now.c, .int .i64 s3.now.t, .int .i64 s3.now.l, .int .i64 s3.now.b, .int .i64 s3.now.q, .int .i64 s3.now.code] 77 (0, 0)) := (Lib.alloc_old _ _ _ (by simp)).trans (heap_alloc_new w4 (.cells #[.int .i64 s3.now.kind, .int .i64 s3.now.place, .int .i64 s3.now.num, .string s3.now.str, .int .i64 s3.now.r, .int .i64 s3.now.c, .int .i64 s3.now.t, .int .i64 s3.now.l, .int .i64 s3.now.b, .int .i64 s3.now.q, .int .i64 s3.now.code] 77))
            go_wp2_with (at_builtin; refine wpList_append_own_at _ rfl _ _ 198 rfl (w.heap.size + 1) 4 i0 (.bool false) 1 1 Tryz.underlying198 hi hz0 hz1 hz2x rfl (by decide) _ _ _ rfl ((hown4.alloc _).alloc _) ⟨w4.heap.size + 1, 0, none⟩ 1 1 [.bool false] rfl rfl (World.news_of_block (cs := #[.bool false]) (t := 4) (fr := (0, 0)) hvg) (by simp [Value.oneCell']) (by unfold maxLen; omega) (by omega) (by simp; omega) ?_; intro v' w5 hown5 hgrow5 _ hat5; have hbx5 : w5.heap[w4.heap.size]? = some (.cells #[.int .i64 s3.now.kind, .int .i64 s3.now.place, .int .i64 s3.now.num, .string s3.now.str, .int .i64 s3.now.r, .int .i64 s3.now.c, .int .i64 s3.now.t, .int .i64 s3.now.l, .int .i64 s3.now.b, .int .i64 s3.now.q, .int .i64 s3.now.code] 77 (0, 0)) := (hgrow5.block w4.heap.size (by simp; omega) (fun e => by have := (hown4.lt w4.heap.size e.symm).2; omega)).trans hbx; have x0 : w5.cell? ⟨w4.heap.size, 0, none⟩ = some (.int .i64 s3.now.kind) := (by rw [cell_of_row w5 (w4.heap.size) 0 _ _ _ hbx5]; rfl))
            have hk5 : KeepR R w w5 := (hk4.trans (KeepR.up hW2 hRq)).grow (by simp; omega) hgrow5 (fun q hq => by have := hown4.lt q hq; omega)
            have hR5 : RSt tv R w5 s3 := (hR3.up hW2).grow hgrow5 (fun q hq => ⟨by have := hown4.lt q hq; omega, by rw [hn2]; exact hna4 q hq⟩)
            have hn5 : nown w5 R = nown w4 R := (nown_eq (hgrow5.cell_far ⟨R, 14, none⟩ (by simp; omega) (fun e => by have := hown4.lt R e.symm; omega))).trans hn2
            have hna5 : ∀ q, v'.ownBlock = some q → nown w5 R ≠ some q := fun q hq => by
              rw [hn5]
              rcases hat5 with e | e
              · exact hna4 q (e.symm.trans hq)
              · rw [hq] at e
                injection e with e
                intro e2
                have := (hR3.fresh q e2).2
                simp at e
                omega
            have hA5 : Apart R w5 w.heap.size #[.int .i64 s.now.kind, .int .i64 s.now.place, .int .i64 s.now.num, .string s.now.str, .int .i64 s.now.r, .int .i64 s.now.c, .int .i64 s.now.t, .int .i64 s.now.l, .int .i64 s.now.b, .int .i64 s.now.q, .int .i64 s.now.code] 77 (0, 0) := (hA4.kept (KeepR.up hW2 hRq)).grow hgrow5 (by simp; omega) (fun e => by have := hown4.lt R e.symm; omega) (fun e => by have := (hown4.lt w.heap.size e.symm).1; omega)
            have hl5 : w5.ownsRow (w.heap.size + 1) 4 1 v' (rects ++ [false]).length (blRow (rects ++ [false])) := by
              have e : blRow (rects ++ [false]) = blRow rects ++ [.bool false] := by simp [blRow]
              rw [e, List.length_append]; exact hown5
            have hz5 : w.heap.size + 1 ≤ w5.heap.size := by have := hgrow5.size; simp at this; omega
            clear hown5 hgrow5 hat5 hn5 hbx hvg hW2 hn2 c1 c2 c3 c4 c5 c6 c7 c8 c9 c10 c11
            have hC := fun q hq => HE s3 w5 q hR5 (px_mono tb (show g' ≤ f by omega) hq)
            rcases hcase with ⟨e1, a1, h6, rfl⟩ | ⟨s4, h6, h7⟩
            · have CE := hC _ h6
              clear h6 hC
              go_wp2_with fail
              refine CE.mono ?_
              rintro e w6 ⟨k6, rfl⟩
              exact ⟨rfl, hk5.trans k6, rfl⟩
            · have CE := hC _ h6
              have haf := px_after tb hR5.wf (show Md.ok (.lev 0) from Nat.zero_le 4) h6
              have hal := haf.len
              have hao := haf.opn
              simp only [Md.strict, Md.opn] at hal hao
              clear h6 hC haf
              go_wp2_with fail
              refine CE.mono ?_
              rintro e w6 ⟨k6, rfl, hR6⟩
              obtain ⟨hl6, hna6⟩ := own_keep hl5 (by omega) hna5 k6
              have hA6 := hA5.kept k6
              have hlen6 := restLen_of hR6
              have hz6 : w.heap.size + 1 ≤ w6.heap.size := by have := heap_lt hA6.blk; omega
              clear CE CI x0 hl5 hA5
              go_wp2
              go_roundw
              case rel => exact ⟨g', rects ++ [false], s4, by omega, h7, hk5.trans k6, hR6, hA6, hl6, hna6, by simp; omega, by omega, hz6⟩
              case measure => omega
end Go.Proofs.YtfbkoieodflcpaaGreatDoor
