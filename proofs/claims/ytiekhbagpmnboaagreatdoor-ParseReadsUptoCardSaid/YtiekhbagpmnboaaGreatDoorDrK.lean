/-
  orielref06: the reader's call.
-/
import Derived.Test.YtiekhbagpmnboaaGreatDoorMg0
import Derived.Test.YtiekhbagpmnboaaGreatDoorRows
import Derived.Test.YtiekhbagpmnboaaGreatDoorProg
import Derived.Test.YtiekhbagpmnboaaGreatDoorAddrC
import Derived.Test.YtiekhbagpmnboaaGreatDoorMg2
import Derived.Test.YtiekhbagpmnboaaGreatDoorMg26
import Derived.Test.YtiekhbagpmnboaaGreatDoorValA
import Derived.Test.YtiekhbagpmnboaaGreatDoorValB
import Derived.Test.YtiekhbagpmnboaaGreatDoorMg5
import Derived.Test.YtiekhbagpmnboaaGreatDoorMg6
import Derived.Test.YtiekhbagpmnboaaGreatDoorMg7
import Derived.Test.YtiekhbagpmnboaaGreatDoorPaW
import Derived.Test.YtiekhbagpmnboaaGreatDoorMg9
import Derived.Test.YtiekhbagpmnboaaGreatDoorDrC
import Derived.Test.YtiekhbagpmnboaaGreatDoorMg11
import Derived.Test.YtiekhbagpmnboaaGreatDoorDrF
import Derived.Test.YtiekhbagpmnboaaGreatDoorDrH
import Derived.Test.YtiekhbagpmnboaaGreatDoorDrI
import Derived.Test.YtiekhbagpmnboaaGreatDoorMg15
import Derived.Test.YtiekhbagpmnboaaGreatDoorMg16
import Derived.Test.YtiekhbagpmnboaaGreatDoorPaC
import Derived.Test.YtiekhbagpmnboaaGreatDoorPaK
import Derived.BigRegion
import Derived.Deep.CutRange
import Derived.Maps.AppendAt
import Derived.WalkSpells
import Derived.WalkLawsBesides
import Derived.StillTactics
import Derived.Laws.Pointers
import Derived.Deep.RegionHeld3
import Derived.Deep.QuietTactic
import Derived.BigQuiet
import Derived.RowKit3
import Derived.Lib.Hide
import Derived.Lib.OthersKept
import Derived.OwnWalk
import Derived.Lib.IndexLaws
import Derived.Lib.ItoaMem
import Derived.Lib.TrimByte
import Derived.Lib.SlTrimSet
import Derived.Lib.ParseIntB
import Derived.WalkKit
import Derived.ProofKit
import Derived.OpenShut
import Derived.Carry
import Derived.ChangeSame
import Derived.Deep.Draws
import Derived.Shelf.Strings.Builder1
import Derived.Shelf.Strings.Trim
import Derived.Shelf.Small.Utf8
import Derived.Shelf.Small.Strs
import Derived.Shelf.Small.Wraps
import Derived.Shelf.Strings.BuilderF
import Derived.Shelf.Strings.BuilderK
import Derived.Shelf.Strconv.Itoa0
import Derived.Shelf.Strconv.Itoa1
import Derived.Shelf.LaysM
import Derived.Shelf.Strconv.Itoa2
import Derived.Shelf.Strconv.Itoa3
import Derived.Ground.MpProg
import Derived.Shelf.Pu.ParseUintPublic10
import Derived.Shelf.Strings.Search1
import Derived.Shelf.Strings.Search2
import Derived.Shelf.Strings.Cut
import Derived.Shelf.Strings.Shaped
import Derived.Shelf.Strings.Prefix
import Derived.Shelf.Strings.Runes
import Derived.Shelf.Strings.AsciiSet
import Derived.Shelf.Unicode.DecodeSlow
import Derived.Lib.ItoaNum
import Derived.Maps.OwnSet
import Derived.Deep.RegionLaw
import Derived.Deep.AppendLies
import Derived.ScopeJumps
import Derived.WalkMore
namespace Go.Proofs.YtiekhbagpmnboaaGreatDoor
open Go.RowKit

set_option maxRecDepth 100000 in
set_option maxHeartbeats 8000000 in
theorem dcall (tb : Tb) (tv : TV) (htb : tb = tbOf tv.l) (R : Nat) (ts : List Tok) (f : Nat) (HE : ∀ s w q, DOk tv R w ts s → px tb f (.lev 0) s = some q → Calls Tryz.prog 28 #[.pointer (some ⟨R, 0, none⟩), .int .i64 0] w fun e w' => DRes tv R ts w q e w') (s : PS) (r : PR) (hok : ¬ 16 < s.now.str.size) (hkn : tb.known s.now.str = true) (h0 : bindR (some s.step.opens) (px tb f (.args s.now.str s.now.place [])) = some r) (w : World) (hR : DOk tv R w ts s) : Calls Tryz.prog 112 #[.pointer (some ⟨R, 0, none⟩)] w fun e w' => DRes tv R ts w r e w' := by
  obtain ⟨i0, hi, hz0, hz1, hz2x⟩ := info_parts bool_info
  have hlt := hR.ltR
  have CN := dnow_ok tv R ts s w hR
  have hsz : decide ((s.now.str.size : Int) > 16) = false := by simp; omega
  have hsz2 : ¬ (16 : Int) < (s.now.str.size : Int) := by omega
  go_enter Tryz.func112, Tryz.ntmps112
  go_wp2_with fail
  refine CN.mono ?_
  rintro e w1 ⟨rfl, hb1⟩
  have hR1 := hR.up hb1
  have hlt1 := hR1.ltR
  have hb2 : Below w1.heap.size w1 (w1.alloc (.cells #[.int .i64 s.now.kind, .int .i64 s.now.place, .int .i64 s.now.num, .string s.now.str, .int .i64 s.now.r, .int .i64 s.now.c, .int .i64 s.now.t, .int .i64 s.now.l, .int .i64 s.now.b, .int .i64 s.now.q, .int .i64 s.now.code] 33)) := (Below.refl _ _).alloc (Nat.le_refl _) _
  have hk1 := KeepD.up hb1 hlt
  have hsz1 := hb1.size
  have htab : FunsAt tv R w1 := by obtain ⟨⟨A, cap, N, i, h, _⟩, _⟩ := hR1; exact h.tab
  have c6 : w1.cell? ⟨R, 6, none⟩ = some tv.s := by obtain ⟨⟨A, cap, N, i, h, _⟩, _⟩ := hR1; rw [cell_of_row w1 R 6 _ _ _ h.blk]; rfl
  have CS := fun n => dstep_ok tv R ts s ((w1.alloc (.cells #[.int .i64 s.now.kind, .int .i64 s.now.place, .int .i64 s.now.num, .string s.now.str, .int .i64 s.now.r, .int .i64 s.now.c, .int .i64 s.now.t, .int .i64 s.now.l, .int .i64 s.now.b, .int .i64 s.now.q, .int .i64 s.now.code] 33)).drewN n) (hR1.up (below_drewN hb2 n))
  have hkk := fun n => KeepD.up (below_drewN hb2 n) hlt1
  have hAp := fun n => DSt.apart (x := .ok s) hR1 (below_drewN hb2 n) (Nat.le_refl _) (heap_alloc_new w1 (.cells #[.int .i64 s.now.kind, .int .i64 s.now.place, .int .i64 s.now.num, .string s.now.str, .int .i64 s.now.r, .int .i64 s.now.c, .int .i64 s.now.t, .int .i64 s.now.l, .int .i64 s.now.b, .int .i64 s.now.q, .int .i64 s.now.code] 33))
  have hT := fun n => fknown tv R s.now.str ((w1.alloc (.cells #[.int .i64 s.now.kind, .int .i64 s.now.place, .int .i64 s.now.num, .string s.now.str, .int .i64 s.now.r, .int .i64 s.now.c, .int .i64 s.now.t, .int .i64 s.now.l, .int .i64 s.now.b, .int .i64 s.now.q, .int .i64 s.now.code] 33)).drewN n) (htab.below (below_drewN (hb2.mono (by omega)) n))
  rw [← htb, hkn] at hT
  have hop0 : ∀ s', s.step.opens = .ok s' → 1 ≤ s'.opn := by
    intro s' h
    obtain ⟨e1, _, _⟩ := opens_some h
    have ho := hR.2.1
    rw [e1, PS.step_opn]
    show 1 ≤ s.step.opn + 1
    rw [PS.step_opn]; omega
  clear htab CN hkn hR hok hb1 hlt
  go_wp2
  go_quiet ((go_at_call 141; exact Calls.quiet_of_same ((hT _).mono fun _ _ h => h)))
  have hA0 := hAp nq
  have hk0 := hkk nq
  have CS0 := CS nq
  clear CS hkk hAp hT c6 hb2 hR1
  go_wp2_with fail
  refine CS0.mono ?_
  intro e w2 h2
  obtain ⟨rfl, k2, h2⟩ := h2.st
  have hA2 := hA0.kept k2
  have CB := dopened tv R ts s.step w2 h2
  clear CS0 hA0
  go_wp2_with fail
  refine CB.mono ?_
  intro e w3 h3
  obtain ⟨rfl, k3, h3⟩ := h3.st
  have hA3 := hA2.kept k3
  have hk3 := hk1.trans (hk0.trans (k2.trans k3))
  have hz3 : w1.heap.size + 1 ≤ w3.heap.size := by have := heap_lt hA3.blk; omega
  clear CB hA2 hk1 hk0 k2 k3 h2
  generalize s.step.opens = x1 at *
  have hlt3 := h3.ltR
  have d4 := h3.err
  have hb0 := args_begin h0
  clear h0
  go_upto_region 7 with fail
  go_cut [5] from 33 to 42 (fun m wx => ∃ (b : Bool), m = .bool b ∧ KeepD R w wx ∧ DSt tv R wx ts x1 ∧ ApartD R wx w1.heap.size #[.int .i64 s.now.kind, .int .i64 s.now.place, .int .i64 s.now.num, .string s.now.str, .int .i64 s.now.r, .int .i64 s.now.c, .int .i64 s.now.t, .int .i64 s.now.l, .int .i64 s.now.b, .int .i64 s.now.q, .int .i64 s.now.code] 33 (0, 0) ∧ w1.heap.size + 1 ≤ wx.heap.size ∧ ((b = false ∧ r = finR tb s.now.str s.now.place ([] : List Bool) x1) ∨ (b = true ∧ ([] : List Bool).length < 16 ∧ ∃ s4 g', x1 = .ok s4 ∧ g' ≤ f ∧ argR tb g' s.now.str s.now.place ([] : List Bool) s4 = some r)))
  case first =>
    rcases hb0 with ⟨hno, hr⟩ | ⟨s4, g', rfl, h41, hg, harg⟩
    · cases x1 with
      | bad e0 a0 =>
        simp only [errR] at d4
        have he0 : (e0 == 0) = false := by simpa using h3.1
        go_wp2_with fail
        go_meet
        exact ⟨false, rfl, hk3, h3, hA3, hz3, .inl ⟨rfl, hr⟩⟩
      | ok s4 =>
        simp only [errR] at d4
        have h41 : s4.is [41] = true := by rcases hno with h | h; cases h; exact h
        have CS := dsign_ok tv R ts s4 [41] w3 h3
        rw [h41] at CS
        go_wp2_with fail
        refine CS.mono ?_
        rintro e w4 ⟨rfl, hb4⟩
        have k4 := KeepD.up hb4 hlt3
        have hA4 := hA3.kept k4
        have hz4 : w1.heap.size + 1 ≤ w4.heap.size := by have := heap_lt hA4.blk; omega
        go_wp2_with fail
        go_meet
        exact ⟨false, rfl, hk3.trans k4, h3.up hb4, hA4, hz4, .inl ⟨rfl, hr⟩⟩
    · simp only [errR] at d4
      have CS := dsign_ok tv R ts s4 [41] w3 h3
      rw [h41] at CS
      go_wp2_with fail
      refine CS.mono ?_
      rintro e w4 ⟨rfl, hb4⟩
      have k4 := KeepD.up hb4 hlt3
      have hA4 := hA3.kept k4
      have hz4 : w1.heap.size + 1 ≤ w4.heap.size := by have := heap_lt hA4.blk; omega
      go_wp2_with fail
      go_meet
      exact ⟨true, rfl, hk3.trans k4, h3.up hb4, hA4, hz4, .inr ⟨rfl, by decide, s4, g', rfl, by omega, harg⟩⟩
  case rest =>
    clear hk3 h3 hA3 hz3 d4 hlt3 hb0
    obtain ⟨b0, rfl, hk3, h3, hA3, hz3, hinv⟩ := hcut
    go_wp2
    go_loopw [4, 5] (fun v m wr => ∃ (b : Bool) (rects : List Bool) (x : PR), m = .bool b ∧ KeepD R w wr ∧ DSt tv R wr ts x ∧ ApartD R wr w1.heap.size #[.int .i64 s.now.kind, .int .i64 s.now.place, .int .i64 s.now.num, .string s.now.str, .int .i64 s.now.r, .int .i64 s.now.c, .int .i64 s.now.t, .int .i64 s.now.l, .int .i64 s.now.b, .int .i64 s.now.q, .int .i64 s.now.code] 33 (0, 0) ∧ wr.ownsRow (w1.heap.size + 1) 4 1 v rects.length (blRow rects) ∧ (∀ q, v.ownBlock = some q → nownD wr R ≠ some q) ∧ rects.length ≤ 16 ∧ (∀ s', x = .ok s' → 1 ≤ s'.opn) ∧ w1.heap.size + 1 ≤ wr.heap.size ∧ ((b = false ∧ r = finR tb s.now.str s.now.place rects x) ∨ (b = true ∧ rects.length < 16 ∧ ∃ s4 g', x = .ok s4 ∧ g' ≤ f ∧ argR tb g' s.now.str s.now.place rects s4 = some r))) (fun _ m wr => moreD ts.length R m wr)
    case atStart => exact ⟨b0, [], x1, rfl, hk3, h3, hA3, World.ownsRow_nil _ _ _ _, (fun q hq => by cases hq), by simp, hop0, hz3, hinv⟩
    case round =>
      clear hk3 h3 hA3 hz3 hinv hsz hsz2
      obtain ⟨b1, rects, x, rfl, hk, hx, hA, hown, hna, h16, hop, hz, hinv⟩ := hrel
      rcases hinv with ⟨rfl, hr⟩ | ⟨rfl, hl16, s3, g', rfl, hg, harg⟩
      · cases x with
        | bad e0 a0 =>
          have d4 := DEr.err hx
          have he0 : (e0 == 0) = false := by simpa using hx.1
          have hr' : r = .bad e0 a0 := hr
          have CC := dclosed_er tv R ts e0 a0 wr hx
          clear hown hna hA hr
          go_wp2_with fail
          refine CC.mono ?_
          intro e wz hz
          obtain ⟨rfl, kz, hz⟩ := hz.st
          go_wp2
          first | go_end0 | refine bodyPost_ret (results_none rfl _ _ _) rfl ?_
          rw [hr']
          exact DSt.res hz (hk.trans kz)
        | ok s3 =>
          have hop3 := hop s3 rfl
          have d4 := DOk.err hx
          have hRq := DOk.ltR hx
          have CS := dsign_ok tv R ts s3 [41] wr hx
          cases h41 : s3.is [41] with
          | false =>
            rw [h41] at CS
            have hr' : r = s3.closes := by rw [hr]; simp only [finR, PS.closes, h41]; rfl
            clear hown hna hA hr h41
            go_wp2_with fail
            refine CS.mono ?_
            rintro e w9 ⟨rfl, hb9⟩
            have k9 := KeepD.up hb9 hRq
            have CC := dclosed tv R ts s3 hop3 w9 (DOk.up hx hb9)
            clear CS hx
            go_wp2_with fail
            refine CC.mono ?_
            intro e wz hz
            obtain ⟨rfl, kz, hz⟩ := hz.st
            go_wp2
            first | go_end0 | refine bodyPost_ret (results_none rfl _ _ _) rfl ?_
            rw [hr']
            exact DSt.res hz (hk.trans (k9.trans kz))
          | true =>
            rw [h41] at CS
            simp only [finR, h41, if_true] at hr
            clear h41
            go_wp2_with fail
            refine CS.mono ?_
            rintro e w9 ⟨rfl, hb9⟩
            have k9 := KeepD.up hb9 hRq
            obtain ⟨hl9, hna9⟩ := own_keepD hown (by omega) hna k9
            have hA9 := hA.kept k9
            have h9 := DOk.up hx hb9
            have hk9 := hk.trans k9
            have hR9 := h9.ltR
            have hz9 : w1.heap.size + 1 ≤ w9.heap.size := by have := heap_lt hA9.blk; omega
            clear CS hx hown hna hA hk k9 d4
            obtain ⟨A3, cap3, rfl⟩ := ownsRow_form' hl9
            have hrd : RdBl w9 w9.heap.size A3 rects := by
              obtain ⟨A9, cap9, e9, h9⟩ := ownsRow_rdk (l := rects.map fun b => [.bool b]) (by omega) (fun c hc => by obtain ⟨y, _, rfl⟩ := List.mem_map.1 hc; rfl) (by simp) (show w9.ownsRow (w1.heap.size + 1) 4 1 (.slice A3 rects.length cap3) rects.length (rects.map fun b => [Value.bool b]).flatten by
                rw [blRow_flat]; exact hl9)
              injection e9 with e1 e2 e3
              subst e1
              exact h9
            have htab : FunsAt tv R w9 := by obtain ⟨⟨A, cap, N, i, h, _⟩, _⟩ := h9; exact h.tab
            have c6 : w9.cell? ⟨R, 6, none⟩ = some tv.s := by obtain ⟨⟨A, cap, N, i, h, _⟩, _⟩ := h9; rw [cell_of_row w9 R 6 _ _ _ h.blk]; rfl
            have m3 : w9.cell? ⟨w1.heap.size, 3, none⟩ = some (.string s.now.str) := by rw [cell_of_row w9 (w1.heap.size) 3 _ _ _ hA9.blk]; rfl
            have m1 : w9.cell? ⟨w1.heap.size, 1, none⟩ = some (.int .i64 s.now.place) := by rw [cell_of_row w9 (w1.heap.size) 1 _ _ _ hA9.blk]; rfl
            have hl1 : w1.heap.size < w9.heap.size := by omega
            have CT := fun W (hW : Below w9.heap.size w9 W) => ftakes tv R s.now.str rects A3 cap3 h16 W (htab.below (hW.mono (by omega))) (by have := hW.size; omega) ((hrd.below hW).mono hW.size)
            rw [← htb] at CT
            clear htab hrd hl9 hna9
            cases ht : tb.takes s.now.str rects with
            | false =>
              rw [ht] at CT hr
              clear ht
              have hr' : r = .bad 8 s.now.place := hr
              clear hr
              go_wp2
              refine wp_region_noPanic ?_
              refine wp_region_held_drew (S := fun w' => w'.cell? ⟨R, 6, none⟩ = some tv.s ∧ w'.cell? ⟨w1.heap.size, 3, none⟩ = some (.string s.now.str) ∧ Below w9.heap.size w9 w') (by kernel_rfl) ⟨c6, m3, (Below.refl _ _).drew⟩ (fun hHeld => ?_)
              refine wpAnyH_take (i := 0) (oi := ⟨_, _, _, _, _, _⟩) (v := ?v1) rfl (by kernel_rfl) (by kernel_rfl) (by kernel_rfl) (fun _ _ _ h => h) (Or.inl ⟨by rfl, ?hy1⟩) hHeld ?rest1
              case hy1 => (intro w2 hSw; (try dsimp only at hSw); go_split_ands; go_simp; first | done | with_reducible rfl)
              try simp only [Act.put, List.setIfInBounds_toArray, List.set_cons_zero, List.set_cons_succ]
              refine wpAnyH_take (i := 1) (oi := ⟨_, _, _, _, _, _⟩) (v := ?v2) rfl (by kernel_rfl) (by kernel_rfl) (by kernel_rfl) (fun _ _ _ h => h) (Or.inl ⟨by rfl, ?hy2⟩) hHeld ?rest2
              case hy2 => (intro w2 hSw; (try dsimp only at hSw); go_split_ands; go_simp; first | done | with_reducible rfl)
              try simp only [Act.put, List.setIfInBounds_toArray, List.set_cons_zero, List.set_cons_succ]
              refine wpAnyH_take (i := 2) (oi := ⟨_, _, _, _, _, _⟩) (v := ?v3) rfl (by kernel_rfl) (by kernel_rfl) (by kernel_rfl) (fun _ _ _ h => h) (Or.inl ⟨by rfl, ?hy3⟩) hHeld ?rest3
              case hy3 => (intro w2 hSw; (try dsimp only at hSw); go_split_ands; go_simp; first | done | with_reducible rfl)
              try simp only [Act.put, List.setIfInBounds_toArray, List.set_cons_zero, List.set_cons_succ]
              refine wpAnyH_take (i := 3) (oi := ⟨_, _, _, _, _, _⟩) (v := ?v4) rfl (by kernel_rfl) (by kernel_rfl) (by kernel_rfl) (fun _ _ _ h => h) (Or.inl ⟨by rfl, ?hy4⟩) hHeld ?rest4
              case hy4 => (intro w2 hSw; (try dsimp only at hSw); go_split_ands; go_simp; first | done | with_reducible rfl)
              try simp only [Act.put, List.setIfInBounds_toArray, List.set_cons_zero, List.set_cons_succ]
              refine wpAnyH_take (i := 4) (oi := ⟨_, _, _, _, _, _⟩) (v := ?v5) rfl (by kernel_rfl) (by kernel_rfl) (by kernel_rfl) (fun _ _ _ h => h) (Or.inl ⟨by rfl, ?hy5⟩) hHeld ?rest5
              case hy5 => (intro w2 hSw; (try dsimp only at hSw); go_split_ands; go_simp; first | done | with_reducible rfl)
              try simp only [Act.put, List.setIfInBounds_toArray, List.set_cons_zero, List.set_cons_succ]
              refine wpAnyH_take (i := 5) (oi := ⟨_, _, _, _, _, _⟩) (v := ?v6) rfl (by kernel_rfl) (by kernel_rfl) (by kernel_rfl) (fun _ _ _ h => h) (Or.inl ⟨by rfl, ?hy6⟩) hHeld ?rest6
              case hy6 => (intro w2 hSw; (try dsimp only at hSw); go_split_ands; go_simp; first | done | with_reducible rfl)
              try simp only [Act.put, List.setIfInBounds_toArray, List.set_cons_zero, List.set_cons_succ]
              refine wpAnyH_take (i := 6) (oi := ⟨_, _, _, _, _, _⟩) (v := ?v7) rfl (by kernel_rfl) (by kernel_rfl) (by kernel_rfl) (fun _ _ _ h => h) (Or.inl ⟨by rfl, ?hy7⟩) hHeld ?rest7
              case hy7 => (intro w2 hSw; (try dsimp only at hSw); go_split_ands; go_simp; first | done | with_reducible rfl)
              try simp only [Act.put, List.setIfInBounds_toArray, List.set_cons_zero, List.set_cons_succ]
              refine wpAnyH_ready (rs := [7]) (by kernel_rfl) (by simp) ?_
              refine AllReadyH.cons (o := ⟨_, _, _, _, _, _⟩) rfl (fun K hK => ?_) AllReadyH.nil
              go_split_ands
              go_simp
              refine (CT _ ((Below.refl _ _).drew)).mono ?_
              rintro e wt ⟨rfl, hb0⟩
              have hb : Below w9.heap.size w9 wt := ((Below.refl w9.heap.size w9).drew).trans hb0
              refine hK.out _ _ ?_ (fun hHeld => ?_)
              · exact ⟨(hb.cell (p := ⟨R, 6, none⟩) hR9).trans c6, (hb.cell (p := ⟨w1.heap.size, 3, none⟩) (by dsimp only; omega)).trans m3, hb⟩
              clear hK K
              try simp only [Act.put, List.setIfInBounds_toArray, List.set_cons_zero, List.set_cons_succ]
              refine wpAnyH_take (i := 8) (oi := ⟨_, _, _, _, _, _⟩) (v := ?v8) rfl (by kernel_rfl) (by kernel_rfl) (by kernel_rfl) (fun _ _ _ h => h) (Or.inl ⟨by rfl, ?hy8⟩) hHeld ?rest8
              case hy8 => (intro w2 hSw; (try dsimp only at hSw); go_split_ands; go_simp; first | done | with_reducible rfl)
              try simp only [Act.put, List.setIfInBounds_toArray, List.set_cons_zero, List.set_cons_succ]
              refine wpAnyH_done (by kernel_rfl) ?_ _
              refine NoPanic.normal ?_
              obtain ⟨_, n3, hbq⟩ := hHeld
              have CF1 := dfail_ok tv R ts s3 8 s.now.place (by decide) wt (h9.up hbq)
              have kq := KeepD.up hbq hR9
              have hAq := hA9.kept kq
              have q1 : wt.cell? ⟨w1.heap.size, 1, none⟩ = some (.int .i64 s.now.place) := by rw [cell_of_row wt (w1.heap.size) 1 _ _ _ hAq.blk]; rfl
              clear CT
              go_wp2_with fail
              refine CF1.mono ?_
              intro e wa ha
              obtain ⟨rfl, ka, ha⟩ := ha.st
              have hAa := hAq.kept ka
              have n4 : wa.cell? ⟨w1.heap.size, 3, none⟩ = some (.string s.now.str) := by rw [cell_of_row wa (w1.heap.size) 3 _ _ _ hAa.blk]; rfl
              have n1 : wa.cell? ⟨w1.heap.size, 1, none⟩ = some (.int .i64 s.now.place) := by rw [cell_of_row wa (w1.heap.size) 1 _ _ _ hAa.blk]; rfl
              have CO := dnode_er tv R ts 8 s.now.place (callN s.now.str rects.length) s.now.place wa ha
              simp only [callN, vl0] at CO
              clear CF1 m1 m3 c6 n3 q1
              go_wp2_with fail
              refine CO.mono ?_
              intro e wb hb
              obtain ⟨rfl, kb, hb⟩ := hb.st
              have CC := dclosed_er tv R ts 8 s.now.place wb hb
              clear CO
              go_wp2_with fail
              refine CC.mono ?_
              intro e wz hz
              obtain ⟨rfl, kz, hz⟩ := hz.st
              go_wp2
              first | go_end0 | refine bodyPost_ret (results_none rfl _ _ _) rfl ?_
              rw [hr']
              exact DSt.res hz (hk9.trans (kq.trans (ka.trans (kb.trans kz))))
            | true =>
              rw [ht] at CT
              rw [ht, if_pos rfl] at hr
              clear ht
              obtain ⟨y, hy⟩ : ∃ y, s3.add (callN s.now.str rects.length) s.now.place = y := ⟨_, rfl⟩
              have hopy : ∀ s', y = .ok s' → 1 ≤ s'.opn := by
                intro s' h
                rw [h] at hy
                obtain ⟨e, _⟩ := add_some hy
                rw [e]
                exact hop3
              have CO : ∀ W, DOk tv R W ts s3 → _ := fun W h => hy ▸ dnode_ok tv R ts s3 (callN s.now.str rects.length) s.now.place W h
              rw [hy] at hr
              simp only [callN, vl0] at CO
              clear hy
              go_wp2
              refine wp_region_noPanic ?_
              refine wp_region_held_drew (S := fun w' => w'.cell? ⟨R, 6, none⟩ = some tv.s ∧ w'.cell? ⟨w1.heap.size, 3, none⟩ = some (.string s.now.str) ∧ Below w9.heap.size w9 w') (by kernel_rfl) ⟨c6, m3, (Below.refl _ _).drew⟩ (fun hHeld => ?_)
              refine wpAnyH_take (i := 0) (oi := ⟨_, _, _, _, _, _⟩) (v := ?v9) rfl (by kernel_rfl) (by kernel_rfl) (by kernel_rfl) (fun _ _ _ h => h) (Or.inl ⟨by rfl, ?hy9⟩) hHeld ?rest9
              case hy9 => (intro w2 hSw; (try dsimp only at hSw); go_split_ands; go_simp; first | done | with_reducible rfl)
              try simp only [Act.put, List.setIfInBounds_toArray, List.set_cons_zero, List.set_cons_succ]
              refine wpAnyH_take (i := 1) (oi := ⟨_, _, _, _, _, _⟩) (v := ?v10) rfl (by kernel_rfl) (by kernel_rfl) (by kernel_rfl) (fun _ _ _ h => h) (Or.inl ⟨by rfl, ?hy10⟩) hHeld ?rest10
              case hy10 => (intro w2 hSw; (try dsimp only at hSw); go_split_ands; go_simp; first | done | with_reducible rfl)
              try simp only [Act.put, List.setIfInBounds_toArray, List.set_cons_zero, List.set_cons_succ]
              refine wpAnyH_take (i := 2) (oi := ⟨_, _, _, _, _, _⟩) (v := ?v11) rfl (by kernel_rfl) (by kernel_rfl) (by kernel_rfl) (fun _ _ _ h => h) (Or.inl ⟨by rfl, ?hy11⟩) hHeld ?rest11
              case hy11 => (intro w2 hSw; (try dsimp only at hSw); go_split_ands; go_simp; first | done | with_reducible rfl)
              try simp only [Act.put, List.setIfInBounds_toArray, List.set_cons_zero, List.set_cons_succ]
              refine wpAnyH_take (i := 3) (oi := ⟨_, _, _, _, _, _⟩) (v := ?v12) rfl (by kernel_rfl) (by kernel_rfl) (by kernel_rfl) (fun _ _ _ h => h) (Or.inl ⟨by rfl, ?hy12⟩) hHeld ?rest12
              case hy12 => (intro w2 hSw; (try dsimp only at hSw); go_split_ands; go_simp; first | done | with_reducible rfl)
              try simp only [Act.put, List.setIfInBounds_toArray, List.set_cons_zero, List.set_cons_succ]
              refine wpAnyH_take (i := 4) (oi := ⟨_, _, _, _, _, _⟩) (v := ?v13) rfl (by kernel_rfl) (by kernel_rfl) (by kernel_rfl) (fun _ _ _ h => h) (Or.inl ⟨by rfl, ?hy13⟩) hHeld ?rest13
              case hy13 => (intro w2 hSw; (try dsimp only at hSw); go_split_ands; go_simp; first | done | with_reducible rfl)
              try simp only [Act.put, List.setIfInBounds_toArray, List.set_cons_zero, List.set_cons_succ]
              refine wpAnyH_take (i := 5) (oi := ⟨_, _, _, _, _, _⟩) (v := ?v14) rfl (by kernel_rfl) (by kernel_rfl) (by kernel_rfl) (fun _ _ _ h => h) (Or.inl ⟨by rfl, ?hy14⟩) hHeld ?rest14
              case hy14 => (intro w2 hSw; (try dsimp only at hSw); go_split_ands; go_simp; first | done | with_reducible rfl)
              try simp only [Act.put, List.setIfInBounds_toArray, List.set_cons_zero, List.set_cons_succ]
              refine wpAnyH_take (i := 6) (oi := ⟨_, _, _, _, _, _⟩) (v := ?v15) rfl (by kernel_rfl) (by kernel_rfl) (by kernel_rfl) (fun _ _ _ h => h) (Or.inl ⟨by rfl, ?hy15⟩) hHeld ?rest15
              case hy15 => (intro w2 hSw; (try dsimp only at hSw); go_split_ands; go_simp; first | done | with_reducible rfl)
              try simp only [Act.put, List.setIfInBounds_toArray, List.set_cons_zero, List.set_cons_succ]
              refine wpAnyH_ready (rs := [7]) (by kernel_rfl) (by simp) ?_
              refine AllReadyH.cons (o := ⟨_, _, _, _, _, _⟩) rfl (fun K hK => ?_) AllReadyH.nil
              go_split_ands
              go_simp
              refine (CT _ ((Below.refl _ _).drew)).mono ?_
              rintro e wt ⟨rfl, hb0⟩
              have hb : Below w9.heap.size w9 wt := ((Below.refl w9.heap.size w9).drew).trans hb0
              refine hK.out _ _ ?_ (fun hHeld => ?_)
              · exact ⟨(hb.cell (p := ⟨R, 6, none⟩) hR9).trans c6, (hb.cell (p := ⟨w1.heap.size, 3, none⟩) (by dsimp only; omega)).trans m3, hb⟩
              clear hK K
              try simp only [Act.put, List.setIfInBounds_toArray, List.set_cons_zero, List.set_cons_succ]
              refine wpAnyH_take (i := 8) (oi := ⟨_, _, _, _, _, _⟩) (v := ?v16) rfl (by kernel_rfl) (by kernel_rfl) (by kernel_rfl) (fun _ _ _ h => h) (Or.inl ⟨by rfl, ?hy16⟩) hHeld ?rest16
              case hy16 => (intro w2 hSw; (try dsimp only at hSw); go_split_ands; go_simp; first | done | with_reducible rfl)
              try simp only [Act.put, List.setIfInBounds_toArray, List.set_cons_zero, List.set_cons_succ]
              refine wpAnyH_done (by kernel_rfl) ?_ _
              refine NoPanic.normal ?_
              obtain ⟨_, n3, hbq⟩ := hHeld
              have CO1 := CO wt (h9.up hbq)
              have kq := KeepD.up hbq hR9
              have hAq := hA9.kept kq
              have q1 : wt.cell? ⟨w1.heap.size, 1, none⟩ = some (.int .i64 s.now.place) := by rw [cell_of_row wt (w1.heap.size) 1 _ _ _ hAq.blk]; rfl
              clear CT CO
              go_wp2_with fail
              refine CO1.mono ?_
              intro e wb hb
              obtain ⟨rfl, kb, hb⟩ := hb.st
              have CC := dclosed_on tv R ts y hopy wb hb
              clear CO1 m1 m3 c6 n3 q1
              go_wp2_with fail
              refine CC.mono ?_
              intro e wz hz
              obtain ⟨rfl, kz, hz⟩ := hz.st
              go_wp2
              first | go_end0 | refine bodyPost_ret (results_none rfl _ _ _) rfl ?_
              rw [hr]
              exact DSt.res hz (hk9.trans (kq.trans (kb.trans kz)))
      · have hR3 : DOk tv R wr ts s3 := hx
        have hop3 := hop s3 rfl
        have hwf3 : s3.wf := hR3.2.2.2
        have CN := dnow_ok tv R ts s3 wr hR3
        have hgr := hR3.goes
        clear hx hop
        go_wp2_with fail
        refine CN.mono ?_
        rintro e w6 ⟨rfl, hb6⟩
        have hRl := hR3.ltR
        have k6 := KeepD.up hb6 hRl
        obtain ⟨hown6, hna6⟩ := own_keepD hown (by omega) hna k6
        have hA6 := hA.kept k6
        have hR6 := hR3.up hb6
        have hk6 := hk.trans k6
        have hRq := hR6.ltR
        have hz6 : w1.heap.size + 1 ≤ w6.heap.size := by have := heap_lt hA6.blk; omega
        obtain ⟨A3, cap3, rfl⟩ := ownsRow_form' hown6
        clear CN hown hna hA hR3 hk k6 hb6 hz
        by_cases h5 : s3.now.kind = 5
        · have e5 : (s3.now.kind == 5) = true := by simp [h5]
          have hW2 : Below w6.heap.size w6 ((w6.alloc (.cells #[.int .i64 s3.now.kind, .int .i64 s3.now.place, .int .i64 s3.now.num, .string s3.now.str, .int .i64 s3.now.r, .int .i64 s3.now.c, .int .i64 s3.now.t, .int .i64 s3.now.l, .int .i64 s3.now.b, .int .i64 s3.now.q, .int .i64 s3.now.code] 33)).alloc (.cells #[.bool true] 4)) := ((Below.refl _ _).alloc (Nat.le_refl _) _).alloc (by simp) _
          have hn2 : nownD ((w6.alloc (.cells #[.int .i64 s3.now.kind, .int .i64 s3.now.place, .int .i64 s3.now.num, .string s3.now.str, .int .i64 s3.now.r, .int .i64 s3.now.c, .int .i64 s3.now.t, .int .i64 s3.now.l, .int .i64 s3.now.b, .int .i64 s3.now.q, .int .i64 s3.now.code] 33)).alloc (.cells #[.bool true] 4)) R = nownD w6 R := nownD_eq (hW2.cell (p := ⟨R, 2, none⟩) hRq)
          have hvg := heap_alloc_new (w6.alloc (.cells #[.int .i64 s3.now.kind, .int .i64 s3.now.place, .int .i64 s3.now.num, .string s3.now.str, .int .i64 s3.now.r, .int .i64 s3.now.c, .int .i64 s3.now.t, .int .i64 s3.now.l, .int .i64 s3.now.b, .int .i64 s3.now.q, .int .i64 s3.now.code] 33)) (.cells #[.bool true] 4)
          rw [World.size_alloc] at hvg
          have hbx : ((w6.alloc (.cells #[.int .i64 s3.now.kind, .int .i64 s3.now.place, .int .i64 s3.now.num, .string s3.now.str, .int .i64 s3.now.r, .int .i64 s3.now.c, .int .i64 s3.now.t, .int .i64 s3.now.l, .int .i64 s3.now.b, .int .i64 s3.now.q, .int .i64 s3.now.code] 33)).alloc (.cells #[.bool true] 4)).heap[w6.heap.size]? = some (.cells #[.int .i64 s3.now.kind, .int .i64 s3.now.place, .int .i64 s3.now.num, .string s3.now.str, .int .i64 s3.now.r, .int .i64 s3.now.c, .int .i64 s3.now.t, .int .i64 s3.now.l, .int .i64 s3.now.b, .int .i64 s3.now.q, .int .i64 s3.now.code] 33 (0, 0)) := (Lib.alloc_old _ _ _ (by simp)).trans (heap_alloc_new w6 (.cells #[.int .i64 s3.now.kind, .int .i64 s3.now.place, .int .i64 s3.now.num, .string s3.now.str, .int .i64 s3.now.r, .int .i64 s3.now.c, .int .i64 s3.now.t, .int .i64 s3.now.l, .int .i64 s3.now.b, .int .i64 s3.now.q, .int .i64 s3.now.code] 33))
          have hcont := arg_rect harg h5
          have h5h := Lib.hid h5
          clear h5 harg
          go_wp2_with (at_builtin; refine wpList_append_own_at _ rfl _ _ 164 rfl (w1.heap.size + 1) 4 i0 (.bool false) 1 1 Tryz.underlying164 hi hz0 hz1 hz2x rfl (by decide) _ _ _ rfl ((hown6.alloc _).alloc _) ⟨w6.heap.size + 1, 0, none⟩ 1 1 [.bool true] rfl rfl (World.news_of_block (cs := #[.bool true]) (t := 4) (fr := (0, 0)) hvg) (by simp [Value.oneCell']) (by unfold maxLen; omega) (by omega) (by simp; omega) ?_; intro v' w5 hown5 hgrow5 _ hat5; have hbx5 : w5.heap[w6.heap.size]? = some (.cells #[.int .i64 s3.now.kind, .int .i64 s3.now.place, .int .i64 s3.now.num, .string s3.now.str, .int .i64 s3.now.r, .int .i64 s3.now.c, .int .i64 s3.now.t, .int .i64 s3.now.l, .int .i64 s3.now.b, .int .i64 s3.now.q, .int .i64 s3.now.code] 33 (0, 0)) := (hgrow5.block w6.heap.size (by simp; omega) (fun e => by have := (hown6.lt w6.heap.size e.symm).2; omega)).trans hbx; have x0 : w5.cell? ⟨w6.heap.size, 0, none⟩ = some (.int .i64 s3.now.kind) := (by rw [cell_of_row w5 (w6.heap.size) 0 _ _ _ hbx5]; rfl); have x1 : w5.cell? ⟨w6.heap.size, 1, none⟩ = some (.int .i64 s3.now.place) := (by rw [cell_of_row w5 (w6.heap.size) 1 _ _ _ hbx5]; rfl); have x6 : w5.cell? ⟨w6.heap.size, 6, none⟩ = some (.int .i64 s3.now.t) := (by rw [cell_of_row w5 (w6.heap.size) 6 _ _ _ hbx5]; rfl); have x7 : w5.cell? ⟨w6.heap.size, 7, none⟩ = some (.int .i64 s3.now.l) := (by rw [cell_of_row w5 (w6.heap.size) 7 _ _ _ hbx5]; rfl); have x8 : w5.cell? ⟨w6.heap.size, 8, none⟩ = some (.int .i64 s3.now.b) := (by rw [cell_of_row w5 (w6.heap.size) 8 _ _ _ hbx5]; rfl); have x9 : w5.cell? ⟨w6.heap.size, 9, none⟩ = some (.int .i64 s3.now.q) := (by rw [cell_of_row w5 (w6.heap.size) 9 _ _ _ hbx5]; rfl))
          have hk5 : KeepD R w w5 := (hk6.trans (KeepD.up hW2 hRq)).grow (by simp; omega) hgrow5 (fun q hq => by have := hown6.lt q hq; omega)
          have hR5 : DOk tv R w5 ts s3 := DSt.grow (x := .ok s3) (hR6.up hW2) hgrow5 (fun q hq => ⟨by have := hown6.lt q hq; omega, by rw [hn2]; exact hna6 q hq⟩)
          have hn5 : nownD w5 R = nownD w6 R := (nownD_eq (hgrow5.cell_far ⟨R, 2, none⟩ (by simp; omega) (fun e => by have := hown6.lt R e.symm; omega))).trans hn2
          have hna5 : ∀ q, v'.ownBlock = some q → nownD w5 R ≠ some q := fun q hq => by
            rw [hn5]
            rcases hat5 with e | e
            · exact hna6 q (e.symm.trans hq)
            · rw [hq] at e
              injection e with e
              intro e2
              have := (DSt.fresh (x := .ok s3) hR6 q e2).2
              simp at e
              omega
          have hA5 : ApartD R w5 w1.heap.size #[.int .i64 s.now.kind, .int .i64 s.now.place, .int .i64 s.now.num, .string s.now.str, .int .i64 s.now.r, .int .i64 s.now.c, .int .i64 s.now.t, .int .i64 s.now.l, .int .i64 s.now.b, .int .i64 s.now.q, .int .i64 s.now.code] 33 (0, 0) := (hA6.kept (KeepD.up hW2 hRq)).grow hgrow5 (by simp; omega) (fun e => by have := hown6.lt R e.symm; omega) (fun e => by have := (hown6.lt w1.heap.size e.symm).1; omega)
          have hl5 : w5.ownsRow (w1.heap.size + 1) 4 1 v' (rects ++ [true]).length (blRow (rects ++ [true])) := by
            have e : blRow (rects ++ [true]) = blRow rects ++ [.bool true] := by simp [blRow]
            rw [e, List.length_append]; exact hown5
          have hz5 : w1.heap.size + 1 ≤ w5.heap.size := by have := hgrow5.size; simp at this; omega
          clear hown5 hgrow5 hat5 hn5 hbx hvg hW2 hn2 hown6 hna6 hA6 hR6 hk6
          have CO := dnode_ok tv R ts s3 (rectN' s3.now.t s3.now.l s3.now.b s3.now.q) s3.now.place w5 hR5
          have hx2 : ∀ s', stepR (s3.add (rectN' s3.now.t s3.now.l s3.now.b s3.now.q) s3.now.place) = .ok s' → 1 ≤ s'.opn ∧ s'.rest.length + 1 ≤ s3.rest.length := by
            intro s' h
            cases hq : s3.add (rectN' s3.now.t s3.now.l s3.now.b s3.now.q) s3.now.place with
            | bad e a => rw [hq] at h; cases h
            | ok s4 =>
              rw [hq] at h
              simp only [stepR] at h
              injection h with h
              subst h
              obtain ⟨es4, _⟩ := add_some hq
              have hl3 := kind_last (x := s3.now) (by rw [h5h.out]; omega) (by rw [h5h.out]; omega)
              have hw4 : s4.wf := PS.wf_of hwf3 (by rw [es4]) (by rw [es4])
              have := PS.step_len hw4 (by rw [es4]; exact hl3)
              rw [PS.step_opn, this, es4]
              exact ⟨hop3, Nat.le_refl _⟩
          generalize s3.add (rectN' s3.now.t s3.now.l s3.now.b s3.now.q) s3.now.place = y2 at *
          simp only [rectN', vl0] at CO
          go_wp2_with fail
          refine CO.mono ?_
          intro e w7 h7
          obtain ⟨rfl, k7, h7⟩ := h7.st
          obtain ⟨hl7, hna7⟩ := own_keepD hl5 (by omega) hna5 k7
          have hA7 := hA5.kept k7
          have CS := dstep_on tv R ts y2 w7 h7
          clear CO h7 hl5 hna5 hA5
          go_wp2_with fail
          refine CS.mono ?_
          intro e w8 h8
          obtain ⟨rfl, k8, h8⟩ := h8.st
          obtain ⟨hl8, hna8⟩ := own_keepD hl7 (by omega) hna7 k8
          have hA8 := hA7.kept k8
          have hk8 := hk5.trans (k7.trans k8)
          clear CS hl7 hna7 hA7 k7 k8 hk5 x0 x1 x6 x7 x8 x9
          generalize stepR y2 = x2 at *
          have hsz8 : w1.heap.size + 1 ≤ w8.heap.size := by have := heap_lt hA8.blk; omega
          have CC := dsign_on tv R ts x2 [44] w8 h8
          have hR8 := h8.ltR
          have hlr : (rects ++ [true]).length = rects.length + 1 := by simp
          rcases args_then hcont (by simp) with ⟨h44, hr⟩ | ⟨s4, rfl, h44, h41, hcase⟩
          · rw [h44] at CC
            clear h44 hcont
            go_wp2_with fail
            refine CC.mono ?_
            rintro e w9 ⟨rfl, hb9⟩
            have k9 := KeepD.up hb9 hR8
            obtain ⟨hl9, hna9⟩ := own_keepD hl8 (by omega) hna8 k9
            have hA9 := hA8.kept k9
            have h9 := h8.up hb9
            have hk9 := hk8.trans k9
            have hz9 : w1.heap.size + 1 ≤ w9.heap.size := by have := heap_lt hA9.blk; omega
            clear CC hl8 hna8 hA8 h8 hk8 k9
            go_wp2
            go_roundw
            case rel => exact ⟨false, rects ++ [true], x2, rfl, hk9, h9, hA9, hl9, hna9, by omega, (fun s' h => (hx2 s' h).1), hz9, .inl ⟨rfl, hr⟩⟩
            case measure => simp only [moreD]; omega
          · have CC1 : Calls Tryz.prog 59 #[.pointer (some ⟨R, 0, none⟩), .string ⟨#[44]⟩] w8 fun e w' => e = .returned (.bool true) ∧ Below w8.heap.size w8 w' := h44 ▸ CC
            clear h44 hcont CC
            obtain ⟨ho4, hr4⟩ := hx2 s4 rfl
            go_wp2_with fail
            refine CC1.mono ?_
            rintro e w9 ⟨rfl, hb9⟩
            have k9 := KeepD.up hb9 hR8
            obtain ⟨hl9, hna9⟩ := own_keepD hl8 (by omega) hna8 k9
            have hA9 := hA8.kept k9
            have h9 := h8.up hb9
            have hk9 := hk8.trans k9
            have hR9 := h9.ltR
            rw [hlr] at hl9
            obtain ⟨A9, cap9, rfl⟩ := ownsRow_form' hl9
            clear CC1 hl8 hna8 hA8 h8 hk8 k9 hx2
            rcases hcase with ⟨h16, hr⟩ | ⟨h16, gg, rfl, harg⟩
            · have hni : (((rects ++ [true]).length : Int) == 16) = true := by simp; omega
              have CN := dnow_ok tv R ts s4 w9 h9
              have hfp := field_place
              clear h16
              go_wp2_with fail
              refine CN.mono ?_
              rintro e wa ⟨rfl, hba⟩
              have ka := KeepD.up hba hR9
              obtain ⟨hla, hnaa⟩ := own_keepD hl9 (by omega) hna9 ka
              have hAa := hA9.kept ka
              have CF := dfail_ok tv R ts s4 8 s4.now.place (by decide) wa (h9.up hba)
              clear CN hl9 hna9 hA9 h9 hni
              go_wp2_with fail
              refine CF.mono ?_
              intro e wb hb
              obtain ⟨rfl, kb, hb⟩ := hb.st
              obtain ⟨hlb, hnab⟩ := own_keepD hla (by omega) hnaa kb
              have hAb := hAa.kept kb
              have CS := dstep_er tv R ts 8 s4.now.place wb hb
              clear CF hla hnaa hAa hb hfp
              go_wp2_with fail
              refine CS.mono ?_
              intro e wc hc
              obtain ⟨rfl, kc, hc⟩ := hc.st
              obtain ⟨hlc, hnac⟩ := own_keepD hlb (by omega) hnab kc
              have hAc := hAb.kept kc
              have hkc := hk9.trans (ka.trans (kb.trans kc))
              have hzc : w1.heap.size + 1 ≤ wc.heap.size := by have := heap_lt hAc.blk; omega
              have d4 := hc.err
              have hRc := hc.ltR
              simp only [errR] at d4
              clear CS hlb hnab hAb ka kb kc hk9
              go_wp2
              go_roundw
              case rel => exact ⟨false, rects ++ [true], .bad 8 s4.now.place, rfl, hkc, hc, hAc, (by rw [hlr]; exact hlc), hnac, by omega, (fun s' h => by cases h), hzc, .inl ⟨rfl, hr⟩⟩
              case measure => simp only [moreD]; omega
            · have hni : (((rects ++ [true]).length : Int) == 16) = false := by simp; omega
              have CS := dstep_ok tv R ts s4 w9 h9
              have hls := PS.step_le s4
              have hos := PS.step_opn s4
              go_wp2_with fail
              refine CS.mono ?_
              intro e wc hc
              obtain ⟨rfl, kc, hc⟩ := hc.st
              obtain ⟨hlc, hnac⟩ := own_keepD hl9 (by omega) hna9 kc
              have hAc := hA9.kept kc
              have hkc := hk9.trans kc
              have hzc : w1.heap.size + 1 ≤ wc.heap.size := by have := heap_lt hAc.blk; omega
              have d4 := hc.err
              have hRc := hc.ltR
              have hgo := DOk.goes hc
              simp only [errR] at d4
              clear CS hl9 hna9 hA9 kc hk9 h9 hni
              go_wp2
              go_roundw
              case rel => exact ⟨true, rects ++ [true], .ok s4.step, rfl, hkc, hc, hAc, (by rw [hlr]; exact hlc), hnac, by omega, (fun s' h => by injection h with h; subst h; omega), hzc, .inr ⟨rfl, by omega, s4.step, gg, rfl, by omega, harg⟩⟩
              case measure => simp only [moreD]; omega
        · have e5 : (s3.now.kind == 5) = false := by simp [h5]
          have hW2 : Below w6.heap.size w6 ((w6.alloc (.cells #[.int .i64 s3.now.kind, .int .i64 s3.now.place, .int .i64 s3.now.num, .string s3.now.str, .int .i64 s3.now.r, .int .i64 s3.now.c, .int .i64 s3.now.t, .int .i64 s3.now.l, .int .i64 s3.now.b, .int .i64 s3.now.q, .int .i64 s3.now.code] 33)).alloc (.cells #[.bool false] 4)) := ((Below.refl _ _).alloc (Nat.le_refl _) _).alloc (by simp) _
          have hn2 : nownD ((w6.alloc (.cells #[.int .i64 s3.now.kind, .int .i64 s3.now.place, .int .i64 s3.now.num, .string s3.now.str, .int .i64 s3.now.r, .int .i64 s3.now.c, .int .i64 s3.now.t, .int .i64 s3.now.l, .int .i64 s3.now.b, .int .i64 s3.now.q, .int .i64 s3.now.code] 33)).alloc (.cells #[.bool false] 4)) R = nownD w6 R := nownD_eq (hW2.cell (p := ⟨R, 2, none⟩) hRq)
          have hvg := heap_alloc_new (w6.alloc (.cells #[.int .i64 s3.now.kind, .int .i64 s3.now.place, .int .i64 s3.now.num, .string s3.now.str, .int .i64 s3.now.r, .int .i64 s3.now.c, .int .i64 s3.now.t, .int .i64 s3.now.l, .int .i64 s3.now.b, .int .i64 s3.now.q, .int .i64 s3.now.code] 33)) (.cells #[.bool false] 4)
          rw [World.size_alloc] at hvg
          have hbx : ((w6.alloc (.cells #[.int .i64 s3.now.kind, .int .i64 s3.now.place, .int .i64 s3.now.num, .string s3.now.str, .int .i64 s3.now.r, .int .i64 s3.now.c, .int .i64 s3.now.t, .int .i64 s3.now.l, .int .i64 s3.now.b, .int .i64 s3.now.q, .int .i64 s3.now.code] 33)).alloc (.cells #[.bool false] 4)).heap[w6.heap.size]? = some (.cells #[.int .i64 s3.now.kind, .int .i64 s3.now.place, .int .i64 s3.now.num, .string s3.now.str, .int .i64 s3.now.r, .int .i64 s3.now.c, .int .i64 s3.now.t, .int .i64 s3.now.l, .int .i64 s3.now.b, .int .i64 s3.now.q, .int .i64 s3.now.code] 33 (0, 0)) := (Lib.alloc_old _ _ _ (by simp)).trans (heap_alloc_new w6 (.cells #[.int .i64 s3.now.kind, .int .i64 s3.now.place, .int .i64 s3.now.num, .string s3.now.str, .int .i64 s3.now.r, .int .i64 s3.now.c, .int .i64 s3.now.t, .int .i64 s3.now.l, .int .i64 s3.now.b, .int .i64 s3.now.q, .int .i64 s3.now.code] 33))
          obtain ⟨x2, hpx, hcont⟩ := arg_expr harg h5
          have h5h := Lib.hid h5
          clear h5 harg
          go_wp2_with (at_builtin; refine wpList_append_own_at _ rfl _ _ 164 rfl (w1.heap.size + 1) 4 i0 (.bool false) 1 1 Tryz.underlying164 hi hz0 hz1 hz2x rfl (by decide) _ _ _ rfl ((hown6.alloc _).alloc _) ⟨w6.heap.size + 1, 0, none⟩ 1 1 [.bool false] rfl rfl (World.news_of_block (cs := #[.bool false]) (t := 4) (fr := (0, 0)) hvg) (by simp [Value.oneCell']) (by unfold maxLen; omega) (by omega) (by simp; omega) ?_; intro v' w5 hown5 hgrow5 _ hat5; have hbx5 : w5.heap[w6.heap.size]? = some (.cells #[.int .i64 s3.now.kind, .int .i64 s3.now.place, .int .i64 s3.now.num, .string s3.now.str, .int .i64 s3.now.r, .int .i64 s3.now.c, .int .i64 s3.now.t, .int .i64 s3.now.l, .int .i64 s3.now.b, .int .i64 s3.now.q, .int .i64 s3.now.code] 33 (0, 0)) := (hgrow5.block w6.heap.size (by simp; omega) (fun e => by have := (hown6.lt w6.heap.size e.symm).2; omega)).trans hbx; have x0 : w5.cell? ⟨w6.heap.size, 0, none⟩ = some (.int .i64 s3.now.kind) := (by rw [cell_of_row w5 (w6.heap.size) 0 _ _ _ hbx5]; rfl))
          have hk5 : KeepD R w w5 := (hk6.trans (KeepD.up hW2 hRq)).grow (by simp; omega) hgrow5 (fun q hq => by have := hown6.lt q hq; omega)
          have hR5 : DOk tv R w5 ts s3 := DSt.grow (x := .ok s3) (hR6.up hW2) hgrow5 (fun q hq => ⟨by have := hown6.lt q hq; omega, by rw [hn2]; exact hna6 q hq⟩)
          have hn5 : nownD w5 R = nownD w6 R := (nownD_eq (hgrow5.cell_far ⟨R, 2, none⟩ (by simp; omega) (fun e => by have := hown6.lt R e.symm; omega))).trans hn2
          have hna5 : ∀ q, v'.ownBlock = some q → nownD w5 R ≠ some q := fun q hq => by
            rw [hn5]
            rcases hat5 with e | e
            · exact hna6 q (e.symm.trans hq)
            · rw [hq] at e
              injection e with e
              intro e2
              have := (DSt.fresh (x := .ok s3) hR6 q e2).2
              simp at e
              omega
          have hA5 : ApartD R w5 w1.heap.size #[.int .i64 s.now.kind, .int .i64 s.now.place, .int .i64 s.now.num, .string s.now.str, .int .i64 s.now.r, .int .i64 s.now.c, .int .i64 s.now.t, .int .i64 s.now.l, .int .i64 s.now.b, .int .i64 s.now.q, .int .i64 s.now.code] 33 (0, 0) := (hA6.kept (KeepD.up hW2 hRq)).grow hgrow5 (by simp; omega) (fun e => by have := hown6.lt R e.symm; omega) (fun e => by have := (hown6.lt w1.heap.size e.symm).1; omega)
          have hl5 : w5.ownsRow (w1.heap.size + 1) 4 1 v' (rects ++ [false]).length (blRow (rects ++ [false])) := by
            have e : blRow (rects ++ [false]) = blRow rects ++ [.bool false] := by simp [blRow]
            rw [e, List.length_append]; exact hown5
          have hz5 : w1.heap.size + 1 ≤ w5.heap.size := by have := hgrow5.size; simp at this; omega
          clear hown5 hgrow5 hat5 hn5 hbx hvg hW2 hn2 hown6 hna6 hA6 hR6 hk6
          have CE := HE s3 w5 x2 hR5 (px_mono tb (show g' ≤ f by omega) hpx)
          have hx2 : ∀ s', x2 = .ok s' → 1 ≤ s'.opn ∧ s'.rest.length + 1 ≤ s3.rest.length := by
            intro s' h
            subst h
            have haf := px_after tb hR5.2.2.2 (show Md.ok (.lev 0) from Nat.zero_le 4) hpx
            have hal := haf.len
            have hao := haf.opn
            simp only [Md.strict, Md.opn] at hal hao
            omega
          clear hpx
          go_wp2_with fail
          refine CE.mono ?_
          intro e w8 h8
          obtain ⟨rfl, k8, h8⟩ := h8.st
          obtain ⟨hl8, hna8⟩ := own_keepD hl5 (by omega) hna5 k8
          have hA8 := hA5.kept k8
          have hk8 := hk5.trans k8
          clear CE hl5 hna5 hA5 k8 hk5 x0
          have hsz8 : w1.heap.size + 1 ≤ w8.heap.size := by have := heap_lt hA8.blk; omega
          have CC := dsign_on tv R ts x2 [44] w8 h8
          have hR8 := h8.ltR
          have hlr : (rects ++ [false]).length = rects.length + 1 := by simp
          rcases args_then hcont (by simp) with ⟨h44, hr⟩ | ⟨s4, rfl, h44, h41, hcase⟩
          · rw [h44] at CC
            clear h44 hcont
            go_wp2_with fail
            refine CC.mono ?_
            rintro e w9 ⟨rfl, hb9⟩
            have k9 := KeepD.up hb9 hR8
            obtain ⟨hl9, hna9⟩ := own_keepD hl8 (by omega) hna8 k9
            have hA9 := hA8.kept k9
            have h9 := h8.up hb9
            have hk9 := hk8.trans k9
            have hz9 : w1.heap.size + 1 ≤ w9.heap.size := by have := heap_lt hA9.blk; omega
            clear CC hl8 hna8 hA8 h8 hk8 k9
            go_wp2
            go_roundw
            case rel => exact ⟨false, rects ++ [false], x2, rfl, hk9, h9, hA9, hl9, hna9, by omega, (fun s' h => (hx2 s' h).1), hz9, .inl ⟨rfl, hr⟩⟩
            case measure => simp only [moreD]; omega
          · have CC1 : Calls Tryz.prog 59 #[.pointer (some ⟨R, 0, none⟩), .string ⟨#[44]⟩] w8 fun e w' => e = .returned (.bool true) ∧ Below w8.heap.size w8 w' := h44 ▸ CC
            clear h44 hcont CC
            obtain ⟨ho4, hr4⟩ := hx2 s4 rfl
            go_wp2_with fail
            refine CC1.mono ?_
            rintro e w9 ⟨rfl, hb9⟩
            have k9 := KeepD.up hb9 hR8
            obtain ⟨hl9, hna9⟩ := own_keepD hl8 (by omega) hna8 k9
            have hA9 := hA8.kept k9
            have h9 := h8.up hb9
            have hk9 := hk8.trans k9
            have hR9 := h9.ltR
            rw [hlr] at hl9
            obtain ⟨A9, cap9, rfl⟩ := ownsRow_form' hl9
            clear CC1 hl8 hna8 hA8 h8 hk8 k9 hx2
            rcases hcase with ⟨h16, hr⟩ | ⟨h16, gg, rfl, harg⟩
            · have hni : (((rects ++ [false]).length : Int) == 16) = true := by simp; omega
              have CN := dnow_ok tv R ts s4 w9 h9
              have hfp := field_place
              clear h16
              go_wp2_with fail
              refine CN.mono ?_
              rintro e wa ⟨rfl, hba⟩
              have ka := KeepD.up hba hR9
              obtain ⟨hla, hnaa⟩ := own_keepD hl9 (by omega) hna9 ka
              have hAa := hA9.kept ka
              have CF := dfail_ok tv R ts s4 8 s4.now.place (by decide) wa (h9.up hba)
              clear CN hl9 hna9 hA9 h9 hni
              go_wp2_with fail
              refine CF.mono ?_
              intro e wb hb
              obtain ⟨rfl, kb, hb⟩ := hb.st
              obtain ⟨hlb, hnab⟩ := own_keepD hla (by omega) hnaa kb
              have hAb := hAa.kept kb
              have CS := dstep_er tv R ts 8 s4.now.place wb hb
              clear CF hla hnaa hAa hb hfp
              go_wp2_with fail
              refine CS.mono ?_
              intro e wc hc
              obtain ⟨rfl, kc, hc⟩ := hc.st
              obtain ⟨hlc, hnac⟩ := own_keepD hlb (by omega) hnab kc
              have hAc := hAb.kept kc
              have hkc := hk9.trans (ka.trans (kb.trans kc))
              have hzc : w1.heap.size + 1 ≤ wc.heap.size := by have := heap_lt hAc.blk; omega
              have d4 := hc.err
              have hRc := hc.ltR
              simp only [errR] at d4
              clear CS hlb hnab hAb ka kb kc hk9
              go_wp2
              go_roundw
              case rel => exact ⟨false, rects ++ [false], .bad 8 s4.now.place, rfl, hkc, hc, hAc, (by rw [hlr]; exact hlc), hnac, by omega, (fun s' h => by cases h), hzc, .inl ⟨rfl, hr⟩⟩
              case measure => simp only [moreD]; omega
            · have hni : (((rects ++ [false]).length : Int) == 16) = false := by simp; omega
              have CS := dstep_ok tv R ts s4 w9 h9
              have hls := PS.step_le s4
              have hos := PS.step_opn s4
              go_wp2_with fail
              refine CS.mono ?_
              intro e wc hc
              obtain ⟨rfl, kc, hc⟩ := hc.st
              obtain ⟨hlc, hnac⟩ := own_keepD hl9 (by omega) hna9 kc
              have hAc := hA9.kept kc
              have hkc := hk9.trans kc
              have hzc : w1.heap.size + 1 ≤ wc.heap.size := by have := heap_lt hAc.blk; omega
              have d4 := hc.err
              have hRc := hc.ltR
              have hgo := DOk.goes hc
              simp only [errR] at d4
              clear CS hl9 hna9 hA9 kc hk9 h9 hni
              go_wp2
              go_roundw
              case rel => exact ⟨true, rects ++ [false], .ok s4.step, rfl, hkc, hc, hAc, (by rw [hlr]; exact hlc), hnac, by omega, (fun s' h => by injection h with h; subst h; omega), hzc, .inr ⟨rfl, by omega, s4.step, gg, rfl, by omega, harg⟩⟩
              case measure => simp only [moreD]; omega
end Go.Proofs.YtiekhbagpmnboaaGreatDoor
