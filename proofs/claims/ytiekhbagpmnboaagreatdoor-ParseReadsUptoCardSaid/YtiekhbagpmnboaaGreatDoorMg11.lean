/-
  orielref06: the reader's opened, closed; orielref06.levels.
-/
import Derived.Test.YtiekhbagpmnboaaGreatDoorMg0
import Derived.Test.YtiekhbagpmnboaaGreatDoorRows
import Derived.Test.YtiekhbagpmnboaaGreatDoorProg
import Derived.Test.YtiekhbagpmnboaaGreatDoorAddrC
import Derived.Test.YtiekhbagpmnboaaGreatDoorMg2
import Derived.Test.YtiekhbagpmnboaaGreatDoorMg26
import Derived.Test.YtiekhbagpmnboaaGreatDoorValA
import Derived.Test.YtiekhbagpmnboaaGreatDoorValB
import Derived.Test.YtiekhbagpmnboaaGreatDoorMg5
import Derived.Test.YtiekhbagpmnboaaGreatDoorMg6
import Derived.Test.YtiekhbagpmnboaaGreatDoorMg7
import Derived.Test.YtiekhbagpmnboaaGreatDoorPaW
import Derived.Test.YtiekhbagpmnboaaGreatDoorMg9
import Derived.Test.YtiekhbagpmnboaaGreatDoorDrC
import Derived.WalkSpells
import Derived.WalkLawsBesides
import Derived.StillTactics
import Derived.Laws.Pointers
import Derived.Deep.RegionHeld3
import Derived.Deep.QuietTactic
import Derived.BigQuiet
import Derived.RowKit3
import Derived.Lib.Hide
import Derived.Lib.OthersKept
import Derived.OwnWalk
import Derived.Lib.IndexLaws
import Derived.Lib.ItoaMem
import Derived.Lib.TrimByte
import Derived.Lib.SlTrimSet
import Derived.Lib.ParseIntB
import Derived.WalkKit
import Derived.ProofKit
import Derived.OpenShut
import Derived.Carry
import Derived.ChangeSame
import Derived.Deep.Draws
import Derived.Shelf.Strings.Builder1
import Derived.Shelf.Strings.Trim
import Derived.Shelf.Small.Utf8
import Derived.Shelf.Small.Strs
import Derived.Shelf.Small.Wraps
import Derived.Shelf.Strings.BuilderF
import Derived.Shelf.Strings.BuilderK
import Derived.Shelf.Strconv.Itoa0
import Derived.Shelf.Strconv.Itoa1
import Derived.Shelf.LaysM
import Derived.Shelf.Strconv.Itoa2
import Derived.Shelf.Strconv.Itoa3
import Derived.Ground.MpProg
import Derived.Shelf.Pu.ParseUintPublic10
import Derived.Shelf.Strings.Search1
import Derived.Shelf.Strings.Search2
import Derived.Shelf.Strings.Cut
import Derived.Shelf.Strings.Shaped
import Derived.Shelf.Strings.Prefix
import Derived.Shelf.Strings.Runes
import Derived.Shelf.Strings.AsciiSet
import Derived.Shelf.Unicode.DecodeSlow
import Derived.Lib.ItoaNum
import Derived.Maps.OwnSet
import Derived.Maps.AppendAt
import Derived.BigRegion
import Derived.Deep.RegionLaw
import Derived.Deep.AppendLies
namespace Go.Proofs.YtiekhbagpmnboaaGreatDoor
open Go.RowKit

theorem field_place (x0 x1 x2 x3 x4 x5 x6 x7 x8 x9 x10 : Value) (w : World) : (Instr.field 33 (.agg #[x0, x1, x2, x3, x4, x5, x6, x7, x8, x9, x10]) 1).run Tryz.prog w = .ok x1 w := by kernel_rfl
theorem DOk.at {tv : TV} {R : Nat} {w : World} {ts : List Tok} {s : PS} (h : DOk tv R w ts s) : ∃ A cap N i, DS tv R w ts i s.nodes s.opn 0 0 A cap N ∧ ts[i]? = some s.now := by
  obtain ⟨⟨A, cap, N, i, h, hd⟩, hr⟩ := h
  refine ⟨A, cap, N, i, h, ?_⟩
  have := congrArg List.head? hd
  rwa [List.head?_drop] at this
theorem dnow_ok (tv : TV) (R : Nat) (ts : List Tok) (s : PS) (w : World) (hR : DOk tv R w ts s) : Calls Tryz.prog 29 #[.pointer (some ⟨R, 0, none⟩)] w fun e w' => e = .returned (.agg #[.int .i64 s.now.kind, .int .i64 s.now.place, .int .i64 s.now.num, .string s.now.str, .int .i64 s.now.r, .int .i64 s.now.c, .int .i64 s.now.t, .int .i64 s.now.l, .int .i64 s.now.b, .int .i64 s.now.q, .int .i64 s.now.code]) ∧ Below w.heap.size w w' := by
  obtain ⟨A, cap, N, i, h, hx⟩ := hR.at
  exact dnow_any tv R ts i _ _ _ _ A cap N s.now hx w h
theorem dnow_er (tv : TV) (R : Nat) (ts : List Tok) (e0 a0 : Int) (w : World) (hR : DEr tv R w ts e0 a0) : ∃ x : Tok, Calls Tryz.prog 29 #[.pointer (some ⟨R, 0, none⟩)] w fun e w' => e = .returned (.agg #[.int .i64 x.kind, .int .i64 x.place, .int .i64 x.num, .string x.str, .int .i64 x.r, .int .i64 x.c, .int .i64 x.t, .int .i64 x.l, .int .i64 x.b, .int .i64 x.q, .int .i64 x.code]) ∧ Below w.heap.size w w' := by
  obtain ⟨he, A, cap, N, i, ns, o, h⟩ := hR
  obtain ⟨x, hx⟩ : ∃ x, ts[i]? = some x := ⟨_, List.getElem?_eq_getElem h.lt⟩
  exact ⟨x, dnow_any tv R ts i _ _ _ _ A cap N x hx w h⟩
theorem DOk.opn {tv : TV} {R : Nat} {w : World} {ts : List Tok} {s : PS} (h : DOk tv R w ts s) : w.cell? ⟨R, 3, none⟩ = some (.int .i64 s.opn) := by
  obtain ⟨⟨A, cap, N, i, h, hd⟩, hr⟩ := h
  rw [cell_of_row w R 3 _ _ _ h.blk]; rfl
set_option maxRecDepth 100000 in
set_option maxHeartbeats 1000000 in
theorem dopened_no (tv : TV) (R : Nat) (ts : List Tok) (s : PS) (hi : s.is [40] = false) (w : World) (hR : DOk tv R w ts s) : Calls Tryz.prog 113 #[.pointer (some ⟨R, 0, none⟩)] w fun e w' => DRes tv R ts w s.fail e w' := by
  have CS := dsign_ok tv R ts s [40] w hR
  rw [hi] at CS
  have hlt := hR.ltR
  unfold PS.fail
  clear hi
  have hfp := field_place
  go_enter Tryz.func113, Tryz.ntmps113
  go_wp2_with fail
  refine CS.mono ?_
  rintro e w1 ⟨rfl, hb1⟩
  have hR1 := hR.up hb1
  have CN := dnow_ok tv R ts s w1 hR1
  clear CS
  go_wp2_with fail
  refine CN.mono ?_
  rintro e w2 ⟨rfl, hb2⟩
  have CF := dfail_ok tv R ts s 8 s.now.place (by decide) w2 (hR1.up hb2)
  have hk2 : KeepD R w w2 := KeepD.up (hb1.trans (hb2.mono hb1.size)) hlt
  clear CN hb1 hb2 hR hR1
  go_wp2_with fail
  refine CF.mono ?_
  rintro e w3 ⟨rfl, hk3, h3⟩
  have hk := hk2.trans hk3
  have h3e := h3
  obtain ⟨he, A, cap, N, i, ns, o, h⟩ := h3
  have c3 : w3.cell? ⟨R, 3, none⟩ = some (.int .i64 o) := by rw [cell_of_row w3 R 3 _ _ _ h.blk]; rfl
  clear CF hk2 hk3
  by_cases h32 : (32 : Int) ≤ o
  · obtain ⟨x, CN⟩ := dnow_er tv R ts _ _ w3 h3e
    clear h
    go_wp2_with fail
    refine CN.mono ?_
    rintro e w4 ⟨rfl, hb4⟩
    have CF := dfail_er tv R ts 8 s.now.place 7 x.place w4 (h3e.up hb4)
    have hk4 := KeepD.up hb4 h3e.ltR
    clear CN c3 h32
    go_wp2_with fail
    refine CF.mono ?_
    rintro e w5 ⟨rfl, hk5, h5⟩
    obtain ⟨_, A, cap, N, i, ns, o, h⟩ := h5
    have hkk := hk.trans (hk4.trans hk5)
    clear CF hk hk4 hk5
    have hp := h.put (w' := w5.setCell ⟨R, 3, none⟩ (.int .i64 (wrap64 (o + 1)))) ((Below.refl _ _).setCell (p := ⟨R, 3, none⟩) (Nat.le_refl _) _) (fun k hk => set_other hk) h.lt (set7_3 h.blk)
    have CST := dstep_er tv R ts (8) (s.now.place) _ ⟨he, _, _, _, _, _, _, hp.1⟩
    have p3 : w5.cell? ⟨R, 3, none⟩ = some (.int .i64 o) := by rw [cell_of_row w5 R 3 _ _ _ h.blk]; rfl
    have q3 : w5.frozen? ⟨R, 3, none⟩ = false := by simp [World.frozen?, h.blk]
    clear h
    go_wp2_with fail
    refine CST.mono ?_
    rintro e wz ⟨rfl, hkz, hz⟩
    go_wp2
    first | go_end0 | refine bodyPost_ret (results_none rfl _ _ _) rfl ?_
    exact ⟨rfl, hkk.trans (hp.2.trans hkz), hz⟩
  · have hno : ¬ (32 : Int) ≤ o := h32
    have hp := h.put (w' := w3.setCell ⟨R, 3, none⟩ (.int .i64 (wrap64 (o + 1)))) ((Below.refl _ _).setCell (p := ⟨R, 3, none⟩) (Nat.le_refl _) _) (fun k hk => set_other hk) h.lt (set7_3 h.blk)
    have CST := dstep_er tv R ts (8) (s.now.place) _ ⟨he, _, _, _, _, _, _, hp.1⟩
    have p3 : w3.cell? ⟨R, 3, none⟩ = some (.int .i64 o) := by rw [cell_of_row w3 R 3 _ _ _ h.blk]; rfl
    have q3 : w3.frozen? ⟨R, 3, none⟩ = false := by simp [World.frozen?, h.blk]
    clear h
    go_wp2_with fail
    refine CST.mono ?_
    rintro e wz ⟨rfl, hkz, hz⟩
    go_wp2
    first | go_end0 | refine bodyPost_ret (results_none rfl _ _ _) rfl ?_
    exact ⟨rfl, hk.trans (hp.2.trans hkz), hz⟩
set_option maxRecDepth 100000 in
set_option maxHeartbeats 1000000 in
theorem dopened_deep (tv : TV) (R : Nat) (ts : List Tok) (s : PS) (hi : s.is [40] = true) (h32 : s.opn = 32) (w : World) (hR : DOk tv R w ts s) : Calls Tryz.prog 113 #[.pointer (some ⟨R, 0, none⟩)] w fun e w' => DRes tv R ts w (.bad 7 s.now.place) e w' := by
  have CS := dsign_ok tv R ts s [40] w hR
  rw [hi] at CS
  have hlt := hR.ltR
  have hfp := field_place
  clear hi
  go_enter Tryz.func113, Tryz.ntmps113
  go_wp2_with fail
  refine CS.mono ?_
  rintro e w1 ⟨rfl, hb1⟩
  have hR1 := hR.up hb1
  have c3 := hR1.opn
  rw [h32] at c3
  have CN := dnow_ok tv R ts s w1 hR1
  clear CS h32
  go_wp2_with fail
  refine CN.mono ?_
  rintro e w2 ⟨rfl, hb2⟩
  have CF := dfail_ok tv R ts s 7 s.now.place (by decide) w2 (hR1.up hb2)
  have hk2 : KeepD R w w2 := KeepD.up (hb1.trans (hb2.mono hb1.size)) hlt
  clear CN hb1 hb2 hR hR1 c3
  go_wp2_with fail
  refine CF.mono ?_
  rintro e w3 ⟨rfl, hk3, h3⟩
  have hk := hk2.trans hk3
  obtain ⟨he, A, cap, N, i, ns, o, h⟩ := h3
  clear CF hk2 hk3
  have hp := h.put (w' := w3.setCell ⟨R, 3, none⟩ (.int .i64 (wrap64 (o + 1)))) ((Below.refl _ _).setCell (p := ⟨R, 3, none⟩) (Nat.le_refl _) _) (fun k hk => set_other hk) h.lt (set7_3 h.blk)
  have CST := dstep_er tv R ts (7) (s.now.place) _ ⟨he, _, _, _, _, _, _, hp.1⟩
  have p3 : w3.cell? ⟨R, 3, none⟩ = some (.int .i64 o) := by rw [cell_of_row w3 R 3 _ _ _ h.blk]; rfl
  have q3 : w3.frozen? ⟨R, 3, none⟩ = false := by simp [World.frozen?, h.blk]
  clear h
  go_wp2_with fail
  refine CST.mono ?_
  rintro e wz ⟨rfl, hkz, hz⟩
  go_wp2
  first | go_end0 | refine bodyPost_ret (results_none rfl _ _ _) rfl ?_
  exact ⟨rfl, hk.trans (hp.2.trans hkz), hz⟩
set_option maxRecDepth 100000 in
set_option maxHeartbeats 1000000 in
theorem dopened_yes (tv : TV) (R : Nat) (ts : List Tok) (s : PS) (hi : s.is [40] = true) (h32 : ¬ s.opn = 32) (w : World) (hR : DOk tv R w ts s) : Calls Tryz.prog 113 #[.pointer (some ⟨R, 0, none⟩)] w fun e w' => DRes tv R ts w (.ok ({ s with opn := s.opn + 1 } : PS).step) e w' := by
  have CS := dsign_ok tv R ts s [40] w hR
  rw [hi] at CS
  have hlt := hR.ltR
  clear hi
  go_enter Tryz.func113, Tryz.ntmps113
  go_wp2_with fail
  refine CS.mono ?_
  rintro e w1 ⟨rfl, hb1⟩
  have hR1 := hR.up hb1
  have c3 := hR1.opn
  have hk1 := KeepD.up hb1 hlt
  obtain ⟨⟨A, cap, N, i, h, hd⟩, ho1, ho2, hw⟩ := hR1
  have q3 : w1.frozen? ⟨R, 3, none⟩ = false := by simp [World.frozen?, h.blk]
  have hp := h.put (w' := w1.setCell ⟨R, 3, none⟩ (.int .i64 (s.opn + 1))) ((Below.refl _ _).setCell (p := ⟨R, 3, none⟩) (Nat.le_refl _) _) (fun k hk => set_other hk) h.lt (set7_3 h.blk)
  have hR2 : DOk tv R (w1.setCell ⟨R, 3, none⟩ (.int .i64 (s.opn + 1))) ts { s with opn := s.opn + 1 } := ⟨⟨A, cap, N, i, hp.1, hd⟩, by show 0 ≤ s.opn + 1; omega, by show s.opn + 1 ≤ 32; omega, hw⟩
  have CST := dstep_ok tv R ts _ _ hR2
  have hno : ¬ (32 : Int) ≤ s.opn := by omega
  have hkk := hk1.trans hp.2
  clear CS hb1 hR h hd hp hR2 hk1 hw h32
  go_wp2_with fail
  refine CST.mono ?_
  rintro e wz ⟨rfl, hkz, hz⟩
  go_wp2
  first | go_end0 | refine bodyPost_ret (results_none rfl _ _ _) rfl ?_
  exact ⟨rfl, hkk.trans hkz, hz⟩
theorem dopened (tv : TV) (R : Nat) (ts : List Tok) (s : PS) (w : World) (hR : DOk tv R w ts s) : Calls Tryz.prog 113 #[.pointer (some ⟨R, 0, none⟩)] w fun e w' => DRes tv R ts w s.opens e w' := by
  unfold PS.opens
  cases hi : s.is [40] with
  | false => rw [if_pos rfl]; exact dopened_no tv R ts s hi w hR
  | true =>
    rw [if_neg (by simp)]
    by_cases h32 : s.opn = 32
    · rw [if_pos h32]; exact dopened_deep tv R ts s hi h32 w hR
    · rw [if_neg h32]; exact dopened_yes tv R ts s hi h32 w hR
set_option maxRecDepth 100000 in
set_option maxHeartbeats 1000000 in
theorem dclosed_yes (tv : TV) (R : Nat) (ts : List Tok) (s : PS) (hi : s.is [41] = true) (h1 : 1 ≤ s.opn) (w : World) (hR : DOk tv R w ts s) : Calls Tryz.prog 114 #[.pointer (some ⟨R, 0, none⟩)] w fun e w' => DRes tv R ts w (.ok ({ s with opn := s.opn - 1 } : PS).step) e w' := by
  have CS := dsign_ok tv R ts s [41] w hR
  rw [hi] at CS
  have hlt := hR.ltR
  clear hi
  go_enter Tryz.func114, Tryz.ntmps114
  go_wp2_with fail
  refine CS.mono ?_
  rintro e w1 ⟨rfl, hb1⟩
  have hR1 := hR.up hb1
  have c3 := hR1.opn
  have hk1 := KeepD.up hb1 hlt
  obtain ⟨⟨A, cap, N, i, h, hd⟩, ho1, ho2, hw⟩ := hR1
  have q3 : w1.frozen? ⟨R, 3, none⟩ = false := by simp [World.frozen?, h.blk]
  have hp := h.put (w' := w1.setCell ⟨R, 3, none⟩ (.int .i64 (s.opn - 1))) ((Below.refl _ _).setCell (p := ⟨R, 3, none⟩) (Nat.le_refl _) _) (fun k hk => set_other hk) h.lt (set7_3 h.blk)
  have hR2 : DOk tv R (w1.setCell ⟨R, 3, none⟩ (.int .i64 (s.opn - 1))) ts { s with opn := s.opn - 1 } := ⟨⟨A, cap, N, i, hp.1, hd⟩, by show 0 ≤ s.opn - 1; omega, by show s.opn - 1 ≤ 32; omega, hw⟩
  have CST := dstep_ok tv R ts _ _ hR2
  have hkk := hk1.trans hp.2
  clear CS hb1 hR h hd hp hR2 hk1 hw
  go_wp2_with fail
  refine CST.mono ?_
  rintro e wz ⟨rfl, hkz, hz⟩
  go_wp2
  first | go_end0 | refine bodyPost_ret (results_none rfl _ _ _) rfl ?_
  exact ⟨rfl, hkk.trans hkz, hz⟩
set_option maxRecDepth 100000 in
set_option maxHeartbeats 1000000 in
theorem dclosed_no (tv : TV) (R : Nat) (ts : List Tok) (s : PS) (hi : s.is [41] = false) (w : World) (hR : DOk tv R w ts s) : Calls Tryz.prog 114 #[.pointer (some ⟨R, 0, none⟩)] w fun e w' => DRes tv R ts w s.fail e w' := by
  have CS := dsign_ok tv R ts s [41] w hR
  rw [hi] at CS
  have hlt := hR.ltR
  unfold PS.fail
  clear hi
  have hfp := field_place
  go_enter Tryz.func114, Tryz.ntmps114
  go_wp2_with fail
  refine CS.mono ?_
  rintro e w1 ⟨rfl, hb1⟩
  have hR1 := hR.up hb1
  have CN := dnow_ok tv R ts s w1 hR1
  clear CS
  go_wp2_with fail
  refine CN.mono ?_
  rintro e w2 ⟨rfl, hb2⟩
  have CF := dfail_ok tv R ts s 8 s.now.place (by decide) w2 (hR1.up hb2)
  have hk2 : KeepD R w w2 := KeepD.up (hb1.trans (hb2.mono hb1.size)) hlt
  clear CN hb1 hb2 hR hR1
  go_wp2_with fail
  refine CF.mono ?_
  rintro e w3 ⟨rfl, hk3, h3⟩
  have hk := hk2.trans hk3
  obtain ⟨he, A, cap, N, i, ns, o, h⟩ := h3
  clear CF hk2 hk3
  have hp := h.put (w' := w3.setCell ⟨R, 3, none⟩ (.int .i64 (wrap64 (o - 1)))) ((Below.refl _ _).setCell (p := ⟨R, 3, none⟩) (Nat.le_refl _) _) (fun k hk => set_other hk) h.lt (set7_3 h.blk)
  have CST := dstep_er tv R ts (8) (s.now.place) _ ⟨he, _, _, _, _, _, _, hp.1⟩
  have p3 : w3.cell? ⟨R, 3, none⟩ = some (.int .i64 o) := by rw [cell_of_row w3 R 3 _ _ _ h.blk]; rfl
  have q3 : w3.frozen? ⟨R, 3, none⟩ = false := by simp [World.frozen?, h.blk]
  clear h
  go_wp2_with fail
  refine CST.mono ?_
  rintro e wz ⟨rfl, hkz, hz⟩
  go_wp2
  first | go_end0 | refine bodyPost_ret (results_none rfl _ _ _) rfl ?_
  exact ⟨rfl, hk.trans (hp.2.trans hkz), hz⟩
set_option maxRecDepth 100000 in
set_option maxHeartbeats 1000000 in
theorem dclosed_er (tv : TV) (R : Nat) (ts : List Tok) (e0 a0 : Int) (w : World) (hR : DEr tv R w ts e0 a0) : Calls Tryz.prog 114 #[.pointer (some ⟨R, 0, none⟩)] w fun e w' => DRes tv R ts w (.bad e0 a0) e w' := by
  have CS := dsign_er tv R ts e0 a0 ⟨#[41]⟩ w hR
  have hlt := hR.ltR
  have hfp := field_place
  go_enter Tryz.func114, Tryz.ntmps114
  go_wp2_with fail
  refine CS.mono ?_
  rintro e w1 ⟨rfl, hb1⟩
  have hR1 := hR.up hb1
  obtain ⟨x, CN⟩ := dnow_er tv R ts e0 a0 w1 hR1
  clear CS
  go_wp2_with fail
  refine CN.mono ?_
  rintro e w2 ⟨rfl, hb2⟩
  have CF := dfail_er tv R ts e0 a0 8 x.place w2 (hR1.up hb2)
  have hk2 : KeepD R w w2 := KeepD.up (hb1.trans (hb2.mono hb1.size)) hlt
  clear CN hb1 hb2 hR hR1
  go_wp2_with fail
  refine CF.mono ?_
  rintro e w3 ⟨rfl, hk3, h3⟩
  have hk := hk2.trans hk3
  obtain ⟨he, A, cap, N, i, ns, o, h⟩ := h3
  clear CF hk2 hk3
  have hp := h.put (w' := w3.setCell ⟨R, 3, none⟩ (.int .i64 (wrap64 (o - 1)))) ((Below.refl _ _).setCell (p := ⟨R, 3, none⟩) (Nat.le_refl _) _) (fun k hk => set_other hk) h.lt (set7_3 h.blk)
  have CST := dstep_er tv R ts (e0) (a0) _ ⟨he, _, _, _, _, _, _, hp.1⟩
  have p3 : w3.cell? ⟨R, 3, none⟩ = some (.int .i64 o) := by rw [cell_of_row w3 R 3 _ _ _ h.blk]; rfl
  have q3 : w3.frozen? ⟨R, 3, none⟩ = false := by simp [World.frozen?, h.blk]
  clear h
  go_wp2_with fail
  refine CST.mono ?_
  rintro e wz ⟨rfl, hkz, hz⟩
  go_wp2
  first | go_end0 | refine bodyPost_ret (results_none rfl _ _ _) rfl ?_
  exact ⟨rfl, hk.trans (hp.2.trans hkz), hz⟩
theorem dclosed (tv : TV) (R : Nat) (ts : List Tok) (s : PS) (h1 : 1 ≤ s.opn) (w : World) (hR : DOk tv R w ts s) : Calls Tryz.prog 114 #[.pointer (some ⟨R, 0, none⟩)] w fun e w' => DRes tv R ts w s.closes e w' := by
  unfold PS.closes
  cases hi : s.is [41] with
  | false => rw [if_pos rfl]; exact dclosed_no tv R ts s hi w hR
  | true => rw [if_neg (by simp)]; exact dclosed_yes tv R ts s hi h1 w hR
end Go.Proofs.YtiekhbagpmnboaaGreatDoor
namespace Go.Proofs.YtiekhbagpmnboaaGreatDoor
open Go.RowKit

theorem results_pair2 {fn : Func} {i j : Tmp} (h : fn.results = #[.tmp i, .tmp j]) (tmps : Array Value) (P : Program) (w : World) : (results fn tmps).run P w = .ok (.tuple #[tmps.getD i undef, tmps.getD j undef]) w := by
  simp [results, h]
def strsK (k : Nat) : Array Value := ((sgn k).map fun x => Value.string ⟨x.1.toArray⟩).toArray
def intsK (k : Nat) : Array Value := ((sgn k).map fun x => Value.int .i64 x.2).toArray
theorem dlevels (k : Nat) (hk : k ≤ 3) (w : World) : Calls Tryz.prog 58 #[.int .i64 (k : Int)] w fun e w' => e = .returned (.tuple #[.slice (some ⟨w.heap.size, 0, none⟩) (sgn k).length (sgn k).length, .slice (some ⟨w.heap.size + 1, 0, none⟩) (sgn k).length (sgn k).length]) ∧ w' = (w.alloc (.cells (strsK k) 9)).alloc (.cells (intsK k) 3) := by
  match k, hk with
  | 0, _ =>
    go_enter Tryz.func58, Tryz.ntmps58
    go_wp2
    refine bodyPost_ret (results_pair2 Tryz.results58 _ _ _) rfl ⟨?_, rfl⟩
    rfl
  | 1, _ =>
    go_enter Tryz.func58, Tryz.ntmps58
    go_wp2
    refine bodyPost_ret (results_pair2 Tryz.results58 _ _ _) rfl ⟨?_, rfl⟩
    rfl
  | 2, _ =>
    go_enter Tryz.func58, Tryz.ntmps58
    go_wp2
    refine bodyPost_ret (results_pair2 Tryz.results58 _ _ _) rfl ⟨?_, rfl⟩
    rfl
  | 3, _ =>
    go_enter Tryz.func58, Tryz.ntmps58
    go_wp2
    refine bodyPost_ret (results_pair2 Tryz.results58 _ _ _) rfl ⟨?_, rfl⟩
    rfl
end Go.Proofs.YtiekhbagpmnboaaGreatDoor
