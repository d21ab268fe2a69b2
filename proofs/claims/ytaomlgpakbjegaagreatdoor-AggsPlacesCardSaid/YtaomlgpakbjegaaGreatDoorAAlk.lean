/-
  aggs: alike.
-/
import Derived.Test.YtaomlgpakbjegaaGreatDoorRows
import Derived.Test.YtaomlgpakbjegaaGreatDoorBase
import Derived.Test.YtaomlgpakbjegaaGreatDoorRowB
import Derived.Test.YtaomlgpakbjegaaGreatDoorMg4
import Derived.Test.YtaomlgpakbjegaaGreatDoorValA
import Derived.Test.YtaomlgpakbjegaaGreatDoorValB
import Derived.Test.YtaomlgpakbjegaaGreatDoorValC
import Derived.Test.YtaomlgpakbjegaaGreatDoorAddrC
import Derived.Test.YtaomlgpakbjegaaGreatDoorAddrI
import Derived.Test.YtaomlgpakbjegaaGreatDoorMapK
import Derived.Test.YtaomlgpakbjegaaGreatDoorArgK
import Derived.Test.YtaomlgpakbjegaaGreatDoorAArg
import Derived.Test.YtaomlgpakbjegaaGreatDoorProg
import Derived.Test.YtaomlgpakbjegaaGreatDoorShelfB
import Derived.Test.YtaomlgpakbjegaaGreatDoorDFlo
import Derived.Test.YtaomlgpakbjegaaGreatDoorMg1
import Derived.Test.YtaomlgpakbjegaaGreatDoorMg15
import Derived.Test.YtaomlgpakbjegaaGreatDoorValL
import Derived.Test.YtaomlgpakbjegaaGreatDoorNCallK
import Derived.Test.YtaomlgpakbjegaaGreatDoorAItm
import Derived.Test.YtaomlgpakbjegaaGreatDoorAAmo
import Derived.Test.YtaomlgpakbjegaaGreatDoorASum
import Derived.Test.YtaomlgpakbjegaaGreatDoorAFind
import Derived.Test.YtaomlgpakbjegaaGreatDoorACall
import Derived.Test.YtaomlgpakbjegaaGreatDoorACallB
import Derived.Test.YtaomlgpakbjegaaGreatDoorANum
import Derived.Test.YtaomlgpakbjegaaGreatDoorAInt
import Derived.Test.YtaomlgpakbjegaaGreatDoorALar
import Derived.Test.YtaomlgpakbjegaaGreatDoorACol
import Derived.Test.YtaomlgpakbjegaaGreatDoorAAt
import Derived.Test.YtaomlgpakbjegaaGreatDoorACnt
import Derived.Test.YtaomlgpakbjegaaGreatDoorACif
import Derived.WalkSpells
import Derived.WalkLawsBesides
import Derived.StillTactics
import Derived.Laws.Pointers
import Derived.Deep.RegionHeld3
import Derived.Deep.QuietTactic
import Derived.BigQuiet
import Derived.RowKit3
import Derived.Lib.Hide
import Derived.Lib.OthersKept
import Derived.OwnWalk
import Derived.Lib.IndexLaws
import Derived.Lib.ItoaMem
import Derived.WalkKit
import Derived.ProofKit
import Derived.OpenShut
import Derived.Carry
import Derived.ChangeSame
import Derived.Deep.Draws
import Derived.Maps.OwnSet
import Derived.Maps.AppendAt
import Derived.Shelf.SlGeneric
import Derived.Shelf.SortM.Plain
import Derived.Shelf.SortM.SortNone
import Derived.Ground.SlgmProg
import Derived.Laws.EntriesVeiled
import Derived.Laws.BitsAllLaws
import Derived.Shelf.Strings.Builder1
import Derived.Shelf.Strings.Builder2
import Derived.Shelf.Strings.OnBuilder
import Derived.Shelf.Strings.Trim
import Derived.Shelf.Small.Utf8
import Derived.Shelf.Small.Bits
import Derived.Shelf.Small.Strs
import Derived.Shelf.Small.Wraps
import Derived.Shelf.Strings.BuilderF
import Derived.Shelf.Strings.BuilderK
import Derived.Shelf.Strconv.Itoa0
import Derived.Shelf.Strconv.Itoa1
import Derived.Shelf.LaysM
import Derived.Shelf.Strconv.Itoa2
import Derived.Ground.MpProg
import Derived.Shelf.Pu.ParseUintPublic10
import Derived.Shelf.Strings.Search1
import Derived.Shelf.Strings.Search2
import Derived.Shelf.Strings.Search3
import Derived.Shelf.Strings.Cut
import Derived.Shelf.Strings.Shaped
import Derived.Shelf.Strings.Prefix
import Derived.Shelf.Strings.Runes
import Derived.Shelf.Strings.AsciiSet
import Derived.Shelf.Bits.Mul64
import Derived.Shelf.Strings.Repeat
import Derived.Shelf.Unicode.DecodeSlow
import Derived.Lib.TrimByte
import Derived.Lib.Bytealg
import Derived.Lib.SlTrimSet
import Derived.Lib.ParseIntB
import Derived.Shelf.Strings.SlTrimAscii
import Derived.Lib.SmallJoins
import Derived.Deep.RegionWith
import Derived.Laws.Externs
import Derived.IntWalk
import Derived.Sort.OwnSorted
import Derived.Sort.OwnSortedInts
import Derived.Deep.AppendLies
import Derived.Deep.RegionLaw
namespace Go.Proofs.YtaomlgpakbjegaaGreatDoor
open Go.RowKit

set_option maxRecDepth 100000 in
set_option maxHeartbeats 2000000 in
theorem aalike_y (a b : AL) (ha : mayRectB a.t a.l a.b a.r = true) (hb : mayRectB b.t b.l b.b b.r = true) (h : rowsL a = rowsL b) (w : World) : Calls Tryz.prog 196 #[.agg #[.bool a.many, .int .i64 a.v.t, .int .i64 a.v.n, .string a.v.s, .bool a.v.b, .int .i64 a.v.c, .int .i64 a.t, .int .i64 a.l, .int .i64 a.b, .int .i64 a.r, .slice a.A a.es.length a.cap], .agg #[.bool b.many, .int .i64 b.v.t, .int .i64 b.v.n, .string b.v.s, .bool b.v.b, .int .i64 b.v.c, .int .i64 b.t, .int .i64 b.l, .int .i64 b.b, .int .i64 b.r, .slice b.A b.es.length b.cap]] w fun e w' => e = .returned (.bool (decide (colsL a = colsL b))) ∧ Below w.heap.size w w' := by
  obtain ⟨R, hR⟩ : ∃ R, rowsL a = R := ⟨_, rfl⟩
  have hR2 : rowsL b = R := by omega
  obtain ⟨C, hC⟩ : ∃ C, colsL a = C := ⟨_, rfl⟩
  obtain ⟨D, hD⟩ : ∃ D, colsL b = D := ⟨_, rfl⟩
  have RA : ∀ w, Hid (Calls Tryz.prog 143 #[.agg #[.bool a.many, .int .i64 a.v.t, .int .i64 a.v.n, .string a.v.s, .bool a.v.b, .int .i64 a.v.c, .int .i64 a.t, .int .i64 a.l, .int .i64 a.b, .int .i64 a.r, .slice a.A a.es.length a.cap]] w fun e w' => e = .returned (.int .i64 R) ∧ Below w.heap.size w w') := fun w => Lib.hid (by rw [← hR]; exact arows_any a ha w)
  have RB : ∀ w, Hid (Calls Tryz.prog 143 #[.agg #[.bool b.many, .int .i64 b.v.t, .int .i64 b.v.n, .string b.v.s, .bool b.v.b, .int .i64 b.v.c, .int .i64 b.t, .int .i64 b.l, .int .i64 b.b, .int .i64 b.r, .slice b.A b.es.length b.cap]] w fun e w' => e = .returned (.int .i64 R) ∧ Below w.heap.size w w') := fun w => Lib.hid (by rw [← hR2]; exact arows_any b hb w)
  have CA : ∀ w, Hid (Calls Tryz.prog 145 #[.agg #[.bool a.many, .int .i64 a.v.t, .int .i64 a.v.n, .string a.v.s, .bool a.v.b, .int .i64 a.v.c, .int .i64 a.t, .int .i64 a.l, .int .i64 a.b, .int .i64 a.r, .slice a.A a.es.length a.cap]] w fun e w' => e = .returned (.int .i64 C) ∧ Below w.heap.size w w') := fun w => Lib.hid (by rw [← hC]; exact acols_any a ha w)
  have CB : ∀ w, Hid (Calls Tryz.prog 145 #[.agg #[.bool b.many, .int .i64 b.v.t, .int .i64 b.v.n, .string b.v.s, .bool b.v.b, .int .i64 b.v.c, .int .i64 b.t, .int .i64 b.l, .int .i64 b.b, .int .i64 b.r, .slice b.A b.es.length b.cap]] w fun e w' => e = .returned (.int .i64 D) ∧ Below w.heap.size w w') := fun w => Lib.hid (by rw [← hD]; exact acols_any b hb w)
  rw [hC, hD]
  obtain ⟨z, hz⟩ : ∃ z, decide (C = D) = z := ⟨_, rfl⟩
  rw [hz]
  have hz2 : (C == D) = z := by rw [← hz]; by_cases h9 : C = D <;> simp [h9]
  clear hR hR2 hC hD h ha hb
  go_enter Tryz.func196, Tryz.ntmps196
  go_wp2_with fail
  go_region_held3 (fun w' => w'.cell? ⟨w.heap.size, 0, none⟩ = some (.bool a.many) ∧ w'.cell? ⟨w.heap.size, 1, none⟩ = some (.int .i64 a.v.t) ∧ w'.cell? ⟨w.heap.size, 2, none⟩ = some (.int .i64 a.v.n) ∧ w'.cell? ⟨w.heap.size, 3, none⟩ = some (.string a.v.s) ∧ w'.cell? ⟨w.heap.size, 4, none⟩ = some (.bool a.v.b) ∧ w'.cell? ⟨w.heap.size, 5, none⟩ = some (.int .i64 a.v.c) ∧ w'.cell? ⟨w.heap.size, 6, none⟩ = some (.int .i64 a.t) ∧ w'.cell? ⟨w.heap.size, 7, none⟩ = some (.int .i64 a.l) ∧ w'.cell? ⟨w.heap.size, 8, none⟩ = some (.int .i64 a.b) ∧ w'.cell? ⟨w.heap.size, 9, none⟩ = some (.int .i64 a.r) ∧ w'.cell? ⟨w.heap.size, 10, none⟩ = some (.slice a.A a.es.length a.cap) ∧ w'.cell? ⟨w.heap.size + 1, 0, none⟩ = some (.bool b.many) ∧ w'.cell? ⟨w.heap.size + 1, 1, none⟩ = some (.int .i64 b.v.t) ∧ w'.cell? ⟨w.heap.size + 1, 2, none⟩ = some (.int .i64 b.v.n) ∧ w'.cell? ⟨w.heap.size + 1, 3, none⟩ = some (.string b.v.s) ∧ w'.cell? ⟨w.heap.size + 1, 4, none⟩ = some (.bool b.v.b) ∧ w'.cell? ⟨w.heap.size + 1, 5, none⟩ = some (.int .i64 b.v.c) ∧ w'.cell? ⟨w.heap.size + 1, 6, none⟩ = some (.int .i64 b.t) ∧ w'.cell? ⟨w.heap.size + 1, 7, none⟩ = some (.int .i64 b.l) ∧ w'.cell? ⟨w.heap.size + 1, 8, none⟩ = some (.int .i64 b.b) ∧ w'.cell? ⟨w.heap.size + 1, 9, none⟩ = some (.int .i64 b.r) ∧ w'.cell? ⟨w.heap.size + 1, 10, none⟩ = some (.slice b.A b.es.length b.cap) ∧ Below w.heap.size w w' ∧ w.heap.size + 2 ≤ w'.heap.size)
    (first | ((go_split_ands; refine ⟨?_, ?_, ?_, ?_, ?_, ?_, ?_, ?_, ?_, ?_, ?_, ?_, ?_, ?_, ?_, ?_, ?_, ?_, ?_, ?_, ?_, ?_, ?_, ?_⟩ <;> first | (rw [hb.cell (by dsimp only; omega)]; assumption) | exact Below.trans (by assumption) (hb.mono (by omega)) | (have := hb.size; omega))) | ((refine ⟨?_, ?_, ?_, ?_, ?_, ?_, ?_, ?_, ?_, ?_, ?_, ?_, ?_, ?_, ?_, ?_, ?_, ?_, ?_, ?_, ?_, ?_, ?_, ?_⟩ <;> first | (simp [go_sem, *]; done) | ((repeat (first | (with_reducible exact Below.refl _ _) | (with_reducible refine Below.alloc ?_ (by first | omega | (dsimp only; omega) | (simp <;> omega)) _) | (with_reducible refine Below.setCell ?_ (by first | omega | (dsimp only; omega) | (simp <;> omega)) _) | (with_reducible refine Below.drew ?_) | (with_reducible refine below_drewN ?_ _) | (with_reducible refine Below.trans ?_ (Below.mono (by assumption) (by first | omega | (dsimp only; omega) | (simp <;> omega)))))); done) | (simp; omega))))
    (first | (go_at_call 143; with_reducible refine ((RA _).out).mono ?_; rintro e w1 ⟨rfl, hb⟩) | (go_at_call 143; with_reducible refine ((RB _).out).mono ?_; rintro e w1 ⟨rfl, hb⟩) | (go_at_call 145; with_reducible refine ((CA _).out).mono ?_; rintro e w1 ⟨rfl, hb⟩) | (go_at_call 145; with_reducible refine ((CB _).out).mono ?_; rintro e w1 ⟨rfl, hb⟩))
  go_split_ands
  go_wp2
  go_ret
  exact ⟨rfl, by assumption⟩
set_option maxRecDepth 100000 in
set_option maxHeartbeats 2000000 in
theorem aalike_n (a b : AL) (ha : mayRectB a.t a.l a.b a.r = true) (hb : mayRectB b.t b.l b.b b.r = true) (h : ¬ rowsL a = rowsL b) (w : World) : Calls Tryz.prog 196 #[.agg #[.bool a.many, .int .i64 a.v.t, .int .i64 a.v.n, .string a.v.s, .bool a.v.b, .int .i64 a.v.c, .int .i64 a.t, .int .i64 a.l, .int .i64 a.b, .int .i64 a.r, .slice a.A a.es.length a.cap], .agg #[.bool b.many, .int .i64 b.v.t, .int .i64 b.v.n, .string b.v.s, .bool b.v.b, .int .i64 b.v.c, .int .i64 b.t, .int .i64 b.l, .int .i64 b.b, .int .i64 b.r, .slice b.A b.es.length b.cap]] w fun e w' => e = .returned (.bool false) ∧ Below w.heap.size w w' := by
  obtain ⟨R, hR⟩ : ∃ R, rowsL a = R := ⟨_, rfl⟩
  obtain ⟨S, hS⟩ : ∃ S, rowsL b = S := ⟨_, rfl⟩
  have RA : ∀ w, Hid (Calls Tryz.prog 143 #[.agg #[.bool a.many, .int .i64 a.v.t, .int .i64 a.v.n, .string a.v.s, .bool a.v.b, .int .i64 a.v.c, .int .i64 a.t, .int .i64 a.l, .int .i64 a.b, .int .i64 a.r, .slice a.A a.es.length a.cap]] w fun e w' => e = .returned (.int .i64 R) ∧ Below w.heap.size w w') := fun w => Lib.hid (by rw [← hR]; exact arows_any a ha w)
  have RB : ∀ w, Hid (Calls Tryz.prog 143 #[.agg #[.bool b.many, .int .i64 b.v.t, .int .i64 b.v.n, .string b.v.s, .bool b.v.b, .int .i64 b.v.c, .int .i64 b.t, .int .i64 b.l, .int .i64 b.b, .int .i64 b.r, .slice b.A b.es.length b.cap]] w fun e w' => e = .returned (.int .i64 S) ∧ Below w.heap.size w w') := fun w => Lib.hid (by rw [← hS]; exact arows_any b hb w)
  rw [hR, hS] at h
  have hb2 : (R == S) = false := by simpa using h
  clear hR hS ha hb
  go_enter Tryz.func196, Tryz.ntmps196
  go_wp2_with fail
  refine wp_region_noPanic ?_
  refine wp_region_held_drew (S := fun w' => w'.cell? ⟨w.heap.size, 0, none⟩ = some (.bool a.many) ∧ w'.cell? ⟨w.heap.size, 1, none⟩ = some (.int .i64 a.v.t) ∧ w'.cell? ⟨w.heap.size, 2, none⟩ = some (.int .i64 a.v.n) ∧ w'.cell? ⟨w.heap.size, 3, none⟩ = some (.string a.v.s) ∧ w'.cell? ⟨w.heap.size, 4, none⟩ = some (.bool a.v.b) ∧ w'.cell? ⟨w.heap.size, 5, none⟩ = some (.int .i64 a.v.c) ∧ w'.cell? ⟨w.heap.size, 6, none⟩ = some (.int .i64 a.t) ∧ w'.cell? ⟨w.heap.size, 7, none⟩ = some (.int .i64 a.l) ∧ w'.cell? ⟨w.heap.size, 8, none⟩ = some (.int .i64 a.b) ∧ w'.cell? ⟨w.heap.size, 9, none⟩ = some (.int .i64 a.r) ∧ w'.cell? ⟨w.heap.size, 10, none⟩ = some (.slice a.A a.es.length a.cap) ∧ w'.cell? ⟨w.heap.size + 1, 0, none⟩ = some (.bool b.many) ∧ w'.cell? ⟨w.heap.size + 1, 1, none⟩ = some (.int .i64 b.v.t) ∧ w'.cell? ⟨w.heap.size + 1, 2, none⟩ = some (.int .i64 b.v.n) ∧ w'.cell? ⟨w.heap.size + 1, 3, none⟩ = some (.string b.v.s) ∧ w'.cell? ⟨w.heap.size + 1, 4, none⟩ = some (.bool b.v.b) ∧ w'.cell? ⟨w.heap.size + 1, 5, none⟩ = some (.int .i64 b.v.c) ∧ w'.cell? ⟨w.heap.size + 1, 6, none⟩ = some (.int .i64 b.t) ∧ w'.cell? ⟨w.heap.size + 1, 7, none⟩ = some (.int .i64 b.l) ∧ w'.cell? ⟨w.heap.size + 1, 8, none⟩ = some (.int .i64 b.b) ∧ w'.cell? ⟨w.heap.size + 1, 9, none⟩ = some (.int .i64 b.r) ∧ w'.cell? ⟨w.heap.size + 1, 10, none⟩ = some (.slice b.A b.es.length b.cap) ∧ Below w.heap.size w w' ∧ w.heap.size + 2 ≤ w'.heap.size) (by kernel_rfl) (by (try dsimp only); refine ⟨?_, ?_, ?_, ?_, ?_, ?_, ?_, ?_, ?_, ?_, ?_, ?_, ?_, ?_, ?_, ?_, ?_, ?_, ?_, ?_, ?_, ?_, ?_, ?_⟩ <;> first | (simp [go_sem, *]; done) | (simp; omega) | (simp; done) | ((repeat (first | (with_reducible exact Below.refl _ _) | (with_reducible refine Below.alloc ?_ (by first | omega | (dsimp only; omega) | (simp <;> omega)) _) | (with_reducible refine Below.setCell ?_ (by first | omega | (dsimp only; omega) | (simp <;> omega)) _) | (with_reducible refine Below.drew ?_) | (with_reducible refine below_drewN ?_ _) | (with_reducible refine Below.trans ?_ (Below.mono (by assumption) (by first | omega | (dsimp only; omega) | (simp <;> omega)))))); done)) (fun hHeld => ?_)
  refine wpAnyH_take (i := 0) (oi := ⟨_, _, _, _, _, _⟩) (v := ?v1) rfl (by kernel_rfl) (by kernel_rfl) (by kernel_rfl) (fun _ _ _ h => h) (Or.inl ⟨by rfl, ?hy1⟩) hHeld ?rest1
  case hy1 => (intro w2 hSw; (try dsimp only at hSw); go_split_ands; go_simp; first | done | with_reducible rfl)
  try simp only [Act.put, List.setIfInBounds_toArray, List.set_cons_zero, List.set_cons_succ]
  refine wpAnyH_take (i := 2) (oi := ⟨_, _, _, _, _, _⟩) (v := ?v2) rfl (by kernel_rfl) (by kernel_rfl) (by kernel_rfl) (fun _ _ _ h => h) (Or.inl ⟨by rfl, ?hy2⟩) hHeld ?rest2
  case hy2 => (intro w2 hSw; (try dsimp only at hSw); go_split_ands; go_simp; first | done | with_reducible rfl)
  try simp only [Act.put, List.setIfInBounds_toArray, List.set_cons_zero, List.set_cons_succ]
  refine wpAnyH_ready (rs := [1]) (by kernel_rfl) (by simp) ?_
  refine AllReadyH.cons (o := ⟨_, _, _, _, _, _⟩) rfl (fun K hK => ?_) AllReadyH.nil
  go_split_ands
  go_simp
  refine ((RA _).out).mono ?_
  rintro e w1 ⟨rfl, hb⟩
  refine hK.out _ _ ?_ (fun hHeld => ?_)
  · ((try dsimp only); refine ⟨?_, ?_, ?_, ?_, ?_, ?_, ?_, ?_, ?_, ?_, ?_, ?_, ?_, ?_, ?_, ?_, ?_, ?_, ?_, ?_, ?_, ?_, ?_, ?_⟩ <;> first | (rw [hb.cell (by dsimp only; omega)]; assumption) | exact Below.trans (by assumption) (hb.mono (by omega)) | (have := hb.size; omega))
  clear hK K hb
  try simp only [Act.put, List.setIfInBounds_toArray, List.set_cons_zero, List.set_cons_succ]
  refine wpAnyH_ready (rs := [3]) (by kernel_rfl) (by simp) ?_
  refine AllReadyH.cons (o := ⟨_, _, _, _, _, _⟩) rfl (fun K hK => ?_) AllReadyH.nil
  go_split_ands
  go_simp
  refine ((RB _).out).mono ?_
  rintro e w1 ⟨rfl, hb⟩
  refine hK.out _ _ ?_ (fun hHeld => ?_)
  · ((try dsimp only); refine ⟨?_, ?_, ?_, ?_, ?_, ?_, ?_, ?_, ?_, ?_, ?_, ?_, ?_, ?_, ?_, ?_, ?_, ?_, ?_, ?_, ?_, ?_, ?_, ?_⟩ <;> first | (rw [hb.cell (by dsimp only; omega)]; assumption) | exact Below.trans (by assumption) (hb.mono (by omega)) | (have := hb.size; omega))
  clear hK K hb
  try simp only [Act.put, List.setIfInBounds_toArray, List.set_cons_zero, List.set_cons_succ]
  refine wpAnyH_take (i := 4) (oi := ⟨_, _, _, _, _, _⟩) (v := ?v3) rfl (by kernel_rfl) (by kernel_rfl) (by kernel_rfl) (fun _ _ _ h => h) (Or.inl ⟨by rfl, ?hy3⟩) hHeld ?rest3
  case hy3 => (intro w2 hSw; (try dsimp only at hSw); go_split_ands; go_simp; first | done | with_reducible rfl)
  try simp only [Act.put, List.setIfInBounds_toArray, List.set_cons_zero, List.set_cons_succ]
  refine wpAnyH_take (i := 5) (oi := ⟨_, _, _, _, _, _⟩) (v := ?v4) rfl (by kernel_rfl) (by kernel_rfl) (by kernel_rfl) (fun _ _ _ h => h) (Or.inl ⟨by rfl, ?hy4⟩) hHeld ?rest4
  case hy4 => (intro w2 hSw; (try dsimp only at hSw); go_split_ands; go_simp; first | done | with_reducible rfl)
  try simp only [Act.put, List.setIfInBounds_toArray, List.set_cons_zero, List.set_cons_succ]
  refine wpAnyH_take (i := 6) (oi := ⟨_, _, _, _, _, _⟩) (v := undef) rfl (by kernel_rfl) (by kernel_rfl) (by kernel_rfl) (fun _ _ _ h => h) (Or.inr ⟨by rfl, rfl⟩) hHeld ?_
  try simp only [Act.put, List.setIfInBounds_toArray, List.set_cons_zero, List.set_cons_succ]
  refine wpAnyH_take (i := 7) (oi := ⟨_, _, _, _, _, _⟩) (v := undef) rfl (by kernel_rfl) (by kernel_rfl) (by kernel_rfl) (fun _ _ _ h => h) (Or.inr ⟨by rfl, rfl⟩) hHeld ?_
  try simp only [Act.put, List.setIfInBounds_toArray, List.set_cons_zero, List.set_cons_succ]
  refine wpAnyH_take (i := 8) (oi := ⟨_, _, _, _, _, _⟩) (v := undef) rfl (by kernel_rfl) (by kernel_rfl) (by kernel_rfl) (fun _ _ _ h => h) (Or.inr ⟨by rfl, rfl⟩) hHeld ?_
  try simp only [Act.put, List.setIfInBounds_toArray, List.set_cons_zero, List.set_cons_succ]
  refine wpAnyH_take (i := 9) (oi := ⟨_, _, _, _, _, _⟩) (v := undef) rfl (by kernel_rfl) (by kernel_rfl) (by kernel_rfl) (fun _ _ _ h => h) (Or.inr ⟨by rfl, rfl⟩) hHeld ?_
  try simp only [Act.put, List.setIfInBounds_toArray, List.set_cons_zero, List.set_cons_succ]
  refine wpAnyH_take (i := 10) (oi := ⟨_, _, _, _, _, _⟩) (v := undef) rfl (by kernel_rfl) (by kernel_rfl) (by kernel_rfl) (fun _ _ _ h => h) (Or.inr ⟨by rfl, rfl⟩) hHeld ?_
  try simp only [Act.put, List.setIfInBounds_toArray, List.set_cons_zero, List.set_cons_succ]
  refine wpAnyH_take (i := 11) (oi := ⟨_, _, _, _, _, _⟩) (v := ?v5) rfl (by kernel_rfl) (by kernel_rfl) (by kernel_rfl) (fun _ _ _ h => h) (Or.inl ⟨by rfl, ?hy5⟩) hHeld ?rest5
  case hy5 => (intro w2 hSw; (try dsimp only at hSw); go_split_ands; go_simp; first | done | with_reducible rfl)
  try simp only [Act.put, List.setIfInBounds_toArray, List.set_cons_zero, List.set_cons_succ]
  refine wpAnyH_take (i := 12) (oi := ⟨_, _, _, _, _, _⟩) (v := ?v6) rfl (by kernel_rfl) (by kernel_rfl) (by kernel_rfl) (fun _ _ _ h => h) (Or.inl ⟨by rfl, ?hy6⟩) hHeld ?rest6
  case hy6 => (intro w2 hSw; (try dsimp only at hSw); go_split_ands; go_simp; first | done | with_reducible rfl)
  try simp only [Act.put, List.setIfInBounds_toArray, List.set_cons_zero, List.set_cons_succ]
  refine wpAnyH_done (by kernel_rfl) ?_ _
  refine NoPanic.normal ?_
  go_split_ands
  go_wp2
  go_ret
  exact ⟨rfl, by assumption⟩
theorem aalike_any (a b : AL) (ha : mayRectB a.t a.l a.b a.r = true) (hb : mayRectB b.t b.l b.b b.r = true) (w : World) : Calls Tryz.prog 196 #[.agg #[.bool a.many, .int .i64 a.v.t, .int .i64 a.v.n, .string a.v.s, .bool a.v.b, .int .i64 a.v.c, .int .i64 a.t, .int .i64 a.l, .int .i64 a.b, .int .i64 a.r, .slice a.A a.es.length a.cap], .agg #[.bool b.many, .int .i64 b.v.t, .int .i64 b.v.n, .string b.v.s, .bool b.v.b, .int .i64 b.v.c, .int .i64 b.t, .int .i64 b.l, .int .i64 b.b, .int .i64 b.r, .slice b.A b.es.length b.cap]] w fun e w' => e = .returned (.bool (decide (rowsL a = rowsL b) && decide (colsL a = colsL b))) ∧ Below w.heap.size w w' := by
  by_cases h : rowsL a = rowsL b
  · rw [decide_eq_true h, Bool.true_and]; exact aalike_y a b ha hb h w
  · rw [decide_eq_false h, Bool.false_and]; exact aalike_n a b ha hb h w
end Go.Proofs.YtaomlgpakbjegaaGreatDoor
