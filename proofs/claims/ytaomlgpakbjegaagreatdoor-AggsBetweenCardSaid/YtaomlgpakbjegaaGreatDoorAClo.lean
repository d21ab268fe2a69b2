/-
  aggs: BLANKS, COUNTIF, ROWS, COLS.
-/
import Derived.Test.YtaomlgpakbjegaaGreatDoorRows
import Derived.Test.YtaomlgpakbjegaaGreatDoorBase
import Derived.Test.YtaomlgpakbjegaaGreatDoorRowB
import Derived.Test.YtaomlgpakbjegaaGreatDoorMg5
import Derived.Test.YtaomlgpakbjegaaGreatDoorValA
import Derived.Test.YtaomlgpakbjegaaGreatDoorValB
import Derived.Test.YtaomlgpakbjegaaGreatDoorValC
import Derived.Test.YtaomlgpakbjegaaGreatDoorAddrC
import Derived.Test.YtaomlgpakbjegaaGreatDoorMg10
import Derived.Test.YtaomlgpakbjegaaGreatDoorMapK
import Derived.Test.YtaomlgpakbjegaaGreatDoorAArg
import Derived.Test.YtaomlgpakbjegaaGreatDoorProg
import Derived.Test.YtaomlgpakbjegaaGreatDoorMg3
import Derived.Test.YtaomlgpakbjegaaGreatDoorShelf
import Derived.Test.YtaomlgpakbjegaaGreatDoorMg2
import Derived.Test.YtaomlgpakbjegaaGreatDoorMg12
import Derived.Test.YtaomlgpakbjegaaGreatDoorDPrint
import Derived.Test.YtaomlgpakbjegaaGreatDoorRPr
import Derived.Test.YtaomlgpakbjegaaGreatDoorKnuth
import Derived.Test.YtaomlgpakbjegaaGreatDoorDDiv
import Derived.Test.YtaomlgpakbjegaaGreatDoorDDig
import Derived.Test.YtaomlgpakbjegaaGreatDoorCutW
import Derived.Test.YtaomlgpakbjegaaGreatDoorDParse
import Derived.Test.YtaomlgpakbjegaaGreatDoorDecK
import Derived.Test.YtaomlgpakbjegaaGreatDoorDDivA
import Derived.Test.YtaomlgpakbjegaaGreatDoorValD
import Derived.Test.YtaomlgpakbjegaaGreatDoorMg23
import Derived.Test.YtaomlgpakbjegaaGreatDoorValL
import Derived.Test.YtaomlgpakbjegaaGreatDoorMg25
import Derived.Test.YtaomlgpakbjegaaGreatDoorAItm
import Derived.Test.YtaomlgpakbjegaaGreatDoorAAmo
import Derived.Test.YtaomlgpakbjegaaGreatDoorASum
import Derived.Test.YtaomlgpakbjegaaGreatDoorAFind
import Derived.Test.YtaomlgpakbjegaaGreatDoorACall
import Derived.Test.YtaomlgpakbjegaaGreatDoorACallB
import Derived.Test.YtaomlgpakbjegaaGreatDoorANum
import Derived.Test.YtaomlgpakbjegaaGreatDoorALar
import Derived.Test.YtaomlgpakbjegaaGreatDoorACol
import Derived.Test.YtaomlgpakbjegaaGreatDoorMg40
import Derived.Test.YtaomlgpakbjegaaGreatDoorACnt
import Derived.Test.YtaomlgpakbjegaaGreatDoorACif
import Derived.WalkSpells
import Derived.WalkLawsBesides
import Derived.StillTactics
import Derived.Laws.Pointers
import Derived.Deep.RegionHeld3
import Derived.Deep.QuietTactic
import Derived.BigQuiet
import Derived.RowKit3
import Derived.Lib.Hide
import Derived.Lib.OthersKept
import Derived.OwnWalk
import Derived.Lib.IndexLaws
import Derived.Lib.ItoaMem
import Derived.WalkKit
import Derived.ProofKit
import Derived.OpenShut
import Derived.Carry
import Derived.ChangeSame
import Derived.Deep.Draws
import Derived.Maps.OwnSet
import Derived.Maps.AppendAt
import Derived.Shelf.SlGeneric
import Derived.Shelf.SortM.Plain
import Derived.Shelf.SortM.SortNone
import Derived.Ground.SlgmProg
import Derived.Laws.EntriesVeiled
import Derived.Laws.BitsAllLaws
import Derived.Shelf.Strings.Builder1
import Derived.Shelf.Strings.Builder2
import Derived.Shelf.Strings.OnBuilder
import Derived.Shelf.Strings.Trim
import Derived.Shelf.Small.Utf8
import Derived.Shelf.Small.Bits
import Derived.Shelf.Small.Strs
import Derived.Shelf.Small.Wraps
import Derived.Shelf.Strings.BuilderF
import Derived.Shelf.Strings.BuilderK
import Derived.Shelf.Strconv.Itoa0
import Derived.Shelf.Strconv.Itoa1
import Derived.Shelf.LaysM
import Derived.Shelf.Strconv.Itoa2
import Derived.Ground.MpProg
import Derived.Shelf.Pu.ParseUintPublic10
import Derived.Shelf.Strings.Search1
import Derived.Shelf.Strings.Search2
import Derived.Shelf.Strings.Search3
import Derived.Shelf.Strings.Cut
import Derived.Shelf.Strings.Shaped
import Derived.Shelf.Strings.Prefix
import Derived.Shelf.Strings.Runes
import Derived.Shelf.Strings.AsciiSet
import Derived.Shelf.Bits.Mul64
import Derived.Shelf.Strings.Repeat
import Derived.Shelf.Unicode.DecodeSlow
import Derived.Lib.TrimByte
import Derived.Lib.Bytealg
import Derived.Lib.SlTrimSet
import Derived.Lib.ParseIntB
import Derived.Shelf.Strings.SlTrimAscii
import Derived.Lib.SmallJoins
import Derived.Deep.RegionWith
import Derived.Laws.Externs
import Derived.IntWalk
import Derived.Sort.OwnSorted
import Derived.Sort.OwnSortedInts
import Derived.Deep.AppendLies
import Derived.Deep.RegionLaw
namespace Go.Proofs.YtaomlgpakbjegaaGreatDoor
open Go.RowKit

set_option maxRecDepth 100000 in
set_option maxHeartbeats 2000000 in
theorem ablanks_any (x0 : AL) (hm : mayRectB x0.t x0.l x0.b x0.r = true) (hlen : x0.es.length ≤ 2932031007402) (text : Int) (w : World) (A : Option Addr) (cap : Nat) (hR : RdB w w.heap.size A 11 ([x0].map AL.cs)) (hin : ∀ x ∈ [x0], x.In w w.heap.size) : Calls Tryz.prog 133 #[.slice A 1 cap, .int .i64 text] w fun e w' => e = .returned (.agg #[.int .i64 ((cifL x0 v0)).t, .int .i64 ((cifL x0 v0)).n, .string ((cifL x0 v0)).s, .bool ((cifL x0 v0)).b, .int .i64 ((cifL x0 v0)).c]) ∧ Below w.heap.size w w' := by
  have b0 : Below w.heap.size w (w.alloc (.cells #[.int .i64 0, .int .i64 0, .string ⟨#[]⟩, .bool false, .int .i64 0] 26)) := (Below.refl _ _).alloc (Nat.le_refl _) _
  obtain ⟨ab, ao, hA2, hab, hcell⟩ := hR 0 x0.cs rfl
  obtain rfl : A = some ⟨ab, ao, none⟩ := hA2
  have hc0 : w.cell? ⟨ab, ao, none⟩ = some (.bool x0.many) := by have h9 := hcell 0 _ rfl; simpa using h9
  have hc1 : w.cell? ⟨ab, ao + 1, none⟩ = some (.int .i64 x0.v.t) := by have h9 := hcell 1 _ rfl; simpa using h9
  have hc2 : w.cell? ⟨ab, ao + 2, none⟩ = some (.int .i64 x0.v.n) := by have h9 := hcell 2 _ rfl; simpa using h9
  have hc3 : w.cell? ⟨ab, ao + 3, none⟩ = some (.string x0.v.s) := by have h9 := hcell 3 _ rfl; simpa using h9
  have hc4 : w.cell? ⟨ab, ao + 4, none⟩ = some (.bool x0.v.b) := by have h9 := hcell 4 _ rfl; simpa using h9
  have hc5 : w.cell? ⟨ab, ao + 5, none⟩ = some (.int .i64 x0.v.c) := by have h9 := hcell 5 _ rfl; simpa using h9
  have hc6 : w.cell? ⟨ab, ao + 6, none⟩ = some (.int .i64 x0.t) := by have h9 := hcell 6 _ rfl; simpa using h9
  have hc7 : w.cell? ⟨ab, ao + 7, none⟩ = some (.int .i64 x0.l) := by have h9 := hcell 7 _ rfl; simpa using h9
  have hc8 : w.cell? ⟨ab, ao + 8, none⟩ = some (.int .i64 x0.b) := by have h9 := hcell 8 _ rfl; simpa using h9
  have hc9 : w.cell? ⟨ab, ao + 9, none⟩ = some (.int .i64 x0.r) := by have h9 := hcell 9 _ rfl; simpa using h9
  have hc10 : w.cell? ⟨ab, ao + 10, none⟩ = some (.slice x0.A x0.es.length x0.cap) := by have h9 := hcell 10 _ rfl; simpa using h9
  have hne : ab ≠ w.heap.size := by omega
  have hin0 : x0.In (w.alloc (.cells #[.int .i64 0, .int .i64 0, .string ⟨#[]⟩, .bool false, .int .i64 0] 26)) (w.alloc (.cells #[.int .i64 0, .int .i64 0, .string ⟨#[]⟩, .bool false, .int .i64 0] 26)).heap.size := ((hin x0 (by simp)).below b0).mono b0.size
  have C := Lib.hid (acif_any x0 v0 hm hlen (w.alloc (.cells #[.int .i64 0, .int .i64 0, .string ⟨#[]⟩, .bool false, .int .i64 0] 26)) hin0)
  clear hcell hR hin hin0
  go_enter Tryz.func133, Tryz.ntmps133
  go_wp2_with fail
  refine (C.out).mono ?_
  rintro e w1 ⟨rfl, hb1⟩
  obtain ⟨gc1, gf1, gz1⟩ := bkeep hb1 (w.heap.size + 1) (by first | (simp; done) | omega)
  have l1 : w.heap.size < w1.heap.size := by omega
  go_wp2
  refine bodyPost_ret (v := .agg #[.int .i64 ((cifL x0 v0)).t, .int .i64 ((cifL x0 v0)).n, .string ((cifL x0 v0)).s, .bool ((cifL x0 v0)).b, .int .i64 ((cifL x0 v0)).c]) ?_ rfl ⟨rfl, by (repeat (first | (with_reducible exact Below.refl _ _) | (with_reducible refine Below.alloc ?_ (by first | omega | (dsimp only; omega) | (simp <;> omega)) _) | (with_reducible refine Below.setCell ?_ (by first | omega | (dsimp only; omega) | (simp <;> omega)) _) | (with_reducible refine Below.drew ?_) | (with_reducible refine below_drewN ?_ _) | (with_reducible refine Below.trans ?_ (Below.mono (by assumption) (by first | omega | (dsimp only; omega) | (simp <;> omega))))))⟩
  simp [results, Tryz.results133, go_sem, cifL, numL, *]
theorem dr_cell {w : World} {o : Obj} {a : Addr} {v : Value} (h : a.block < w.heap.size) (h2 : w.cell? a = some v) : (w.alloc o).drew.cell? a = some v := by
  rw [show (w.alloc o).drew.cell? a = (w.alloc o).cell? a from rfl, World.cell?_alloc_lt _ _ _ h]
  exact h2
set_option maxRecDepth 100000 in
set_option maxHeartbeats 2000000 in
theorem acountif_any (x0 x1 : AL) (hm : mayRectB x0.t x0.l x0.b x0.r = true) (hlen : x0.es.length ≤ 2932031007402) (text : Int) (w : World) (A : Option Addr) (cap : Nat) (hR : RdB w w.heap.size A 11 ([x0, x1].map AL.cs)) (hin : ∀ x ∈ [x0, x1], x.In w w.heap.size) : Calls Tryz.prog 135 #[.slice A 2 cap, .int .i64 text] w fun e w' => e = .returned (.agg #[.int .i64 ((cifL x0 x1.v)).t, .int .i64 ((cifL x0 x1.v)).n, .string ((cifL x0 x1.v)).s, .bool ((cifL x0 x1.v)).b, .int .i64 ((cifL x0 x1.v)).c]) ∧ Below w.heap.size w w' := by
  have b0 : Below w.heap.size w (w.alloc (.cells #[.int .i64 0, .int .i64 0, .string ⟨#[]⟩, .bool false, .int .i64 0] 26)) := (Below.refl _ _).alloc (Nat.le_refl _) _
  obtain ⟨ab, ao, hA2, hab, hcell⟩ := hR 0 x0.cs rfl
  obtain rfl : A = some ⟨ab, ao, none⟩ := hA2
  have hc0 : w.cell? ⟨ab, ao, none⟩ = some (.bool x0.many) := by have h9 := hcell 0 _ rfl; simpa using h9
  have hc1 : w.cell? ⟨ab, ao + 1, none⟩ = some (.int .i64 x0.v.t) := by have h9 := hcell 1 _ rfl; simpa using h9
  have hc2 : w.cell? ⟨ab, ao + 2, none⟩ = some (.int .i64 x0.v.n) := by have h9 := hcell 2 _ rfl; simpa using h9
  have hc3 : w.cell? ⟨ab, ao + 3, none⟩ = some (.string x0.v.s) := by have h9 := hcell 3 _ rfl; simpa using h9
  have hc4 : w.cell? ⟨ab, ao + 4, none⟩ = some (.bool x0.v.b) := by have h9 := hcell 4 _ rfl; simpa using h9
  have hc5 : w.cell? ⟨ab, ao + 5, none⟩ = some (.int .i64 x0.v.c) := by have h9 := hcell 5 _ rfl; simpa using h9
  have hc6 : w.cell? ⟨ab, ao + 6, none⟩ = some (.int .i64 x0.t) := by have h9 := hcell 6 _ rfl; simpa using h9
  have hc7 : w.cell? ⟨ab, ao + 7, none⟩ = some (.int .i64 x0.l) := by have h9 := hcell 7 _ rfl; simpa using h9
  have hc8 : w.cell? ⟨ab, ao + 8, none⟩ = some (.int .i64 x0.b) := by have h9 := hcell 8 _ rfl; simpa using h9
  have hc9 : w.cell? ⟨ab, ao + 9, none⟩ = some (.int .i64 x0.r) := by have h9 := hcell 9 _ rfl; simpa using h9
  have hc10 : w.cell? ⟨ab, ao + 10, none⟩ = some (.slice x0.A x0.es.length x0.cap) := by have h9 := hcell 10 _ rfl; simpa using h9
  have hcell1 : ∀ (j : Nat) (u : Value), x1.cs[j]? = some u → w.cell? ⟨ab, ao + 1 * 11 + j, none⟩ = some u := by
    obtain ⟨ab2, ao2, hA3, _, hcell1⟩ := hR 1 x1.cs rfl
    cases hA3
    exact hcell1
  have hd0 : w.cell? ⟨ab, ao + 11, none⟩ = some (.bool x1.many) := by have h9 := hcell1 0 _ rfl; simpa using h9
  have hd1 : w.cell? ⟨ab, ao + 11 + 1, none⟩ = some (.int .i64 x1.v.t) := by have h9 := hcell1 1 _ rfl; simpa using h9
  have hd2 : w.cell? ⟨ab, ao + 11 + 2, none⟩ = some (.int .i64 x1.v.n) := by have h9 := hcell1 2 _ rfl; simpa using h9
  have hd3 : w.cell? ⟨ab, ao + 11 + 3, none⟩ = some (.string x1.v.s) := by have h9 := hcell1 3 _ rfl; simpa using h9
  have hd4 : w.cell? ⟨ab, ao + 11 + 4, none⟩ = some (.bool x1.v.b) := by have h9 := hcell1 4 _ rfl; simpa using h9
  have hd5 : w.cell? ⟨ab, ao + 11 + 5, none⟩ = some (.int .i64 x1.v.c) := by have h9 := hcell1 5 _ rfl; simpa using h9
  have hd6 : w.cell? ⟨ab, ao + 11 + 6, none⟩ = some (.int .i64 x1.t) := by have h9 := hcell1 6 _ rfl; simpa using h9
  have hd7 : w.cell? ⟨ab, ao + 11 + 7, none⟩ = some (.int .i64 x1.l) := by have h9 := hcell1 7 _ rfl; simpa using h9
  have hd8 : w.cell? ⟨ab, ao + 11 + 8, none⟩ = some (.int .i64 x1.b) := by have h9 := hcell1 8 _ rfl; simpa using h9
  have hd9 : w.cell? ⟨ab, ao + 11 + 9, none⟩ = some (.int .i64 x1.r) := by have h9 := hcell1 9 _ rfl; simpa using h9
  have hd10 : w.cell? ⟨ab, ao + 11 + 10, none⟩ = some (.slice x1.A x1.es.length x1.cap) := by have h9 := hcell1 10 _ rfl; simpa using h9
  clear hcell1
  have hne : ab ≠ w.heap.size := by omega
  have hin0 : x0.In (w.alloc (.cells #[.int .i64 0, .int .i64 0, .string ⟨#[]⟩, .bool false, .int .i64 0] 26)) (w.alloc (.cells #[.int .i64 0, .int .i64 0, .string ⟨#[]⟩, .bool false, .int .i64 0] 26)).heap.size := ((hin x0 (by simp)).below b0).mono b0.size
  have C := Lib.hid (acif_any x0 x1.v hm hlen (w.alloc (.cells #[.int .i64 0, .int .i64 0, .string ⟨#[]⟩, .bool false, .int .i64 0] 26)).drew (((hin x0 (by simp)).below b0).mono b0.size))
  clear hcell hR hin hin0
  go_enter Tryz.func135, Tryz.ntmps135
  go_wp2_with fail
  refine wp_region_noPanic ?_
  refine wp_region_held_drew (S := fun w' => w'.cell? ⟨ab, ao, none⟩ = some (.bool x0.many) ∧ w'.cell? ⟨ab, ao + 1, none⟩ = some (.int .i64 x0.v.t) ∧ w'.cell? ⟨ab, ao + 2, none⟩ = some (.int .i64 x0.v.n) ∧ w'.cell? ⟨ab, ao + 3, none⟩ = some (.string x0.v.s) ∧ w'.cell? ⟨ab, ao + 4, none⟩ = some (.bool x0.v.b) ∧ w'.cell? ⟨ab, ao + 5, none⟩ = some (.int .i64 x0.v.c) ∧ w'.cell? ⟨ab, ao + 6, none⟩ = some (.int .i64 x0.t) ∧ w'.cell? ⟨ab, ao + 7, none⟩ = some (.int .i64 x0.l) ∧ w'.cell? ⟨ab, ao + 8, none⟩ = some (.int .i64 x0.b) ∧ w'.cell? ⟨ab, ao + 9, none⟩ = some (.int .i64 x0.r) ∧ w'.cell? ⟨ab, ao + 10, none⟩ = some (.slice x0.A x0.es.length x0.cap) ∧ w'.cell? ⟨ab, ao + 11 + 1, none⟩ = some (.int .i64 x1.v.t) ∧ w'.cell? ⟨ab, ao + 11 + 2, none⟩ = some (.int .i64 x1.v.n) ∧ w'.cell? ⟨ab, ao + 11 + 3, none⟩ = some (.string x1.v.s) ∧ w'.cell? ⟨ab, ao + 11 + 4, none⟩ = some (.bool x1.v.b) ∧ w'.cell? ⟨ab, ao + 11 + 5, none⟩ = some (.int .i64 x1.v.c)) (by kernel_rfl) ⟨dr_cell hab (by assumption), dr_cell hab (by assumption), dr_cell hab (by assumption), dr_cell hab (by assumption), dr_cell hab (by assumption), dr_cell hab (by assumption), dr_cell hab (by assumption), dr_cell hab (by assumption), dr_cell hab (by assumption), dr_cell hab (by assumption), dr_cell hab (by assumption), dr_cell hab (by assumption), dr_cell hab (by assumption), dr_cell hab (by assumption), dr_cell hab (by assumption), dr_cell hab (by assumption)⟩ (fun hHeld => ?_)
  refine wpAnyH_take (i := 0) (oi := ⟨_, _, _, _, _, _⟩) (v := ?v1) rfl (by kernel_rfl) (by kernel_rfl) (by kernel_rfl) (fun _ _ _ h => h) (Or.inl ⟨by rfl, ?hy1⟩) hHeld ?rest1
  case hy1 => (intro w2 hSw; (try dsimp only at hSw); go_split_ands; go_simp; first | done | with_reducible rfl)
  try simp only [Act.put, List.setIfInBounds_toArray, List.set_cons_zero, List.set_cons_succ]
  refine wpAnyH_take (i := 1) (oi := ⟨_, _, _, _, _, _⟩) (v := ?v2) rfl (by kernel_rfl) (by kernel_rfl) (by kernel_rfl) (fun _ _ _ h => h) (Or.inl ⟨by rfl, ?hy2⟩) hHeld ?rest2
  case hy2 => (intro w2 hSw; (try dsimp only at hSw); go_split_ands; go_simp; first | done | with_reducible rfl)
  try simp only [Act.put, List.setIfInBounds_toArray, List.set_cons_zero, List.set_cons_succ]
  refine wpAnyH_take (i := 2) (oi := ⟨_, _, _, _, _, _⟩) (v := ?v3) rfl (by kernel_rfl) (by kernel_rfl) (by kernel_rfl) (fun _ _ _ h => h) (Or.inl ⟨by rfl, ?hy3⟩) hHeld ?rest3
  case hy3 => (intro w2 hSw; (try dsimp only at hSw); go_split_ands; go_simp; first | done | with_reducible rfl)
  try simp only [Act.put, List.setIfInBounds_toArray, List.set_cons_zero, List.set_cons_succ]
  refine wpAnyH_take (i := 3) (oi := ⟨_, _, _, _, _, _⟩) (v := ?v4) rfl (by kernel_rfl) (by kernel_rfl) (by kernel_rfl) (fun _ _ _ h => h) (Or.inl ⟨by rfl, ?hy4⟩) hHeld ?rest4
  case hy4 => (intro w2 hSw; (try dsimp only at hSw); go_split_ands; go_simp; first | done | with_reducible rfl)
  try simp only [Act.put, List.setIfInBounds_toArray, List.set_cons_zero, List.set_cons_succ]
  refine wpAnyH_take (i := 4) (oi := ⟨_, _, _, _, _, _⟩) (v := ?v5) rfl (by kernel_rfl) (by kernel_rfl) (by kernel_rfl) (fun _ _ _ h => h) (Or.inl ⟨by rfl, ?hy5⟩) hHeld ?rest5
  case hy5 => (intro w2 hSw; (try dsimp only at hSw); go_split_ands; go_simp; first | done | with_reducible rfl)
  try simp only [Act.put, List.setIfInBounds_toArray, List.set_cons_zero, List.set_cons_succ]
  refine wpAnyH_take (i := 5) (oi := ⟨_, _, _, _, _, _⟩) (v := ?v6) rfl (by kernel_rfl) (by kernel_rfl) (by kernel_rfl) (fun _ _ _ h => h) (Or.inl ⟨by rfl, ?hy6⟩) hHeld ?rest6
  case hy6 => (intro w2 hSw; (try dsimp only at hSw); go_split_ands; go_simp; first | done | with_reducible rfl)
  try simp only [Act.put, List.setIfInBounds_toArray, List.set_cons_zero, List.set_cons_succ]
  refine wpAnyH_take (i := 6) (oi := ⟨_, _, _, _, _, _⟩) (v := ?v7) rfl (by kernel_rfl) (by kernel_rfl) (by kernel_rfl) (fun _ _ _ h => h) (Or.inl ⟨by rfl, ?hy7⟩) hHeld ?rest7
  case hy7 => (intro w2 hSw; (try dsimp only at hSw); go_split_ands; go_simp; first | done | with_reducible rfl)
  try simp only [Act.put, List.setIfInBounds_toArray, List.set_cons_zero, List.set_cons_succ]
  refine wpAnyH_ready (rs := [7]) (by kernel_rfl) (by simp) ?_
  refine AllReadyH.cons (o := ⟨_, _, _, _, _, _⟩) rfl (fun K hK => ?_) AllReadyH.nil
  go_split_ands
  go_simp
  refine (C.out).mono ?_
  rintro e w1 ⟨rfl, hb1⟩
  obtain ⟨gc1, gf1, gz1⟩ := bkeep hb1 (w.heap.size + 1) (by first | (simp; done) | omega)
  have l1 : w.heap.size < w1.heap.size := by omega
  refine hK.out _ _ ?_ (fun hHeld => ?_)
  · refine ⟨?_, ?_, ?_, ?_, ?_, ?_, ?_, ?_, ?_, ?_, ?_, ?_, ?_, ?_, ?_, ?_⟩ <;> (rw [hb1.cell (by show ab < (World.alloc _ _).heap.size; simp; omega)]; assumption)
  clear hK K
  try simp only [Act.put, List.setIfInBounds_toArray, List.set_cons_zero, List.set_cons_succ]
  refine wpAnyH_ready (rs := [8]) (by kernel_rfl) (by simp) ?_
  refine AllReadyH.cons (o := ⟨_, _, _, _, _, _⟩) rfl (fun K hK => ?_) AllReadyH.nil
  go_split_ands
  go_simp
  refine hK.out _ _ ?_ (fun hHeld => ?_)
  · refine ⟨?_, ?_, ?_, ?_, ?_, ?_, ?_, ?_, ?_, ?_, ?_, ?_, ?_, ?_, ?_, ?_⟩ <;> (simp [go_sem, *]; done)
  clear hK K
  try simp only [Act.put, List.setIfInBounds_toArray, List.set_cons_zero, List.set_cons_succ]
  refine wpAnyH_done (by kernel_rfl) ?_ _
  refine NoPanic.normal ?_
  go_wp2
  refine bodyPost_ret (v := .agg #[.int .i64 ((cifL x0 x1.v)).t, .int .i64 ((cifL x0 x1.v)).n, .string ((cifL x0 x1.v)).s, .bool ((cifL x0 x1.v)).b, .int .i64 ((cifL x0 x1.v)).c]) ?_ rfl ⟨rfl, by (repeat (first | (with_reducible exact Below.refl _ _) | (with_reducible refine Below.alloc ?_ (by first | omega | (dsimp only; omega) | (simp <;> omega)) _) | (with_reducible refine Below.setCell ?_ (by first | omega | (dsimp only; omega) | (simp <;> omega)) _) | (with_reducible refine Below.drew ?_) | (with_reducible refine below_drewN ?_ _) | (with_reducible refine Below.trans ?_ (Below.mono (by assumption) (by first | omega | (dsimp only; omega) | (simp <;> omega))))))⟩
  simp [results, Tryz.results135, go_sem, cifL, numL, *]
set_option maxRecDepth 100000 in
set_option maxHeartbeats 2000000 in
theorem arowsf_any (x0 : AL) (hm : mayRectB x0.t x0.l x0.b x0.r = true) (text : Int) (w : World) (A : Option Addr) (cap : Nat) (hR : RdB w w.heap.size A 11 ([x0].map AL.cs)) (hin : ∀ x ∈ [x0], x.In w w.heap.size) : Calls Tryz.prog 141 #[.slice A 1 cap, .int .i64 text] w fun e w' => e = .returned (.agg #[.int .i64 ((numL (rowsL x0 * 10000))).t, .int .i64 ((numL (rowsL x0 * 10000))).n, .string ((numL (rowsL x0 * 10000))).s, .bool ((numL (rowsL x0 * 10000))).b, .int .i64 ((numL (rowsL x0 * 10000))).c]) ∧ Below w.heap.size w w' := by
  have b0 : Below w.heap.size w (w.alloc (.cells #[.int .i64 0, .int .i64 0, .string ⟨#[]⟩, .bool false, .int .i64 0] 26)) := (Below.refl _ _).alloc (Nat.le_refl _) _
  obtain ⟨ab, ao, hA2, hab, hcell⟩ := hR 0 x0.cs rfl
  obtain rfl : A = some ⟨ab, ao, none⟩ := hA2
  have hc0 : w.cell? ⟨ab, ao, none⟩ = some (.bool x0.many) := by have h9 := hcell 0 _ rfl; simpa using h9
  have hc1 : w.cell? ⟨ab, ao + 1, none⟩ = some (.int .i64 x0.v.t) := by have h9 := hcell 1 _ rfl; simpa using h9
  have hc2 : w.cell? ⟨ab, ao + 2, none⟩ = some (.int .i64 x0.v.n) := by have h9 := hcell 2 _ rfl; simpa using h9
  have hc3 : w.cell? ⟨ab, ao + 3, none⟩ = some (.string x0.v.s) := by have h9 := hcell 3 _ rfl; simpa using h9
  have hc4 : w.cell? ⟨ab, ao + 4, none⟩ = some (.bool x0.v.b) := by have h9 := hcell 4 _ rfl; simpa using h9
  have hc5 : w.cell? ⟨ab, ao + 5, none⟩ = some (.int .i64 x0.v.c) := by have h9 := hcell 5 _ rfl; simpa using h9
  have hc6 : w.cell? ⟨ab, ao + 6, none⟩ = some (.int .i64 x0.t) := by have h9 := hcell 6 _ rfl; simpa using h9
  have hc7 : w.cell? ⟨ab, ao + 7, none⟩ = some (.int .i64 x0.l) := by have h9 := hcell 7 _ rfl; simpa using h9
  have hc8 : w.cell? ⟨ab, ao + 8, none⟩ = some (.int .i64 x0.b) := by have h9 := hcell 8 _ rfl; simpa using h9
  have hc9 : w.cell? ⟨ab, ao + 9, none⟩ = some (.int .i64 x0.r) := by have h9 := hcell 9 _ rfl; simpa using h9
  have hc10 : w.cell? ⟨ab, ao + 10, none⟩ = some (.slice x0.A x0.es.length x0.cap) := by have h9 := hcell 10 _ rfl; simpa using h9
  have hne : ab ≠ w.heap.size := by omega
  have hin0 : x0.In (w.alloc (.cells #[.int .i64 0, .int .i64 0, .string ⟨#[]⟩, .bool false, .int .i64 0] 26)) (w.alloc (.cells #[.int .i64 0, .int .i64 0, .string ⟨#[]⟩, .bool false, .int .i64 0] 26)).heap.size := ((hin x0 (by simp)).below b0).mono b0.size
  obtain ⟨q1, q2, q3, q4, q5, q6⟩ := rect_in hm
  obtain ⟨n, hn⟩ : ∃ n, rowsL x0 = n := ⟨_, rfl⟩
  have hnb : -900000000000000 ≤ n ∧ n ≤ 900000000000000 := by unfold rowsL at hn; omega
  have C := arows_any x0 hm (w.alloc (.cells #[.int .i64 0, .int .i64 0, .string ⟨#[]⟩, .bool false, .int .i64 0] 26))
  rw [hn] at C
  have C := Lib.hid C
  rw [hn]
  clear hn
  clear hcell hR hin hin0
  go_enter Tryz.func141, Tryz.ntmps141
  go_wp2_with fail
  refine (C.out).mono ?_
  rintro e w1 ⟨rfl, hb1⟩
  obtain ⟨gc1, gf1, gz1⟩ := bkeep hb1 (w.heap.size + 1) (by first | (simp; done) | omega)
  have l1 : w.heap.size < w1.heap.size := by omega
  go_wp2_with fail
  refine (awhole_any n hnb _).mono ?_
  rintro e w2 ⟨rfl, hb2⟩
  obtain ⟨gc2, gf2, gz2⟩ := bkeep hb2 (w.heap.size + 1) (by first | (simp; done) | omega)
  have l2 : w.heap.size < w2.heap.size := by omega
  go_wp2
  refine bodyPost_ret (v := .agg #[.int .i64 ((numL (n * 10000))).t, .int .i64 ((numL (n * 10000))).n, .string ((numL (n * 10000))).s, .bool ((numL (n * 10000))).b, .int .i64 ((numL (n * 10000))).c]) ?_ rfl ⟨rfl, by (repeat (first | (with_reducible exact Below.refl _ _) | (with_reducible refine Below.alloc ?_ (by first | omega | (dsimp only; omega) | (simp <;> omega)) _) | (with_reducible refine Below.setCell ?_ (by first | omega | (dsimp only; omega) | (simp <;> omega)) _) | (with_reducible refine Below.drew ?_) | (with_reducible refine below_drewN ?_ _) | (with_reducible refine Below.trans ?_ (Below.mono (by assumption) (by first | omega | (dsimp only; omega) | (simp <;> omega))))))⟩
  simp [results, Tryz.results141, go_sem, numL, *]
set_option maxRecDepth 100000 in
set_option maxHeartbeats 2000000 in
theorem acolsf_any (x0 : AL) (hm : mayRectB x0.t x0.l x0.b x0.r = true) (text : Int) (w : World) (A : Option Addr) (cap : Nat) (hR : RdB w w.heap.size A 11 ([x0].map AL.cs)) (hin : ∀ x ∈ [x0], x.In w w.heap.size) : Calls Tryz.prog 144 #[.slice A 1 cap, .int .i64 text] w fun e w' => e = .returned (.agg #[.int .i64 ((numL (colsL x0 * 10000))).t, .int .i64 ((numL (colsL x0 * 10000))).n, .string ((numL (colsL x0 * 10000))).s, .bool ((numL (colsL x0 * 10000))).b, .int .i64 ((numL (colsL x0 * 10000))).c]) ∧ Below w.heap.size w w' := by
  have b0 : Below w.heap.size w (w.alloc (.cells #[.int .i64 0, .int .i64 0, .string ⟨#[]⟩, .bool false, .int .i64 0] 26)) := (Below.refl _ _).alloc (Nat.le_refl _) _
  obtain ⟨ab, ao, hA2, hab, hcell⟩ := hR 0 x0.cs rfl
  obtain rfl : A = some ⟨ab, ao, none⟩ := hA2
  have hc0 : w.cell? ⟨ab, ao, none⟩ = some (.bool x0.many) := by have h9 := hcell 0 _ rfl; simpa using h9
  have hc1 : w.cell? ⟨ab, ao + 1, none⟩ = some (.int .i64 x0.v.t) := by have h9 := hcell 1 _ rfl; simpa using h9
  have hc2 : w.cell? ⟨ab, ao + 2, none⟩ = some (.int .i64 x0.v.n) := by have h9 := hcell 2 _ rfl; simpa using h9
  have hc3 : w.cell? ⟨ab, ao + 3, none⟩ = some (.string x0.v.s) := by have h9 := hcell 3 _ rfl; simpa using h9
  have hc4 : w.cell? ⟨ab, ao + 4, none⟩ = some (.bool x0.v.b) := by have h9 := hcell 4 _ rfl; simpa using h9
  have hc5 : w.cell? ⟨ab, ao + 5, none⟩ = some (.int .i64 x0.v.c) := by have h9 := hcell 5 _ rfl; simpa using h9
  have hc6 : w.cell? ⟨ab, ao + 6, none⟩ = some (.int .i64 x0.t) := by have h9 := hcell 6 _ rfl; simpa using h9
  have hc7 : w.cell? ⟨ab, ao + 7, none⟩ = some (.int .i64 x0.l) := by have h9 := hcell 7 _ rfl; simpa using h9
  have hc8 : w.cell? ⟨ab, ao + 8, none⟩ = some (.int .i64 x0.b) := by have h9 := hcell 8 _ rfl; simpa using h9
  have hc9 : w.cell? ⟨ab, ao + 9, none⟩ = some (.int .i64 x0.r) := by have h9 := hcell 9 _ rfl; simpa using h9
  have hc10 : w.cell? ⟨ab, ao + 10, none⟩ = some (.slice x0.A x0.es.length x0.cap) := by have h9 := hcell 10 _ rfl; simpa using h9
  have hne : ab ≠ w.heap.size := by omega
  have hin0 : x0.In (w.alloc (.cells #[.int .i64 0, .int .i64 0, .string ⟨#[]⟩, .bool false, .int .i64 0] 26)) (w.alloc (.cells #[.int .i64 0, .int .i64 0, .string ⟨#[]⟩, .bool false, .int .i64 0] 26)).heap.size := ((hin x0 (by simp)).below b0).mono b0.size
  obtain ⟨q1, q2, q3, q4, q5, q6⟩ := rect_in hm
  obtain ⟨n, hn⟩ : ∃ n, colsL x0 = n := ⟨_, rfl⟩
  have hnb : -900000000000000 ≤ n ∧ n ≤ 900000000000000 := by unfold colsL at hn; omega
  have C := acols_any x0 hm (w.alloc (.cells #[.int .i64 0, .int .i64 0, .string ⟨#[]⟩, .bool false, .int .i64 0] 26))
  rw [hn] at C
  have C := Lib.hid C
  rw [hn]
  clear hn
  clear hcell hR hin hin0
  go_enter Tryz.func144, Tryz.ntmps144
  go_wp2_with fail
  refine (C.out).mono ?_
  rintro e w1 ⟨rfl, hb1⟩
  obtain ⟨gc1, gf1, gz1⟩ := bkeep hb1 (w.heap.size + 1) (by first | (simp; done) | omega)
  have l1 : w.heap.size < w1.heap.size := by omega
  go_wp2_with fail
  refine (awhole_any n hnb _).mono ?_
  rintro e w2 ⟨rfl, hb2⟩
  obtain ⟨gc2, gf2, gz2⟩ := bkeep hb2 (w.heap.size + 1) (by first | (simp; done) | omega)
  have l2 : w.heap.size < w2.heap.size := by omega
  go_wp2
  refine bodyPost_ret (v := .agg #[.int .i64 ((numL (n * 10000))).t, .int .i64 ((numL (n * 10000))).n, .string ((numL (n * 10000))).s, .bool ((numL (n * 10000))).b, .int .i64 ((numL (n * 10000))).c]) ?_ rfl ⟨rfl, by (repeat (first | (with_reducible exact Below.refl _ _) | (with_reducible refine Below.alloc ?_ (by first | omega | (dsimp only; omega) | (simp <;> omega)) _) | (with_reducible refine Below.setCell ?_ (by first | omega | (dsimp only; omega) | (simp <;> omega)) _) | (with_reducible refine Below.drew ?_) | (with_reducible refine below_drewN ?_ _) | (with_reducible refine Below.trans ?_ (Below.mono (by assumption) (by first | omega | (dsimp only; omega) | (simp <;> omega))))))⟩
  simp [results, Tryz.results144, go_sem, numL, *]
end Go.Proofs.YtaomlgpakbjegaaGreatDoor
