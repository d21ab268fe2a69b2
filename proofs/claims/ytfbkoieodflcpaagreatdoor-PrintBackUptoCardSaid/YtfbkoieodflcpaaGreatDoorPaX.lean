/-
  parse: the reader's step.
-/
import Derived.Test.YtfbkoieodflcpaaGreatDoorMg3
import Derived.Test.YtfbkoieodflcpaaGreatDoorRows
import Derived.Test.YtfbkoieodflcpaaGreatDoorMg0
import Derived.Test.YtfbkoieodflcpaaGreatDoorProg
import Derived.Test.YtfbkoieodflcpaaGreatDoorShelf
import Derived.Test.YtfbkoieodflcpaaGreatDoorMg4
import Derived.Test.YtfbkoieodflcpaaGreatDoorAddrC
import Derived.Test.YtfbkoieodflcpaaGreatDoorMg6
import Derived.Test.YtfbkoieodflcpaaGreatDoorValA
import Derived.Test.YtfbkoieodflcpaaGreatDoorValB
import Derived.Test.YtfbkoieodflcpaaGreatDoorMg9
import Derived.Test.YtfbkoieodflcpaaGreatDoorMg10
import Derived.Test.YtfbkoieodflcpaaGreatDoorPaP
import Derived.Test.YtfbkoieodflcpaaGreatDoorPaF
import Derived.Test.YtfbkoieodflcpaaGreatDoorPaW
import Derived.BigRegion
import Derived.WalkSpells
import Derived.WalkLawsBesides
import Derived.StillTactics
import Derived.Laws.Pointers
import Derived.Deep.RegionHeld3
import Derived.Deep.QuietTactic
import Derived.BigQuiet
import Derived.RowKit3
import Derived.Lib.Hide
import Derived.Lib.OthersKept
import Derived.OwnWalk
import Derived.Lib.IndexLaws
import Derived.Lib.ItoaMem
import Derived.Lib.TrimByte
import Derived.Lib.SlTrimSet
import Derived.Lib.ParseIntB
import Derived.WalkKit
import Derived.ProofKit
import Derived.OpenShut
import Derived.Carry
import Derived.ChangeSame
import Derived.Deep.Draws
import Derived.Shelf.Strings.Builder1
import Derived.Shelf.Strings.Builder2
import Derived.Shelf.Strings.Trim
import Derived.Shelf.Small.Utf8
import Derived.Shelf.Small.Strs
import Derived.Shelf.Small.Wraps
import Derived.Shelf.Strings.BuilderF
import Derived.Shelf.Strings.BuilderK
import Derived.Shelf.Utf8.RuneCount
import Derived.Shelf.Strconv.Itoa0
import Derived.Shelf.Strconv.Itoa1
import Derived.Shelf.LaysM
import Derived.Shelf.Strconv.Itoa2
import Derived.Shelf.Strconv.Itoa3
import Derived.Ground.MpProg
import Derived.Shelf.Pu.ParseUintPublic10
import Derived.Shelf.Strings.Search1
import Derived.Shelf.Strings.Search2
import Derived.Shelf.Strings.Search3
import Derived.Shelf.Strings.Cut
import Derived.Shelf.Strings.Count
import Derived.Shelf.Strings.Shaped
import Derived.Shelf.Strings.Prefix
import Derived.Shelf.Strings.Split
import Derived.Shelf.Strings.Replace
import Derived.Shelf.Strings.SplitShaped
import Derived.Shelf.Unicode.Decode
import Derived.Shelf.Strings.Runes
import Derived.Shelf.Strings.RuneCount
import Derived.Shelf.Strings.AsciiSet
import Derived.Shelf.Unicode.DecodeSlow
import Derived.Shelf.Unicode.DecodeAny
import Derived.Shelf.Unicode.DecodeLast
import Derived.Lib.ItoaNum
import Derived.Maps.OwnSet
import Derived.Maps.AppendAt
namespace Go.Proofs.YtfbkoieodflcpaaGreatDoor
open Go.RowKit

theorem KeepR.only {R : Nat} {w w' : World} (hb : Below R w w') (ho : ∀ k, k ≠ R → w'.heap[k]? = w.heap[k]?) (hn : nown w' R = nown w R) : KeepR R w w' :=
  ⟨hb, .inl hn, fun k _ _ _ hk hne _ => (ho k hne).trans hk⟩
theorem own_only {w w' : World} {B size n : Nat} {e : TypeId} {v : Value} {xs : List Value} (h : w.ownsRow B e size v n xs) (ho : ∀ k, B ≤ k → w'.heap[k]? = w.heap[k]?) : w'.ownsRow B e size v n xs := by
  obtain ⟨h1, h2⟩ := h
  rcases h2 with ⟨h2, h3⟩ | ⟨g, cap, cur, hv, hB, hh, hr⟩
  · exact ⟨h1, .inl ⟨h2, h3⟩⟩
  · exact ⟨h1, .inr ⟨g, cap, cur, hv, hB, by rw [ho g hB]; exact hh, hr⟩⟩
theorem drew_heap (w : World) : w.drew.heap = w.heap := rfl
theorem set_other {w : World} {R i k : Nat} {v : Value} (hk : k ≠ R) : (w.setCell ⟨R, i, none⟩ v).heap[k]? = w.heap[k]? := Below.heap_setCell _ _ _ _ hk
theorem set15_0 {w : World} {R : Nat} {v0 v1 v2 v3 v4 v5 v6 v7 v8 v9 v10 v11 v12 v13 v14 a : Value} {T : TypeId} {fr : Nat × Nat} (h : w.heap[R]? = some (.cells #[v0, v1, v2, v3, v4, v5, v6, v7, v8, v9, v10, v11, v12, v13, v14] T fr)) : (w.setCell ⟨R, 0, none⟩ a).heap[R]? = some (.cells #[a, v1, v2, v3, v4, v5, v6, v7, v8, v9, v10, v11, v12, v13, v14] T fr) := set_block (i := 0) h a
theorem set15_1 {w : World} {R : Nat} {v0 v1 v2 v3 v4 v5 v6 v7 v8 v9 v10 v11 v12 v13 v14 a : Value} {T : TypeId} {fr : Nat × Nat} (h : w.heap[R]? = some (.cells #[v0, v1, v2, v3, v4, v5, v6, v7, v8, v9, v10, v11, v12, v13, v14] T fr)) : (w.setCell ⟨R, 1, none⟩ a).heap[R]? = some (.cells #[v0, a, v2, v3, v4, v5, v6, v7, v8, v9, v10, v11, v12, v13, v14] T fr) := set_block (i := 1) h a
theorem set15_2 {w : World} {R : Nat} {v0 v1 v2 v3 v4 v5 v6 v7 v8 v9 v10 v11 v12 v13 v14 a : Value} {T : TypeId} {fr : Nat × Nat} (h : w.heap[R]? = some (.cells #[v0, v1, v2, v3, v4, v5, v6, v7, v8, v9, v10, v11, v12, v13, v14] T fr)) : (w.setCell ⟨R, 2, none⟩ a).heap[R]? = some (.cells #[v0, v1, a, v3, v4, v5, v6, v7, v8, v9, v10, v11, v12, v13, v14] T fr) := set_block (i := 2) h a
theorem set15_3 {w : World} {R : Nat} {v0 v1 v2 v3 v4 v5 v6 v7 v8 v9 v10 v11 v12 v13 v14 a : Value} {T : TypeId} {fr : Nat × Nat} (h : w.heap[R]? = some (.cells #[v0, v1, v2, v3, v4, v5, v6, v7, v8, v9, v10, v11, v12, v13, v14] T fr)) : (w.setCell ⟨R, 3, none⟩ a).heap[R]? = some (.cells #[v0, v1, v2, a, v4, v5, v6, v7, v8, v9, v10, v11, v12, v13, v14] T fr) := set_block (i := 3) h a
theorem set15_4 {w : World} {R : Nat} {v0 v1 v2 v3 v4 v5 v6 v7 v8 v9 v10 v11 v12 v13 v14 a : Value} {T : TypeId} {fr : Nat × Nat} (h : w.heap[R]? = some (.cells #[v0, v1, v2, v3, v4, v5, v6, v7, v8, v9, v10, v11, v12, v13, v14] T fr)) : (w.setCell ⟨R, 4, none⟩ a).heap[R]? = some (.cells #[v0, v1, v2, v3, a, v5, v6, v7, v8, v9, v10, v11, v12, v13, v14] T fr) := set_block (i := 4) h a
theorem set15_5 {w : World} {R : Nat} {v0 v1 v2 v3 v4 v5 v6 v7 v8 v9 v10 v11 v12 v13 v14 a : Value} {T : TypeId} {fr : Nat × Nat} (h : w.heap[R]? = some (.cells #[v0, v1, v2, v3, v4, v5, v6, v7, v8, v9, v10, v11, v12, v13, v14] T fr)) : (w.setCell ⟨R, 5, none⟩ a).heap[R]? = some (.cells #[v0, v1, v2, v3, v4, a, v6, v7, v8, v9, v10, v11, v12, v13, v14] T fr) := set_block (i := 5) h a
theorem set15_6 {w : World} {R : Nat} {v0 v1 v2 v3 v4 v5 v6 v7 v8 v9 v10 v11 v12 v13 v14 a : Value} {T : TypeId} {fr : Nat × Nat} (h : w.heap[R]? = some (.cells #[v0, v1, v2, v3, v4, v5, v6, v7, v8, v9, v10, v11, v12, v13, v14] T fr)) : (w.setCell ⟨R, 6, none⟩ a).heap[R]? = some (.cells #[v0, v1, v2, v3, v4, v5, a, v7, v8, v9, v10, v11, v12, v13, v14] T fr) := set_block (i := 6) h a
theorem set15_7 {w : World} {R : Nat} {v0 v1 v2 v3 v4 v5 v6 v7 v8 v9 v10 v11 v12 v13 v14 a : Value} {T : TypeId} {fr : Nat × Nat} (h : w.heap[R]? = some (.cells #[v0, v1, v2, v3, v4, v5, v6, v7, v8, v9, v10, v11, v12, v13, v14] T fr)) : (w.setCell ⟨R, 7, none⟩ a).heap[R]? = some (.cells #[v0, v1, v2, v3, v4, v5, v6, a, v8, v9, v10, v11, v12, v13, v14] T fr) := set_block (i := 7) h a
theorem set15_8 {w : World} {R : Nat} {v0 v1 v2 v3 v4 v5 v6 v7 v8 v9 v10 v11 v12 v13 v14 a : Value} {T : TypeId} {fr : Nat × Nat} (h : w.heap[R]? = some (.cells #[v0, v1, v2, v3, v4, v5, v6, v7, v8, v9, v10, v11, v12, v13, v14] T fr)) : (w.setCell ⟨R, 8, none⟩ a).heap[R]? = some (.cells #[v0, v1, v2, v3, v4, v5, v6, v7, a, v9, v10, v11, v12, v13, v14] T fr) := set_block (i := 8) h a
theorem set15_9 {w : World} {R : Nat} {v0 v1 v2 v3 v4 v5 v6 v7 v8 v9 v10 v11 v12 v13 v14 a : Value} {T : TypeId} {fr : Nat × Nat} (h : w.heap[R]? = some (.cells #[v0, v1, v2, v3, v4, v5, v6, v7, v8, v9, v10, v11, v12, v13, v14] T fr)) : (w.setCell ⟨R, 9, none⟩ a).heap[R]? = some (.cells #[v0, v1, v2, v3, v4, v5, v6, v7, v8, a, v10, v11, v12, v13, v14] T fr) := set_block (i := 9) h a
theorem set15_10 {w : World} {R : Nat} {v0 v1 v2 v3 v4 v5 v6 v7 v8 v9 v10 v11 v12 v13 v14 a : Value} {T : TypeId} {fr : Nat × Nat} (h : w.heap[R]? = some (.cells #[v0, v1, v2, v3, v4, v5, v6, v7, v8, v9, v10, v11, v12, v13, v14] T fr)) : (w.setCell ⟨R, 10, none⟩ a).heap[R]? = some (.cells #[v0, v1, v2, v3, v4, v5, v6, v7, v8, v9, a, v11, v12, v13, v14] T fr) := set_block (i := 10) h a
theorem set15_11 {w : World} {R : Nat} {v0 v1 v2 v3 v4 v5 v6 v7 v8 v9 v10 v11 v12 v13 v14 a : Value} {T : TypeId} {fr : Nat × Nat} (h : w.heap[R]? = some (.cells #[v0, v1, v2, v3, v4, v5, v6, v7, v8, v9, v10, v11, v12, v13, v14] T fr)) : (w.setCell ⟨R, 11, none⟩ a).heap[R]? = some (.cells #[v0, v1, v2, v3, v4, v5, v6, v7, v8, v9, v10, a, v12, v13, v14] T fr) := set_block (i := 11) h a
theorem set15_13 {w : World} {R : Nat} {v0 v1 v2 v3 v4 v5 v6 v7 v8 v9 v10 v11 v12 v13 v14 a : Value} {T : TypeId} {fr : Nat × Nat} (h : w.heap[R]? = some (.cells #[v0, v1, v2, v3, v4, v5, v6, v7, v8, v9, v10, v11, v12, v13, v14] T fr)) : (w.setCell ⟨R, 13, none⟩ a).heap[R]? = some (.cells #[v0, v1, v2, v3, v4, v5, v6, v7, v8, v9, v10, v11, v12, a, v14] T fr) := set_block (i := 13) h a
theorem set15_14 {w : World} {R : Nat} {v0 v1 v2 v3 v4 v5 v6 v7 v8 v9 v10 v11 v12 v13 v14 a : Value} {T : TypeId} {fr : Nat × Nat} (h : w.heap[R]? = some (.cells #[v0, v1, v2, v3, v4, v5, v6, v7, v8, v9, v10, v11, v12, v13, v14] T fr)) : (w.setCell ⟨R, 14, none⟩ a).heap[R]? = some (.cells #[v0, v1, v2, v3, v4, v5, v6, v7, v8, v9, v10, v11, v12, v13, a] T fr) := set_block (i := 14) h a
theorem step_blk {w : World} {R : Nat} {v0 v1 v2 v3 v4 v5 v6 v7 v8 v9 v10 v11 v12 v13 v14 a0 a1 a2 a3 a4 a5 a6 a7 a8 a9 a10 a11 : Value} (h : w.heap[R]? = some (.cells #[v0, v1, v2, v3, v4, v5, v6, v7, v8, v9, v10, v11, v12, v13, v14] 82 (0, 0))) : (((((((((((((w.setCell ⟨R, 1, none⟩ a1).setCell ⟨R, 2, none⟩ a2).setCell ⟨R, 3, none⟩ a3).setCell ⟨R, 4, none⟩ a4).setCell ⟨R, 5, none⟩ a5).setCell ⟨R, 6, none⟩ a6).setCell ⟨R, 7, none⟩ a7).setCell ⟨R, 8, none⟩ a8).setCell ⟨R, 9, none⟩ a9).setCell ⟨R, 10, none⟩ a10).setCell ⟨R, 11, none⟩ a11).setCell ⟨R, 0, none⟩ a0).drew).heap[R]? = some (.cells #[a0, a1, a2, a3, a4, a5, a6, a7, a8, a9, a10, a11, v12, v13, v14] 82 (0, 0)) := by
  rw [drew_heap]
  exact set15_0 (set15_11 (set15_10 (set15_9 (set15_8 (set15_7 (set15_6 (set15_5 (set15_4 (set15_3 (set15_2 (set15_1 (h))))))))))))
theorem step_other {w : World} {R : Nat} {a0 a1 a2 a3 a4 a5 a6 a7 a8 a9 a10 a11 : Value} (k : Nat) (hk : k ≠ R) : (((((((((((((w.setCell ⟨R, 1, none⟩ a1).setCell ⟨R, 2, none⟩ a2).setCell ⟨R, 3, none⟩ a3).setCell ⟨R, 4, none⟩ a4).setCell ⟨R, 5, none⟩ a5).setCell ⟨R, 6, none⟩ a6).setCell ⟨R, 7, none⟩ a7).setCell ⟨R, 8, none⟩ a8).setCell ⟨R, 9, none⟩ a9).setCell ⟨R, 10, none⟩ a10).setCell ⟨R, 11, none⟩ a11).setCell ⟨R, 0, none⟩ a0).drew).heap[k]? = w.heap[k]? := by
  simp only [drew_heap, set_other hk]
theorem step_below {w : World} {R : Nat} {a0 a1 a2 a3 a4 a5 a6 a7 a8 a9 a10 a11 : Value} : Below R w (((((((((((((w.setCell ⟨R, 1, none⟩ a1).setCell ⟨R, 2, none⟩ a2).setCell ⟨R, 3, none⟩ a3).setCell ⟨R, 4, none⟩ a4).setCell ⟨R, 5, none⟩ a5).setCell ⟨R, 6, none⟩ a6).setCell ⟨R, 7, none⟩ a7).setCell ⟨R, 8, none⟩ a8).setCell ⟨R, 9, none⟩ a9).setCell ⟨R, 10, none⟩ a10).setCell ⟨R, 11, none⟩ a11).setCell ⟨R, 0, none⟩ a0).drew) :=
  Below.drew (Below.setCell (p := ⟨R, 0, none⟩) (Below.setCell (p := ⟨R, 11, none⟩) (Below.setCell (p := ⟨R, 10, none⟩) (Below.setCell (p := ⟨R, 9, none⟩) (Below.setCell (p := ⟨R, 8, none⟩) (Below.setCell (p := ⟨R, 7, none⟩) (Below.setCell (p := ⟨R, 6, none⟩) (Below.setCell (p := ⟨R, 5, none⟩) (Below.setCell (p := ⟨R, 4, none⟩) (Below.setCell (p := ⟨R, 3, none⟩) (Below.setCell (p := ⟨R, 2, none⟩) (Below.setCell (p := ⟨R, 1, none⟩) (Below.refl _ _) (Nat.le_refl _) _) (Nat.le_refl _) _) (Nat.le_refl _) _) (Nat.le_refl _) _) (Nat.le_refl _) _) (Nat.le_refl _) _) (Nat.le_refl _) _) (Nat.le_refl _) _) (Nat.le_refl _) _) (Nat.le_refl _) _) (Nat.le_refl _) _) (Nat.le_refl _) _)
theorem step_blk_of {R n n' cap : Nat} {w : World} {A : Option Addr} {x y : Tok} {tv N : Value} {o o' : Int} (h : w.heap[R]? = some (.cells #[.slice A n cap, .int .i64 x.kind, .int .i64 x.place, .int .i64 x.num, .string x.str, .int .i64 x.r, .int .i64 x.c, .int .i64 x.t, .int .i64 x.l, .int .i64 x.b, .int .i64 x.q, .int .i64 x.code, tv, .int .i64 o, N] 82 (0, 0))) (e : n = n' ∧ x = y ∧ o = o') : w.heap[R]? = some (.cells #[.slice A n' cap, .int .i64 y.kind, .int .i64 y.place, .int .i64 y.num, .string y.str, .int .i64 y.r, .int .i64 y.c, .int .i64 y.t, .int .i64 y.l, .int .i64 y.b, .int .i64 y.q, .int .i64 y.code, tv, .int .i64 o', N] 82 (0, 0)) := by
  obtain ⟨rfl, rfl, rfl⟩ := e
  exact h
set_option maxHeartbeats 1000000 in
theorem pstep1 (tv : TV) (R : Nat) (s : PS) (x : Tok) (r : List Tok) (hr : s.rest = x :: r) (b o : Nat) (cap : Nat) (N : Value) (hcap : ¬ cap = 1) (w : World) (h : RS tv R w s (some ⟨b, o, none⟩) cap N) : Calls Tryz.prog 24 #[.pointer (some ⟨R, 0, none⟩)] w fun e w' => e = .returned (.tuple #[]) ∧ RSt tv R w' s.step ∧ KeepR R w w' := by
  have hcl := h.blk
  have hwf := h.wf
  rw [hr] at hcl
  have hroom := h.room
  rw [hr] at hroom
  have hlen : (x :: r).length = r.length + 1 := rfl
  rw [hlen] at hroom hcl
  have c0 : w.cell? ⟨R, 0, none⟩ = some (.slice (some ⟨b, o, none⟩) (r.length + 1) cap) := by rw [cell_of_row w R 0 _ _ _ hcl]; rfl
  have c1 : w.cell? ⟨R, 1, none⟩ = some (.int .i64 s.now.kind) := by rw [cell_of_row w R 1 _ _ _ h.blk]; rfl
  have c2 : w.cell? ⟨R, 2, none⟩ = some (.int .i64 s.now.place) := by rw [cell_of_row w R 2 _ _ _ h.blk]; rfl
  have c3 : w.cell? ⟨R, 3, none⟩ = some (.int .i64 s.now.num) := by rw [cell_of_row w R 3 _ _ _ h.blk]; rfl
  have c4 : w.cell? ⟨R, 4, none⟩ = some (.string s.now.str) := by rw [cell_of_row w R 4 _ _ _ h.blk]; rfl
  have c5 : w.cell? ⟨R, 5, none⟩ = some (.int .i64 s.now.r) := by rw [cell_of_row w R 5 _ _ _ h.blk]; rfl
  have c6 : w.cell? ⟨R, 6, none⟩ = some (.int .i64 s.now.c) := by rw [cell_of_row w R 6 _ _ _ h.blk]; rfl
  have c7 : w.cell? ⟨R, 7, none⟩ = some (.int .i64 s.now.t) := by rw [cell_of_row w R 7 _ _ _ h.blk]; rfl
  have c8 : w.cell? ⟨R, 8, none⟩ = some (.int .i64 s.now.l) := by rw [cell_of_row w R 8 _ _ _ h.blk]; rfl
  have c9 : w.cell? ⟨R, 9, none⟩ = some (.int .i64 s.now.b) := by rw [cell_of_row w R 9 _ _ _ h.blk]; rfl
  have c10 : w.cell? ⟨R, 10, none⟩ = some (.int .i64 s.now.q) := by rw [cell_of_row w R 10 _ _ _ h.blk]; rfl
  have c11 : w.cell? ⟨R, 11, none⟩ = some (.int .i64 s.now.code) := by rw [cell_of_row w R 11 _ _ _ h.blk]; rfl
  have hfz : ∀ i : Nat, w.frozen? ⟨R, i, none⟩ = false := fun i => by simp [World.frozen?, h.blk]
  have f0 : w.frozen? ⟨R, 0, none⟩ = false := hfz 0
  have f1 : w.frozen? ⟨R, 1, none⟩ = false := hfz 1
  have f2 : w.frozen? ⟨R, 2, none⟩ = false := hfz 2
  have f3 : w.frozen? ⟨R, 3, none⟩ = false := hfz 3
  have f4 : w.frozen? ⟨R, 4, none⟩ = false := hfz 4
  have f5 : w.frozen? ⟨R, 5, none⟩ = false := hfz 5
  have f6 : w.frozen? ⟨R, 6, none⟩ = false := hfz 6
  have f7 : w.frozen? ⟨R, 7, none⟩ = false := hfz 7
  have f8 : w.frozen? ⟨R, 8, none⟩ = false := hfz 8
  have f9 : w.frozen? ⟨R, 9, none⟩ = false := hfz 9
  have f10 : w.frozen? ⟨R, 10, none⟩ = false := hfz 10
  have f11 : w.frozen? ⟨R, 11, none⟩ = false := hfz 11
  have hrd := h.rest
  rw [hr] at hrd
  obtain ⟨b', o', e, hb, hc⟩ := hrd 0 x.cs rfl
  injection e with e
  injection e with e1 e2 _
  subst e1 e2
  simp only [Nat.zero_mul, Nat.add_zero] at hc
  have t0 : w.cell? ⟨b, o, none⟩ = some (.int .i64 x.kind) := hc 0 _ rfl
  have t1 : w.cell? ⟨b, o + 1, none⟩ = some (.int .i64 x.place) := hc 1 _ rfl
  have t2 : w.cell? ⟨b, o + 2, none⟩ = some (.int .i64 x.num) := hc 2 _ rfl
  have t3 : w.cell? ⟨b, o + 3, none⟩ = some (.string x.str) := hc 3 _ rfl
  have t4 : w.cell? ⟨b, o + 4, none⟩ = some (.int .i64 x.r) := hc 4 _ rfl
  have t5 : w.cell? ⟨b, o + 5, none⟩ = some (.int .i64 x.c) := hc 5 _ rfl
  have t6 : w.cell? ⟨b, o + 6, none⟩ = some (.int .i64 x.t) := hc 6 _ rfl
  have t7 : w.cell? ⟨b, o + 7, none⟩ = some (.int .i64 x.l) := hc 7 _ rfl
  have t8 : w.cell? ⟨b, o + 8, none⟩ = some (.int .i64 x.b) := hc 8 _ rfl
  have t9 : w.cell? ⟨b, o + 9, none⟩ = some (.int .i64 x.q) := hc 9 _ rfl
  have t10 : w.cell? ⟨b, o + 10, none⟩ = some (.int .i64 x.code) := hc 10 _ rfl
  have hne : b ≠ R := by omega
  have key : RSt tv R (((((((((((((w.setCell ⟨R, 1, none⟩ (.int .i64 x.kind)).setCell ⟨R, 2, none⟩ (.int .i64 x.place)).setCell ⟨R, 3, none⟩ (.int .i64 x.num)).setCell ⟨R, 4, none⟩ (.string x.str)).setCell ⟨R, 5, none⟩ (.int .i64 x.r)).setCell ⟨R, 6, none⟩ (.int .i64 x.c)).setCell ⟨R, 7, none⟩ (.int .i64 x.t)).setCell ⟨R, 8, none⟩ (.int .i64 x.l)).setCell ⟨R, 9, none⟩ (.int .i64 x.b)).setCell ⟨R, 10, none⟩ (.int .i64 x.q)).setCell ⟨R, 11, none⟩ (.int .i64 x.code)).setCell ⟨R, 0, none⟩ (.slice (some ⟨b, o + 11, none⟩) r.length (cap - 1))).drew) s.step := by
    have es : s.step = { s with now := x, rest := r } := by unfold PS.step; rw [hr]
    refine ⟨some ⟨b, o + 11, none⟩, cap - 1, N, step_blk_of (step_blk hcl) (by rw [es]; exact ⟨rfl, rfl, rfl⟩), ?_, ?_, ?_, by rw [PS.step_opn]; exact h.o1, by rw [PS.step_opn]; exact h.o2, by rw [PS.step_nodes]; exact h.nl, Nat.le_trans (PS.step_le s) h.rl, PS.wf_step hwf, h.tab.below step_below⟩
    · rw [es]; exact (rdb_tail hrd).below step_below
    · rw [es]; show r.length ≤ _; omega
    · rw [PS.step_nodes]; exact own_only h.nodes fun k hk => step_other k (by omega)
  have hkp : KeepR R w (((((((((((((w.setCell ⟨R, 1, none⟩ (.int .i64 x.kind)).setCell ⟨R, 2, none⟩ (.int .i64 x.place)).setCell ⟨R, 3, none⟩ (.int .i64 x.num)).setCell ⟨R, 4, none⟩ (.string x.str)).setCell ⟨R, 5, none⟩ (.int .i64 x.r)).setCell ⟨R, 6, none⟩ (.int .i64 x.c)).setCell ⟨R, 7, none⟩ (.int .i64 x.t)).setCell ⟨R, 8, none⟩ (.int .i64 x.l)).setCell ⟨R, 9, none⟩ (.int .i64 x.b)).setCell ⟨R, 10, none⟩ (.int .i64 x.q)).setCell ⟨R, 11, none⟩ (.int .i64 x.code)).setCell ⟨R, 0, none⟩ (.slice (some ⟨b, o + 11, none⟩) r.length (cap - 1))).drew) := KeepR.only step_below (fun k hk => step_other k hk) (by rw [h.nown]; unfold nown; rw [cell_of_row _ R 14 _ _ _ (step_blk hcl)]; rfl)
  have hlt := h.lt
  have hgt : (0 : Int) < (r.length : Int) + 1 := by omega
  clear hc hfz hrd hr h hcl hlt hwf hroom
  go_enter Tryz.func24, Tryz.ntmps24
  go_wp2
  go_region
  first | go_end0 | refine bodyPost_ret (results_none rfl _ _ _) rfl ?_
  exact ⟨rfl, key, hkp⟩
set_option maxHeartbeats 1000000 in
theorem pstep2 (tv : TV) (R : Nat) (s : PS) (x : Tok) (hr : s.rest = [x]) (b o : Nat) (N : Value) (w : World) (h : RS tv R w s (some ⟨b, o, none⟩) 1 N) : Calls Tryz.prog 24 #[.pointer (some ⟨R, 0, none⟩)] w fun e w' => e = .returned (.tuple #[]) ∧ RSt tv R w' s.step ∧ KeepR R w w' := by
  obtain ⟨r, hr0⟩ : ∃ r : List Tok, r = [] := ⟨_, rfl⟩
  obtain ⟨cap, hcap⟩ : ∃ cap, cap = 1 := ⟨1, rfl⟩
  rw [← hr0] at hr
  rw [← hcap] at h
  have hcl := h.blk
  have hwf := h.wf
  rw [hr] at hcl
  have hroom := h.room
  rw [hr] at hroom
  have hlen : (x :: r).length = r.length + 1 := rfl
  rw [hlen] at hroom hcl
  have c0 : w.cell? ⟨R, 0, none⟩ = some (.slice (some ⟨b, o, none⟩) (r.length + 1) cap) := by rw [cell_of_row w R 0 _ _ _ hcl]; rfl
  have c1 : w.cell? ⟨R, 1, none⟩ = some (.int .i64 s.now.kind) := by rw [cell_of_row w R 1 _ _ _ h.blk]; rfl
  have c2 : w.cell? ⟨R, 2, none⟩ = some (.int .i64 s.now.place) := by rw [cell_of_row w R 2 _ _ _ h.blk]; rfl
  have c3 : w.cell? ⟨R, 3, none⟩ = some (.int .i64 s.now.num) := by rw [cell_of_row w R 3 _ _ _ h.blk]; rfl
  have c4 : w.cell? ⟨R, 4, none⟩ = some (.string s.now.str) := by rw [cell_of_row w R 4 _ _ _ h.blk]; rfl
  have c5 : w.cell? ⟨R, 5, none⟩ = some (.int .i64 s.now.r) := by rw [cell_of_row w R 5 _ _ _ h.blk]; rfl
  have c6 : w.cell? ⟨R, 6, none⟩ = some (.int .i64 s.now.c) := by rw [cell_of_row w R 6 _ _ _ h.blk]; rfl
  have c7 : w.cell? ⟨R, 7, none⟩ = some (.int .i64 s.now.t) := by rw [cell_of_row w R 7 _ _ _ h.blk]; rfl
  have c8 : w.cell? ⟨R, 8, none⟩ = some (.int .i64 s.now.l) := by rw [cell_of_row w R 8 _ _ _ h.blk]; rfl
  have c9 : w.cell? ⟨R, 9, none⟩ = some (.int .i64 s.now.b) := by rw [cell_of_row w R 9 _ _ _ h.blk]; rfl
  have c10 : w.cell? ⟨R, 10, none⟩ = some (.int .i64 s.now.q) := by rw [cell_of_row w R 10 _ _ _ h.blk]; rfl
  have c11 : w.cell? ⟨R, 11, none⟩ = some (.int .i64 s.now.code) := by rw [cell_of_row w R 11 _ _ _ h.blk]; rfl
  have hfz : ∀ i : Nat, w.frozen? ⟨R, i, none⟩ = false := fun i => by simp [World.frozen?, h.blk]
  have f0 : w.frozen? ⟨R, 0, none⟩ = false := hfz 0
  have f1 : w.frozen? ⟨R, 1, none⟩ = false := hfz 1
  have f2 : w.frozen? ⟨R, 2, none⟩ = false := hfz 2
  have f3 : w.frozen? ⟨R, 3, none⟩ = false := hfz 3
  have f4 : w.frozen? ⟨R, 4, none⟩ = false := hfz 4
  have f5 : w.frozen? ⟨R, 5, none⟩ = false := hfz 5
  have f6 : w.frozen? ⟨R, 6, none⟩ = false := hfz 6
  have f7 : w.frozen? ⟨R, 7, none⟩ = false := hfz 7
  have f8 : w.frozen? ⟨R, 8, none⟩ = false := hfz 8
  have f9 : w.frozen? ⟨R, 9, none⟩ = false := hfz 9
  have f10 : w.frozen? ⟨R, 10, none⟩ = false := hfz 10
  have f11 : w.frozen? ⟨R, 11, none⟩ = false := hfz 11
  have hrd := h.rest
  rw [hr] at hrd
  obtain ⟨b', o', e, hb, hc⟩ := hrd 0 x.cs rfl
  injection e with e
  injection e with e1 e2 _
  subst e1 e2
  simp only [Nat.zero_mul, Nat.add_zero] at hc
  have t0 : w.cell? ⟨b, o, none⟩ = some (.int .i64 x.kind) := hc 0 _ rfl
  have t1 : w.cell? ⟨b, o + 1, none⟩ = some (.int .i64 x.place) := hc 1 _ rfl
  have t2 : w.cell? ⟨b, o + 2, none⟩ = some (.int .i64 x.num) := hc 2 _ rfl
  have t3 : w.cell? ⟨b, o + 3, none⟩ = some (.string x.str) := hc 3 _ rfl
  have t4 : w.cell? ⟨b, o + 4, none⟩ = some (.int .i64 x.r) := hc 4 _ rfl
  have t5 : w.cell? ⟨b, o + 5, none⟩ = some (.int .i64 x.c) := hc 5 _ rfl
  have t6 : w.cell? ⟨b, o + 6, none⟩ = some (.int .i64 x.t) := hc 6 _ rfl
  have t7 : w.cell? ⟨b, o + 7, none⟩ = some (.int .i64 x.l) := hc 7 _ rfl
  have t8 : w.cell? ⟨b, o + 8, none⟩ = some (.int .i64 x.b) := hc 8 _ rfl
  have t9 : w.cell? ⟨b, o + 9, none⟩ = some (.int .i64 x.q) := hc 9 _ rfl
  have t10 : w.cell? ⟨b, o + 10, none⟩ = some (.int .i64 x.code) := hc 10 _ rfl
  have hne : b ≠ R := by omega
  have key : RSt tv R (((((((((((((w.setCell ⟨R, 1, none⟩ (.int .i64 x.kind)).setCell ⟨R, 2, none⟩ (.int .i64 x.place)).setCell ⟨R, 3, none⟩ (.int .i64 x.num)).setCell ⟨R, 4, none⟩ (.string x.str)).setCell ⟨R, 5, none⟩ (.int .i64 x.r)).setCell ⟨R, 6, none⟩ (.int .i64 x.c)).setCell ⟨R, 7, none⟩ (.int .i64 x.t)).setCell ⟨R, 8, none⟩ (.int .i64 x.l)).setCell ⟨R, 9, none⟩ (.int .i64 x.b)).setCell ⟨R, 10, none⟩ (.int .i64 x.q)).setCell ⟨R, 11, none⟩ (.int .i64 x.code)).setCell ⟨R, 0, none⟩ (.slice (some ⟨b, o, none⟩) 0 0)).drew) s.step := by
    have es : s.step = { s with now := x, rest := r } := by unfold PS.step; rw [hr]
    refine ⟨some ⟨b, o, none⟩, 0, N, step_blk_of (step_blk hcl) (by rw [es, hr0]; exact ⟨rfl, rfl, rfl⟩), ?_, ?_, ?_, by rw [PS.step_opn]; exact h.o1, by rw [PS.step_opn]; exact h.o2, by rw [PS.step_nodes]; exact h.nl, Nat.le_trans (PS.step_le s) h.rl, PS.wf_step hwf, h.tab.below step_below⟩
    · rw [es]; exact fun i c hi => by rw [hr0] at hi; cases hi
    · rw [es]; show r.length ≤ _; omega
    · rw [PS.step_nodes]; exact own_only h.nodes fun k hk => step_other k (by omega)
  have hkp : KeepR R w (((((((((((((w.setCell ⟨R, 1, none⟩ (.int .i64 x.kind)).setCell ⟨R, 2, none⟩ (.int .i64 x.place)).setCell ⟨R, 3, none⟩ (.int .i64 x.num)).setCell ⟨R, 4, none⟩ (.string x.str)).setCell ⟨R, 5, none⟩ (.int .i64 x.r)).setCell ⟨R, 6, none⟩ (.int .i64 x.c)).setCell ⟨R, 7, none⟩ (.int .i64 x.t)).setCell ⟨R, 8, none⟩ (.int .i64 x.l)).setCell ⟨R, 9, none⟩ (.int .i64 x.b)).setCell ⟨R, 10, none⟩ (.int .i64 x.q)).setCell ⟨R, 11, none⟩ (.int .i64 x.code)).setCell ⟨R, 0, none⟩ (.slice (some ⟨b, o, none⟩) 0 0)).drew) := KeepR.only step_below (fun k hk => step_other k hk) (by rw [h.nown]; unfold nown; rw [cell_of_row _ R 14 _ _ _ (step_blk hcl)]; rfl)
  have hlt := h.lt
  have hgt : (0 : Int) < (r.length : Int) + 1 := by omega
  clear hc hfz hrd hr h hcl hlt hwf hroom
  go_enter Tryz.func24, Tryz.ntmps24
  go_wp2
  go_region
  first | go_end0 | refine bodyPost_ret (results_none rfl _ _ _) rfl ?_
  exact ⟨rfl, key, hkp⟩
theorem pstep (tv : TV) (R : Nat) (s : PS) (w : World) (hR : RSt tv R w s) : Calls Tryz.prog 24 #[.pointer (some ⟨R, 0, none⟩)] w fun e w' => e = .returned (.tuple #[]) ∧ RSt tv R w' s.step ∧ KeepR R w w' := by
  obtain ⟨A, cap, N, h⟩ := hR
  cases hr : s.rest with
  | nil =>
    have hs : s.step = s := by unfold PS.step; rw [hr]
    rw [hs]
    have hk := KeepR.refl h.lt
    have hR : RSt tv R w s := ⟨A, cap, N, h⟩
    have c0 : w.cell? ⟨R, 0, none⟩ = some (.slice A 0 cap) := by rw [cell_of_row w R 0 _ _ _ h.blk, hr]; rfl
    clear h hs
    go_enter Tryz.func24, Tryz.ntmps24
    go_wp2
    first | go_end0 | refine bodyPost_ret (results_none rfl _ _ _) rfl ?_
    exact ⟨rfl, hR, hk⟩
  | cons x r =>
    obtain ⟨b, o, rfl, _, _⟩ := h.rest 0 x.cs (by rw [hr]; rfl)
    by_cases hcap : cap = 1
    · subst hcap
      have := h.room
      rw [hr] at this
      have h0 : r = [] := by cases r with | nil => rfl | cons _ _ => simp at this
      subst h0
      exact pstep2 tv R s x hr b o N w h
    · exact pstep1 tv R s x r hr b o cap N hcap w h
end Go.Proofs.YtfbkoieodflcpaaGreatDoor
