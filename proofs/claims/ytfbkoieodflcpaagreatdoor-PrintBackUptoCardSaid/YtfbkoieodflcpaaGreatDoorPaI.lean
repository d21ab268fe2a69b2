/-
  parse: the reader's prim: tokens that are nodes by themselves.
-/
import Derived.Test.YtfbkoieodflcpaaGreatDoorMg3
import Derived.Test.YtfbkoieodflcpaaGreatDoorRows
import Derived.Test.YtfbkoieodflcpaaGreatDoorMg0
import Derived.Test.YtfbkoieodflcpaaGreatDoorProg
import Derived.Test.YtfbkoieodflcpaaGreatDoorShelf
import Derived.Test.YtfbkoieodflcpaaGreatDoorMg4
import Derived.Test.YtfbkoieodflcpaaGreatDoorAddrC
import Derived.Test.YtfbkoieodflcpaaGreatDoorMg6
import Derived.Test.YtfbkoieodflcpaaGreatDoorValA
import Derived.Test.YtfbkoieodflcpaaGreatDoorValB
import Derived.Test.YtfbkoieodflcpaaGreatDoorMg9
import Derived.Test.YtfbkoieodflcpaaGreatDoorMg10
import Derived.Test.YtfbkoieodflcpaaGreatDoorPaP
import Derived.Test.YtfbkoieodflcpaaGreatDoorPaF
import Derived.Test.YtfbkoieodflcpaaGreatDoorPaW
import Derived.Test.YtfbkoieodflcpaaGreatDoorPaX
import Derived.Test.YtfbkoieodflcpaaGreatDoorPaY
import Derived.Test.YtfbkoieodflcpaaGreatDoorMg22
import Derived.Test.YtfbkoieodflcpaaGreatDoorPaZ
import Derived.Test.YtfbkoieodflcpaaGreatDoorMg42
import Derived.Test.YtfbkoieodflcpaaGreatDoorPaC
import Derived.BigRegion
import Derived.WalkSpells
import Derived.WalkLawsBesides
import Derived.StillTactics
import Derived.Laws.Pointers
import Derived.Deep.RegionHeld3
import Derived.Deep.QuietTactic
import Derived.BigQuiet
import Derived.RowKit3
import Derived.Lib.Hide
import Derived.Lib.OthersKept
import Derived.OwnWalk
import Derived.Lib.IndexLaws
import Derived.Lib.ItoaMem
import Derived.Lib.TrimByte
import Derived.Lib.SlTrimSet
import Derived.Lib.ParseIntB
import Derived.WalkKit
import Derived.ProofKit
import Derived.OpenShut
import Derived.Carry
import Derived.ChangeSame
import Derived.Deep.Draws
import Derived.Shelf.Strings.Builder1
import Derived.Shelf.Strings.Builder2
import Derived.Shelf.Strings.Trim
import Derived.Shelf.Small.Utf8
import Derived.Shelf.Small.Strs
import Derived.Shelf.Small.Wraps
import Derived.Shelf.Strings.BuilderF
import Derived.Shelf.Strings.BuilderK
import Derived.Shelf.Utf8.RuneCount
import Derived.Shelf.Strconv.Itoa0
import Derived.Shelf.Strconv.Itoa1
import Derived.Shelf.LaysM
import Derived.Shelf.Strconv.Itoa2
import Derived.Shelf.Strconv.Itoa3
import Derived.Ground.MpProg
import Derived.Shelf.Pu.ParseUintPublic10
import Derived.Shelf.Strings.Search1
import Derived.Shelf.Strings.Search2
import Derived.Shelf.Strings.Search3
import Derived.Shelf.Strings.Cut
import Derived.Shelf.Strings.Count
import Derived.Shelf.Strings.Shaped
import Derived.Shelf.Strings.Prefix
import Derived.Shelf.Strings.Split
import Derived.Shelf.Strings.Replace
import Derived.Shelf.Strings.SplitShaped
import Derived.Shelf.Unicode.Decode
import Derived.Shelf.Strings.Runes
import Derived.Shelf.Strings.RuneCount
import Derived.Shelf.Strings.AsciiSet
import Derived.Shelf.Unicode.DecodeSlow
import Derived.Shelf.Unicode.DecodeAny
import Derived.Shelf.Unicode.DecodeLast
import Derived.Lib.ItoaNum
import Derived.Maps.OwnSet
import Derived.Maps.AppendAt
import Derived.Deep.RegionLaw
import Derived.Deep.AppendLies
import Derived.ScopeJumps
import Derived.WalkMore
namespace Go.Proofs.YtfbkoieodflcpaaGreatDoor
open Go.RowKit

set_option maxRecDepth 100000 in
set_option maxHeartbeats 2000000 in
theorem pprim1 (tv : TV) (R : Nat) (s : PS) (hkd : s.now.kind = 1) (r : PR) (h0 : bindR (some (s.add (valN ⟨1, s.now.num, ⟨#[]⟩, false, 0⟩) s.now.place)) (fun s' => some (.ok s'.step)) = some r) (w : World) (hR : RSt tv R w s) : Calls Tryz.prog 128 #[.pointer (some ⟨R, 0, none⟩)] w fun e w' => RRes tv R w r e w' := by
  have hlt := hR.lt
  have e1 : (s.now.kind == 1) = true := by simp [hkd]
  clear hkd
  have hW : Below w.heap.size w ((w.alloc (.cells #[.int .i64 s.now.kind, .int .i64 s.now.place, .int .i64 s.now.num, .string s.now.str, .int .i64 s.now.r, .int .i64 s.now.c, .int .i64 s.now.t, .int .i64 s.now.l, .int .i64 s.now.b, .int .i64 s.now.q, .int .i64 s.now.code] 77)).alloc (.cells #[.int .i64 1, .int .i64 1, .int .i64 s.now.num, .string ⟨#[]⟩, .bool false, .int .i64 0, .int .i64 0, .int .i64 0, .int .i64 0, .int .i64 0, .int .i64 0, .int .i64 0, .int .i64 0, .string ⟨#[]⟩, .int .i64 0] 47)) := ((Below.refl _ _).alloc (Nat.le_refl _) _).alloc (by simp) _
  have hkW := KeepR.up hW hlt
  have CO := padd tv R s (valN ⟨1, s.now.num, ⟨#[]⟩, false, 0⟩) s.now.place ((w.alloc (.cells #[.int .i64 s.now.kind, .int .i64 s.now.place, .int .i64 s.now.num, .string s.now.str, .int .i64 s.now.r, .int .i64 s.now.c, .int .i64 s.now.t, .int .i64 s.now.l, .int .i64 s.now.b, .int .i64 s.now.q, .int .i64 s.now.code] 77)).alloc (.cells #[.int .i64 1, .int .i64 1, .int .i64 s.now.num, .string ⟨#[]⟩, .bool false, .int .i64 0, .int .i64 0, .int .i64 0, .int .i64 0, .int .i64 0, .int .i64 0, .int .i64 0, .int .i64 0, .string ⟨#[]⟩, .int .i64 0] 47)) (hR.up hW)
  simp only [valN] at CO h0
  obtain ⟨A, cap, N, h⟩ := hR
  have c1 : w.cell? ⟨R, 1, none⟩ = some (.int .i64 s.now.kind) := by rw [cell_of_row w R 1 _ _ _ h.blk]; rfl
  have c2 : w.cell? ⟨R, 2, none⟩ = some (.int .i64 s.now.place) := by rw [cell_of_row w R 2 _ _ _ h.blk]; rfl
  have c3 : w.cell? ⟨R, 3, none⟩ = some (.int .i64 s.now.num) := by rw [cell_of_row w R 3 _ _ _ h.blk]; rfl
  have c4 : w.cell? ⟨R, 4, none⟩ = some (.string s.now.str) := by rw [cell_of_row w R 4 _ _ _ h.blk]; rfl
  have c5 : w.cell? ⟨R, 5, none⟩ = some (.int .i64 s.now.r) := by rw [cell_of_row w R 5 _ _ _ h.blk]; rfl
  have c6 : w.cell? ⟨R, 6, none⟩ = some (.int .i64 s.now.c) := by rw [cell_of_row w R 6 _ _ _ h.blk]; rfl
  have c7 : w.cell? ⟨R, 7, none⟩ = some (.int .i64 s.now.t) := by rw [cell_of_row w R 7 _ _ _ h.blk]; rfl
  have c8 : w.cell? ⟨R, 8, none⟩ = some (.int .i64 s.now.l) := by rw [cell_of_row w R 8 _ _ _ h.blk]; rfl
  have c9 : w.cell? ⟨R, 9, none⟩ = some (.int .i64 s.now.b) := by rw [cell_of_row w R 9 _ _ _ h.blk]; rfl
  have c10 : w.cell? ⟨R, 10, none⟩ = some (.int .i64 s.now.q) := by rw [cell_of_row w R 10 _ _ _ h.blk]; rfl
  have c11 : w.cell? ⟨R, 11, none⟩ = some (.int .i64 s.now.code) := by rw [cell_of_row w R 11 _ _ _ h.blk]; rfl
  clear h hW
  go_enter Tryz.func128, Tryz.ntmps128
  go_wp2_with fail
  refine CO.mono ?_
  rintro e w1 ⟨k1, h1⟩
  have k1 := hkW.trans k1
  rcases bindR_some h0 with ⟨e1, a1, h2, rfl⟩ | ⟨s1, h2, h3⟩
  · injection h2 with h2
    rw [h2] at h1
    obtain rfl := h1
    exact ⟨rfl, k1, rfl⟩
  · injection h2 with h2
    injection h3 with h3
    subst h3
    rw [h2] at h1
    obtain ⟨rfl, hR1⟩ := h1
    have CS := pstep tv R s1 w1 hR1
    clear CO hkW h2
    go_wp2_with fail
    refine CS.mono ?_
    rintro e w2 ⟨rfl, hR2, k2⟩
    go_wp2
    first | go_end0 | refine bodyPost_ret (results_none rfl _ _ _) rfl ?_
    exact ⟨k1.trans k2, rfl, hR2⟩
set_option maxRecDepth 100000 in
set_option maxHeartbeats 2000000 in
theorem pprim2 (tv : TV) (R : Nat) (s : PS) (hkd : s.now.kind = 2) (r : PR) (h0 : bindR (some (s.add (valN ⟨2, 0, s.now.str, false, 0⟩) s.now.place)) (fun s' => some (.ok s'.step)) = some r) (w : World) (hR : RSt tv R w s) : Calls Tryz.prog 128 #[.pointer (some ⟨R, 0, none⟩)] w fun e w' => RRes tv R w r e w' := by
  have hlt := hR.lt
  have e1 : (s.now.kind == 1) = false := by simp [hkd]
  have e2 : (s.now.kind == 2) = true := by simp [hkd]
  clear hkd
  have hW : Below w.heap.size w ((w.alloc (.cells #[.int .i64 s.now.kind, .int .i64 s.now.place, .int .i64 s.now.num, .string s.now.str, .int .i64 s.now.r, .int .i64 s.now.c, .int .i64 s.now.t, .int .i64 s.now.l, .int .i64 s.now.b, .int .i64 s.now.q, .int .i64 s.now.code] 77)).alloc (.cells #[.int .i64 1, .int .i64 2, .int .i64 0, .string s.now.str, .bool false, .int .i64 0, .int .i64 0, .int .i64 0, .int .i64 0, .int .i64 0, .int .i64 0, .int .i64 0, .int .i64 0, .string ⟨#[]⟩, .int .i64 0] 47)) := ((Below.refl _ _).alloc (Nat.le_refl _) _).alloc (by simp) _
  have hkW := KeepR.up hW hlt
  have CO := padd tv R s (valN ⟨2, 0, s.now.str, false, 0⟩) s.now.place ((w.alloc (.cells #[.int .i64 s.now.kind, .int .i64 s.now.place, .int .i64 s.now.num, .string s.now.str, .int .i64 s.now.r, .int .i64 s.now.c, .int .i64 s.now.t, .int .i64 s.now.l, .int .i64 s.now.b, .int .i64 s.now.q, .int .i64 s.now.code] 77)).alloc (.cells #[.int .i64 1, .int .i64 2, .int .i64 0, .string s.now.str, .bool false, .int .i64 0, .int .i64 0, .int .i64 0, .int .i64 0, .int .i64 0, .int .i64 0, .int .i64 0, .int .i64 0, .string ⟨#[]⟩, .int .i64 0] 47)) (hR.up hW)
  simp only [valN] at CO h0
  obtain ⟨A, cap, N, h⟩ := hR
  have c1 : w.cell? ⟨R, 1, none⟩ = some (.int .i64 s.now.kind) := by rw [cell_of_row w R 1 _ _ _ h.blk]; rfl
  have c2 : w.cell? ⟨R, 2, none⟩ = some (.int .i64 s.now.place) := by rw [cell_of_row w R 2 _ _ _ h.blk]; rfl
  have c3 : w.cell? ⟨R, 3, none⟩ = some (.int .i64 s.now.num) := by rw [cell_of_row w R 3 _ _ _ h.blk]; rfl
  have c4 : w.cell? ⟨R, 4, none⟩ = some (.string s.now.str) := by rw [cell_of_row w R 4 _ _ _ h.blk]; rfl
  have c5 : w.cell? ⟨R, 5, none⟩ = some (.int .i64 s.now.r) := by rw [cell_of_row w R 5 _ _ _ h.blk]; rfl
  have c6 : w.cell? ⟨R, 6, none⟩ = some (.int .i64 s.now.c) := by rw [cell_of_row w R 6 _ _ _ h.blk]; rfl
  have c7 : w.cell? ⟨R, 7, none⟩ = some (.int .i64 s.now.t) := by rw [cell_of_row w R 7 _ _ _ h.blk]; rfl
  have c8 : w.cell? ⟨R, 8, none⟩ = some (.int .i64 s.now.l) := by rw [cell_of_row w R 8 _ _ _ h.blk]; rfl
  have c9 : w.cell? ⟨R, 9, none⟩ = some (.int .i64 s.now.b) := by rw [cell_of_row w R 9 _ _ _ h.blk]; rfl
  have c10 : w.cell? ⟨R, 10, none⟩ = some (.int .i64 s.now.q) := by rw [cell_of_row w R 10 _ _ _ h.blk]; rfl
  have c11 : w.cell? ⟨R, 11, none⟩ = some (.int .i64 s.now.code) := by rw [cell_of_row w R 11 _ _ _ h.blk]; rfl
  clear h hW
  go_enter Tryz.func128, Tryz.ntmps128
  go_wp2_with fail
  refine CO.mono ?_
  rintro e w1 ⟨k1, h1⟩
  have k1 := hkW.trans k1
  rcases bindR_some h0 with ⟨e1, a1, h2, rfl⟩ | ⟨s1, h2, h3⟩
  · injection h2 with h2
    rw [h2] at h1
    obtain rfl := h1
    exact ⟨rfl, k1, rfl⟩
  · injection h2 with h2
    injection h3 with h3
    subst h3
    rw [h2] at h1
    obtain ⟨rfl, hR1⟩ := h1
    have CS := pstep tv R s1 w1 hR1
    clear CO hkW h2
    go_wp2_with fail
    refine CS.mono ?_
    rintro e w2 ⟨rfl, hR2, k2⟩
    go_wp2
    first | go_end0 | refine bodyPost_ret (results_none rfl _ _ _) rfl ?_
    exact ⟨k1.trans k2, rfl, hR2⟩
set_option maxRecDepth 100000 in
set_option maxHeartbeats 2000000 in
theorem pprim6 (tv : TV) (R : Nat) (s : PS) (hkd : s.now.kind = 6) (r : PR) (h0 : bindR (some (s.add (valN ⟨4, 0, ⟨#[]⟩, false, s.now.code⟩) s.now.place)) (fun s' => some (.ok s'.step)) = some r) (w : World) (hR : RSt tv R w s) : Calls Tryz.prog 128 #[.pointer (some ⟨R, 0, none⟩)] w fun e w' => RRes tv R w r e w' := by
  have hlt := hR.lt
  have e1 : (s.now.kind == 1) = false := by simp [hkd]
  have e2 : (s.now.kind == 2) = false := by simp [hkd]
  have e6 : (s.now.kind == 6) = true := by simp [hkd]
  clear hkd
  have hW : Below w.heap.size w ((w.alloc (.cells #[.int .i64 s.now.kind, .int .i64 s.now.place, .int .i64 s.now.num, .string s.now.str, .int .i64 s.now.r, .int .i64 s.now.c, .int .i64 s.now.t, .int .i64 s.now.l, .int .i64 s.now.b, .int .i64 s.now.q, .int .i64 s.now.code] 77)).alloc (.cells #[.int .i64 1, .int .i64 4, .int .i64 0, .string ⟨#[]⟩, .bool false, .int .i64 s.now.code, .int .i64 0, .int .i64 0, .int .i64 0, .int .i64 0, .int .i64 0, .int .i64 0, .int .i64 0, .string ⟨#[]⟩, .int .i64 0] 47)) := ((Below.refl _ _).alloc (Nat.le_refl _) _).alloc (by simp) _
  have hkW := KeepR.up hW hlt
  have CO := padd tv R s (valN ⟨4, 0, ⟨#[]⟩, false, s.now.code⟩) s.now.place ((w.alloc (.cells #[.int .i64 s.now.kind, .int .i64 s.now.place, .int .i64 s.now.num, .string s.now.str, .int .i64 s.now.r, .int .i64 s.now.c, .int .i64 s.now.t, .int .i64 s.now.l, .int .i64 s.now.b, .int .i64 s.now.q, .int .i64 s.now.code] 77)).alloc (.cells #[.int .i64 1, .int .i64 4, .int .i64 0, .string ⟨#[]⟩, .bool false, .int .i64 s.now.code, .int .i64 0, .int .i64 0, .int .i64 0, .int .i64 0, .int .i64 0, .int .i64 0, .int .i64 0, .string ⟨#[]⟩, .int .i64 0] 47)) (hR.up hW)
  simp only [valN] at CO h0
  obtain ⟨A, cap, N, h⟩ := hR
  have c1 : w.cell? ⟨R, 1, none⟩ = some (.int .i64 s.now.kind) := by rw [cell_of_row w R 1 _ _ _ h.blk]; rfl
  have c2 : w.cell? ⟨R, 2, none⟩ = some (.int .i64 s.now.place) := by rw [cell_of_row w R 2 _ _ _ h.blk]; rfl
  have c3 : w.cell? ⟨R, 3, none⟩ = some (.int .i64 s.now.num) := by rw [cell_of_row w R 3 _ _ _ h.blk]; rfl
  have c4 : w.cell? ⟨R, 4, none⟩ = some (.string s.now.str) := by rw [cell_of_row w R 4 _ _ _ h.blk]; rfl
  have c5 : w.cell? ⟨R, 5, none⟩ = some (.int .i64 s.now.r) := by rw [cell_of_row w R 5 _ _ _ h.blk]; rfl
  have c6 : w.cell? ⟨R, 6, none⟩ = some (.int .i64 s.now.c) := by rw [cell_of_row w R 6 _ _ _ h.blk]; rfl
  have c7 : w.cell? ⟨R, 7, none⟩ = some (.int .i64 s.now.t) := by rw [cell_of_row w R 7 _ _ _ h.blk]; rfl
  have c8 : w.cell? ⟨R, 8, none⟩ = some (.int .i64 s.now.l) := by rw [cell_of_row w R 8 _ _ _ h.blk]; rfl
  have c9 : w.cell? ⟨R, 9, none⟩ = some (.int .i64 s.now.b) := by rw [cell_of_row w R 9 _ _ _ h.blk]; rfl
  have c10 : w.cell? ⟨R, 10, none⟩ = some (.int .i64 s.now.q) := by rw [cell_of_row w R 10 _ _ _ h.blk]; rfl
  have c11 : w.cell? ⟨R, 11, none⟩ = some (.int .i64 s.now.code) := by rw [cell_of_row w R 11 _ _ _ h.blk]; rfl
  clear h hW
  go_enter Tryz.func128, Tryz.ntmps128
  go_wp2_with fail
  refine CO.mono ?_
  rintro e w1 ⟨k1, h1⟩
  have k1 := hkW.trans k1
  rcases bindR_some h0 with ⟨e1, a1, h2, rfl⟩ | ⟨s1, h2, h3⟩
  · injection h2 with h2
    rw [h2] at h1
    obtain rfl := h1
    exact ⟨rfl, k1, rfl⟩
  · injection h2 with h2
    injection h3 with h3
    subst h3
    rw [h2] at h1
    obtain ⟨rfl, hR1⟩ := h1
    have CS := pstep tv R s1 w1 hR1
    clear CO hkW h2
    go_wp2_with fail
    refine CS.mono ?_
    rintro e w2 ⟨rfl, hR2, k2⟩
    go_wp2
    first | go_end0 | refine bodyPost_ret (results_none rfl _ _ _) rfl ?_
    exact ⟨k1.trans k2, rfl, hR2⟩
set_option maxRecDepth 100000 in
set_option maxHeartbeats 2000000 in
theorem pprim4 (tv : TV) (R : Nat) (s : PS) (hkd : s.now.kind = 4) (r : PR) (h0 : bindR (some (s.add (cellN s.now.r s.now.c) s.now.place)) (fun s' => some (.ok s'.step)) = some r) (w : World) (hR : RSt tv R w s) : Calls Tryz.prog 128 #[.pointer (some ⟨R, 0, none⟩)] w fun e w' => RRes tv R w r e w' := by
  have hlt := hR.lt
  have e1 : (s.now.kind == 1) = false := by simp [hkd]
  have e2 : (s.now.kind == 2) = false := by simp [hkd]
  have e6 : (s.now.kind == 6) = false := by simp [hkd]
  have e4 : (s.now.kind == 4) = true := by simp [hkd]
  clear hkd
  have hW : Below w.heap.size w ((w.alloc (.cells #[.int .i64 s.now.kind, .int .i64 s.now.place, .int .i64 s.now.num, .string s.now.str, .int .i64 s.now.r, .int .i64 s.now.c, .int .i64 s.now.t, .int .i64 s.now.l, .int .i64 s.now.b, .int .i64 s.now.q, .int .i64 s.now.code] 77)).alloc (.cells #[.int .i64 2, .int .i64 0, .int .i64 0, .string ⟨#[]⟩, .bool false, .int .i64 0, .int .i64 s.now.r, .int .i64 s.now.c, .int .i64 0, .int .i64 0, .int .i64 0, .int .i64 0, .int .i64 0, .string ⟨#[]⟩, .int .i64 0] 47)) := ((Below.refl _ _).alloc (Nat.le_refl _) _).alloc (by simp) _
  have hkW := KeepR.up hW hlt
  have CO := padd tv R s (cellN s.now.r s.now.c) s.now.place ((w.alloc (.cells #[.int .i64 s.now.kind, .int .i64 s.now.place, .int .i64 s.now.num, .string s.now.str, .int .i64 s.now.r, .int .i64 s.now.c, .int .i64 s.now.t, .int .i64 s.now.l, .int .i64 s.now.b, .int .i64 s.now.q, .int .i64 s.now.code] 77)).alloc (.cells #[.int .i64 2, .int .i64 0, .int .i64 0, .string ⟨#[]⟩, .bool false, .int .i64 0, .int .i64 s.now.r, .int .i64 s.now.c, .int .i64 0, .int .i64 0, .int .i64 0, .int .i64 0, .int .i64 0, .string ⟨#[]⟩, .int .i64 0] 47)) (hR.up hW)
  simp only [cellN, vl0] at CO h0
  obtain ⟨A, cap, N, h⟩ := hR
  have c1 : w.cell? ⟨R, 1, none⟩ = some (.int .i64 s.now.kind) := by rw [cell_of_row w R 1 _ _ _ h.blk]; rfl
  have c2 : w.cell? ⟨R, 2, none⟩ = some (.int .i64 s.now.place) := by rw [cell_of_row w R 2 _ _ _ h.blk]; rfl
  have c3 : w.cell? ⟨R, 3, none⟩ = some (.int .i64 s.now.num) := by rw [cell_of_row w R 3 _ _ _ h.blk]; rfl
  have c4 : w.cell? ⟨R, 4, none⟩ = some (.string s.now.str) := by rw [cell_of_row w R 4 _ _ _ h.blk]; rfl
  have c5 : w.cell? ⟨R, 5, none⟩ = some (.int .i64 s.now.r) := by rw [cell_of_row w R 5 _ _ _ h.blk]; rfl
  have c6 : w.cell? ⟨R, 6, none⟩ = some (.int .i64 s.now.c) := by rw [cell_of_row w R 6 _ _ _ h.blk]; rfl
  have c7 : w.cell? ⟨R, 7, none⟩ = some (.int .i64 s.now.t) := by rw [cell_of_row w R 7 _ _ _ h.blk]; rfl
  have c8 : w.cell? ⟨R, 8, none⟩ = some (.int .i64 s.now.l) := by rw [cell_of_row w R 8 _ _ _ h.blk]; rfl
  have c9 : w.cell? ⟨R, 9, none⟩ = some (.int .i64 s.now.b) := by rw [cell_of_row w R 9 _ _ _ h.blk]; rfl
  have c10 : w.cell? ⟨R, 10, none⟩ = some (.int .i64 s.now.q) := by rw [cell_of_row w R 10 _ _ _ h.blk]; rfl
  have c11 : w.cell? ⟨R, 11, none⟩ = some (.int .i64 s.now.code) := by rw [cell_of_row w R 11 _ _ _ h.blk]; rfl
  clear h hW
  go_enter Tryz.func128, Tryz.ntmps128
  go_wp2_with fail
  refine CO.mono ?_
  rintro e w1 ⟨k1, h1⟩
  have k1 := hkW.trans k1
  rcases bindR_some h0 with ⟨e1, a1, h2, rfl⟩ | ⟨s1, h2, h3⟩
  · injection h2 with h2
    rw [h2] at h1
    obtain rfl := h1
    exact ⟨rfl, k1, rfl⟩
  · injection h2 with h2
    injection h3 with h3
    subst h3
    rw [h2] at h1
    obtain ⟨rfl, hR1⟩ := h1
    have CS := pstep tv R s1 w1 hR1
    clear CO hkW h2
    go_wp2_with fail
    refine CS.mono ?_
    rintro e w2 ⟨rfl, hR2, k2⟩
    go_wp2
    first | go_end0 | refine bodyPost_ret (results_none rfl _ _ _) rfl ?_
    exact ⟨k1.trans k2, rfl, hR2⟩
set_option maxRecDepth 100000 in
set_option maxHeartbeats 2000000 in
theorem pprim3t (tv : TV) (R : Nat) (s : PS) (hkd : s.now.kind = 3) (hT : s.now.str = trueS) (r : PR) (h0 : bindR (some (s.add (valN ⟨3, 0, ⟨#[]⟩, true, 0⟩) s.now.place)) (fun s' => some (.ok s'.step)) = some r) (w : World) (hR : RSt tv R w s) : Calls Tryz.prog 128 #[.pointer (some ⟨R, 0, none⟩)] w fun e w' => RRes tv R w r e w' := by
  have hlt := hR.lt
  have e1 : (s.now.kind == 1) = false := by simp [hkd]
  have e2 : (s.now.kind == 2) = false := by simp [hkd]
  have e6 : (s.now.kind == 6) = false := by simp [hkd]
  have e4 : (s.now.kind == 4) = false := by simp [hkd]
  have e3 : (s.now.kind == 3) = true := by simp [hkd]
  have hT2 : decide (s.now.str = ⟨#[84, 82, 85, 69]⟩) = true := by rw [hT]; rfl
  clear hT
  clear hkd
  have hW : Below w.heap.size w ((w.alloc (.cells #[.int .i64 s.now.kind, .int .i64 s.now.place, .int .i64 s.now.num, .string s.now.str, .int .i64 s.now.r, .int .i64 s.now.c, .int .i64 s.now.t, .int .i64 s.now.l, .int .i64 s.now.b, .int .i64 s.now.q, .int .i64 s.now.code] 77)).alloc (.cells #[.int .i64 1, .int .i64 3, .int .i64 0, .string ⟨#[]⟩, .bool true, .int .i64 0, .int .i64 0, .int .i64 0, .int .i64 0, .int .i64 0, .int .i64 0, .int .i64 0, .int .i64 0, .string ⟨#[]⟩, .int .i64 0] 47)) := ((Below.refl _ _).alloc (Nat.le_refl _) _).alloc (by simp) _
  have hkW := KeepR.up hW hlt
  have CO := padd tv R s (valN ⟨3, 0, ⟨#[]⟩, true, 0⟩) s.now.place ((w.alloc (.cells #[.int .i64 s.now.kind, .int .i64 s.now.place, .int .i64 s.now.num, .string s.now.str, .int .i64 s.now.r, .int .i64 s.now.c, .int .i64 s.now.t, .int .i64 s.now.l, .int .i64 s.now.b, .int .i64 s.now.q, .int .i64 s.now.code] 77)).alloc (.cells #[.int .i64 1, .int .i64 3, .int .i64 0, .string ⟨#[]⟩, .bool true, .int .i64 0, .int .i64 0, .int .i64 0, .int .i64 0, .int .i64 0, .int .i64 0, .int .i64 0, .int .i64 0, .string ⟨#[]⟩, .int .i64 0] 47)) (hR.up hW)
  simp only [valN] at CO h0
  obtain ⟨A, cap, N, h⟩ := hR
  have c1 : w.cell? ⟨R, 1, none⟩ = some (.int .i64 s.now.kind) := by rw [cell_of_row w R 1 _ _ _ h.blk]; rfl
  have c2 : w.cell? ⟨R, 2, none⟩ = some (.int .i64 s.now.place) := by rw [cell_of_row w R 2 _ _ _ h.blk]; rfl
  have c3 : w.cell? ⟨R, 3, none⟩ = some (.int .i64 s.now.num) := by rw [cell_of_row w R 3 _ _ _ h.blk]; rfl
  have c4 : w.cell? ⟨R, 4, none⟩ = some (.string s.now.str) := by rw [cell_of_row w R 4 _ _ _ h.blk]; rfl
  have c5 : w.cell? ⟨R, 5, none⟩ = some (.int .i64 s.now.r) := by rw [cell_of_row w R 5 _ _ _ h.blk]; rfl
  have c6 : w.cell? ⟨R, 6, none⟩ = some (.int .i64 s.now.c) := by rw [cell_of_row w R 6 _ _ _ h.blk]; rfl
  have c7 : w.cell? ⟨R, 7, none⟩ = some (.int .i64 s.now.t) := by rw [cell_of_row w R 7 _ _ _ h.blk]; rfl
  have c8 : w.cell? ⟨R, 8, none⟩ = some (.int .i64 s.now.l) := by rw [cell_of_row w R 8 _ _ _ h.blk]; rfl
  have c9 : w.cell? ⟨R, 9, none⟩ = some (.int .i64 s.now.b) := by rw [cell_of_row w R 9 _ _ _ h.blk]; rfl
  have c10 : w.cell? ⟨R, 10, none⟩ = some (.int .i64 s.now.q) := by rw [cell_of_row w R 10 _ _ _ h.blk]; rfl
  have c11 : w.cell? ⟨R, 11, none⟩ = some (.int .i64 s.now.code) := by rw [cell_of_row w R 11 _ _ _ h.blk]; rfl
  clear h hW
  go_enter Tryz.func128, Tryz.ntmps128
  go_wp2_with fail
  refine CO.mono ?_
  rintro e w1 ⟨k1, h1⟩
  have k1 := hkW.trans k1
  rcases bindR_some h0 with ⟨e1, a1, h2, rfl⟩ | ⟨s1, h2, h3⟩
  · injection h2 with h2
    rw [h2] at h1
    obtain rfl := h1
    exact ⟨rfl, k1, rfl⟩
  · injection h2 with h2
    injection h3 with h3
    subst h3
    rw [h2] at h1
    obtain ⟨rfl, hR1⟩ := h1
    have CS := pstep tv R s1 w1 hR1
    clear CO hkW h2
    go_wp2_with fail
    refine CS.mono ?_
    rintro e w2 ⟨rfl, hR2, k2⟩
    go_wp2
    first | go_end0 | refine bodyPost_ret (results_none rfl _ _ _) rfl ?_
    exact ⟨k1.trans k2, rfl, hR2⟩
set_option maxRecDepth 100000 in
set_option maxHeartbeats 2000000 in
theorem pprim3f (tv : TV) (R : Nat) (s : PS) (hkd : s.now.kind = 3) (hT : s.now.str = falseS) (r : PR) (h0 : bindR (some (s.add (valN ⟨3, 0, ⟨#[]⟩, false, 0⟩) s.now.place)) (fun s' => some (.ok s'.step)) = some r) (w : World) (hR : RSt tv R w s) : Calls Tryz.prog 128 #[.pointer (some ⟨R, 0, none⟩)] w fun e w' => RRes tv R w r e w' := by
  have hlt := hR.lt
  have e1 : (s.now.kind == 1) = false := by simp [hkd]
  have e2 : (s.now.kind == 2) = false := by simp [hkd]
  have e6 : (s.now.kind == 6) = false := by simp [hkd]
  have e4 : (s.now.kind == 4) = false := by simp [hkd]
  have e3 : (s.now.kind == 3) = true := by simp [hkd]
  have hT2 : decide (s.now.str = ⟨#[84, 82, 85, 69]⟩) = false := by rw [hT]; rfl
  have hT3 : decide (s.now.str = ⟨#[70, 65, 76, 83, 69]⟩) = true := by rw [hT]; rfl
  clear hT
  clear hkd
  have hW : Below w.heap.size w ((w.alloc (.cells #[.int .i64 s.now.kind, .int .i64 s.now.place, .int .i64 s.now.num, .string s.now.str, .int .i64 s.now.r, .int .i64 s.now.c, .int .i64 s.now.t, .int .i64 s.now.l, .int .i64 s.now.b, .int .i64 s.now.q, .int .i64 s.now.code] 77)).alloc (.cells #[.int .i64 1, .int .i64 3, .int .i64 0, .string ⟨#[]⟩, .bool false, .int .i64 0, .int .i64 0, .int .i64 0, .int .i64 0, .int .i64 0, .int .i64 0, .int .i64 0, .int .i64 0, .string ⟨#[]⟩, .int .i64 0] 47)) := ((Below.refl _ _).alloc (Nat.le_refl _) _).alloc (by simp) _
  have hkW := KeepR.up hW hlt
  have CO := padd tv R s (valN ⟨3, 0, ⟨#[]⟩, false, 0⟩) s.now.place ((w.alloc (.cells #[.int .i64 s.now.kind, .int .i64 s.now.place, .int .i64 s.now.num, .string s.now.str, .int .i64 s.now.r, .int .i64 s.now.c, .int .i64 s.now.t, .int .i64 s.now.l, .int .i64 s.now.b, .int .i64 s.now.q, .int .i64 s.now.code] 77)).alloc (.cells #[.int .i64 1, .int .i64 3, .int .i64 0, .string ⟨#[]⟩, .bool false, .int .i64 0, .int .i64 0, .int .i64 0, .int .i64 0, .int .i64 0, .int .i64 0, .int .i64 0, .int .i64 0, .string ⟨#[]⟩, .int .i64 0] 47)) (hR.up hW)
  simp only [valN] at CO h0
  obtain ⟨A, cap, N, h⟩ := hR
  have c1 : w.cell? ⟨R, 1, none⟩ = some (.int .i64 s.now.kind) := by rw [cell_of_row w R 1 _ _ _ h.blk]; rfl
  have c2 : w.cell? ⟨R, 2, none⟩ = some (.int .i64 s.now.place) := by rw [cell_of_row w R 2 _ _ _ h.blk]; rfl
  have c3 : w.cell? ⟨R, 3, none⟩ = some (.int .i64 s.now.num) := by rw [cell_of_row w R 3 _ _ _ h.blk]; rfl
  have c4 : w.cell? ⟨R, 4, none⟩ = some (.string s.now.str) := by rw [cell_of_row w R 4 _ _ _ h.blk]; rfl
  have c5 : w.cell? ⟨R, 5, none⟩ = some (.int .i64 s.now.r) := by rw [cell_of_row w R 5 _ _ _ h.blk]; rfl
  have c6 : w.cell? ⟨R, 6, none⟩ = some (.int .i64 s.now.c) := by rw [cell_of_row w R 6 _ _ _ h.blk]; rfl
  have c7 : w.cell? ⟨R, 7, none⟩ = some (.int .i64 s.now.t) := by rw [cell_of_row w R 7 _ _ _ h.blk]; rfl
  have c8 : w.cell? ⟨R, 8, none⟩ = some (.int .i64 s.now.l) := by rw [cell_of_row w R 8 _ _ _ h.blk]; rfl
  have c9 : w.cell? ⟨R, 9, none⟩ = some (.int .i64 s.now.b) := by rw [cell_of_row w R 9 _ _ _ h.blk]; rfl
  have c10 : w.cell? ⟨R, 10, none⟩ = some (.int .i64 s.now.q) := by rw [cell_of_row w R 10 _ _ _ h.blk]; rfl
  have c11 : w.cell? ⟨R, 11, none⟩ = some (.int .i64 s.now.code) := by rw [cell_of_row w R 11 _ _ _ h.blk]; rfl
  clear h hW
  go_enter Tryz.func128, Tryz.ntmps128
  go_wp2_with fail
  refine CO.mono ?_
  rintro e w1 ⟨k1, h1⟩
  have k1 := hkW.trans k1
  rcases bindR_some h0 with ⟨e1, a1, h2, rfl⟩ | ⟨s1, h2, h3⟩
  · injection h2 with h2
    rw [h2] at h1
    obtain rfl := h1
    exact ⟨rfl, k1, rfl⟩
  · injection h2 with h2
    injection h3 with h3
    subst h3
    rw [h2] at h1
    obtain ⟨rfl, hR1⟩ := h1
    have CS := pstep tv R s1 w1 hR1
    clear CO hkW h2
    go_wp2_with fail
    refine CS.mono ?_
    rintro e w2 ⟨rfl, hR2, k2⟩
    go_wp2
    first | go_end0 | refine bodyPost_ret (results_none rfl _ _ _) rfl ?_
    exact ⟨k1.trans k2, rfl, hR2⟩
end Go.Proofs.YtfbkoieodflcpaaGreatDoor
