/-
  parse: the reader's call.
-/
import Derived.Test.YtfbkoieodflcpaaGreatDoorMg3
import Derived.Test.YtfbkoieodflcpaaGreatDoorRows
import Derived.Test.YtfbkoieodflcpaaGreatDoorMg0
import Derived.Test.YtfbkoieodflcpaaGreatDoorProg
import Derived.Test.YtfbkoieodflcpaaGreatDoorShelf
import Derived.Test.YtfbkoieodflcpaaGreatDoorMg4
import Derived.Test.YtfbkoieodflcpaaGreatDoorAddrC
import Derived.Test.YtfbkoieodflcpaaGreatDoorMg6
import Derived.Test.YtfbkoieodflcpaaGreatDoorValA
import Derived.Test.YtfbkoieodflcpaaGreatDoorValB
import Derived.Test.YtfbkoieodflcpaaGreatDoorMg9
import Derived.Test.YtfbkoieodflcpaaGreatDoorMg10
import Derived.Test.YtfbkoieodflcpaaGreatDoorPaP
import Derived.Test.YtfbkoieodflcpaaGreatDoorPaF
import Derived.Test.YtfbkoieodflcpaaGreatDoorPaW
import Derived.Test.YtfbkoieodflcpaaGreatDoorPaX
import Derived.Test.YtfbkoieodflcpaaGreatDoorPaY
import Derived.Test.YtfbkoieodflcpaaGreatDoorMg22
import Derived.Test.YtfbkoieodflcpaaGreatDoorPaZ
import Derived.Test.YtfbkoieodflcpaaGreatDoorMg42
import Derived.BigRegion
import Derived.Maps.AppendAt
import Derived.WalkSpells
import Derived.WalkLawsBesides
import Derived.StillTactics
import Derived.Laws.Pointers
import Derived.Deep.RegionHeld3
import Derived.Deep.QuietTactic
import Derived.BigQuiet
import Derived.RowKit3
import Derived.Lib.Hide
import Derived.Lib.OthersKept
import Derived.OwnWalk
import Derived.Lib.IndexLaws
import Derived.Lib.ItoaMem
import Derived.Lib.TrimByte
import Derived.Lib.SlTrimSet
import Derived.Lib.ParseIntB
import Derived.WalkKit
import Derived.ProofKit
import Derived.OpenShut
import Derived.Carry
import Derived.ChangeSame
import Derived.Deep.Draws
import Derived.Shelf.Strings.Builder1
import Derived.Shelf.Strings.Builder2
import Derived.Shelf.Strings.Trim
import Derived.Shelf.Small.Utf8
import Derived.Shelf.Small.Strs
import Derived.Shelf.Small.Wraps
import Derived.Shelf.Strings.BuilderF
import Derived.Shelf.Strings.BuilderK
import Derived.Shelf.Utf8.RuneCount
import Derived.Shelf.Strconv.Itoa0
import Derived.Shelf.Strconv.Itoa1
import Derived.Shelf.LaysM
import Derived.Shelf.Strconv.Itoa2
import Derived.Shelf.Strconv.Itoa3
import Derived.Ground.MpProg
import Derived.Shelf.Pu.ParseUintPublic10
import Derived.Shelf.Strings.Search1
import Derived.Shelf.Strings.Search2
import Derived.Shelf.Strings.Search3
import Derived.Shelf.Strings.Cut
import Derived.Shelf.Strings.Count
import Derived.Shelf.Strings.Shaped
import Derived.Shelf.Strings.Prefix
import Derived.Shelf.Strings.Split
import Derived.Shelf.Strings.Replace
import Derived.Shelf.Strings.SplitShaped
import Derived.Shelf.Unicode.Decode
import Derived.Shelf.Strings.Runes
import Derived.Shelf.Strings.RuneCount
import Derived.Shelf.Strings.AsciiSet
import Derived.Shelf.Unicode.DecodeSlow
import Derived.Shelf.Unicode.DecodeAny
import Derived.Shelf.Unicode.DecodeLast
import Derived.Lib.ItoaNum
import Derived.Maps.OwnSet
import Derived.Deep.RegionLaw
import Derived.Deep.AppendLies
import Derived.ScopeJumps
import Derived.WalkMore
namespace Go.Proofs.YtfbkoieodflcpaaGreatDoor
open Go.RowKit

theorem method_known (v : Value) (w : World) : (method 326 31 v "Known").run Tryz.prog w = .ok (186, v) w := by kernel_rfl
theorem method_takes (v : Value) (w : World) : (method 326 31 v "Takes").run Tryz.prog w = .ok (187, v) w := by kernel_rfl
set_option maxRecDepth 100000 in
set_option maxHeartbeats 2000000 in
theorem pcall0 (tv : TV) (R : Nat) (s : PS) (hbad : 16 < s.now.str.size) (w : World) (hR : RSt tv R w s) : Calls Tryz.prog 144 #[.pointer (some ⟨R, 0, none⟩)] w fun e w' => RRes tv R w s.fail e w' := by
  have hlt := hR.lt
  have hb0 : Below w.heap.size w (w.alloc (.cells #[.int .i64 s.now.kind, .int .i64 s.now.place, .int .i64 s.now.num, .string s.now.str, .int .i64 s.now.r, .int .i64 s.now.c, .int .i64 s.now.t, .int .i64 s.now.l, .int .i64 s.now.b, .int .i64 s.now.q, .int .i64 s.now.code] 77)) := (Below.refl _ _).alloc (Nat.le_refl _) _
  have hb1 : Below w.heap.size w (w.alloc (.cells #[.int .i64 s.now.kind, .int .i64 s.now.place, .int .i64 s.now.num, .string s.now.str, .int .i64 s.now.r, .int .i64 s.now.c, .int .i64 s.now.t, .int .i64 s.now.l, .int .i64 s.now.b, .int .i64 s.now.q, .int .i64 s.now.code] 77)).drew := hb0.drew
  have CF := fun n => pfail tv R s ((w.alloc (.cells #[.int .i64 s.now.kind, .int .i64 s.now.place, .int .i64 s.now.num, .string s.now.str, .int .i64 s.now.r, .int .i64 s.now.c, .int .i64 s.now.t, .int .i64 s.now.l, .int .i64 s.now.b, .int .i64 s.now.q, .int .i64 s.now.code] 77)).drewN n) (hR.up (below_drewN hb0 n))
  have hkk := fun n => KeepR.up (below_drewN hb0 n) hlt
  obtain ⟨A, cap, N, h⟩ := hR
  have c1 : w.cell? ⟨R, 1, none⟩ = some (.int .i64 s.now.kind) := by rw [cell_of_row w R 1 _ _ _ h.blk]; rfl
  have c2 : w.cell? ⟨R, 2, none⟩ = some (.int .i64 s.now.place) := by rw [cell_of_row w R 2 _ _ _ h.blk]; rfl
  have c3 : w.cell? ⟨R, 3, none⟩ = some (.int .i64 s.now.num) := by rw [cell_of_row w R 3 _ _ _ h.blk]; rfl
  have c4 : w.cell? ⟨R, 4, none⟩ = some (.string s.now.str) := by rw [cell_of_row w R 4 _ _ _ h.blk]; rfl
  have c5 : w.cell? ⟨R, 5, none⟩ = some (.int .i64 s.now.r) := by rw [cell_of_row w R 5 _ _ _ h.blk]; rfl
  have c6 : w.cell? ⟨R, 6, none⟩ = some (.int .i64 s.now.c) := by rw [cell_of_row w R 6 _ _ _ h.blk]; rfl
  have c7 : w.cell? ⟨R, 7, none⟩ = some (.int .i64 s.now.t) := by rw [cell_of_row w R 7 _ _ _ h.blk]; rfl
  have c8 : w.cell? ⟨R, 8, none⟩ = some (.int .i64 s.now.l) := by rw [cell_of_row w R 8 _ _ _ h.blk]; rfl
  have c9 : w.cell? ⟨R, 9, none⟩ = some (.int .i64 s.now.b) := by rw [cell_of_row w R 9 _ _ _ h.blk]; rfl
  have c10 : w.cell? ⟨R, 10, none⟩ = some (.int .i64 s.now.q) := by rw [cell_of_row w R 10 _ _ _ h.blk]; rfl
  have c11 : w.cell? ⟨R, 11, none⟩ = some (.int .i64 s.now.code) := by rw [cell_of_row w R 11 _ _ _ h.blk]; rfl
  have c12 : w.cell? ⟨R, 12, none⟩ = some (.iface 31 tv.s) := by rw [cell_of_row w R 12 _ _ _ h.blk]; rfl
  clear h
  have hsz : decide ((s.now.str.size : Int) > 16) = true := by simp; omega
  have hsz2 : (16 : Int) < (s.now.str.size : Int) := by omega
  go_enter Tryz.func144, Tryz.ntmps144
  go_wp2
  go_quiet (fail)
  go_wp2_with fail
  refine (CF _).mono ?_
  rintro e w1 ⟨k1, rfl⟩
  exact ⟨rfl, (hkk _).trans k1, rfl⟩
set_option maxRecDepth 100000 in
set_option maxHeartbeats 2000000 in
theorem pcall1 (tb : Tb) (tv : TV) (htb : tb = tbOf tv.l) (R : Nat) (s : PS) (hok : ¬ 16 < s.now.str.size) (hkn : tb.known s.now.str = false) (w : World) (hR : RSt tv R w s) : Calls Tryz.prog 144 #[.pointer (some ⟨R, 0, none⟩)] w fun e w' => RRes tv R w s.fail e w' := by
  have hlt := hR.lt
  have hm := method_known
  have hb0 : Below w.heap.size w (w.alloc (.cells #[.int .i64 s.now.kind, .int .i64 s.now.place, .int .i64 s.now.num, .string s.now.str, .int .i64 s.now.r, .int .i64 s.now.c, .int .i64 s.now.t, .int .i64 s.now.l, .int .i64 s.now.b, .int .i64 s.now.q, .int .i64 s.now.code] 77)) := (Below.refl _ _).alloc (Nat.le_refl _) _
  have CF := fun n => pfail tv R s ((w.alloc (.cells #[.int .i64 s.now.kind, .int .i64 s.now.place, .int .i64 s.now.num, .string s.now.str, .int .i64 s.now.r, .int .i64 s.now.c, .int .i64 s.now.t, .int .i64 s.now.l, .int .i64 s.now.b, .int .i64 s.now.q, .int .i64 s.now.code] 77)).drewN n) (hR.up (below_drewN hb0 n))
  have hkk := fun n => KeepR.up (below_drewN hb0 n) hlt
  obtain ⟨A, cap, N, h⟩ := hR
  have c1 : w.cell? ⟨R, 1, none⟩ = some (.int .i64 s.now.kind) := by rw [cell_of_row w R 1 _ _ _ h.blk]; rfl
  have c2 : w.cell? ⟨R, 2, none⟩ = some (.int .i64 s.now.place) := by rw [cell_of_row w R 2 _ _ _ h.blk]; rfl
  have c3 : w.cell? ⟨R, 3, none⟩ = some (.int .i64 s.now.num) := by rw [cell_of_row w R 3 _ _ _ h.blk]; rfl
  have c4 : w.cell? ⟨R, 4, none⟩ = some (.string s.now.str) := by rw [cell_of_row w R 4 _ _ _ h.blk]; rfl
  have c5 : w.cell? ⟨R, 5, none⟩ = some (.int .i64 s.now.r) := by rw [cell_of_row w R 5 _ _ _ h.blk]; rfl
  have c6 : w.cell? ⟨R, 6, none⟩ = some (.int .i64 s.now.c) := by rw [cell_of_row w R 6 _ _ _ h.blk]; rfl
  have c7 : w.cell? ⟨R, 7, none⟩ = some (.int .i64 s.now.t) := by rw [cell_of_row w R 7 _ _ _ h.blk]; rfl
  have c8 : w.cell? ⟨R, 8, none⟩ = some (.int .i64 s.now.l) := by rw [cell_of_row w R 8 _ _ _ h.blk]; rfl
  have c9 : w.cell? ⟨R, 9, none⟩ = some (.int .i64 s.now.b) := by rw [cell_of_row w R 9 _ _ _ h.blk]; rfl
  have c10 : w.cell? ⟨R, 10, none⟩ = some (.int .i64 s.now.q) := by rw [cell_of_row w R 10 _ _ _ h.blk]; rfl
  have c11 : w.cell? ⟨R, 11, none⟩ = some (.int .i64 s.now.code) := by rw [cell_of_row w R 11 _ _ _ h.blk]; rfl
  have c12 : w.cell? ⟨R, 12, none⟩ = some (.iface 31 tv.s) := by rw [cell_of_row w R 12 _ _ _ h.blk]; rfl
  have hT := fun n => fknown tv R s.now.str ((w.alloc (.cells #[.int .i64 s.now.kind, .int .i64 s.now.place, .int .i64 s.now.num, .string s.now.str, .int .i64 s.now.r, .int .i64 s.now.c, .int .i64 s.now.t, .int .i64 s.now.l, .int .i64 s.now.b, .int .i64 s.now.q, .int .i64 s.now.code] 77)).drewN n) (h.tab.below (below_drewN (hb0.mono (by omega)) n))
  rw [← htb, hkn] at hT
  clear h hkn
  have hsz : decide ((s.now.str.size : Int) > 16) = false := by simp; omega
  have hsz2 : ¬ (16 : Int) < (s.now.str.size : Int) := by omega
  go_enter Tryz.func144, Tryz.ntmps144
  go_wp2
  go_quiet ((go_at_call 186; exact Calls.quiet_of_same ((hT _).mono fun _ _ h => h)))
  go_wp2_with fail
  refine (CF _).mono ?_
  rintro e w1 ⟨k1, rfl⟩
  exact ⟨rfl, (hkk _).trans k1, rfl⟩
theorem bool_info : (Tryz.prog.info? 4).map (fun i => (i.zero, i.size, i.bytes)) = some (some (.bool false), 1, 1) := by kernel_rfl
def blRow (l : List Bool) : List Value := l.map fun x => .bool x
theorem args_some {tb : Tb} {g : Nat} {nm : ByteArray} {p : Int} {rects : List Bool} {s : PS} {r : PR} (h : px tb g (.args nm p rects) s = some r) : ∃ g', g = g' + 1 ∧
    ((s.is [41] = true ∧ ((tb.takes nm rects = false ∧ r = .bad 8 p) ∨ (tb.takes nm rects = true ∧ ((∃ e a, s.add (callN nm rects.length) p = .bad e a ∧ r = .bad e a) ∨ ∃ s1, s.add (callN nm rects.length) p = .ok s1 ∧ r = s1.closes)))) ∨
     (s.is [41] = false ∧ rects ≠ [] ∧ (s.is [44] = false ∨ rects.length = 16) ∧ r = s.fail) ∨
     (s.is [41] = false ∧ ∃ s1, (rects = [] ∧ s1 = s ∨ rects ≠ [] ∧ s.is [44] = true ∧ rects.length ≠ 16 ∧ s1 = s.step) ∧
       ((s1.now.kind = 5 ∧ ((∃ e a, s1.add (rectN' s1.now.t s1.now.l s1.now.b s1.now.q) s1.now.place = .bad e a ∧ r = .bad e a) ∨ ∃ s2, s1.add (rectN' s1.now.t s1.now.l s1.now.b s1.now.q) s1.now.place = .ok s2 ∧ px tb g' (.args nm p (rects ++ [true])) s2.step = some r)) ∨
        (s1.now.kind ≠ 5 ∧ ((∃ e a, px tb g' (.lev 0) s1 = some (.bad e a) ∧ r = .bad e a) ∨ ∃ s2, px tb g' (.lev 0) s1 = some (.ok s2) ∧ px tb g' (.args nm p (rects ++ [false])) s2 = some r))))) := by
  cases g with
  | zero => cases h
  | succ g =>
    refine ⟨g, rfl, ?_⟩
    rw [px] at h
    split at h
    · rename_i h1
      refine .inl ⟨h1, ?_⟩
      split at h
      · rename_i h2
        refine .inr ⟨h2, ?_⟩
        rcases bindR_some h with ⟨e, a, h3, h4⟩ | ⟨s1, h3, h4⟩
        · injection h3 with h3; exact .inl ⟨e, a, h3, h4⟩
        · injection h3 with h3; injection h4 with h4; exact .inr ⟨s1, h3, h4.symm⟩
      · rename_i h2
        injection h with h
        exact .inl ⟨by simpa using h2, h.symm⟩
    · rename_i h1
      have h1' : s.is [41] = false := by simpa using h1
      split at h
      · rename_i h2
        injection h with h
        exact .inr (.inl ⟨h1', h2.1, h2.2, h.symm⟩)
      · rename_i h2
        refine .inr (.inr ⟨h1', if rects = [] then s else s.step, ?_, ?_⟩)
        · by_cases hr : rects = []
          · exact .inl ⟨hr, by rw [if_pos hr]⟩
          · refine .inr ⟨hr, ?_, fun e => h2 ⟨hr, .inr e⟩, by rw [if_neg hr]⟩
            cases h44 : s.is [44] with
            | true => rfl
            | false => exact absurd ⟨hr, .inl h44⟩ h2
        · have h3 : (if (if rects = [] then s else s.step).now.kind = 5 then bindR (some ((if rects = [] then s else s.step).add (rectN' (if rects = [] then s else s.step).now.t (if rects = [] then s else s.step).now.l (if rects = [] then s else s.step).now.b (if rects = [] then s else s.step).now.q) (if rects = [] then s else s.step).now.place)) (fun s2 => px tb g (.args nm p (rects ++ [true])) s2.step) else bindR (px tb g (.lev 0) (if rects = [] then s else s.step)) (px tb g (.args nm p (rects ++ [false])))) = some r := h
          generalize (if rects = [] then s else s.step) = s1 at h3 ⊢
          split at h3
          · rename_i h5
            refine .inl ⟨h5, ?_⟩
            rcases bindR_some h3 with ⟨e, a, h6, h7⟩ | ⟨s2, h6, h7⟩
            · injection h6 with h6; exact .inl ⟨e, a, h6, h7⟩
            · injection h6 with h6; exact .inr ⟨s2, h6, h7⟩
          · rename_i h5
            refine .inr ⟨h5, ?_⟩
            rcases bindR_some h3 with ⟨e, a, h6, h7⟩ | ⟨s2, h6, h7⟩
            · exact .inl ⟨e, a, h6, h7⟩
            · exact .inr ⟨s2, h6, h7⟩
end Go.Proofs.YtfbkoieodflcpaaGreatDoor
