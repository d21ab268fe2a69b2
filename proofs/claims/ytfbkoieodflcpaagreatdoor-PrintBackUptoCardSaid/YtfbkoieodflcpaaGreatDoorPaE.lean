/-
  parse: the reader's expr.
-/
import Derived.Test.YtfbkoieodflcpaaGreatDoorMg3
import Derived.Test.YtfbkoieodflcpaaGreatDoorRows
import Derived.Test.YtfbkoieodflcpaaGreatDoorMg0
import Derived.Test.YtfbkoieodflcpaaGreatDoorProg
import Derived.Test.YtfbkoieodflcpaaGreatDoorShelf
import Derived.Test.YtfbkoieodflcpaaGreatDoorMg4
import Derived.Test.YtfbkoieodflcpaaGreatDoorAddrC
import Derived.Test.YtfbkoieodflcpaaGreatDoorMg6
import Derived.Test.YtfbkoieodflcpaaGreatDoorValA
import Derived.Test.YtfbkoieodflcpaaGreatDoorValB
import Derived.Test.YtfbkoieodflcpaaGreatDoorMg9
import Derived.Test.YtfbkoieodflcpaaGreatDoorMg10
import Derived.Test.YtfbkoieodflcpaaGreatDoorPaP
import Derived.Test.YtfbkoieodflcpaaGreatDoorPaF
import Derived.Test.YtfbkoieodflcpaaGreatDoorPaW
import Derived.Test.YtfbkoieodflcpaaGreatDoorPaX
import Derived.Test.YtfbkoieodflcpaaGreatDoorPaY
import Derived.Test.YtfbkoieodflcpaaGreatDoorMg22
import Derived.Test.YtfbkoieodflcpaaGreatDoorPaZ
import Derived.Test.YtfbkoieodflcpaaGreatDoorMg42
import Derived.Test.YtfbkoieodflcpaaGreatDoorPaC
import Derived.Test.YtfbkoieodflcpaaGreatDoorPaK
import Derived.Test.YtfbkoieodflcpaaGreatDoorPaI
import Derived.Test.YtfbkoieodflcpaaGreatDoorPaQ
import Derived.BigRegion
import Derived.WalkSpells
import Derived.WalkLawsBesides
import Derived.StillTactics
import Derived.Laws.Pointers
import Derived.Deep.RegionHeld3
import Derived.Deep.QuietTactic
import Derived.BigQuiet
import Derived.RowKit3
import Derived.Lib.Hide
import Derived.Lib.OthersKept
import Derived.OwnWalk
import Derived.Lib.IndexLaws
import Derived.Lib.ItoaMem
import Derived.Lib.TrimByte
import Derived.Lib.SlTrimSet
import Derived.Lib.ParseIntB
import Derived.WalkKit
import Derived.ProofKit
import Derived.OpenShut
import Derived.Carry
import Derived.ChangeSame
import Derived.Deep.Draws
import Derived.Shelf.Strings.Builder1
import Derived.Shelf.Strings.Builder2
import Derived.Shelf.Strings.Trim
import Derived.Shelf.Small.Utf8
import Derived.Shelf.Small.Strs
import Derived.Shelf.Small.Wraps
import Derived.Shelf.Strings.BuilderF
import Derived.Shelf.Strings.BuilderK
import Derived.Shelf.Utf8.RuneCount
import Derived.Shelf.Strconv.Itoa0
import Derived.Shelf.Strconv.Itoa1
import Derived.Shelf.LaysM
import Derived.Shelf.Strconv.Itoa2
import Derived.Shelf.Strconv.Itoa3
import Derived.Ground.MpProg
import Derived.Shelf.Pu.ParseUintPublic10
import Derived.Shelf.Strings.Search1
import Derived.Shelf.Strings.Search2
import Derived.Shelf.Strings.Search3
import Derived.Shelf.Strings.Cut
import Derived.Shelf.Strings.Count
import Derived.Shelf.Strings.Shaped
import Derived.Shelf.Strings.Prefix
import Derived.Shelf.Strings.Split
import Derived.Shelf.Strings.Replace
import Derived.Shelf.Strings.SplitShaped
import Derived.Shelf.Unicode.Decode
import Derived.Shelf.Strings.Runes
import Derived.Shelf.Strings.RuneCount
import Derived.Shelf.Strings.AsciiSet
import Derived.Shelf.Unicode.DecodeSlow
import Derived.Shelf.Unicode.DecodeAny
import Derived.Shelf.Unicode.DecodeLast
import Derived.Lib.ItoaNum
import Derived.Maps.OwnSet
import Derived.Maps.AppendAt
import Derived.Deep.RegionLaw
import Derived.Deep.AppendLies
import Derived.ScopeJumps
import Derived.WalkMore
namespace Go.Proofs.YtfbkoieodflcpaaGreatDoor
open Go.RowKit

theorem plev4 (tb : Tb) (tv : TV) (htb : tb = tbOf tv.l) (R f : Nat) (HE : ∀ s w q, RSt tv R w s → px tb f (.lev 0) s = some q → Calls Tryz.prog 25 #[.pointer (some ⟨R, 0, none⟩)] w fun e w' => RRes tv R w q e w') (s : PS) (r : PR) (w : World) (hR : RSt tv R w s) (h : px tb (f + 1) (.lev 4) s = some r) : Calls Tryz.prog 56 (#[.pointer (some ⟨R, 0, none⟩)] ++ #[]) w fun e w' => RRes tv R w r e w' := by
  rw [px, if_pos rfl] at h
  exact pneg tb tv R f (fun s w q hR h => pprim tb tv htb R f HE s q w hR (px_step tb _ _ _ _ h)) s r w hR h
set_option maxRecDepth 100000 in
set_option maxHeartbeats 1000000 in
theorem plev3 (tb : Tb) (tv : TV) (htb : tb = tbOf tv.l) (R f : Nat) (HE : ∀ s w q, RSt tv R w s → px tb f (.lev 0) s = some q → Calls Tryz.prog 25 #[.pointer (some ⟨R, 0, none⟩)] w fun e w' => RRes tv R w q e w') (Bx : Nat) (s : PS) (r : PR) (w : World) (hB : Apart R w Bx #[.pointer (some ⟨R, 0, none⟩)] 73 (0, 0)) (hR : RSt tv R w s) (h : px tb (f + 1) (.lev 3) s = some r) : Calls Tryz.prog 55 #[.pointer (some ⟨Bx, 0, none⟩)] w fun e w' => RRes tv R w r e w' := by
  rw [px, if_neg (by decide)] at h
  have hlt := hR.lt
  have hW : Below w.heap.size w (w.alloc (.cells #[.iface 9 (.string ⟨#[42]⟩), .iface 3 (.int .i64 3), .iface 9 (.string ⟨#[47]⟩), .iface 3 (.int .i64 4)] 20)) := (Below.refl _ _).alloc (Nat.le_refl _) _
  have hkW := KeepR.up hW hlt
  have hS : Apart R (w.alloc (.cells #[.iface 9 (.string ⟨#[42]⟩), .iface 3 (.int .i64 3), .iface 9 (.string ⟨#[47]⟩), .iface 3 (.int .i64 4)] 20)) w.heap.size (sgRow (sgn 3)).toArray 20 (0, 0) := hR.apart hW (Nat.le_refl _) (heap_alloc_new w _)
  have CR : Calls Tryz.prog 52 #[.pointer (some ⟨R, 0, none⟩), .func (.func 56) #[.pointer (some ⟨R, 0, none⟩)] #[], .slice (some ⟨w.heap.size, 0, none⟩) 4 4] (w.alloc (.cells #[.iface 9 (.string ⟨#[42]⟩), .iface 3 (.int .i64 3), .iface 9 (.string ⟨#[47]⟩), .iface 3 (.int .i64 4)] 20)) fun e w' => RRes tv R (w.alloc (.cells #[.iface 9 (.string ⟨#[42]⟩), .iface 3 (.int .i64 3), .iface 9 (.string ⟨#[47]⟩), .iface 3 (.int .i64 4)] 20)) r e w' :=
    prow 3 (by decide) (sgn 3) rfl tb tv R w.heap.size 56 #[.pointer (some ⟨R, 0, none⟩)] #[] (fun w => by kernel_rfl) (fun _ => True) (fun _ _ _ _ => trivial) f (fun s w q _ hR h => plev4 tb tv htb R f HE s q w hR (px_step tb _ _ _ _ h)) s r (w.alloc (.cells #[.iface 9 (.string ⟨#[42]⟩), .iface 3 (.int .i64 3), .iface 9 (.string ⟨#[47]⟩), .iface 3 (.int .i64 4)] 20)) h trivial (hR.up hW) hS
  have cb : w.cell? ⟨Bx, 0, none⟩ = some (.pointer (some ⟨R, 0, none⟩)) := by rw [cell_of_row w Bx 0 _ _ _ hB.blk]; rfl
  have hmf : ∀ (fn : Fn) (first cap : Array Value) (w : World), (Instr.makeFunc fn first cap).run Tryz.prog w = .ok (.func fn first cap) w := fun _ _ _ _ => rfl
  clear HE hS hB hR hW h
  go_enter Tryz.func55, Tryz.ntmps55
  go_wp2_with fail
  refine CR.mono ?_
  rintro e w1 ⟨k1, h1⟩
  have k1 := hkW.trans k1
  cases r with
  | ok s1 =>
    obtain ⟨rfl, hR1⟩ := h1
    go_wp2
    first | go_end0 | refine bodyPost_ret (results_none rfl _ _ _) rfl ?_
    exact ⟨k1, rfl, hR1⟩
  | bad e1 a1 =>
    obtain rfl := h1
    exact ⟨rfl, k1, rfl⟩
set_option maxRecDepth 100000 in
set_option maxHeartbeats 1000000 in
theorem plev2 (tb : Tb) (tv : TV) (htb : tb = tbOf tv.l) (R f : Nat) (HE : ∀ s w q, RSt tv R w s → px tb f (.lev 0) s = some q → Calls Tryz.prog 25 #[.pointer (some ⟨R, 0, none⟩)] w fun e w' => RRes tv R w q e w') (Bx : Nat) (s : PS) (r : PR) (w : World) (hB : Apart R w Bx #[.pointer (some ⟨R, 0, none⟩)] 73 (0, 0)) (hR : RSt tv R w s) (h : px tb (f + 1) (.lev 2) s = some r) : Calls Tryz.prog 54 #[.pointer (some ⟨Bx, 0, none⟩)] w fun e w' => RRes tv R w r e w' := by
  rw [px, if_neg (by decide)] at h
  have hlt := hR.lt
  have hW : Below w.heap.size w (w.alloc (.cells #[.iface 9 (.string ⟨#[43]⟩), .iface 3 (.int .i64 5), .iface 9 (.string ⟨#[45]⟩), .iface 3 (.int .i64 6)] 20)) := (Below.refl _ _).alloc (Nat.le_refl _) _
  have hkW := KeepR.up hW hlt
  have hS : Apart R (w.alloc (.cells #[.iface 9 (.string ⟨#[43]⟩), .iface 3 (.int .i64 5), .iface 9 (.string ⟨#[45]⟩), .iface 3 (.int .i64 6)] 20)) w.heap.size (sgRow (sgn 2)).toArray 20 (0, 0) := hR.apart hW (Nat.le_refl _) (heap_alloc_new w _)
  have CR : Calls Tryz.prog 52 #[.pointer (some ⟨R, 0, none⟩), .func (.func 55) #[] #[.pointer (some ⟨Bx, 0, none⟩)], .slice (some ⟨w.heap.size, 0, none⟩) 4 4] (w.alloc (.cells #[.iface 9 (.string ⟨#[43]⟩), .iface 3 (.int .i64 5), .iface 9 (.string ⟨#[45]⟩), .iface 3 (.int .i64 6)] 20)) fun e w' => RRes tv R (w.alloc (.cells #[.iface 9 (.string ⟨#[43]⟩), .iface 3 (.int .i64 5), .iface 9 (.string ⟨#[45]⟩), .iface 3 (.int .i64 6)] 20)) r e w' :=
    prow 2 (by decide) (sgn 2) rfl tb tv R w.heap.size 55 #[] #[.pointer (some ⟨Bx, 0, none⟩)] (fun w => by kernel_rfl) (fun W => Apart R W Bx #[.pointer (some ⟨R, 0, none⟩)] 73 (0, 0)) (fun _ _ h k => h.kept k) f (fun s w q hB hR h => plev3 tb tv htb R f HE Bx s q w hB hR (px_step tb _ _ _ _ h)) s r (w.alloc (.cells #[.iface 9 (.string ⟨#[43]⟩), .iface 3 (.int .i64 5), .iface 9 (.string ⟨#[45]⟩), .iface 3 (.int .i64 6)] 20)) h (hB.kept hkW) (hR.up hW) hS
  have cb : w.cell? ⟨Bx, 0, none⟩ = some (.pointer (some ⟨R, 0, none⟩)) := by rw [cell_of_row w Bx 0 _ _ _ hB.blk]; rfl
  have hmf : ∀ (fn : Fn) (first cap : Array Value) (w : World), (Instr.makeFunc fn first cap).run Tryz.prog w = .ok (.func fn first cap) w := fun _ _ _ _ => rfl
  clear HE hS hB hR hW h
  go_enter Tryz.func54, Tryz.ntmps54
  go_wp2_with fail
  refine CR.mono ?_
  rintro e w1 ⟨k1, h1⟩
  have k1 := hkW.trans k1
  cases r with
  | ok s1 =>
    obtain ⟨rfl, hR1⟩ := h1
    go_wp2
    first | go_end0 | refine bodyPost_ret (results_none rfl _ _ _) rfl ?_
    exact ⟨k1, rfl, hR1⟩
  | bad e1 a1 =>
    obtain rfl := h1
    exact ⟨rfl, k1, rfl⟩
set_option maxRecDepth 100000 in
set_option maxHeartbeats 1000000 in
theorem plev1 (tb : Tb) (tv : TV) (htb : tb = tbOf tv.l) (R f : Nat) (HE : ∀ s w q, RSt tv R w s → px tb f (.lev 0) s = some q → Calls Tryz.prog 25 #[.pointer (some ⟨R, 0, none⟩)] w fun e w' => RRes tv R w q e w') (Bx : Nat) (s : PS) (r : PR) (w : World) (hB : Apart R w Bx #[.pointer (some ⟨R, 0, none⟩)] 73 (0, 0)) (hR : RSt tv R w s) (h : px tb (f + 1) (.lev 1) s = some r) : Calls Tryz.prog 53 #[.pointer (some ⟨Bx, 0, none⟩)] w fun e w' => RRes tv R w r e w' := by
  rw [px, if_neg (by decide)] at h
  have hlt := hR.lt
  have hW : Below w.heap.size w (w.alloc (.cells #[.iface 9 (.string ⟨#[38]⟩), .iface 3 (.int .i64 7)] 20)) := (Below.refl _ _).alloc (Nat.le_refl _) _
  have hkW := KeepR.up hW hlt
  have hS : Apart R (w.alloc (.cells #[.iface 9 (.string ⟨#[38]⟩), .iface 3 (.int .i64 7)] 20)) w.heap.size (sgRow (sgn 1)).toArray 20 (0, 0) := hR.apart hW (Nat.le_refl _) (heap_alloc_new w _)
  have CR : Calls Tryz.prog 52 #[.pointer (some ⟨R, 0, none⟩), .func (.func 54) #[] #[.pointer (some ⟨Bx, 0, none⟩)], .slice (some ⟨w.heap.size, 0, none⟩) 2 2] (w.alloc (.cells #[.iface 9 (.string ⟨#[38]⟩), .iface 3 (.int .i64 7)] 20)) fun e w' => RRes tv R (w.alloc (.cells #[.iface 9 (.string ⟨#[38]⟩), .iface 3 (.int .i64 7)] 20)) r e w' :=
    prow 1 (by decide) (sgn 1) rfl tb tv R w.heap.size 54 #[] #[.pointer (some ⟨Bx, 0, none⟩)] (fun w => by kernel_rfl) (fun W => Apart R W Bx #[.pointer (some ⟨R, 0, none⟩)] 73 (0, 0)) (fun _ _ h k => h.kept k) f (fun s w q hB hR h => plev2 tb tv htb R f HE Bx s q w hB hR (px_step tb _ _ _ _ h)) s r (w.alloc (.cells #[.iface 9 (.string ⟨#[38]⟩), .iface 3 (.int .i64 7)] 20)) h (hB.kept hkW) (hR.up hW) hS
  have cb : w.cell? ⟨Bx, 0, none⟩ = some (.pointer (some ⟨R, 0, none⟩)) := by rw [cell_of_row w Bx 0 _ _ _ hB.blk]; rfl
  have hmf : ∀ (fn : Fn) (first cap : Array Value) (w : World), (Instr.makeFunc fn first cap).run Tryz.prog w = .ok (.func fn first cap) w := fun _ _ _ _ => rfl
  clear HE hS hB hR hW h
  go_enter Tryz.func53, Tryz.ntmps53
  go_wp2_with fail
  refine CR.mono ?_
  rintro e w1 ⟨k1, h1⟩
  have k1 := hkW.trans k1
  cases r with
  | ok s1 =>
    obtain ⟨rfl, hR1⟩ := h1
    go_wp2
    first | go_end0 | refine bodyPost_ret (results_none rfl _ _ _) rfl ?_
    exact ⟨k1, rfl, hR1⟩
  | bad e1 a1 =>
    obtain rfl := h1
    exact ⟨rfl, k1, rfl⟩
set_option maxRecDepth 100000 in
set_option maxHeartbeats 1000000 in
theorem plev0 (tb : Tb) (tv : TV) (htb : tb = tbOf tv.l) (R f : Nat) (HE : ∀ s w q, RSt tv R w s → px tb f (.lev 0) s = some q → Calls Tryz.prog 25 #[.pointer (some ⟨R, 0, none⟩)] w fun e w' => RRes tv R w q e w') (s : PS) (r : PR) (w : World) (hR : RSt tv R w s) (h : px tb (f + 1) (.lev 0) s = some r) : Calls Tryz.prog 25 #[.pointer (some ⟨R, 0, none⟩)] w fun e w' => RRes tv R w r e w' := by
  rw [px, if_neg (by decide)] at h
  have hlt := hR.lt
  have hW1 : Below w.heap.size w (w.alloc (.cells #[.pointer (some ⟨R, 0, none⟩)] 73)) := (Below.refl _ _).alloc (Nat.le_refl _) _
  have hW : Below w.heap.size w ((w.alloc (.cells #[.pointer (some ⟨R, 0, none⟩)] 73)).alloc (.cells #[.iface 9 (.string ⟨#[61]⟩), .iface 3 (.int .i64 8), .iface 9 (.string ⟨#[60, 62]⟩), .iface 3 (.int .i64 9), .iface 9 (.string ⟨#[60]⟩), .iface 3 (.int .i64 10), .iface 9 (.string ⟨#[60, 61]⟩), .iface 3 (.int .i64 11), .iface 9 (.string ⟨#[62]⟩), .iface 3 (.int .i64 12), .iface 9 (.string ⟨#[62, 61]⟩), .iface 3 (.int .i64 13)] 20)) := hW1.alloc (by simp) _
  have hkW := KeepR.up hW hlt
  have hB := (hR.apart hW1 (Nat.le_refl _) (heap_alloc_new w (.cells #[.pointer (some ⟨R, 0, none⟩)] 73))).kept (KeepR.up ((Below.refl (w.alloc (.cells #[.pointer (some ⟨R, 0, none⟩)] 73)).heap.size (w.alloc (.cells #[.pointer (some ⟨R, 0, none⟩)] 73))).alloc (Nat.le_refl _) (.cells #[.iface 9 (.string ⟨#[61]⟩), .iface 3 (.int .i64 8), .iface 9 (.string ⟨#[60, 62]⟩), .iface 3 (.int .i64 9), .iface 9 (.string ⟨#[60]⟩), .iface 3 (.int .i64 10), .iface 9 (.string ⟨#[60, 61]⟩), .iface 3 (.int .i64 11), .iface 9 (.string ⟨#[62]⟩), .iface 3 (.int .i64 12), .iface 9 (.string ⟨#[62, 61]⟩), .iface 3 (.int .i64 13)] 20)) (by simp; omega))
  have hvg := heap_alloc_new (w.alloc (.cells #[.pointer (some ⟨R, 0, none⟩)] 73)) (.cells #[.iface 9 (.string ⟨#[61]⟩), .iface 3 (.int .i64 8), .iface 9 (.string ⟨#[60, 62]⟩), .iface 3 (.int .i64 9), .iface 9 (.string ⟨#[60]⟩), .iface 3 (.int .i64 10), .iface 9 (.string ⟨#[60, 61]⟩), .iface 3 (.int .i64 11), .iface 9 (.string ⟨#[62]⟩), .iface 3 (.int .i64 12), .iface 9 (.string ⟨#[62, 61]⟩), .iface 3 (.int .i64 13)] 20)
  rw [World.size_alloc] at hvg
  have hS : Apart R ((w.alloc (.cells #[.pointer (some ⟨R, 0, none⟩)] 73)).alloc (.cells #[.iface 9 (.string ⟨#[61]⟩), .iface 3 (.int .i64 8), .iface 9 (.string ⟨#[60, 62]⟩), .iface 3 (.int .i64 9), .iface 9 (.string ⟨#[60]⟩), .iface 3 (.int .i64 10), .iface 9 (.string ⟨#[60, 61]⟩), .iface 3 (.int .i64 11), .iface 9 (.string ⟨#[62]⟩), .iface 3 (.int .i64 12), .iface 9 (.string ⟨#[62, 61]⟩), .iface 3 (.int .i64 13)] 20)) (w.heap.size + 1) (sgRow (sgn 0)).toArray 20 (0, 0) := hR.apart hW (Nat.le_succ _) hvg
  have CR : Calls Tryz.prog 52 #[.pointer (some ⟨R, 0, none⟩), .func (.func 53) #[] #[.pointer (some ⟨w.heap.size, 0, none⟩)], .slice (some ⟨w.heap.size + 1, 0, none⟩) 12 12] ((w.alloc (.cells #[.pointer (some ⟨R, 0, none⟩)] 73)).alloc (.cells #[.iface 9 (.string ⟨#[61]⟩), .iface 3 (.int .i64 8), .iface 9 (.string ⟨#[60, 62]⟩), .iface 3 (.int .i64 9), .iface 9 (.string ⟨#[60]⟩), .iface 3 (.int .i64 10), .iface 9 (.string ⟨#[60, 61]⟩), .iface 3 (.int .i64 11), .iface 9 (.string ⟨#[62]⟩), .iface 3 (.int .i64 12), .iface 9 (.string ⟨#[62, 61]⟩), .iface 3 (.int .i64 13)] 20)) fun e w' => RRes tv R ((w.alloc (.cells #[.pointer (some ⟨R, 0, none⟩)] 73)).alloc (.cells #[.iface 9 (.string ⟨#[61]⟩), .iface 3 (.int .i64 8), .iface 9 (.string ⟨#[60, 62]⟩), .iface 3 (.int .i64 9), .iface 9 (.string ⟨#[60]⟩), .iface 3 (.int .i64 10), .iface 9 (.string ⟨#[60, 61]⟩), .iface 3 (.int .i64 11), .iface 9 (.string ⟨#[62]⟩), .iface 3 (.int .i64 12), .iface 9 (.string ⟨#[62, 61]⟩), .iface 3 (.int .i64 13)] 20)) r e w' :=
    prow 0 (by decide) (sgn 0) rfl tb tv R (w.heap.size + 1) 53 #[] #[.pointer (some ⟨w.heap.size, 0, none⟩)] (fun w => by kernel_rfl) (fun W => Apart R W w.heap.size #[.pointer (some ⟨R, 0, none⟩)] 73 (0, 0)) (fun _ _ h k => h.kept k) f (fun s w1 q hB hR h => plev1 tb tv htb R f HE w.heap.size s q w1 hB hR (px_step tb _ _ _ _ h)) s r ((w.alloc (.cells #[.pointer (some ⟨R, 0, none⟩)] 73)).alloc (.cells #[.iface 9 (.string ⟨#[61]⟩), .iface 3 (.int .i64 8), .iface 9 (.string ⟨#[60, 62]⟩), .iface 3 (.int .i64 9), .iface 9 (.string ⟨#[60]⟩), .iface 3 (.int .i64 10), .iface 9 (.string ⟨#[60, 61]⟩), .iface 3 (.int .i64 11), .iface 9 (.string ⟨#[62]⟩), .iface 3 (.int .i64 12), .iface 9 (.string ⟨#[62, 61]⟩), .iface 3 (.int .i64 13)] 20)) h hB (hR.up hW) hS
  have hmf : ∀ (fn : Fn) (first cap : Array Value) (w : World), (Instr.makeFunc fn first cap).run Tryz.prog w = .ok (.func fn first cap) w := fun _ _ _ _ => rfl
  clear HE hS hB hR hW hW1 hvg h
  go_enter Tryz.func25, Tryz.ntmps25
  go_wp2_with fail
  refine CR.mono ?_
  rintro e w1 ⟨k1, h1⟩
  have k1 := hkW.trans k1
  cases r with
  | ok s1 =>
    obtain ⟨rfl, hR1⟩ := h1
    go_wp2
    first | go_end0 | refine bodyPost_ret (results_none rfl _ _ _) rfl ?_
    exact ⟨k1, rfl, hR1⟩
  | bad e1 a1 =>
    obtain rfl := h1
    exact ⟨rfl, k1, rfl⟩
/-- the reader reads what the plain function says -/
theorem pexpr (tb : Tb) (tv : TV) (htb : tb = tbOf tv.l) (R : Nat) : ∀ (f : Nat) (s : PS) (r : PR) (w : World), RSt tv R w s → px tb f (.lev 0) s = some r → Calls Tryz.prog 25 #[.pointer (some ⟨R, 0, none⟩)] w fun e w' => RRes tv R w r e w' := by
  intro f
  induction f with
  | zero => intro s r w _ h; cases h
  | succ f ih => exact fun s r w hR h => plev0 tb tv htb R f (fun s w q hR h => ih s q w hR h) s r w hR h
end Go.Proofs.YtfbkoieodflcpaaGreatDoor
