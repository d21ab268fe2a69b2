/-
  orielref07: text of a two-sided operation.
-/
import Derived.Test.YtfbkoieodflcpaaGreatDoorMg3
import Derived.Test.YtfbkoieodflcpaaGreatDoorRows
import Derived.Test.YtfbkoieodflcpaaGreatDoorBase
import Derived.Test.YtfbkoieodflcpaaGreatDoorProg
import Derived.Test.YtfbkoieodflcpaaGreatDoorShelf
import Derived.Test.YtfbkoieodflcpaaGreatDoorAddrC
import Derived.Test.YtfbkoieodflcpaaGreatDoorMg5
import Derived.Test.YtfbkoieodflcpaaGreatDoorDecA
import Derived.Test.YtfbkoieodflcpaaGreatDoorValA
import Derived.Test.YtfbkoieodflcpaaGreatDoorValB
import Derived.Test.YtfbkoieodflcpaaGreatDoorMg9
import Derived.Test.YtfbkoieodflcpaaGreatDoorMapK
import Derived.Test.YtfbkoieodflcpaaGreatDoorRefP
import Derived.Test.YtfbkoieodflcpaaGreatDoorRefQ
import Derived.Test.YtfbkoieodflcpaaGreatDoorRefName
import Derived.Test.YtfbkoieodflcpaaGreatDoorShelfC
import Derived.Test.YtfbkoieodflcpaaGreatDoorMg2
import Derived.Test.YtfbkoieodflcpaaGreatDoorNameX
import Derived.Test.YtfbkoieodflcpaaGreatDoorNameY
import Derived.Test.YtfbkoieodflcpaaGreatDoorDPrint
import Derived.Test.YtfbkoieodflcpaaGreatDoorValK
import Derived.Test.YtfbkoieodflcpaaGreatDoorRPr
import Derived.Test.YtfbkoieodflcpaaGreatDoorValL
import Derived.Test.YtfbkoieodflcpaaGreatDoorPrP
import Derived.Test.YtfbkoieodflcpaaGreatDoorPrA
import Derived.Test.YtfbkoieodflcpaaGreatDoorT07
import Derived.Test.YtfbkoieodflcpaaGreatDoorRefN
import Derived.Test.YtfbkoieodflcpaaGreatDoorRefM
import Derived.Test.YtfbkoieodflcpaaGreatDoorRefY
import Derived.Test.YtfbkoieodflcpaaGreatDoorRefZ
import Derived.Test.YtfbkoieodflcpaaGreatDoorRLev
import Derived.Test.YtfbkoieodflcpaaGreatDoorT07B
import Derived.WalkSpells
import Derived.WalkLawsBesides
import Derived.StillTactics
import Derived.Laws.Pointers
import Derived.Deep.RegionHeld3
import Derived.Deep.QuietTactic
import Derived.BigQuiet
import Derived.RowKit3
import Derived.Lib.Hide
import Derived.Lib.OthersKept
import Derived.OwnWalk
import Derived.Lib.IndexLaws
import Derived.Lib.ItoaMem
import Derived.Lib.TrimByte
import Derived.Lib.SlTrimSet
import Derived.Lib.ParseIntB
import Derived.WalkKit
import Derived.ProofKit
import Derived.OpenShut
import Derived.Carry
import Derived.ChangeSame
import Derived.Deep.Draws
import Derived.Shelf.Strings.Builder1
import Derived.Shelf.Strings.Builder2
import Derived.Shelf.Strings.Trim
import Derived.Shelf.Small.Utf8
import Derived.Shelf.Small.Strs
import Derived.Shelf.Small.Wraps
import Derived.Shelf.Strings.BuilderF
import Derived.Shelf.Strings.BuilderK
import Derived.Shelf.Strconv.Itoa0
import Derived.Shelf.Strconv.Itoa1
import Derived.Shelf.LaysM
import Derived.Shelf.Strconv.Itoa2
import Derived.Shelf.Strconv.Itoa3
import Derived.Shelf.Strings.Search1
import Derived.Shelf.Strings.Search2
import Derived.Shelf.Strings.Search3
import Derived.Shelf.Strings.Cut
import Derived.Shelf.Strings.Count
import Derived.Shelf.Strings.Shaped
import Derived.Shelf.Strings.Prefix
import Derived.Shelf.Strings.Split
import Derived.Shelf.Strings.Replace
import Derived.Shelf.Strings.Runes
import Derived.Shelf.Strings.AsciiSet
import Derived.Shelf.Unicode.DecodeSlow
import Derived.Lib.ItoaNum
import Derived.Maps.OwnSet
import Derived.Maps.AppendAt
import Derived.Ground.MpProg
import Derived.Shelf.Pu.ParseUintPublic10
import Derived.Lib.Bytealg
import Derived.Lib.Replace
namespace Go.Proofs.YtfbkoieodflcpaaGreatDoor
open Go.RowKit

theorem cat2' (a b : List UInt8) : (⟨(a ++ b).toArray⟩ : ByteArray) = ⟨a.toArray⟩ ++ ⟨b.toArray⟩ := by
  apply ByteArray.ext
  simp
set_option maxRecDepth 100000 in
set_option maxHeartbeats 4000000 in
theorem text_two (ns : List NL) (m : Nat) (hm : m ≤ 1024) (n : NL) (hn : ns[m]? = some n) (hk : n.kind = 4) (ho1 : 3 ≤ n.op) (ho2' : n.op ≤ 13) (y : TL) (ky : Nat) (hky : ky < m) (hyl : y.text.length ≤ 3000000000) (hy : TextAt ns m y ky) (x : TL) (kx : Nat) (hkx : kx ≤ m - ky) (hxl : x.text.length ≤ 3000000000) (hx : TextAt ns (m - ky) x kx) (rx ry : List UInt8) (hrx : x.at' (levelI n.op) = rx) (hry : y.at' (levelI n.op + 1) = ry) : TextAt ns (m + 1) ⟨rx ++ opT n.op ++ ry, levelI n.op⟩ (ky + kx + 1) := by
  intro w A cap ht hcap hR
  obtain ⟨ab, ao, rfl, hab, hcell⟩ := hR m n.cs (by rw [List.getElem?_map, hn]; rfl)
  have hc0 : w.cell? ⟨ab, ao + m * 15, none⟩ = some (.int .i64 n.kind) := hcell 0 _ rfl
  have hc1 : w.cell? ⟨ab, ao + m * 15 + 1, none⟩ = some (.int .i64 n.v.t) := hcell 1 _ rfl
  have hc2 : w.cell? ⟨ab, ao + m * 15 + 2, none⟩ = some (.int .i64 n.v.n) := hcell 2 _ rfl
  have hc3 : w.cell? ⟨ab, ao + m * 15 + 3, none⟩ = some (.string n.v.s) := hcell 3 _ rfl
  have hc4 : w.cell? ⟨ab, ao + m * 15 + 4, none⟩ = some (.bool n.v.b) := hcell 4 _ rfl
  have hc5 : w.cell? ⟨ab, ao + m * 15 + 5, none⟩ = some (.int .i64 n.v.c) := hcell 5 _ rfl
  have hc6 : w.cell? ⟨ab, ao + m * 15 + 6, none⟩ = some (.int .i64 n.r) := hcell 6 _ rfl
  have hc7 : w.cell? ⟨ab, ao + m * 15 + 7, none⟩ = some (.int .i64 n.c) := hcell 7 _ rfl
  have hc8 : w.cell? ⟨ab, ao + m * 15 + 8, none⟩ = some (.int .i64 n.t) := hcell 8 _ rfl
  have hc9 : w.cell? ⟨ab, ao + m * 15 + 9, none⟩ = some (.int .i64 n.l) := hcell 9 _ rfl
  have hc10 : w.cell? ⟨ab, ao + m * 15 + 10, none⟩ = some (.int .i64 n.b) := hcell 10 _ rfl
  have hc11 : w.cell? ⟨ab, ao + m * 15 + 11, none⟩ = some (.int .i64 n.q) := hcell 11 _ rfl
  have hc12 : w.cell? ⟨ab, ao + m * 15 + 12, none⟩ = some (.int .i64 n.op) := hcell 12 _ rfl
  have hc13 : w.cell? ⟨ab, ao + m * 15 + 13, none⟩ = some (.string n.name) := hcell 13 _ rfl
  have hc14 : w.cell? ⟨ab, ao + m * 15 + 14, none⟩ = some (.int .i64 n.args) := hcell 14 _ rfl
  have hwk : IntKind.i64.wrap ((m : Int) + 1 - 1) = (m : Int) := by rw [IntWalk.i64_in _ (by omega)]; omega
  have hwp : IntKind.i64.wrap (m : Int) = (m : Int) := IntWalk.i64_in _ (by omega)
  have hi0 : (0 : Int) ≤ (m : Int) := by omega
  have hi1 : (m : Int) < (m : Int) + 1 := by omega
  have hne : ab ≠ w.heap.size := by omega
  have hRH := Lib.hid hR
  have htH := Lib.hid ht
  have hb0 : Below w.heap.size w (w.alloc (.cells #[.int .i64 n.kind, .int .i64 n.v.t, .int .i64 n.v.n, .string n.v.s, .bool n.v.b, .int .i64 n.v.c, .int .i64 n.r, .int .i64 n.c, .int .i64 n.t, .int .i64 n.l, .int .i64 n.b, .int .i64 n.q, .int .i64 n.op, .string n.name, .int .i64 n.args] 47)) := (Below.refl _ _).alloc (Nat.le_refl _) _
  clear hcell hn hR ht
  have fk1 : (n.kind == 1) = false := by rw [hk]; rfl
  have fk2 : (n.kind == 2) = false := by rw [hk]; rfl
  have fk3 : (n.kind == 3) = false := by rw [hk]; rfl
  have fk5 : (n.kind == 5) = false := by rw [hk]; rfl
  have g1 : (n.op == 1) = false := by simp; omega
  have g2 : (n.op == 2) = false := by simp; omega
  have ho1' : 1 ≤ n.op := by omega
  have ho2 := ho2'
  obtain ⟨lv, hlv⟩ : ∃ lv, levelI n.op = lv := ⟨_, rfl⟩
  have hlvb : 1 ≤ lv ∧ lv ≤ 6 := by rw [← hlv]; unfold levelI; (repeat' split) <;> omega
  have CV : ∀ w0 : World, Calls Tryz.prog 44 #[.int .i64 n.op] w0 fun e w' => e = .returned (.int .i64 lv) ∧ w0 = w' := fun w0 => by rw [← hlv]; exact rref_level n.op ho1' ho2 w0
  have CVH := Lib.hid CV
  clear CV
  rw [hlv] at hrx hry ⊢
  obtain ⟨sg, hsg⟩ : ∃ sg, opT n.op = sg := ⟨_, rfl⟩
  have hsgl : sg.length ≤ 2 := hsg ▸ sign_len n.op
  have CG : ∀ w0 : World, Calls Tryz.prog 46 #[.int .i64 n.op] w0 fun e w' => e = .returned (.string ⟨sg.toArray⟩) ∧ Below w0.heap.size w0 w' := fun w0 => by rw [← hsg]; exact r7sign n.op ho1' ho2 w0
  have CGH := Lib.hid CG
  rw [hsg]
  have hrxl : rx.length ≤ 3000000002 := by have := at_len x lv; rw [hrx] at this; omega
  have hryl : ry.length ≤ 3000000002 := by have := at_len y (lv + 1); rw [hry] at this; omega
  have CBX : ∀ w0 : World, Calls Tryz.prog 45 #[.string ⟨x.text.toArray⟩, .int .i64 x.binds, .int .i64 lv] w0 fun e w' => e = .returned (.string ⟨rx.toArray⟩) ∧ w0 = w' := fun w0 => r7bound x lv (by omega) rx hrx w0
  have CBXH := Lib.hid CBX
  have CBY : ∀ w0 : World, Calls Tryz.prog 45 #[.string ⟨y.text.toArray⟩, .int .i64 y.binds, .int .i64 (lv + 1)] w0 fun e w' => e = .returned (.string ⟨ry.toArray⟩) ∧ w0 = w' := fun w0 => r7bound y (lv + 1) (by omega) ry hry w0
  have CBYH := Lib.hid CBY
  have CY : ∀ w0 : World, Below w.heap.size w w0 → Calls Tryz.prog 20 #[.slice (some ⟨ab, ao, none⟩) (m) cap] w0 fun e w' => e = .returned (.tuple #[.string ⟨y.text.toArray⟩, .int .i64 y.binds, .int .i64 ((ky : Nat) : Int)]) ∧ Below w0.heap.size w0 w' := fun w0 hb => hy w0 _ cap (Tab.below htH.out hb) (by omega) ((hRH.out.below hb).mono hb.size)
  have CYH := Lib.hid CY
  clear CY
  obtain ⟨m2, hm2⟩ : ∃ m2, m - ky = m2 := ⟨_, rfl⟩
  rw [hm2] at hx hkx
  have CX : ∀ w0 : World, Below w.heap.size w w0 → Calls Tryz.prog 20 #[.slice (some ⟨ab, ao, none⟩) (m2) cap] w0 fun e w' => e = .returned (.tuple #[.string ⟨x.text.toArray⟩, .int .i64 x.binds, .int .i64 ((kx : Nat) : Int)]) ∧ Below w0.heap.size w0 w' := fun w0 hb => hx w0 _ cap (Tab.below htH.out hb) (by omega) ((hRH.out.below hb).mono hb.size)
  have CXH := Lib.hid CX
  clear CX
  have hwx : IntKind.i64.wrap ((m : Int) - (ky : Int)) = (m2 : Int) := by rw [IntWalk.i64_in _ (by omega)]; omega
  have hwl : IntKind.i64.wrap (lv + 1) = lv + 1 := IntWalk.i64_in _ (by omega)
  have hwu : IntKind.i64.wrap ((ky : Int) + (kx : Int)) = (ky : Int) + (kx : Int) := IntWalk.i64_in _ (by omega)
  have hwu2 : IntKind.i64.wrap ((ky : Int) + (kx : Int) + 1) = (ky : Int) + (kx : Int) + 1 := IntWalk.i64_in _ (by omega)
  have hmc : m ≤ cap := by omega
  have hmc2 : m2 ≤ cap := by omega
  have hm20 : (0 : Int) ≤ (m2 : Int) := by omega
  have hm21 : (m2 : Int) ≤ (m : Int) + 1 := by omega
  have hm22 : m2 ≤ m + 1 := by omega
  have hb1 : (w.alloc (.cells #[.int .i64 n.kind, .int .i64 n.v.t, .int .i64 n.v.n, .string n.v.s, .bool n.v.b, .int .i64 n.v.c, .int .i64 n.r, .int .i64 n.c, .int .i64 n.t, .int .i64 n.l, .int .i64 n.b, .int .i64 n.q, .int .i64 n.op, .string n.name, .int .i64 n.args] 47)).cell? ⟨w.heap.size, 12, none⟩ = some (.int .i64 n.op) := by simp [go_sem]
  clear hk ho1 ho1' ho2 ho2' hlv hrx hry CBX CBY CG hx hy hsg hm2
  go_enter Tryz.func20, Tryz.ntmps20
  go_wp2_with fail
  go_at_call 44
  refine (CVH.out _).mono ?_
  rintro e w1 ⟨rfl, rfl⟩
  go_wp2_with fail
  go_at_call 20
  refine (CYH.out _ hb0).mono ?_
  rintro e w1 ⟨rfl, hb⟩
  have hbe1 : Below w.heap.size w w1 := hb0.trans (hb.mono hb0.size)
  have hz1 : w.heap.size < w1.heap.size := by have := hb.size; simp at this; omega
  have hb2 : w1.cell? ⟨w.heap.size, 12, none⟩ = some (.int .i64 n.op) := (hb.cell (p := ⟨w.heap.size, 12, none⟩) (by show w.heap.size < (World.alloc _ _).heap.size; simp)).trans hb1
  clear hb hb1
  go_wp2_with fail
  go_at_call 20
  refine (CXH.out _ hbe1).mono ?_
  rintro e w2 ⟨rfl, hb⟩
  have hbe2 : Below w.heap.size w w2 := hbe1.trans (hb.mono hbe1.size)
  have hz2 : w.heap.size < w2.heap.size := Nat.lt_of_lt_of_le hz1 hb.size
  have hb3 : w2.cell? ⟨w.heap.size, 12, none⟩ = some (.int .i64 n.op) := (hb.cell (p := ⟨w.heap.size, 12, none⟩) hz1).trans hb2
  have hcc1 : ¬ (9223372036854775807 < rx.length + sg.length) := by omega
  have hcc2 : ¬ (9223372036854775807 < rx.length + sg.length + ry.length) := by omega
  clear hb hb2
  go_wp2_with fail
  refine wp_region_noPanic ?_
  refine wp_region_held_drew (S := fun w' => w'.cell? ⟨w.heap.size, 12, none⟩ = some (.int .i64 n.op)) (by kernel_rfl) hb3 (fun hHeld => ?_)
  refine wpAnyH_take (i := 0) (oi := ⟨_, _, _, _, _, _⟩) (v := ?v1) rfl (by kernel_rfl) (by kernel_rfl) (by kernel_rfl) (fun _ _ _ h => h) (Or.inl ⟨by rfl, ?hy1⟩) hHeld ?rest1
  case hy1 => (intro w2 hSw; (try dsimp only at hSw); go_split_ands; go_simp; first | done | with_reducible rfl)
  try simp only [Act.put, List.setIfInBounds_toArray, List.set_cons_zero, List.set_cons_succ]
  refine wpAnyH_take (i := 1) (oi := ⟨_, _, _, _, _, _⟩) (v := ?v2) rfl (by kernel_rfl) (by kernel_rfl) (by kernel_rfl) (fun _ _ _ h => h) (Or.inl ⟨by rfl, ?hy2⟩) hHeld ?rest2
  case hy2 => (intro w2 hSw; (try dsimp only at hSw); go_split_ands; go_simp; first | done | with_reducible rfl)
  try simp only [Act.put, List.setIfInBounds_toArray, List.set_cons_zero, List.set_cons_succ]
  refine wpAnyH_take (i := 2) (oi := ⟨_, _, _, _, _, _⟩) (v := ?v3) rfl (by kernel_rfl) (by kernel_rfl) (by kernel_rfl) (fun _ _ _ h => h) (Or.inl ⟨by rfl, ?hy3⟩) hHeld ?rest3
  case hy3 => (intro w2 hSw; (try dsimp only at hSw); go_split_ands; go_simp; first | done | with_reducible rfl)
  try simp only [Act.put, List.setIfInBounds_toArray, List.set_cons_zero, List.set_cons_succ]
  refine wpAnyH_take (i := 4) (oi := ⟨_, _, _, _, _, _⟩) (v := ?v4) rfl (by kernel_rfl) (by kernel_rfl) (by kernel_rfl) (fun _ _ _ h => h) (Or.inl ⟨by rfl, ?hy4⟩) hHeld ?rest4
  case hy4 => (intro w2 hSw; (try dsimp only at hSw); go_split_ands; go_simp; first | done | with_reducible rfl)
  try simp only [Act.put, List.setIfInBounds_toArray, List.set_cons_zero, List.set_cons_succ]
  refine wpAnyH_take (i := 5) (oi := ⟨_, _, _, _, _, _⟩) (v := ?v5) rfl (by kernel_rfl) (by kernel_rfl) (by kernel_rfl) (fun _ _ _ h => h) (Or.inl ⟨by rfl, ?hy5⟩) hHeld ?rest5
  case hy5 => (intro w2 hSw; (try dsimp only at hSw); go_split_ands; go_simp; first | done | with_reducible rfl)
  try simp only [Act.put, List.setIfInBounds_toArray, List.set_cons_zero, List.set_cons_succ]
  refine wpAnyH_take (i := 8) (oi := ⟨_, _, _, _, _, _⟩) (v := ?v6) rfl (by kernel_rfl) (by kernel_rfl) (by kernel_rfl) (fun _ _ _ h => h) (Or.inl ⟨by rfl, ?hy6⟩) hHeld ?rest6
  case hy6 => (intro w2 hSw; (try dsimp only at hSw); go_split_ands; go_simp; first | done | with_reducible rfl)
  try simp only [Act.put, List.setIfInBounds_toArray, List.set_cons_zero, List.set_cons_succ]
  refine wpAnyH_take (i := 9) (oi := ⟨_, _, _, _, _, _⟩) (v := ?v7) rfl (by kernel_rfl) (by kernel_rfl) (by kernel_rfl) (fun _ _ _ h => h) (Or.inl ⟨by rfl, ?hy7⟩) hHeld ?rest7
  case hy7 => (intro w2 hSw; (try dsimp only at hSw); go_split_ands; go_simp; first | done | with_reducible rfl)
  try simp only [Act.put, List.setIfInBounds_toArray, List.set_cons_zero, List.set_cons_succ]
  refine wpAnyH_take (i := 10) (oi := ⟨_, _, _, _, _, _⟩) (v := ?v8) rfl (by kernel_rfl) (by kernel_rfl) (by kernel_rfl) (fun _ _ _ h => h) (Or.inl ⟨by rfl, ?hy8⟩) hHeld ?rest8
  case hy8 => (intro w2 hSw; (try dsimp only at hSw); go_split_ands; go_simp; first | done | with_reducible rfl)
  try simp only [Act.put, List.setIfInBounds_toArray, List.set_cons_zero, List.set_cons_succ]
  refine wpAnyH_take (i := 11) (oi := ⟨_, _, _, _, _, _⟩) (v := ?v9) rfl (by kernel_rfl) (by kernel_rfl) (by kernel_rfl) (fun _ _ _ h => h) (Or.inl ⟨by rfl, ?hy9⟩) hHeld ?rest9
  case hy9 => (intro w2 hSw; (try dsimp only at hSw); go_split_ands; go_simp; first | done | with_reducible rfl)
  try simp only [Act.put, List.setIfInBounds_toArray, List.set_cons_zero, List.set_cons_succ]
  refine wpAnyH_take (i := 14) (oi := ⟨_, _, _, _, _, _⟩) (v := ?v10) rfl (by kernel_rfl) (by kernel_rfl) (by kernel_rfl) (fun _ _ _ h => h) (Or.inl ⟨by rfl, ?hy10⟩) hHeld ?rest10
  case hy10 => (intro w2 hSw; (try dsimp only at hSw); go_split_ands; go_simp; first | done | with_reducible rfl)
  try simp only [Act.put, List.setIfInBounds_toArray, List.set_cons_zero, List.set_cons_succ]
  refine wpAnyH_take (i := 15) (oi := ⟨_, _, _, _, _, _⟩) (v := ?v11) rfl (by kernel_rfl) (by kernel_rfl) (by kernel_rfl) (fun _ _ _ h => h) (Or.inl ⟨by rfl, ?hy11⟩) hHeld ?rest11
  case hy11 => (intro w2 hSw; (try dsimp only at hSw); go_split_ands; go_simp; first | done | with_reducible rfl)
  try simp only [Act.put, List.setIfInBounds_toArray, List.set_cons_zero, List.set_cons_succ]
  refine wpAnyH_take (i := 16) (oi := ⟨_, _, _, _, _, _⟩) (v := ?v12) rfl (by kernel_rfl) (by kernel_rfl) (by kernel_rfl) (fun _ _ _ h => h) (Or.inl ⟨by rfl, ?hy12⟩) hHeld ?rest12
  case hy12 => (intro w2 hSw; (try dsimp only at hSw); go_split_ands; go_simp; first | done | with_reducible rfl)
  try simp only [Act.put, List.setIfInBounds_toArray, List.set_cons_zero, List.set_cons_succ]
  refine wpAnyH_take (i := 17) (oi := ⟨_, _, _, _, _, _⟩) (v := ?v13) rfl (by kernel_rfl) (by kernel_rfl) (by kernel_rfl) (fun _ _ _ h => h) (Or.inl ⟨by rfl, ?hy13⟩) hHeld ?rest13
  case hy13 => (intro w2 hSw; (try dsimp only at hSw); go_split_ands; go_simp; first | done | with_reducible rfl)
  try simp only [Act.put, List.setIfInBounds_toArray, List.set_cons_zero, List.set_cons_succ]
  refine wpAnyH_take (i := 18) (oi := ⟨_, _, _, _, _, _⟩) (v := ?v14) rfl (by kernel_rfl) (by kernel_rfl) (by kernel_rfl) (fun _ _ _ h => h) (Or.inl ⟨by rfl, ?hy14⟩) hHeld ?rest14
  case hy14 => (intro w2 hSw; (try dsimp only at hSw); go_split_ands; go_simp; first | done | with_reducible rfl)
  try simp only [Act.put, List.setIfInBounds_toArray, List.set_cons_zero, List.set_cons_succ]
  refine wpAnyH_ready (rs := [3]) (by kernel_rfl) (by simp) ?_
  refine AllReadyH.cons (o := ⟨_, _, _, _, _, _⟩) rfl (fun K hK => ?_) AllReadyH.nil
  go_split_ands
  go_simp
  refine (CBXH.out _).mono ?_
  rintro e w3 ⟨rfl, rfl⟩
  refine hK.out _ _ (by first | exact hb3 | exact hb4) (fun hHeld => ?_)
  clear hK K
  try simp only [Act.put, List.setIfInBounds_toArray, List.set_cons_zero, List.set_cons_succ]
  refine wpAnyH_ready (rs := [6]) (by kernel_rfl) (by simp) ?_
  refine AllReadyH.cons (o := ⟨_, _, _, _, _, _⟩) rfl (fun K hK => ?_) AllReadyH.nil
  go_split_ands
  go_simp
  refine (CGH.out _).mono ?_
  rintro e w4 ⟨rfl, hb⟩
  have hbb : Below w2.heap.size w2 w4 := ((Below.refl w2.heap.size w2).drew).trans hb
  have hbe4 : Below w.heap.size w w4 := hbe2.trans (hbb.mono hbe2.size)
  have hb4 := (hbb.cell (p := ⟨w.heap.size, 12, none⟩) hz2).trans hb3
  refine hK.out _ _ hb4 (fun hHeld => ?_)
  clear hK K hb hbb
  try simp only [Act.put, List.setIfInBounds_toArray, List.set_cons_zero, List.set_cons_succ]
  refine wpAnyH_take (i := 7) (oi := ⟨_, _, _, _, _, _⟩) (v := ?v15) rfl (by kernel_rfl) (by kernel_rfl) (by kernel_rfl) (fun _ _ _ h => h) (Or.inl ⟨by rfl, ?hy15⟩) hHeld ?rest15
  case hy15 => (intro w2 hSw; (try dsimp only at hSw); go_split_ands; go_simp; first | done | with_reducible rfl)
  try simp only [Act.put, List.setIfInBounds_toArray, List.set_cons_zero, List.set_cons_succ]
  refine wpAnyH_ready (rs := [12]) (by kernel_rfl) (by simp) ?_
  refine AllReadyH.cons (o := ⟨_, _, _, _, _, _⟩) rfl (fun K hK => ?_) AllReadyH.nil
  go_split_ands
  go_simp
  refine (CBYH.out _).mono ?_
  rintro e w3 ⟨rfl, rfl⟩
  refine hK.out _ _ (by first | exact hb3 | exact hb4) (fun hHeld => ?_)
  clear hK K
  try simp only [Act.put, List.setIfInBounds_toArray, List.set_cons_zero, List.set_cons_succ]
  refine wpAnyH_take (i := 13) (oi := ⟨_, _, _, _, _, _⟩) (v := ?v16) rfl (by kernel_rfl) (by kernel_rfl) (by kernel_rfl) (fun _ _ _ h => h) (Or.inl ⟨by rfl, ?hy16⟩) hHeld ?rest16
  case hy16 => (intro w2 hSw; (try dsimp only at hSw); go_split_ands; go_simp; first | done | with_reducible rfl)
  try simp only [Act.put, List.setIfInBounds_toArray, List.set_cons_zero, List.set_cons_succ]
  refine wpAnyH_take (i := 19) (oi := ⟨_, _, _, _, _, _⟩) (v := ?v17) rfl (by kernel_rfl) (by kernel_rfl) (by kernel_rfl) (fun _ _ _ h => h) (Or.inl ⟨by rfl, ?hy17⟩) hHeld ?rest17
  case hy17 => (intro w2 hSw; (try dsimp only at hSw); go_split_ands; go_simp; first | done | with_reducible rfl)
  try simp only [Act.put, List.setIfInBounds_toArray, List.set_cons_zero, List.set_cons_succ]
  refine wpAnyH_take (i := 20) (oi := ⟨_, _, _, _, _, _⟩) (v := ?v18) rfl (by kernel_rfl) (by kernel_rfl) (by kernel_rfl) (fun _ _ _ h => h) (Or.inl ⟨by rfl, ?hy18⟩) hHeld ?rest18
  case hy18 => (intro w2 hSw; (try dsimp only at hSw); go_split_ands; go_simp; first | done | with_reducible rfl)
  try simp only [Act.put, List.setIfInBounds_toArray, List.set_cons_zero, List.set_cons_succ]
  refine wpAnyH_take (i := 21) (oi := ⟨_, _, _, _, _, _⟩) (v := ?v19) rfl (by kernel_rfl) (by kernel_rfl) (by kernel_rfl) (fun _ _ _ h => h) (Or.inl ⟨by rfl, ?hy19⟩) hHeld ?rest19
  case hy19 => (intro w2 hSw; (try dsimp only at hSw); go_split_ands; go_simp; first | done | with_reducible rfl)
  try simp only [Act.put, List.setIfInBounds_toArray, List.set_cons_zero, List.set_cons_succ]
  refine wpAnyH_done (by kernel_rfl) ?_ _
  refine NoPanic.normal ?_
  go_wp2
  go_ret3
  exact ⟨by rw [cat2', cat2']; rfl, hbe4⟩
end Go.Proofs.YtfbkoieodflcpaaGreatDoor
