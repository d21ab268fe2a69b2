/-
  Contracts of Go's library at generic instantiations of this seat's translation, laid by the kit's own command in its plain mode; aggs: integer; numbers sorted.
-/
import Derived.Test.YtaomlgpakbjegaaGreatDoorProg
import Derived.Test.YtaomlgpakbjegaaGreatDoorRows
import Derived.Test.YtaomlgpakbjegaaGreatDoorBase
import Derived.Test.YtaomlgpakbjegaaGreatDoorRowB
import Derived.Test.YtaomlgpakbjegaaGreatDoorMg5
import Derived.Test.YtaomlgpakbjegaaGreatDoorValA
import Derived.Test.YtaomlgpakbjegaaGreatDoorValB
import Derived.Test.YtaomlgpakbjegaaGreatDoorValC
import Derived.Test.YtaomlgpakbjegaaGreatDoorAddrC
import Derived.Test.YtaomlgpakbjegaaGreatDoorMg10
import Derived.Test.YtaomlgpakbjegaaGreatDoorMapK
import Derived.Test.YtaomlgpakbjegaaGreatDoorShelf
import Derived.Test.YtaomlgpakbjegaaGreatDoorMg2
import Derived.Test.YtaomlgpakbjegaaGreatDoorMg12
import Derived.Test.YtaomlgpakbjegaaGreatDoorDPrint
import Derived.Test.YtaomlgpakbjegaaGreatDoorRPr
import Derived.Test.YtaomlgpakbjegaaGreatDoorKnuth
import Derived.Test.YtaomlgpakbjegaaGreatDoorDDiv
import Derived.Test.YtaomlgpakbjegaaGreatDoorDDig
import Derived.Test.YtaomlgpakbjegaaGreatDoorCutW
import Derived.Test.YtaomlgpakbjegaaGreatDoorDParse
import Derived.Test.YtaomlgpakbjegaaGreatDoorDecK
import Derived.Test.YtaomlgpakbjegaaGreatDoorDDivA
import Derived.Test.YtaomlgpakbjegaaGreatDoorValD
import Derived.Test.YtaomlgpakbjegaaGreatDoorMg23
import Derived.Test.YtaomlgpakbjegaaGreatDoorValL
import Derived.Test.YtaomlgpakbjegaaGreatDoorMg25
import Derived.Test.YtaomlgpakbjegaaGreatDoorAItm
import Derived.Test.YtaomlgpakbjegaaGreatDoorAAmo
import Derived.Test.YtaomlgpakbjegaaGreatDoorASum
import Derived.Test.YtaomlgpakbjegaaGreatDoorAFind
import Derived.Test.YtaomlgpakbjegaaGreatDoorACall
import Derived.Test.YtaomlgpakbjegaaGreatDoorACallB
import Derived.Test.YtaomlgpakbjegaaGreatDoorANum
import Derived.Shelf.SlGeneric
import Derived.Shelf.SortM.Plain
import Derived.Shelf.SortM.SortNone
import Derived.Ground.SlgmProg
import Derived.Sort.OwnSorted
import Derived.Sort.OwnSortedInts
import Derived.Maps.AppendAt
import Derived.WalkSpells
import Derived.WalkLawsBesides
import Derived.StillTactics
import Derived.Laws.Pointers
import Derived.Deep.RegionHeld3
import Derived.Deep.QuietTactic
import Derived.BigQuiet
import Derived.RowKit3
import Derived.Lib.Hide
import Derived.Lib.OthersKept
import Derived.OwnWalk
import Derived.Lib.IndexLaws
import Derived.Lib.ItoaMem
import Derived.WalkKit
import Derived.ProofKit
import Derived.OpenShut
import Derived.Carry
import Derived.ChangeSame
import Derived.Deep.Draws
import Derived.Maps.OwnSet
import Derived.Laws.EntriesVeiled
import Derived.Laws.BitsAllLaws
import Derived.Shelf.Strings.Builder1
import Derived.Shelf.Strings.Builder2
import Derived.Shelf.Strings.OnBuilder
import Derived.Shelf.Strings.Trim
import Derived.Shelf.Small.Utf8
import Derived.Shelf.Small.Bits
import Derived.Shelf.Small.Strs
import Derived.Shelf.Small.Wraps
import Derived.Shelf.Strings.BuilderF
import Derived.Shelf.Strings.BuilderK
import Derived.Shelf.Strconv.Itoa0
import Derived.Shelf.Strconv.Itoa1
import Derived.Shelf.LaysM
import Derived.Shelf.Strconv.Itoa2
import Derived.Ground.MpProg
import Derived.Shelf.Pu.ParseUintPublic10
import Derived.Shelf.Strings.Search1
import Derived.Shelf.Strings.Search2
import Derived.Shelf.Strings.Search3
import Derived.Shelf.Strings.Cut
import Derived.Shelf.Strings.Shaped
import Derived.Shelf.Strings.Prefix
import Derived.Shelf.Strings.Runes
import Derived.Shelf.Strings.AsciiSet
import Derived.Shelf.Bits.Mul64
import Derived.Shelf.Strings.Repeat
import Derived.Shelf.Unicode.DecodeSlow
import Derived.Lib.TrimByte
import Derived.Lib.Bytealg
import Derived.Lib.SlTrimSet
import Derived.Lib.ParseIntB
import Derived.Shelf.Strings.SlTrimAscii
import Derived.Lib.SmallJoins
import Derived.Deep.RegionWith
import Derived.Laws.Externs
import Derived.IntWalk
namespace Go.Proofs
open Go.Shelf
def Tryz.sortL_ren : Go.Shelf.Ren := ⟨fun | 5 => 199 | 8 => 225 | 7 => 224 | 19 => 256 | 20 => 245 | 10 => 247 | 11 => 248 | 12 => 249 | 13 => 250 | 14 => 251 | 15 => 252 | 16 => 253 | 17 => 254 | 18 => 255 | 30 => 275 | 31 => 276 | 32 => 277 | 33 => 278 | 34 => 279 | 35 => 280 | 40 => 288 | n => n, fun | 23 => 50 | 25 => 2 | 3 => 3 | 32 => 170 | 22 => 50 | 0 => 0 | 44 => 202 | 46 => 129 | 4 => 4 | 36 => 239 | 35 => 238 | 41 => 152 | 5 => 5 | 9 => 9 | 53 => 256 | 57 => 260 | 63 => 270 | 64 => 271 | n => n, fun | n => n⟩
theorem Tryz.sortL : Go.Proofs.SlLaysM.n5 Tryz.prog Tryz.sortL_ren := {
  mixed := by kernel_rfl
  f5 := ⟨Tryz.f199.name, by decide, Tryz.func199.trans (congrArg some (by kernel_rfl))⟩
  f7 := ⟨Tryz.f224.name, by decide, Tryz.func224.trans (congrArg some (by kernel_rfl))⟩
  f8 := Tryz.func225.trans (congrArg some (by kernel_rfl))
  f10 := ⟨Tryz.f247.name, by decide, Tryz.func247.trans (congrArg some (by kernel_rfl))⟩
  f11 := ⟨Tryz.f248.name, by decide, Tryz.func248.trans (congrArg some (by kernel_rfl))⟩
  f12 := ⟨Tryz.f249.name, by decide, Tryz.func249.trans (congrArg some (by kernel_rfl))⟩
  f13 := ⟨Tryz.f250.name, by decide, Tryz.func250.trans (congrArg some (by kernel_rfl))⟩
  f14 := ⟨Tryz.f251.name, by decide, Tryz.func251.trans (congrArg some (by kernel_rfl))⟩
  f15 := ⟨Tryz.f252.name, by decide, Tryz.func252.trans (congrArg some (by kernel_rfl))⟩
  f16 := ⟨Tryz.f253.name, by decide, Tryz.func253.trans (congrArg some (by kernel_rfl))⟩
  f17 := ⟨Tryz.f254.name, by decide, Tryz.func254.trans (congrArg some (by kernel_rfl))⟩
  f18 := ⟨Tryz.f255.name, by decide, Tryz.func255.trans (congrArg some (by kernel_rfl))⟩
  f19 := Tryz.func256.trans (congrArg some (by kernel_rfl))
  f20 := Tryz.func245.trans (congrArg some (by kernel_rfl))
  f30 := ⟨Tryz.f275.name, by decide, Tryz.func275.trans (congrArg some (by kernel_rfl))⟩
  f31 := Tryz.func276.trans (congrArg some (by kernel_rfl))
  f32 := Tryz.func277.trans (congrArg some (by kernel_rfl))
  f33 := ⟨Tryz.f278.name, by decide, Tryz.func278.trans (congrArg some (by kernel_rfl))⟩
  f34 := ⟨Tryz.f279.name, by decide, Tryz.func279.trans (congrArg some (by kernel_rfl))⟩
  f35 := ⟨Tryz.f280.name, by decide, Tryz.func280.trans (congrArg some (by kernel_rfl))⟩
  f40 := ⟨Tryz.f288.name, by decide, Tryz.func288.trans (congrArg some (by kernel_rfl))⟩
  t0 := Tryz.underlying0
  a0 := Tryz.isAgg0
  z0 := Tryz.sizeOf0
  v0 := Tryz.zeroValue0
  t3 := Tryz.underlying3
  a3 := Tryz.isAgg3
  z3 := Tryz.sizeOf3
  v3 := Tryz.zeroValue3
  t4 := Tryz.underlying4
  a4 := Tryz.isAgg4
  z4 := Tryz.sizeOf4
  v4 := Tryz.zeroValue4
  t5 := Tryz.underlying5
  a5 := Tryz.isAgg5
  z5 := Tryz.sizeOf5
  v5 := Tryz.zeroValue5
  t9 := Tryz.underlying9
  a9 := Tryz.isAgg9
  z9 := Tryz.sizeOf9
  v9 := Tryz.zeroValue9
  t22 := Tryz.underlying50
  a22 := Tryz.isAgg50
  z22 := Tryz.sizeOf50
  v22 := Tryz.zeroValue50
  t23 := Tryz.underlying50
  a23 := Tryz.isAgg50
  z23 := Tryz.sizeOf50
  v23 := Tryz.zeroValue50
  t25 := Tryz.underlying2
  a25 := Tryz.isAgg2
  z25 := Tryz.sizeOf2
  v25 := Tryz.zeroValue2
  t32 := Tryz.underlying170
  a32 := Tryz.isAgg170
  z32 := Tryz.sizeOf170
  v32 := Tryz.zeroValue170
  t35 := Tryz.underlying238
  a35 := Tryz.isAgg238
  z35 := Tryz.sizeOf238
  v35 := Tryz.zeroValue238
  t36 := Tryz.underlying239
  a36 := Tryz.isAgg239
  z36 := Tryz.sizeOf239
  v36 := Tryz.zeroValue239
  t41 := Tryz.underlying152
  a41 := Tryz.isAgg152
  z41 := Tryz.sizeOf152
  v41 := Tryz.zeroValue152
  t44 := Tryz.underlying202
  a44 := Tryz.isAgg202
  z44 := Tryz.sizeOf202
  v44 := Tryz.zeroValue202
  t46 := Tryz.underlying129
  a46 := Tryz.isAgg129
  z46 := Tryz.sizeOf129
  v46 := Tryz.zeroValue129
  t53 := Tryz.underlying256
  a53 := Tryz.isAgg256
  z53 := Tryz.sizeOf256
  v53 := Tryz.zeroValue256
  t57 := Tryz.underlying260
  a57 := Tryz.isAgg260
  z57 := Tryz.sizeOf260
  v57 := Tryz.zeroValue260
  t63 := Tryz.underlying270
  a63 := Tryz.isAgg270
  z63 := Tryz.sizeOf270
  v63 := Tryz.zeroValue270
  t64 := Tryz.underlying271
  a64 := Tryz.isAgg271
  z64 := Tryz.sizeOf271
  v64 := Tryz.zeroValue271 }
open Go.RowKit Go.Lib in
theorem Tryz.slices_Sort_i64 (blk off cap : Nat) (zs : List Int) (w : World) (hH : Sort.Holds (Value.int .i64) w blk off zs.toArray) (hblk : blk < w.heap.size) (hsz : zs.length < 4611686018427387904) :
    Calls Tryz.prog 199 #[.slice (some ⟨blk, off, none⟩) zs.length cap] w fun e w' => e = .returned (.tuple #[]) ∧ ∃ n os, w' = Sort.grow (Sort.putRow (Value.int .i64) (Sort.ahead w n) blk off (zs.mergeSort fun x y => decide (x ≤ y)).toArray) os := AnyM.slices_Sort_int Tryz.sortL blk off cap zs w hH hblk hsz
open Go.RowKit Go.Lib in
theorem Tryz.slices_Sort_i64_none (p : Option Addr) (cap : Nat) (w : World) :
    Calls Tryz.prog 199 #[.slice p 0 cap] w fun e w' => e = .returned (.tuple #[]) ∧ w' = w := AnyM.slices_Sort_int_none Tryz.sortL p cap w
end Go.Proofs
namespace Go.Proofs.YtaomlgpakbjegaaGreatDoor
open Go.RowKit

theorem sorti_any (zs : List Int) (hl : zs.length < 4611686018427387904) (w : World) (base : Nat) (v : Value) (h : OwnI w base v zs) : Calls Tryz.prog 199 #[v] w fun e w' => e = .returned (.tuple #[]) ∧ OwnI w' base v (zs.mergeSort fun x y => decide (x ≤ y)) ∧ w.grownBy w' v.ownBlock := by
  have h0 := h
  unfold OwnI at h
  rcases h.2 with ⟨rfl, hz⟩ | ⟨g, cap, cur, rfl, hbase, hb, h1, h2, h3, h4⟩
  · have hz2 : zs = [] := List.eq_nil_of_length_eq_zero hz
    subst hz2
    refine (Tryz.slices_Sort_i64_none none 0 w).mono fun e w' ⟨h5, h6⟩ => ?_
    subst h6
    exact ⟨h5, by simpa using h0, ⟨rfl, rfl, rfl, Nat.le_refl _, fun _ _ _ => rfl⟩⟩
  · have hH : Sort.Holds (Value.int .i64) w g 0 zs.toArray := holds_of_blockI hb (by simpa using h4)
    refine (Tryz.slices_Sort_i64 g 0 cap zs w hH (Array.getElem?_eq_some_iff.1 hb).1 hl).mono fun e w' ⟨h5, n, os, h6⟩ => ?_
    subst h6
    refine ⟨h5, ?_, grownBy_sortedI _⟩
    unfold OwnI
    rw [List.length_mergeSort]
    exact ownsRow_sortedI (by simp) hbase hb h1 h2 h3
def intV (v : VL) : Int := if v.asC = 0 then (if wholeB v.asN = true then wholeV v.asN else 0) else 0
def intC (v : VL) : Int := if v.asC = 0 then (if wholeB v.asN = true then 0 else 8) else v.asC
set_option maxHeartbeats 1000000 in
theorem aint_c (v : VL) (hv : v.ok) (c : Int) (hc : v.asC = c) (h : ¬ c = 0) (w : World) : Calls Tryz.prog 198 #[.agg #[.int .i64 v.t, .int .i64 v.n, .string v.s, .bool v.b, .int .i64 v.c]] w fun e w' => e = .returned (.tuple #[.int .i64 0, .int .i64 c]) ∧ Below w.heap.size w w' := by
  have C1 := Lib.hid (asnum_any v hv (w.alloc (.cells #[.int .i64 v.t, .int .i64 v.n, .string v.s, .bool v.b, .int .i64 v.c] 26)))
  have hnb := asN_in v hv
  rw [hc] at C1
  generalize v.asN = x at *
  clear hc
  go_enter Tryz.func198, Tryz.ntmps198
  go_wp2_with fail
  refine C1.out.mono ?_
  clear C1
  rintro e w1 ⟨rfl, hb1⟩
  go_wp2
  go_ret2
  exact ⟨rfl, by (repeat (first | (with_reducible exact Below.refl _ _) | (with_reducible refine Below.alloc ?_ (by first | omega | (dsimp only; omega) | (simp <;> omega)) _) | (with_reducible refine Below.setCell ?_ (by first | omega | (dsimp only; omega) | (simp <;> omega)) _) | (with_reducible refine Below.drew ?_) | (with_reducible refine below_drewN ?_ _) | (with_reducible refine Below.trans ?_ (Below.mono (by assumption) (by first | omega | (dsimp only; omega) | (simp <;> omega))))))⟩
set_option maxHeartbeats 1000000 in
theorem aint_n (v : VL) (hv : v.ok) (hc : v.asC = 0) (x : Int) (hn : v.asN = x) (hx : wholeB x = false) (w : World) : Calls Tryz.prog 198 #[.agg #[.int .i64 v.t, .int .i64 v.n, .string v.s, .bool v.b, .int .i64 v.c]] w fun e w' => e = .returned (.tuple #[.int .i64 0, .int .i64 8]) ∧ Below w.heap.size w w' := by
  have C1 := Lib.hid (asnum_any v hv (w.alloc (.cells #[.int .i64 v.t, .int .i64 v.n, .string v.s, .bool v.b, .int .i64 v.c] 26)))
  have hnb := asN_in v hv
  rw [hc, hn] at C1
  rw [hn] at hnb
  have C2 := whole_any x (by omega)
  rw [hx] at C2
  have C2' := Lib.hid C2
  clear C2
  generalize wholeV x = y at *
  clear hc hn hx
  go_enter Tryz.func198, Tryz.ntmps198
  go_wp2_with fail
  refine C1.out.mono ?_
  clear C1
  rintro e w1 ⟨rfl, hb1⟩
  go_wp2_with fail
  refine (C2'.out _).mono ?_
  clear C2'
  rintro e w2 ⟨rfl, rfl⟩
  go_wp2
  go_ret2
  exact ⟨rfl, by (repeat (first | (with_reducible exact Below.refl _ _) | (with_reducible refine Below.alloc ?_ (by first | omega | (dsimp only; omega) | (simp <;> omega)) _) | (with_reducible refine Below.setCell ?_ (by first | omega | (dsimp only; omega) | (simp <;> omega)) _) | (with_reducible refine Below.drew ?_) | (with_reducible refine below_drewN ?_ _) | (with_reducible refine Below.trans ?_ (Below.mono (by assumption) (by first | omega | (dsimp only; omega) | (simp <;> omega))))))⟩
set_option maxHeartbeats 1000000 in
theorem aint_y (v : VL) (hv : v.ok) (hc : v.asC = 0) (x : Int) (hn : v.asN = x) (hx : wholeB x = true) (y : Int) (hy : wholeV x = y) (w : World) : Calls Tryz.prog 198 #[.agg #[.int .i64 v.t, .int .i64 v.n, .string v.s, .bool v.b, .int .i64 v.c]] w fun e w' => e = .returned (.tuple #[.int .i64 y, .int .i64 0]) ∧ Below w.heap.size w w' := by
  have C1 := Lib.hid (asnum_any v hv (w.alloc (.cells #[.int .i64 v.t, .int .i64 v.n, .string v.s, .bool v.b, .int .i64 v.c] 26)))
  have hnb := asN_in v hv
  rw [hc, hn] at C1
  rw [hn] at hnb
  have C2 := whole_any x (by omega)
  rw [hx, hy] at C2
  have C2' := Lib.hid C2
  clear C2
  clear hc hn hx hy
  go_enter Tryz.func198, Tryz.ntmps198
  go_wp2_with fail
  refine C1.out.mono ?_
  clear C1
  rintro e w1 ⟨rfl, hb1⟩
  go_wp2_with fail
  refine (C2'.out _).mono ?_
  clear C2'
  rintro e w2 ⟨rfl, rfl⟩
  go_wp2
  go_ret2
  exact ⟨rfl, by (repeat (first | (with_reducible exact Below.refl _ _) | (with_reducible refine Below.alloc ?_ (by first | omega | (dsimp only; omega) | (simp <;> omega)) _) | (with_reducible refine Below.setCell ?_ (by first | omega | (dsimp only; omega) | (simp <;> omega)) _) | (with_reducible refine Below.drew ?_) | (with_reducible refine below_drewN ?_ _) | (with_reducible refine Below.trans ?_ (Below.mono (by assumption) (by first | omega | (dsimp only; omega) | (simp <;> omega))))))⟩
theorem aint_any (v : VL) (hv : v.ok) (w : World) : Calls Tryz.prog 198 #[.agg #[.int .i64 v.t, .int .i64 v.n, .string v.s, .bool v.b, .int .i64 v.c]] w fun e w' => e = .returned (.tuple #[.int .i64 (intV v), .int .i64 (intC v)]) ∧ Below w.heap.size w w' := by
  unfold intV intC
  by_cases h : v.asC = 0
  · rw [if_pos h, if_pos h]
    cases hx : wholeB v.asN
    · exact aint_n v hv h _ rfl hx w
    · exact aint_y v hv h _ rfl hx _ rfl w
  · rw [if_neg h, if_neg h]; exact aint_c v hv _ rfl h w
end Go.Proofs.YtaomlgpakbjegaaGreatDoor
