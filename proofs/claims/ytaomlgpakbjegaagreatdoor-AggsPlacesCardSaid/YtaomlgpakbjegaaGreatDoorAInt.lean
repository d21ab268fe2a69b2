/-
  aggs: integer; numbers sorted.
-/
import Derived.Test.YtaomlgpakbjegaaGreatDoorProg
import Derived.Test.YtaomlgpakbjegaaGreatDoorShelfB
import Derived.Test.YtaomlgpakbjegaaGreatDoorRows
import Derived.Test.YtaomlgpakbjegaaGreatDoorBase
import Derived.Test.YtaomlgpakbjegaaGreatDoorRowB
import Derived.Test.YtaomlgpakbjegaaGreatDoorMg4
import Derived.Test.YtaomlgpakbjegaaGreatDoorValA
import Derived.Test.YtaomlgpakbjegaaGreatDoorValB
import Derived.Test.YtaomlgpakbjegaaGreatDoorValC
import Derived.Test.YtaomlgpakbjegaaGreatDoorAddrC
import Derived.Test.YtaomlgpakbjegaaGreatDoorAddrI
import Derived.Test.YtaomlgpakbjegaaGreatDoorMapK
import Derived.Test.YtaomlgpakbjegaaGreatDoorArgK
import Derived.Test.YtaomlgpakbjegaaGreatDoorDFlo
import Derived.Test.YtaomlgpakbjegaaGreatDoorMg1
import Derived.Test.YtaomlgpakbjegaaGreatDoorMg15
import Derived.Test.YtaomlgpakbjegaaGreatDoorValL
import Derived.Test.YtaomlgpakbjegaaGreatDoorNCallK
import Derived.Test.YtaomlgpakbjegaaGreatDoorAItm
import Derived.Test.YtaomlgpakbjegaaGreatDoorAAmo
import Derived.Test.YtaomlgpakbjegaaGreatDoorASum
import Derived.Test.YtaomlgpakbjegaaGreatDoorAFind
import Derived.Test.YtaomlgpakbjegaaGreatDoorACall
import Derived.Test.YtaomlgpakbjegaaGreatDoorACallB
import Derived.Test.YtaomlgpakbjegaaGreatDoorANum
import Derived.Sort.OwnSorted
import Derived.Sort.OwnSortedInts
import Derived.Maps.AppendAt
import Derived.WalkSpells
import Derived.WalkLawsBesides
import Derived.StillTactics
import Derived.Laws.Pointers
import Derived.Deep.RegionHeld3
import Derived.Deep.QuietTactic
import Derived.BigQuiet
import Derived.RowKit3
import Derived.Lib.Hide
import Derived.Lib.OthersKept
import Derived.OwnWalk
import Derived.Lib.IndexLaws
import Derived.Lib.ItoaMem
import Derived.Shelf.SlGeneric
import Derived.Shelf.SortM.Plain
import Derived.Shelf.SortM.SortNone
import Derived.Ground.SlgmProg
import Derived.WalkKit
import Derived.ProofKit
import Derived.OpenShut
import Derived.Carry
import Derived.ChangeSame
import Derived.Deep.Draws
import Derived.Maps.OwnSet
import Derived.Laws.EntriesVeiled
import Derived.Laws.BitsAllLaws
import Derived.Shelf.Strings.Builder1
import Derived.Shelf.Strings.Builder2
import Derived.Shelf.Strings.OnBuilder
import Derived.Shelf.Strings.Trim
import Derived.Shelf.Small.Utf8
import Derived.Shelf.Small.Bits
import Derived.Shelf.Small.Strs
import Derived.Shelf.Small.Wraps
import Derived.Shelf.Strings.BuilderF
import Derived.Shelf.Strings.BuilderK
import Derived.Shelf.Strconv.Itoa0
import Derived.Shelf.Strconv.Itoa1
import Derived.Shelf.LaysM
import Derived.Shelf.Strconv.Itoa2
import Derived.Ground.MpProg
import Derived.Shelf.Pu.ParseUintPublic10
import Derived.Shelf.Strings.Search1
import Derived.Shelf.Strings.Search2
import Derived.Shelf.Strings.Search3
import Derived.Shelf.Strings.Cut
import Derived.Shelf.Strings.Shaped
import Derived.Shelf.Strings.Prefix
import Derived.Shelf.Strings.Runes
import Derived.Shelf.Strings.AsciiSet
import Derived.Shelf.Bits.Mul64
import Derived.Shelf.Strings.Repeat
import Derived.Shelf.Unicode.DecodeSlow
import Derived.Lib.TrimByte
import Derived.Lib.Bytealg
import Derived.Lib.SlTrimSet
import Derived.Lib.ParseIntB
import Derived.Shelf.Strings.SlTrimAscii
import Derived.Lib.SmallJoins
import Derived.Deep.RegionWith
import Derived.Laws.Externs
import Derived.IntWalk
namespace Go.Proofs.YtaomlgpakbjegaaGreatDoor
open Go.RowKit

theorem sorti_any (zs : List Int) (hl : zs.length < 4611686018427387904) (w : World) (base : Nat) (v : Value) (h : OwnI w base v zs) : Calls Tryz.prog 199 #[v] w fun e w' => e = .returned (.tuple #[]) ∧ OwnI w' base v (zs.mergeSort fun x y => decide (x ≤ y)) ∧ w.grownBy w' v.ownBlock := by
  have h0 := h
  unfold OwnI at h
  rcases h.2 with ⟨rfl, hz⟩ | ⟨g, cap, cur, rfl, hbase, hb, h1, h2, h3, h4⟩
  · have hz2 : zs = [] := List.eq_nil_of_length_eq_zero hz
    subst hz2
    refine (Tryz.slices_Sort_i64_none none 0 w).mono fun e w' ⟨h5, h6⟩ => ?_
    subst h6
    exact ⟨h5, by simpa using h0, ⟨rfl, rfl, rfl, Nat.le_refl _, fun _ _ _ => rfl⟩⟩
  · have hH : Sort.Holds (Value.int .i64) w g 0 zs.toArray := holds_of_blockI hb (by simpa using h4)
    refine (Tryz.slices_Sort_i64 g 0 cap zs w hH (Array.getElem?_eq_some_iff.1 hb).1 hl).mono fun e w' ⟨h5, n, os, h6⟩ => ?_
    subst h6
    refine ⟨h5, ?_, grownBy_sortedI _⟩
    unfold OwnI
    rw [List.length_mergeSort]
    exact ownsRow_sortedI (by simp) hbase hb h1 h2 h3
def intV (v : VL) : Int := if v.asC = 0 then (if wholeB v.asN = true then wholeV v.asN else 0) else 0
def intC (v : VL) : Int := if v.asC = 0 then (if wholeB v.asN = true then 0 else 8) else v.asC
set_option maxHeartbeats 1000000 in
theorem aint_c (v : VL) (hv : v.ok) (c : Int) (hc : v.asC = c) (h : ¬ c = 0) (w : World) : Calls Tryz.prog 198 #[.agg #[.int .i64 v.t, .int .i64 v.n, .string v.s, .bool v.b, .int .i64 v.c]] w fun e w' => e = .returned (.tuple #[.int .i64 0, .int .i64 c]) ∧ Below w.heap.size w w' := by
  have C1 := Lib.hid (asnum_any v hv (w.alloc (.cells #[.int .i64 v.t, .int .i64 v.n, .string v.s, .bool v.b, .int .i64 v.c] 26)))
  have hnb := asN_in v hv
  rw [hc] at C1
  generalize v.asN = x at *
  clear hc
  go_enter Tryz.func198, Tryz.ntmps198
  go_wp2_with fail
  refine C1.out.mono ?_
  clear C1
  rintro e w1 ⟨rfl, hb1⟩
  go_wp2
  go_ret2
  exact ⟨rfl, by (repeat (first | (with_reducible exact Below.refl _ _) | (with_reducible refine Below.alloc ?_ (by first | omega | (dsimp only; omega) | (simp <;> omega)) _) | (with_reducible refine Below.setCell ?_ (by first | omega | (dsimp only; omega) | (simp <;> omega)) _) | (with_reducible refine Below.drew ?_) | (with_reducible refine below_drewN ?_ _) | (with_reducible refine Below.trans ?_ (Below.mono (by assumption) (by first | omega | (dsimp only; omega) | (simp <;> omega))))))⟩
set_option maxHeartbeats 1000000 in
theorem aint_n (v : VL) (hv : v.ok) (hc : v.asC = 0) (x : Int) (hn : v.asN = x) (hx : wholeB x = false) (w : World) : Calls Tryz.prog 198 #[.agg #[.int .i64 v.t, .int .i64 v.n, .string v.s, .bool v.b, .int .i64 v.c]] w fun e w' => e = .returned (.tuple #[.int .i64 0, .int .i64 8]) ∧ Below w.heap.size w w' := by
  have C1 := Lib.hid (asnum_any v hv (w.alloc (.cells #[.int .i64 v.t, .int .i64 v.n, .string v.s, .bool v.b, .int .i64 v.c] 26)))
  have hnb := asN_in v hv
  rw [hc, hn] at C1
  rw [hn] at hnb
  have C2 := whole_any x (by omega)
  rw [hx] at C2
  have C2' := Lib.hid C2
  clear C2
  generalize wholeV x = y at *
  clear hc hn hx
  go_enter Tryz.func198, Tryz.ntmps198
  go_wp2_with fail
  refine C1.out.mono ?_
  clear C1
  rintro e w1 ⟨rfl, hb1⟩
  go_wp2_with fail
  refine (C2'.out _).mono ?_
  clear C2'
  rintro e w2 ⟨rfl, rfl⟩
  go_wp2
  go_ret2
  exact ⟨rfl, by (repeat (first | (with_reducible exact Below.refl _ _) | (with_reducible refine Below.alloc ?_ (by first | omega | (dsimp only; omega) | (simp <;> omega)) _) | (with_reducible refine Below.setCell ?_ (by first | omega | (dsimp only; omega) | (simp <;> omega)) _) | (with_reducible refine Below.drew ?_) | (with_reducible refine below_drewN ?_ _) | (with_reducible refine Below.trans ?_ (Below.mono (by assumption) (by first | omega | (dsimp only; omega) | (simp <;> omega))))))⟩
set_option maxHeartbeats 1000000 in
theorem aint_y (v : VL) (hv : v.ok) (hc : v.asC = 0) (x : Int) (hn : v.asN = x) (hx : wholeB x = true) (y : Int) (hy : wholeV x = y) (w : World) : Calls Tryz.prog 198 #[.agg #[.int .i64 v.t, .int .i64 v.n, .string v.s, .bool v.b, .int .i64 v.c]] w fun e w' => e = .returned (.tuple #[.int .i64 y, .int .i64 0]) ∧ Below w.heap.size w w' := by
  have C1 := Lib.hid (asnum_any v hv (w.alloc (.cells #[.int .i64 v.t, .int .i64 v.n, .string v.s, .bool v.b, .int .i64 v.c] 26)))
  have hnb := asN_in v hv
  rw [hc, hn] at C1
  rw [hn] at hnb
  have C2 := whole_any x (by omega)
  rw [hx, hy] at C2
  have C2' := Lib.hid C2
  clear C2
  clear hc hn hx hy
  go_enter Tryz.func198, Tryz.ntmps198
  go_wp2_with fail
  refine C1.out.mono ?_
  clear C1
  rintro e w1 ⟨rfl, hb1⟩
  go_wp2_with fail
  refine (C2'.out _).mono ?_
  clear C2'
  rintro e w2 ⟨rfl, rfl⟩
  go_wp2
  go_ret2
  exact ⟨rfl, by (repeat (first | (with_reducible exact Below.refl _ _) | (with_reducible refine Below.alloc ?_ (by first | omega | (dsimp only; omega) | (simp <;> omega)) _) | (with_reducible refine Below.setCell ?_ (by first | omega | (dsimp only; omega) | (simp <;> omega)) _) | (with_reducible refine Below.drew ?_) | (with_reducible refine below_drewN ?_ _) | (with_reducible refine Below.trans ?_ (Below.mono (by assumption) (by first | omega | (dsimp only; omega) | (simp <;> omega))))))⟩
theorem aint_any (v : VL) (hv : v.ok) (w : World) : Calls Tryz.prog 198 #[.agg #[.int .i64 v.t, .int .i64 v.n, .string v.s, .bool v.b, .int .i64 v.c]] w fun e w' => e = .returned (.tuple #[.int .i64 (intV v), .int .i64 (intC v)]) ∧ Below w.heap.size w w' := by
  unfold intV intC
  by_cases h : v.asC = 0
  · rw [if_pos h, if_pos h]
    cases hx : wholeB v.asN
    · exact aint_n v hv h _ rfl hx w
    · exact aint_y v hv h _ rfl hx _ rfl w
  · rw [if_neg h, if_neg h]; exact aint_c v hv _ rfl h w
end Go.Proofs.YtaomlgpakbjegaaGreatDoor
