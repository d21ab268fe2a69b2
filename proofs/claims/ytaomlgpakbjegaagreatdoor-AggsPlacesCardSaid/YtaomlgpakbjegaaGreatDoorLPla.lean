/-
  the walk of the law AggsPlaces.
-/
import Derived.Test.YtaomlgpakbjegaaGreatDoorRows
import Derived.Test.YtaomlgpakbjegaaGreatDoorBase
import Derived.Test.YtaomlgpakbjegaaGreatDoorRowB
import Derived.Test.YtaomlgpakbjegaaGreatDoorMg4
import Derived.Test.YtaomlgpakbjegaaGreatDoorValA
import Derived.Test.YtaomlgpakbjegaaGreatDoorValB
import Derived.Test.YtaomlgpakbjegaaGreatDoorValC
import Derived.Test.YtaomlgpakbjegaaGreatDoorAddrC
import Derived.Test.YtaomlgpakbjegaaGreatDoorAddrI
import Derived.Test.YtaomlgpakbjegaaGreatDoorMapK
import Derived.Test.YtaomlgpakbjegaaGreatDoorArgK
import Derived.Test.YtaomlgpakbjegaaGreatDoorAArg
import Derived.Test.YtaomlgpakbjegaaGreatDoorProg
import Derived.Test.YtaomlgpakbjegaaGreatDoorShelfB
import Derived.Test.YtaomlgpakbjegaaGreatDoorDFlo
import Derived.Test.YtaomlgpakbjegaaGreatDoorMg1
import Derived.Test.YtaomlgpakbjegaaGreatDoorMg15
import Derived.Test.YtaomlgpakbjegaaGreatDoorValL
import Derived.Test.YtaomlgpakbjegaaGreatDoorNCallK
import Derived.Test.YtaomlgpakbjegaaGreatDoorAItm
import Derived.Test.YtaomlgpakbjegaaGreatDoorAAmo
import Derived.Test.YtaomlgpakbjegaaGreatDoorASum
import Derived.Test.YtaomlgpakbjegaaGreatDoorAFind
import Derived.Test.YtaomlgpakbjegaaGreatDoorACall
import Derived.Test.YtaomlgpakbjegaaGreatDoorACallB
import Derived.Test.YtaomlgpakbjegaaGreatDoorANum
import Derived.Test.YtaomlgpakbjegaaGreatDoorAInt
import Derived.Test.YtaomlgpakbjegaaGreatDoorALar
import Derived.Test.YtaomlgpakbjegaaGreatDoorACol
import Derived.Test.YtaomlgpakbjegaaGreatDoorAAt
import Derived.Test.YtaomlgpakbjegaaGreatDoorACnt
import Derived.Test.YtaomlgpakbjegaaGreatDoorACif
import Derived.Test.YtaomlgpakbjegaaGreatDoorMg31
import Derived.Test.YtaomlgpakbjegaaGreatDoorAKn
import Derived.Test.YtaomlgpakbjegaaGreatDoorAPlc
import Derived.Test.YtaomlgpakbjegaaGreatDoorAHld
import Derived.Test.YtaomlgpakbjegaaGreatDoorAIdx
import Derived.Test.YtaomlgpakbjegaaGreatDoorAAlk
import Derived.Test.YtaomlgpakbjegaaGreatDoorALku
import Derived.Test.YtaomlgpakbjegaaGreatDoorALkv
import Derived.Test.YtaomlgpakbjegaaGreatDoorAAtP
import Derived.Test.YtaomlgpakbjegaaGreatDoorMg40
import Derived.Test.YtaomlgpakbjegaaGreatDoorAPlM
import Derived.Test.YtaomlgpakbjegaaGreatDoorRArgK
import Derived.Test.YtaomlgpakbjegaaGreatDoorRArgM
import Derived.Test.YtaomlgpakbjegaaGreatDoorR8D
import Derived.Outline
import Derived.Deep.CutRange
import Derived.Deep.CutBlock
import Derived.Maps.AppendAt
import Derived.WalkSpells
import Derived.WalkLawsBesides
import Derived.StillTactics
import Derived.Laws.Pointers
import Derived.Deep.RegionHeld3
import Derived.Deep.QuietTactic
import Derived.BigQuiet
import Derived.RowKit3
import Derived.Lib.Hide
import Derived.Lib.OthersKept
import Derived.OwnWalk
import Derived.Lib.IndexLaws
import Derived.Lib.ItoaMem
import Derived.WalkKit
import Derived.ProofKit
import Derived.OpenShut
import Derived.Carry
import Derived.ChangeSame
import Derived.Deep.Draws
import Derived.Maps.OwnSet
import Derived.Shelf.SlGeneric
import Derived.Shelf.SortM.Plain
import Derived.Shelf.SortM.SortNone
import Derived.Ground.SlgmProg
import Derived.Laws.EntriesVeiled
import Derived.Laws.BitsAllLaws
import Derived.Shelf.Strings.Builder1
import Derived.Shelf.Strings.Builder2
import Derived.Shelf.Strings.OnBuilder
import Derived.Shelf.Strings.Trim
import Derived.Shelf.Small.Utf8
import Derived.Shelf.Small.Bits
import Derived.Shelf.Small.Strs
import Derived.Shelf.Small.Wraps
import Derived.Shelf.Strings.BuilderF
import Derived.Shelf.Strings.BuilderK
import Derived.Shelf.Strconv.Itoa0
import Derived.Shelf.Strconv.Itoa1
import Derived.Shelf.LaysM
import Derived.Shelf.Strconv.Itoa2
import Derived.Ground.MpProg
import Derived.Shelf.Pu.ParseUintPublic10
import Derived.Shelf.Strings.Search1
import Derived.Shelf.Strings.Search2
import Derived.Shelf.Strings.Search3
import Derived.Shelf.Strings.Cut
import Derived.Shelf.Strings.Shaped
import Derived.Shelf.Strings.Prefix
import Derived.Shelf.Strings.Runes
import Derived.Shelf.Strings.AsciiSet
import Derived.Shelf.Bits.Mul64
import Derived.Shelf.Strings.Repeat
import Derived.Shelf.Unicode.DecodeSlow
import Derived.Lib.TrimByte
import Derived.Lib.Bytealg
import Derived.Lib.SlTrimSet
import Derived.Lib.ParseIntB
import Derived.Shelf.Strings.SlTrimAscii
import Derived.Lib.SmallJoins
import Derived.Deep.RegionWith
import Derived.Laws.Externs
import Derived.IntWalk
import Derived.Sort.OwnSorted
import Derived.Sort.OwnSortedInts
import Derived.Deep.AppendLies
import Derived.Deep.RegionLaw
import Derived.RangeFuncBox
import Derived.RangeFuncLeaves
import Derived.Shelf.Abstract
import Derived.OwnWalkIn
import Derived.TacticsInMore
import Derived.LoopNIn
import Derived.LoopIn
import Derived.Lib.Slices
import Derived.Lib.MinMax
namespace Go.Proofs.YtaomlgpakbjegaaGreatDoor
open Go.RowKit

set_option maxRecDepth 100000 in
set_option maxHeartbeats 2000000 in
theorem wpla_no (x : AL) (which : Int) (w : World) (ht : Tab w) (hm : x.many = false) : Calls Tryz.prog 14 #[.agg #[.bool x.many, .int .i64 x.v.t, .int .i64 x.v.n, .string x.v.s, .bool x.v.b, .int .i64 x.v.c, .int .i64 x.t, .int .i64 x.l, .int .i64 x.b, .int .i64 x.r, .slice x.A x.es.length x.cap], .int .i64 which] w fun e w' => e = .returned (.bool true) ∧ Below w.heap.size w w' := by
  go_enter Tryz.func14, Tryz.ntmps14
  go_wp2_with fail
  refine (akn_any _ (Tab.below ht (by (repeat (first | (with_reducible exact Below.refl _ _) | (with_reducible refine Below.alloc ?_ (by first | omega | (dsimp only; omega) | (simp <;> omega)) _) | (with_reducible refine Below.setCell ?_ (by first | omega | (dsimp only; omega) | (simp <;> omega)) _) | (with_reducible refine Below.drew ?_) | (with_reducible refine below_drewN ?_ _) | (with_reducible refine Below.trans ?_ (Below.mono (by assumption) (by first | omega | (dsimp only; omega) | (simp <;> omega))))))))).mono ?_
  rintro e w1 ⟨rfl, hb1⟩
  obtain ⟨gc1, gf1, gz1⟩ := bkeep hb1 (w.heap.size + 1) (by first | (simp; done) | omega)
  have l1 : w.heap.size < w1.heap.size := by omega
  go_wp2
  go_ret
  exact ⟨rfl, by (repeat (first | (with_reducible exact Below.refl _ _) | (with_reducible refine Below.alloc ?_ (by first | omega | (dsimp only; omega) | (simp <;> omega)) _) | (with_reducible refine Below.setCell ?_ (by first | omega | (dsimp only; omega) | (simp <;> omega)) _) | (with_reducible refine Below.drew ?_) | (with_reducible refine below_drewN ?_ _) | (with_reducible refine Below.trans ?_ (Below.mono (by assumption) (by first | omega | (dsimp only; omega) | (simp <;> omega))))))⟩
set_option maxRecDepth 100000 in
set_option maxHeartbeats 2000000 in
theorem wpla_bad (v : VL) (rt rl rb rr : Int) (A : Option Addr) (cap : Nat) (es : List EL) (which : Int) (w : World) (ht : Tab w) (hin : (⟨true, v, rt, rl, rb, rr, A, cap, es⟩ : AL).In w w.heap.size) (hy : argMay (⟨true, v, rt, rl, rb, rr, A, cap, es⟩ : AL) = false) : Calls Tryz.prog 14 #[.agg #[.bool true, .int .i64 v.t, .int .i64 v.n, .string v.s, .bool v.b, .int .i64 v.c, .int .i64 rt, .int .i64 rl, .int .i64 rb, .int .i64 rr, .slice A es.length cap], .int .i64 which] w fun e w' => e = .returned (.bool true) ∧ Below w.heap.size w w' := by
  have hin' := Lib.hid hin
  have CA : ∀ w1, Below w.heap.size w w1 → Hid (Calls Tryz.prog 39 #[.agg #[.bool true, .int .i64 v.t, .int .i64 v.n, .string v.s, .bool v.b, .int .i64 v.c, .int .i64 rt, .int .i64 rl, .int .i64 rb, .int .i64 rr, .slice A es.length cap]] w1 fun e w' => e = .returned (.bool false) ∧ Below w1.heap.size w1 w') := fun w1 q1 => Lib.hid (by
    have h := rarg_any (⟨true, v, rt, rl, rb, rr, A, cap, es⟩ : AL) w1 ((hin.below q1).mono q1.size)
    rw [hy] at h
    exact h)
  clear hin hy
  go_enter Tryz.func14, Tryz.ntmps14
  go_wp2_with fail
  refine (akn_any _ (Tab.below ht (by (repeat (first | (with_reducible exact Below.refl _ _) | (with_reducible refine Below.alloc ?_ (by first | omega | (dsimp only; omega) | (simp <;> omega)) _) | (with_reducible refine Below.setCell ?_ (by first | omega | (dsimp only; omega) | (simp <;> omega)) _) | (with_reducible refine Below.drew ?_) | (with_reducible refine below_drewN ?_ _) | (with_reducible refine Below.trans ?_ (Below.mono (by assumption) (by first | omega | (dsimp only; omega) | (simp <;> omega))))))))).mono ?_
  rintro e w1 ⟨rfl, hb1⟩
  obtain ⟨gc1, gf1, gz1⟩ := bkeep hb1 (w.heap.size + 1) (by first | (simp; done) | omega)
  have l1 : w.heap.size < w1.heap.size := by omega
  have q1 : Below w.heap.size w w1 := by (repeat (first | (with_reducible exact Below.refl _ _) | (with_reducible refine Below.alloc ?_ (by first | omega | (dsimp only; omega) | (simp <;> omega)) _) | (with_reducible refine Below.setCell ?_ (by first | omega | (dsimp only; omega) | (simp <;> omega)) _) | (with_reducible refine Below.drew ?_) | (with_reducible refine below_drewN ?_ _) | (with_reducible refine Below.trans ?_ (Below.mono (by assumption) (by first | omega | (dsimp only; omega) | (simp <;> omega))))))
  go_wp2_with fail
  refine (CA _ q1).out.mono ?_
  clear CA
  rintro e w2 ⟨rfl, hb2⟩
  go_wp2
  go_ret
  exact ⟨rfl, by (repeat (first | (with_reducible exact Below.refl _ _) | (with_reducible refine Below.alloc ?_ (by first | omega | (dsimp only; omega) | (simp <;> omega)) _) | (with_reducible refine Below.setCell ?_ (by first | omega | (dsimp only; omega) | (simp <;> omega)) _) | (with_reducible refine Below.drew ?_) | (with_reducible refine below_drewN ?_ _) | (with_reducible refine Below.trans ?_ (Below.mono (by assumption) (by first | omega | (dsimp only; omega) | (simp <;> omega))))))⟩
set_option maxRecDepth 100000 in
set_option maxHeartbeats 2000000 in
theorem wpla_none (v : VL) (rt rl rb rr : Int) (A : Option Addr) (cap : Nat) (which : Int) (w : World) (ht : Tab w) (hin : (⟨true, v, rt, rl, rb, rr, A, cap, []⟩ : AL).In w w.heap.size) (hy : argMay (⟨true, v, rt, rl, rb, rr, A, cap, []⟩ : AL) = true) : Calls Tryz.prog 14 #[.agg #[.bool true, .int .i64 v.t, .int .i64 v.n, .string v.s, .bool v.b, .int .i64 v.c, .int .i64 rt, .int .i64 rl, .int .i64 rb, .int .i64 rr, .slice A 0 cap], .int .i64 which] w fun e w' => e = .returned (.bool true) ∧ Below w.heap.size w w' := by
  have hin' := Lib.hid hin
  have CA : ∀ w1, Below w.heap.size w w1 → Hid (Calls Tryz.prog 39 #[.agg #[.bool true, .int .i64 v.t, .int .i64 v.n, .string v.s, .bool v.b, .int .i64 v.c, .int .i64 rt, .int .i64 rl, .int .i64 rb, .int .i64 rr, .slice A 0 cap]] w1 fun e w' => e = .returned (.bool true) ∧ Below w1.heap.size w1 w') := fun w1 q1 => Lib.hid (by
    have h := rarg_any (⟨true, v, rt, rl, rb, rr, A, cap, []⟩ : AL) w1 ((hin.below q1).mono q1.size)
    rw [hy] at h
    exact h)
  clear hin hy
  go_enter Tryz.func14, Tryz.ntmps14
  go_wp2_with fail
  refine (akn_any _ (Tab.below ht (by (repeat (first | (with_reducible exact Below.refl _ _) | (with_reducible refine Below.alloc ?_ (by first | omega | (dsimp only; omega) | (simp <;> omega)) _) | (with_reducible refine Below.setCell ?_ (by first | omega | (dsimp only; omega) | (simp <;> omega)) _) | (with_reducible refine Below.drew ?_) | (with_reducible refine below_drewN ?_ _) | (with_reducible refine Below.trans ?_ (Below.mono (by assumption) (by first | omega | (dsimp only; omega) | (simp <;> omega))))))))).mono ?_
  rintro e w1 ⟨rfl, hb1⟩
  obtain ⟨gc1, gf1, gz1⟩ := bkeep hb1 (w.heap.size + 1) (by first | (simp; done) | omega)
  have l1 : w.heap.size < w1.heap.size := by omega
  have q1 : Below w.heap.size w w1 := by (repeat (first | (with_reducible exact Below.refl _ _) | (with_reducible refine Below.alloc ?_ (by first | omega | (dsimp only; omega) | (simp <;> omega)) _) | (with_reducible refine Below.setCell ?_ (by first | omega | (dsimp only; omega) | (simp <;> omega)) _) | (with_reducible refine Below.drew ?_) | (with_reducible refine below_drewN ?_ _) | (with_reducible refine Below.trans ?_ (Below.mono (by assumption) (by first | omega | (dsimp only; omega) | (simp <;> omega))))))
  go_wp2_with fail
  refine (CA _ q1).out.mono ?_
  clear CA
  rintro e w2 ⟨rfl, hb2⟩
  obtain ⟨gc2, gf2, gz2⟩ := bkeep hb2 (w.heap.size + 1) (by omega)
  have q2 : Below w.heap.size w w2 := q1.trans (hb2.mono (by omega))
  go_wp2
  go_ret
  exact ⟨rfl, q2⟩
set_option maxRecDepth 100000 in
set_option maxHeartbeats 8000000 in
theorem wpla_yes (v : VL) (rt rl rb rr : Int) (A : Option Addr) (cap : Nat) (es : List EL) (which : Int) (w : World) (ht : Tab w) (hin : (⟨true, v, rt, rl, rb, rr, A, cap, es⟩ : AL).In w w.heap.size) (hy : argMay (⟨true, v, rt, rl, rb, rr, A, cap, es⟩ : AL) = true) (r : Int) (hr : which.tmod (es.length : Int) = r) (K : Nat) (hK : (if r < 0 then r + (es.length : Int) else r) = (K : Int)) (d : EL) (hd : es[K]? = some d) (m : VL) (hcm : ∀ (w' : World) (v' : Value) (l : List AL), l = [sgl d.v, (⟨true, v, rt, rl, rb, rr, A, cap, es⟩ : AL)] → Tab w' → ArgsC w' v' l → Calls Tryz.prog 27 #[.string ⟨#[77, 65, 84, 67, 72]⟩, v', .int .i64 0] w' fun e w'' => e = .returned (.agg #[.int .i64 (m).t, .int .i64 (m).n, .string (m).s, .bool (m).b, .int .i64 (m).c]) ∧ Below w'.heap.size w' w'') (hcase : ((d.v.t = 4 ∧ m = d.v) ∨ (¬ d.v.t = 4 ∧ ¬ rt = rb ∧ ¬ rl = rr ∧ m = errL 8) ∨ (¬ d.v.t = 4 ∧ (rt = rb ∨ rl = rr) ∧ ∃ i : Nat, FirstL (⟨true, v, rt, rl, rb, rr, A, cap, es⟩ : AL) d.v i ∧ m = ⟨1, ((i : Int) + 1) * 10000, ⟨#[]⟩, false, 0⟩ ∧ (i : Int) ≤ (d.r - rt) + (d.c - rl) ∧ (∀ (f : Nat) (c : EL), f < K → es[f]? = some c → c.v = d.v → (i : Int) < (d.r - rt) + (d.c - rl)) ∧ ((∀ (f : Nat) (c : EL), f < K → es[f]? = some c → c.v ≠ d.v) → d.v.t ≠ 0 → (i : Int) = (d.r - rt) + (d.c - rl))))) : Calls Tryz.prog 14 #[.agg #[.bool true, .int .i64 v.t, .int .i64 v.n, .string v.s, .bool v.b, .int .i64 v.c, .int .i64 rt, .int .i64 rl, .int .i64 rb, .int .i64 rr, .slice A es.length cap], .int .i64 which] w fun e w' => e = .returned (.bool true) ∧ Below w.heap.size w w' := by
  have hy' := Lib.hid hy
  have hcm := Lib.hid hcm
  have hcase := Lib.hid hcase
  have hin' := Lib.hid hin
  have CA : ∀ w1, Below w.heap.size w w1 → Hid (Calls Tryz.prog 39 #[.agg #[.bool true, .int .i64 v.t, .int .i64 v.n, .string v.s, .bool v.b, .int .i64 v.c, .int .i64 rt, .int .i64 rl, .int .i64 rb, .int .i64 rr, .slice A es.length cap]] w1 fun e w' => e = .returned (.bool true) ∧ Below w1.heap.size w1 w') := fun w1 q1 => Lib.hid (by
    have h := rarg_any (⟨true, v, rt, rl, rb, rr, A, cap, es⟩ : AL) w1 ((hin.below q1).mono q1.size)
    rw [hy] at h
    exact h)
  clear hin hy
  go_enter Tryz.func14, Tryz.ntmps14
  go_wp2_with fail
  refine (akn_any _ (Tab.below ht (by (repeat (first | (with_reducible exact Below.refl _ _) | (with_reducible refine Below.alloc ?_ (by first | omega | (dsimp only; omega) | (simp <;> omega)) _) | (with_reducible refine Below.setCell ?_ (by first | omega | (dsimp only; omega) | (simp <;> omega)) _) | (with_reducible refine Below.drew ?_) | (with_reducible refine below_drewN ?_ _) | (with_reducible refine Below.trans ?_ (Below.mono (by assumption) (by first | omega | (dsimp only; omega) | (simp <;> omega))))))))).mono ?_
  rintro e w1 ⟨rfl, hb1⟩
  obtain ⟨gc1, gf1, gz1⟩ := bkeep hb1 (w.heap.size + 1) (by first | (simp; done) | omega)
  have l1 : w.heap.size < w1.heap.size := by omega
  have q1 : Below w.heap.size w w1 := by (repeat (first | (with_reducible exact Below.refl _ _) | (with_reducible refine Below.alloc ?_ (by first | omega | (dsimp only; omega) | (simp <;> omega)) _) | (with_reducible refine Below.setCell ?_ (by first | omega | (dsimp only; omega) | (simp <;> omega)) _) | (with_reducible refine Below.drew ?_) | (with_reducible refine below_drewN ?_ _) | (with_reducible refine Below.trans ?_ (Below.mono (by assumption) (by first | omega | (dsimp only; omega) | (simp <;> omega))))))
  go_wp2_with fail
  refine (CA _ q1).out.mono ?_
  clear CA
  rintro e w2 ⟨rfl, hb2⟩
  obtain ⟨gc2, gf2, gz2⟩ := bkeep hb2 (w.heap.size + 1) (by omega)
  have l2 : w.heap.size < w2.heap.size := by omega
  have q2 : Below w.heap.size w w2 := q1.trans (hb2.mono (by omega))
  have ca0 : w2.cell? ⟨w.heap.size, 0, none⟩ = some (.bool true) := by rw [gc2 _ _ (by omega), gc1 _ _ (by omega)]; exact c_at rfl rfl
  have ca1 : w2.cell? ⟨w.heap.size, 1, none⟩ = some (.int .i64 v.t) := by rw [gc2 _ _ (by omega), gc1 _ _ (by omega)]; exact c_at rfl rfl
  have ca2 : w2.cell? ⟨w.heap.size, 2, none⟩ = some (.int .i64 v.n) := by rw [gc2 _ _ (by omega), gc1 _ _ (by omega)]; exact c_at rfl rfl
  have ca3 : w2.cell? ⟨w.heap.size, 3, none⟩ = some (.string v.s) := by rw [gc2 _ _ (by omega), gc1 _ _ (by omega)]; exact c_at rfl rfl
  have ca4 : w2.cell? ⟨w.heap.size, 4, none⟩ = some (.bool v.b) := by rw [gc2 _ _ (by omega), gc1 _ _ (by omega)]; exact c_at rfl rfl
  have ca5 : w2.cell? ⟨w.heap.size, 5, none⟩ = some (.int .i64 v.c) := by rw [gc2 _ _ (by omega), gc1 _ _ (by omega)]; exact c_at rfl rfl
  have ca6 : w2.cell? ⟨w.heap.size, 6, none⟩ = some (.int .i64 rt) := by rw [gc2 _ _ (by omega), gc1 _ _ (by omega)]; exact c_at rfl rfl
  have ca7 : w2.cell? ⟨w.heap.size, 7, none⟩ = some (.int .i64 rl) := by rw [gc2 _ _ (by omega), gc1 _ _ (by omega)]; exact c_at rfl rfl
  have ca8 : w2.cell? ⟨w.heap.size, 8, none⟩ = some (.int .i64 rb) := by rw [gc2 _ _ (by omega), gc1 _ _ (by omega)]; exact c_at rfl rfl
  have ca9 : w2.cell? ⟨w.heap.size, 9, none⟩ = some (.int .i64 rr) := by rw [gc2 _ _ (by omega), gc1 _ _ (by omega)]; exact c_at rfl rfl
  have ca10 : w2.cell? ⟨w.heap.size, 10, none⟩ = some (.slice A es.length cap) := by rw [gc2 _ _ (by omega), gc1 _ _ (by omega)]; exact c_at rfl rfl
  have hx2 := Lib.hid ((hin'.out.below q2).mono q2.size)
  have ht2 := Lib.hid (Tab.below ht q2)
  have hKn := (List.getElem?_eq_some_iff.1 hd).1
  obtain ⟨ab, ao, hA2, hab, hcell⟩ := hx2.out.2.1 K d.cs (by rw [List.getElem?_map, hd]; rfl)
  subst hA2
  have ce0 : w2.cell? ⟨ab, ao + K * 7, none⟩ = some (.int .i64 d.r) := hcell 0 _ rfl
  have ce1 : w2.cell? ⟨ab, ao + K * 7 + 1, none⟩ = some (.int .i64 d.c) := hcell 1 _ rfl
  have ce2 : w2.cell? ⟨ab, ao + K * 7 + 2, none⟩ = some (.int .i64 d.v.t) := hcell 2 _ rfl
  have ce3 : w2.cell? ⟨ab, ao + K * 7 + 3, none⟩ = some (.int .i64 d.v.n) := hcell 3 _ rfl
  have ce4 : w2.cell? ⟨ab, ao + K * 7 + 4, none⟩ = some (.string d.v.s) := hcell 4 _ rfl
  have ce5 : w2.cell? ⟨ab, ao + K * 7 + 5, none⟩ = some (.bool d.v.b) := hcell 5 _ rfl
  have ce6 : w2.cell? ⟨ab, ao + K * 7 + 6, none⟩ = some (.int .i64 d.v.c) := hcell 6 _ rfl
  have hlen0 : ((es.length : Int) == 0) = false := by simp; intro e; rw [e] at hKn; simp at hKn
  have hlen1 : ¬ (es.length : Int) = 0 := by omega
  clear hcell hb1 hb2 q1 gc1 gf1 gc2 gf2 gz1 gz2
  have hesl : es.length ≤ 9223372036854775807 := hx2.out.2.2.2
  have hKi : (K : Int) < (es.length : Int) := by omega
  have hK0 : ¬ (K : Int) < 0 := by omega
  obtain ⟨m1, m2, m3⟩ := may_parts (x := (⟨true, v, rt, rl, rb, rr, some ⟨ab, ao, none⟩, cap, es⟩ : AL)) rfl hy'.out
  obtain ⟨p1, p2, p3, p4, p5, p6⟩ := rect_in m1
  obtain ⟨t1, t2, -⟩ := ent_parts m3 K d hd
  unfold inB at t1
  simp only [Bool.and_eq_true, decide_eq_true_eq] at t1
  dsimp only at p1 p2 p3 p4 p5 p6 t1
  have hib : 1 ≤ d.r - rt + 1 ∧ d.r - rt + 1 ≤ 1048576 ∧ 1 ≤ d.c - rl + 1 ∧ d.c - rl + 1 ≤ 16384 := by omega
  have hu := Lib.hid t2
  have hdok := Lib.hid (hx2.out.2.2.1 d (List.mem_of_getElem? hd))
  have hd' := Lib.hid hd
  have m1' := Lib.hid m1
  have m3' := Lib.hid m3
  have ew1 : IntKind.i64.wrap (d.r - rt) = d.r - rt := IntWalk.i64_in _ (by omega)
  have ew2 : IntKind.i64.wrap (d.c - rl) = d.c - rl := IntWalk.i64_in _ (by omega)
  clear p1 p2 p3 p4 p5 p6 t1 t2 m1 m2 m3 hd
  go_upto_if 35 with (fail)
  go_cut [5] from 29 to 40 (fun a wc => a = .int .i64 (K : Int) ∧ wc = w2)
  case first =>
    by_cases hneg : r < 0
    · have hrK : r + (es.length : Int) = (K : Int) := by rw [if_pos hneg] at hK; exact hK
      have hwK : IntKind.i64.wrap (r + (es.length : Int)) = (K : Int) := by rw [hrK]; exact IntWalk.i64_in _ (by omega)
      clear hK hrK
      have hnb : decide (r < 0) = true := by simpa using hneg
      go_wp2
      go_meet
      case rel => exact ⟨rfl, rfl⟩
    · rw [if_neg hneg] at hK
      go_wp2
      go_meet
      case rel => exact ⟨by first | rfl | rw [hK], rfl⟩
  case rest =>
    obtain ⟨rfl, hwc⟩ := hcut
    subst hwc
    clear hr hK
    go_upto_region 9 with (fail)
    have ge0 : (wc.alloc (.cells #[.int .i64 d.r, .int .i64 d.c, .int .i64 d.v.t, .int .i64 d.v.n, .string d.v.s, .bool d.v.b, .int .i64 d.v.c] 59)).cell? ⟨wc.heap.size, 0, none⟩ = some (.int .i64 d.r) := c_at rfl rfl
    have ge1 : (wc.alloc (.cells #[.int .i64 d.r, .int .i64 d.c, .int .i64 d.v.t, .int .i64 d.v.n, .string d.v.s, .bool d.v.b, .int .i64 d.v.c] 59)).cell? ⟨wc.heap.size, 1, none⟩ = some (.int .i64 d.c) := c_at rfl rfl
    have ge2 : (wc.alloc (.cells #[.int .i64 d.r, .int .i64 d.c, .int .i64 d.v.t, .int .i64 d.v.n, .string d.v.s, .bool d.v.b, .int .i64 d.v.c] 59)).cell? ⟨wc.heap.size, 2, none⟩ = some (.int .i64 d.v.t) := c_at rfl rfl
    have ge3 : (wc.alloc (.cells #[.int .i64 d.r, .int .i64 d.c, .int .i64 d.v.t, .int .i64 d.v.n, .string d.v.s, .bool d.v.b, .int .i64 d.v.c] 59)).cell? ⟨wc.heap.size, 3, none⟩ = some (.int .i64 d.v.n) := c_at rfl rfl
    have ge4 : (wc.alloc (.cells #[.int .i64 d.r, .int .i64 d.c, .int .i64 d.v.t, .int .i64 d.v.n, .string d.v.s, .bool d.v.b, .int .i64 d.v.c] 59)).cell? ⟨wc.heap.size, 4, none⟩ = some (.string d.v.s) := c_at rfl rfl
    have ge5 : (wc.alloc (.cells #[.int .i64 d.r, .int .i64 d.c, .int .i64 d.v.t, .int .i64 d.v.n, .string d.v.s, .bool d.v.b, .int .i64 d.v.c] 59)).cell? ⟨wc.heap.size, 5, none⟩ = some (.bool d.v.b) := c_at rfl rfl
    have ge6 : (wc.alloc (.cells #[.int .i64 d.r, .int .i64 d.c, .int .i64 d.v.t, .int .i64 d.v.n, .string d.v.s, .bool d.v.b, .int .i64 d.v.c] 59)).cell? ⟨wc.heap.size, 6, none⟩ = some (.int .i64 d.v.c) := c_at rfl rfl
    have gx0 : (wc.alloc (.cells #[.int .i64 d.r, .int .i64 d.c, .int .i64 d.v.t, .int .i64 d.v.n, .string d.v.s, .bool d.v.b, .int .i64 d.v.c] 59)).cell? ⟨w.heap.size, 0, none⟩ = some (.bool true) := bx_cellp l2 ca0
    have gx1 : (wc.alloc (.cells #[.int .i64 d.r, .int .i64 d.c, .int .i64 d.v.t, .int .i64 d.v.n, .string d.v.s, .bool d.v.b, .int .i64 d.v.c] 59)).cell? ⟨w.heap.size, 1, none⟩ = some (.int .i64 v.t) := bx_cellp l2 ca1
    have gx2 : (wc.alloc (.cells #[.int .i64 d.r, .int .i64 d.c, .int .i64 d.v.t, .int .i64 d.v.n, .string d.v.s, .bool d.v.b, .int .i64 d.v.c] 59)).cell? ⟨w.heap.size, 2, none⟩ = some (.int .i64 v.n) := bx_cellp l2 ca2
    have gx3 : (wc.alloc (.cells #[.int .i64 d.r, .int .i64 d.c, .int .i64 d.v.t, .int .i64 d.v.n, .string d.v.s, .bool d.v.b, .int .i64 d.v.c] 59)).cell? ⟨w.heap.size, 3, none⟩ = some (.string v.s) := bx_cellp l2 ca3
    have gx4 : (wc.alloc (.cells #[.int .i64 d.r, .int .i64 d.c, .int .i64 d.v.t, .int .i64 d.v.n, .string d.v.s, .bool d.v.b, .int .i64 d.v.c] 59)).cell? ⟨w.heap.size, 4, none⟩ = some (.bool v.b) := bx_cellp l2 ca4
    have gx5 : (wc.alloc (.cells #[.int .i64 d.r, .int .i64 d.c, .int .i64 d.v.t, .int .i64 d.v.n, .string d.v.s, .bool d.v.b, .int .i64 d.v.c] 59)).cell? ⟨w.heap.size, 5, none⟩ = some (.int .i64 v.c) := bx_cellp l2 ca5
    have gx6 : (wc.alloc (.cells #[.int .i64 d.r, .int .i64 d.c, .int .i64 d.v.t, .int .i64 d.v.n, .string d.v.s, .bool d.v.b, .int .i64 d.v.c] 59)).cell? ⟨w.heap.size, 6, none⟩ = some (.int .i64 rt) := bx_cellp l2 ca6
    have gx7 : (wc.alloc (.cells #[.int .i64 d.r, .int .i64 d.c, .int .i64 d.v.t, .int .i64 d.v.n, .string d.v.s, .bool d.v.b, .int .i64 d.v.c] 59)).cell? ⟨w.heap.size, 7, none⟩ = some (.int .i64 rl) := bx_cellp l2 ca7
    have gx8 : (wc.alloc (.cells #[.int .i64 d.r, .int .i64 d.c, .int .i64 d.v.t, .int .i64 d.v.n, .string d.v.s, .bool d.v.b, .int .i64 d.v.c] 59)).cell? ⟨w.heap.size, 8, none⟩ = some (.int .i64 rb) := bx_cellp l2 ca8
    have gx9 : (wc.alloc (.cells #[.int .i64 d.r, .int .i64 d.c, .int .i64 d.v.t, .int .i64 d.v.n, .string d.v.s, .bool d.v.b, .int .i64 d.v.c] 59)).cell? ⟨w.heap.size, 9, none⟩ = some (.int .i64 rr) := bx_cellp l2 ca9
    have gx10 : (wc.alloc (.cells #[.int .i64 d.r, .int .i64 d.c, .int .i64 d.v.t, .int .i64 d.v.n, .string d.v.s, .bool d.v.b, .int .i64 d.v.c] 59)).cell? ⟨w.heap.size, 10, none⟩ = some (.slice (some ⟨ab, ao, none⟩) es.length cap) := bx_cellp l2 ca10
    have b3 : Below wc.heap.size wc (wc.alloc (.cells #[.int .i64 d.r, .int .i64 d.c, .int .i64 d.v.t, .int .i64 d.v.n, .string d.v.s, .bool d.v.b, .int .i64 d.v.c] 59)) := (Below.refl _ _).alloc (Nat.le_refl _) _
    have z3 : wc.heap.size < (wc.alloc (.cells #[.int .i64 d.r, .int .i64 d.c, .int .i64 d.v.t, .int .i64 d.v.n, .string d.v.s, .bool d.v.b, .int .i64 d.v.c] 59)).heap.size := by simp
    have q3 := q2.trans (b3.mono q2.size)
    have hx3 := Lib.hid ((hx2.out.below b3).mono b3.size)
    have ht3 := Lib.hid (Tab.below ht2.out b3)
    generalize (wc.alloc (.cells #[.int .i64 d.r, .int .i64 d.c, .int .i64 d.v.t, .int .i64 d.v.n, .string d.v.s, .bool d.v.b, .int .i64 d.v.c] 59)) = w3 at *
    obtain ⟨E, hEe⟩ : ∃ b, wc.heap.size = b := ⟨_, rfl⟩
    rw [hEe] at l2 z3 ge0 ge1 ge2 ge3 ge4 ge5 ge6 ⊢
    have l3 : w.heap.size < w3.heap.size := by omega
    clear hx2 ht2 b3 hEe q2 ca0 ca1 ca2 ca3 ca4 ca5 ca6 ca7 ca8 ca9 ca10 ce0 ce1 ce2 ce3 ce4 ce5 ce6
    have ew3 : IntKind.i64.wrap (d.r - rt + 1) = (d.r - rt + 1) := IntWalk.i64_in _ (by omega)
    have ew4 : IntKind.i64.wrap (d.c - rl + 1) = (d.c - rl + 1) := IntWalk.i64_in _ (by omega)
    have ew5 : IntKind.i64.wrap ((d.r - rt + 1) * 10000) = (d.r - rt + 1) * 10000 := IntWalk.i64_in _ (by omega)
    have ew6 : IntKind.i64.wrap ((d.c - rl + 1) * 10000) = (d.c - rl + 1) * 10000 := IntWalk.i64_in _ (by omega)
    go_upto_region 11 with (fail)
    refine wp_region_noPanic ?_
    refine wp_region_held_drew (S := fun w' => w'.cell? ⟨w.heap.size, 0, none⟩ = some (.bool true) ∧ w'.cell? ⟨w.heap.size, 1, none⟩ = some (.int .i64 v.t) ∧ w'.cell? ⟨w.heap.size, 2, none⟩ = some (.int .i64 v.n) ∧ w'.cell? ⟨w.heap.size, 3, none⟩ = some (.string v.s) ∧ w'.cell? ⟨w.heap.size, 4, none⟩ = some (.bool v.b) ∧ w'.cell? ⟨w.heap.size, 5, none⟩ = some (.int .i64 v.c) ∧ w'.cell? ⟨w.heap.size, 6, none⟩ = some (.int .i64 rt) ∧ w'.cell? ⟨w.heap.size, 7, none⟩ = some (.int .i64 rl) ∧ w'.cell? ⟨w.heap.size, 8, none⟩ = some (.int .i64 rb) ∧ w'.cell? ⟨w.heap.size, 9, none⟩ = some (.int .i64 rr) ∧ w'.cell? ⟨w.heap.size, 10, none⟩ = some (.slice (some ⟨ab, ao, none⟩) es.length cap) ∧ w'.cell? ⟨E, 0, none⟩ = some (.int .i64 d.r) ∧ w'.cell? ⟨E, 1, none⟩ = some (.int .i64 d.c) ∧ w'.cell? ⟨E, 2, none⟩ = some (.int .i64 d.v.t) ∧ w'.cell? ⟨E, 3, none⟩ = some (.int .i64 d.v.n) ∧ w'.cell? ⟨E, 4, none⟩ = some (.string d.v.s) ∧ w'.cell? ⟨E, 5, none⟩ = some (.bool d.v.b) ∧ w'.cell? ⟨E, 6, none⟩ = some (.int .i64 d.v.c) ∧ Below w3.heap.size w3 w' ∧ w3.heap.size ≤ w'.heap.size) (by kernel_rfl) (by (try dsimp only); refine ⟨?_, ?_, ?_, ?_, ?_, ?_, ?_, ?_, ?_, ?_, ?_, ?_, ?_, ?_, ?_, ?_, ?_, ?_, ?_, ?_⟩ <;> first | assumption | exact Below.drew (Below.refl _ _) | exact Nat.le_refl _) (fun hHeld => ?_)
    generalize w3.drew = wz at *
    refine wpAnyH_take (i := 0) (oi := ⟨_, _, _, _, _, _⟩) (v := ?v1) rfl (by kernel_rfl) (by kernel_rfl) (by kernel_rfl) (fun _ _ _ h => h) (Or.inl ⟨by rfl, ?hy1⟩) hHeld ?rest1
    case hy1 => (intro w2 hSw; (try dsimp only at hSw); go_split_ands; go_simp; first | done | with_reducible rfl)
    try simp only [Act.put, List.setIfInBounds_toArray, List.set_cons_zero, List.set_cons_succ]
    refine wpAnyH_take (i := 1) (oi := ⟨_, _, _, _, _, _⟩) (v := ?v2) rfl (by kernel_rfl) (by kernel_rfl) (by kernel_rfl) (fun _ _ _ h => h) (Or.inl ⟨by rfl, ?hy2⟩) hHeld ?rest2
    case hy2 => (intro w2 hSw; (try dsimp only at hSw); go_split_ands; go_simp; first | done | with_reducible rfl)
    try simp only [Act.put, List.setIfInBounds_toArray, List.set_cons_zero, List.set_cons_succ]
    refine wpAnyH_take (i := 2) (oi := ⟨_, _, _, _, _, _⟩) (v := ?v3) rfl (by kernel_rfl) (by kernel_rfl) (by kernel_rfl) (fun _ _ _ h => h) (Or.inl ⟨by rfl, ?hy3⟩) hHeld ?rest3
    case hy3 => (intro w2 hSw; (try dsimp only at hSw); go_split_ands; go_simp; first | done | with_reducible rfl)
    try simp only [Act.put, List.setIfInBounds_toArray, List.set_cons_zero, List.set_cons_succ]
    refine wpAnyH_take (i := 5) (oi := ⟨_, _, _, _, _, _⟩) (v := ?v4) rfl (by kernel_rfl) (by kernel_rfl) (by kernel_rfl) (fun _ _ _ h => h) (Or.inl ⟨by rfl, ?hy4⟩) hHeld ?rest4
    case hy4 => (intro w2 hSw; (try dsimp only at hSw); go_split_ands; go_simp; first | done | with_reducible rfl)
    try simp only [Act.put, List.setIfInBounds_toArray, List.set_cons_zero, List.set_cons_succ]
    refine wpAnyH_take (i := 6) (oi := ⟨_, _, _, _, _, _⟩) (v := ?v5) rfl (by kernel_rfl) (by kernel_rfl) (by kernel_rfl) (fun _ _ _ h => h) (Or.inl ⟨by rfl, ?hy5⟩) hHeld ?rest5
    case hy5 => (intro w2 hSw; (try dsimp only at hSw); go_split_ands; go_simp; first | done | with_reducible rfl)
    try simp only [Act.put, List.setIfInBounds_toArray, List.set_cons_zero, List.set_cons_succ]
    refine wpAnyH_ready (rs := [3]) (by kernel_rfl) (by simp) ?_
    refine AllReadyH.cons (o := ⟨_, _, _, _, _, _⟩) rfl (fun K hK => ?_) AllReadyH.nil
    go_split_ands
    go_simp
    refine (lnumber_any _ _).mono ?_
    rintro e w1 ⟨rfl, hb⟩
    refine hK.out _ _ ?_ (fun hHeld => ?_)
    · ((try dsimp only); refine ⟨?_, ?_, ?_, ?_, ?_, ?_, ?_, ?_, ?_, ?_, ?_, ?_, ?_, ?_, ?_, ?_, ?_, ?_, ?_, ?_⟩ <;> first | (rw [hb.cell (by dsimp only; omega)]; with_reducible assumption) | exact Below.trans (by with_reducible assumption) (hb.mono (by omega)) | (have := hb.size; omega))
    clear hK K hb
    try simp only [Act.put, List.setIfInBounds_toArray, List.set_cons_zero, List.set_cons_succ]
    refine wpAnyH_ready (rs := [4]) (by kernel_rfl) (by simp) ?_
    refine AllReadyH.cons (o := ⟨_, _, _, _, _, _⟩) rfl (fun K hK => ?_) AllReadyH.nil
    go_split_ands
    go_simp
    refine (lsingle_any _ _ _ _ _ _).mono ?_
    rintro e w1 ⟨rfl, hb⟩
    refine hK.out _ _ ?_ (fun hHeld => ?_)
    · ((try dsimp only); refine ⟨?_, ?_, ?_, ?_, ?_, ?_, ?_, ?_, ?_, ?_, ?_, ?_, ?_, ?_, ?_, ?_, ?_, ?_, ?_, ?_⟩ <;> first | (rw [hb.cell (by dsimp only; omega)]; with_reducible assumption) | exact Below.trans (by with_reducible assumption) (hb.mono (by omega)) | (have := hb.size; omega))
    clear hK K hb
    try simp only [Act.put, List.setIfInBounds_toArray, List.set_cons_zero, List.set_cons_succ]
    refine wpAnyH_ready (rs := [7]) (by kernel_rfl) (by simp) ?_
    refine AllReadyH.cons (o := ⟨_, _, _, _, _, _⟩) rfl (fun K hK => ?_) AllReadyH.nil
    go_split_ands
    go_simp
    refine (lnumber_any _ _).mono ?_
    rintro e w1 ⟨rfl, hb⟩
    refine hK.out _ _ ?_ (fun hHeld => ?_)
    · ((try dsimp only); refine ⟨?_, ?_, ?_, ?_, ?_, ?_, ?_, ?_, ?_, ?_, ?_, ?_, ?_, ?_, ?_, ?_, ?_, ?_, ?_, ?_⟩ <;> first | (rw [hb.cell (by dsimp only; omega)]; with_reducible assumption) | exact Below.trans (by with_reducible assumption) (hb.mono (by omega)) | (have := hb.size; omega))
    clear hK K hb
    try simp only [Act.put, List.setIfInBounds_toArray, List.set_cons_zero, List.set_cons_succ]
    refine wpAnyH_ready (rs := [8]) (by kernel_rfl) (by simp) ?_
    refine AllReadyH.cons (o := ⟨_, _, _, _, _, _⟩) rfl (fun K hK => ?_) AllReadyH.nil
    go_split_ands
    go_simp
    refine (lsingle_any _ _ _ _ _ _).mono ?_
    rintro e w1 ⟨rfl, hb⟩
    refine hK.out _ _ ?_ (fun hHeld => ?_)
    · ((try dsimp only); refine ⟨?_, ?_, ?_, ?_, ?_, ?_, ?_, ?_, ?_, ?_, ?_, ?_, ?_, ?_, ?_, ?_, ?_, ?_, ?_, ?_⟩ <;> first | (rw [hb.cell (by dsimp only; omega)]; with_reducible assumption) | exact Below.trans (by with_reducible assumption) (hb.mono (by omega)) | (have := hb.size; omega))
    clear hK K hb
    try simp only [Act.put, List.setIfInBounds_toArray, List.set_cons_zero, List.set_cons_succ]
    refine wpAnyH_ready (rs := [9]) (by kernel_rfl) (by simp) ?_
    refine AllReadyH.cons (o := ⟨_, _, _, _, _, _⟩) rfl (fun K hK => ?_) AllReadyH.nil
    go_split_ands
    go_simp
    have hBq : Below w3.heap.size w3 w1 := by with_reducible assumption
    have hZq : w3.heap.size ≤ w1.heap.size := by with_reducible assumption
    have b4 : Below w3.heap.size w3 (w1.alloc (.cells #[.bool true, .int .i64 v.t, .int .i64 v.n, .string v.s, .bool v.b, .int .i64 v.c, .int .i64 rt, .int .i64 rl, .int .i64 rb, .int .i64 rr, .slice (some ⟨ab, ao, none⟩) es.length cap, .bool false, .int .i64 1, .int .i64 ((d.r - rt + 1) * 10000), .string ⟨#[]⟩, .bool false, .int .i64 0, .int .i64 0, .int .i64 0, .int .i64 0, .int .i64 0, .slice none 0 0, .bool false, .int .i64 1, .int .i64 ((d.c - rl + 1) * 10000), .string ⟨#[]⟩, .bool false, .int .i64 0, .int .i64 0, .int .i64 0, .int .i64 0, .int .i64 0, .slice none 0 0] 38)) := hBq.alloc hZq _
    have z4 : w1.heap.size < (w1.alloc (.cells #[.bool true, .int .i64 v.t, .int .i64 v.n, .string v.s, .bool v.b, .int .i64 v.c, .int .i64 rt, .int .i64 rl, .int .i64 rb, .int .i64 rr, .slice (some ⟨ab, ao, none⟩) es.length cap, .bool false, .int .i64 1, .int .i64 ((d.r - rt + 1) * 10000), .string ⟨#[]⟩, .bool false, .int .i64 0, .int .i64 0, .int .i64 0, .int .i64 0, .int .i64 0, .slice none 0 0, .bool false, .int .i64 1, .int .i64 ((d.c - rl + 1) * 10000), .string ⟨#[]⟩, .bool false, .int .i64 0, .int .i64 0, .int .i64 0, .int .i64 0, .int .i64 0, .slice none 0 0] 38)).heap.size := by simp
    have hA4 : Hid (ArgsC (w1.alloc (.cells #[.bool true, .int .i64 v.t, .int .i64 v.n, .string v.s, .bool v.b, .int .i64 v.c, .int .i64 rt, .int .i64 rl, .int .i64 rb, .int .i64 rr, .slice (some ⟨ab, ao, none⟩) es.length cap, .bool false, .int .i64 1, .int .i64 ((d.r - rt + 1) * 10000), .string ⟨#[]⟩, .bool false, .int .i64 0, .int .i64 0, .int .i64 0, .int .i64 0, .int .i64 0, .slice none 0 0, .bool false, .int .i64 1, .int .i64 ((d.c - rl + 1) * 10000), .string ⟨#[]⟩, .bool false, .int .i64 0, .int .i64 0, .int .i64 0, .int .i64 0, .int .i64 0, .slice none 0 0] 38)) (.slice (some ⟨w1.heap.size, 0, none⟩) 3 3) [(⟨true, v, rt, rl, rb, rr, some ⟨ab, ao, none⟩, cap, es⟩ : AL), numA ((d.r - rt + 1) * 10000), numA ((d.c - rl + 1) * 10000)]) := Lib.hid (args_ofp [(⟨true, v, rt, rl, rb, rr, some ⟨ab, ao, none⟩, cap, es⟩ : AL), numA ((d.r - rt + 1) * 10000), numA ((d.c - rl + 1) * 10000)] (by rfl) 3 rfl (fun y hy => by simp at hy; rcases hy with rfl | rfl | rfl; exact (hx3.out.below b4).mono b4.size; exact numA_in _ _ _ (by omega); exact numA_in _ _ _ (by omega)) (Nat.le_refl _))
    refine hK.out _ _ ?_ (fun hHeld => ?_)
    · ((try dsimp only); refine ⟨?_, ?_, ?_, ?_, ?_, ?_, ?_, ?_, ?_, ?_, ?_, ?_, ?_, ?_, ?_, ?_, ?_, ?_, ?_, ?_⟩ <;> first | exact bx_cellp (by dsimp only; omega) (by with_reducible assumption) | exact Below.alloc (by with_reducible assumption) (by omega) _ | (simp; omega))
    clear hK K hBq hZq
    try simp only [Act.put, List.setIfInBounds_toArray, List.set_cons_zero, List.set_cons_succ]
    refine wpAnyH_take (i := 10) (oi := ⟨_, _, _, _, _, _⟩) (v := ?v6) rfl (by kernel_rfl) (by kernel_rfl) (by kernel_rfl) (fun _ _ _ h => h) (Or.inl ⟨by rfl, ?hy6⟩) hHeld ?rest6
    case hy6 => (intro w2 hSw; (try dsimp only at hSw); go_split_ands; go_simp; first | done | with_reducible rfl)
    try simp only [Act.put, List.setIfInBounds_toArray, List.set_cons_zero, List.set_cons_succ]
    refine wpAnyH_done (by kernel_rfl) ?_ _
    refine NoPanic.normal ?_
    go_split_ands
    generalize (w1.alloc (.cells #[.bool true, .int .i64 v.t, .int .i64 v.n, .string v.s, .bool v.b, .int .i64 v.c, .int .i64 rt, .int .i64 rl, .int .i64 rb, .int .i64 rr, .slice (some ⟨ab, ao, none⟩) es.length cap, .bool false, .int .i64 1, .int .i64 ((d.r - rt + 1) * 10000), .string ⟨#[]⟩, .bool false, .int .i64 0, .int .i64 0, .int .i64 0, .int .i64 0, .int .i64 0, .slice none 0 0, .bool false, .int .i64 1, .int .i64 ((d.c - rl + 1) * 10000), .string ⟨#[]⟩, .bool false, .int .i64 0, .int .i64 0, .int .i64 0, .int .i64 0, .int .i64 0, .slice none 0 0] 38)) = w4 at *
    have q4 := q3.trans (b4.mono q3.size)
    have hx4 := Lib.hid ((hx3.out.below b4).mono b4.size)
    have ht4 := Lib.hid (Tab.below ht3.out b4)
    have z5 : w3.heap.size ≤ w4.heap.size := b4.size
    have l4 : w.heap.size < w4.heap.size := by omega
    have E4 : E < w4.heap.size := by omega
    obtain ⟨G, hGe⟩ : ∃ b, w1.heap.size = b := ⟨_, rfl⟩
    rw [hGe] at hA4 ⊢
    clear hx3 ht3 q3 b4 z4 z5 hGe ge0 ge1 ge2 ge3 ge4 ge5 ge6 gx0 gx1 gx2 gx3 gx4 gx5 gx6 gx7 gx8 gx9 gx10
    go_upto_region 12 with (fail)
    have CN := fun w' (hb : Below w4.heap.size w4 w') => Lib.hid (kp_INDEX (x := (⟨true, v, rt, rl, rb, rr, some ⟨ab, ao, none⟩, cap, es⟩ : AL)) rfl hy'.out hd'.out rfl (Tab.below ht4.out hb) (hA4.out.below hb))
    clear hA4
    have hve := vEq_self_a d.v.t d.v.n d.v.s d.v.b d.v.c
    refine wp_region_noPanic ?_
    refine wp_region_held_drew (S := fun w' => w'.cell? ⟨w.heap.size, 0, none⟩ = some (.bool true) ∧ w'.cell? ⟨w.heap.size, 1, none⟩ = some (.int .i64 v.t) ∧ w'.cell? ⟨w.heap.size, 2, none⟩ = some (.int .i64 v.n) ∧ w'.cell? ⟨w.heap.size, 3, none⟩ = some (.string v.s) ∧ w'.cell? ⟨w.heap.size, 4, none⟩ = some (.bool v.b) ∧ w'.cell? ⟨w.heap.size, 5, none⟩ = some (.int .i64 v.c) ∧ w'.cell? ⟨w.heap.size, 6, none⟩ = some (.int .i64 rt) ∧ w'.cell? ⟨w.heap.size, 7, none⟩ = some (.int .i64 rl) ∧ w'.cell? ⟨w.heap.size, 8, none⟩ = some (.int .i64 rb) ∧ w'.cell? ⟨w.heap.size, 9, none⟩ = some (.int .i64 rr) ∧ w'.cell? ⟨w.heap.size, 10, none⟩ = some (.slice (some ⟨ab, ao, none⟩) es.length cap) ∧ w'.cell? ⟨E, 0, none⟩ = some (.int .i64 d.r) ∧ w'.cell? ⟨E, 1, none⟩ = some (.int .i64 d.c) ∧ w'.cell? ⟨E, 2, none⟩ = some (.int .i64 d.v.t) ∧ w'.cell? ⟨E, 3, none⟩ = some (.int .i64 d.v.n) ∧ w'.cell? ⟨E, 4, none⟩ = some (.string d.v.s) ∧ w'.cell? ⟨E, 5, none⟩ = some (.bool d.v.b) ∧ w'.cell? ⟨E, 6, none⟩ = some (.int .i64 d.v.c) ∧ Below w4.heap.size w4 w' ∧ w4.heap.size ≤ w'.heap.size) (by kernel_rfl) (by (try dsimp only); refine ⟨?_, ?_, ?_, ?_, ?_, ?_, ?_, ?_, ?_, ?_, ?_, ?_, ?_, ?_, ?_, ?_, ?_, ?_, ?_, ?_⟩ <;> first | assumption | exact Below.drew (Below.refl _ _) | exact Nat.le_refl _) (fun hHeld => ?_)
    generalize w4.drew = wz at *
    refine wpAnyH_take (i := 0) (oi := ⟨_, _, _, _, _, _⟩) (v := ?v7) rfl (by kernel_rfl) (by kernel_rfl) (by kernel_rfl) (fun _ _ _ h => h) (Or.inl ⟨by rfl, ?hy7⟩) hHeld ?rest7
    case hy7 => (intro w2 hSw; (try dsimp only at hSw); go_split_ands; go_simp; first | done | with_reducible rfl)
    try simp only [Act.put, List.setIfInBounds_toArray, List.set_cons_zero, List.set_cons_succ]
    refine wpAnyH_take (i := 2) (oi := ⟨_, _, _, _, _, _⟩) (v := ?v8) rfl (by kernel_rfl) (by kernel_rfl) (by kernel_rfl) (fun _ _ _ h => h) (Or.inl ⟨by rfl, ?hy8⟩) hHeld ?rest8
    case hy8 => (intro w2 hSw; (try dsimp only at hSw); go_split_ands; go_simp; first | done | with_reducible rfl)
    try simp only [Act.put, List.setIfInBounds_toArray, List.set_cons_zero, List.set_cons_succ]
    refine wpAnyH_take (i := 3) (oi := ⟨_, _, _, _, _, _⟩) (v := ?v9) rfl (by kernel_rfl) (by kernel_rfl) (by kernel_rfl) (fun _ _ _ h => h) (Or.inl ⟨by rfl, ?hy9⟩) hHeld ?rest9
    case hy9 => (intro w2 hSw; (try dsimp only at hSw); go_split_ands; go_simp; first | done | with_reducible rfl)
    try simp only [Act.put, List.setIfInBounds_toArray, List.set_cons_zero, List.set_cons_succ]
    refine wpAnyH_ready (rs := [1]) (by kernel_rfl) (by simp) ?_
    refine AllReadyH.cons (o := ⟨_, _, _, _, _, _⟩) rfl (fun K hK => ?_) AllReadyH.nil
    go_split_ands
    go_simp
    refine ((CN _ (by with_reducible assumption)).out).mono ?_
    rintro e w1 ⟨rfl, hb⟩
    refine hK.out _ _ ?_ (fun hHeld => ?_)
    · ((try dsimp only); refine ⟨?_, ?_, ?_, ?_, ?_, ?_, ?_, ?_, ?_, ?_, ?_, ?_, ?_, ?_, ?_, ?_, ?_, ?_, ?_, ?_⟩ <;> first | (rw [hb.cell (by dsimp only; omega)]; with_reducible assumption) | exact Below.trans (by with_reducible assumption) (hb.mono (by omega)) | (have := hb.size; omega))
    clear hK K hb
    try simp only [Act.put, List.setIfInBounds_toArray, List.set_cons_zero, List.set_cons_succ]
    refine wpAnyH_take (i := 4) (oi := ⟨_, _, _, _, _, _⟩) (v := ?v10) rfl (by kernel_rfl) (by kernel_rfl) (by kernel_rfl) (fun _ _ _ h => h) (Or.inl ⟨by rfl, ?hy10⟩) hHeld ?rest10
    case hy10 => (intro w2 hSw; (try dsimp only at hSw); go_split_ands; go_simp; first | done | with_reducible rfl)
    try simp only [Act.put, List.setIfInBounds_toArray, List.set_cons_zero, List.set_cons_succ]
    refine wpAnyH_done (by kernel_rfl) ?_ _
    refine NoPanic.normal ?_
    go_split_ands
    clear CN
    have b5 : Below w4.heap.size w4 w1 := by with_reducible assumption
    obtain ⟨w5, rfl⟩ : ∃ w5, w5 = w1 := ⟨_, rfl⟩
    have q5 := q4.trans (b5.mono q4.size)
    have hx5 := Lib.hid ((hx4.out.below b5).mono b5.size)
    have ht5 := Lib.hid (Tab.below ht4.out b5)
    have z5 : w4.heap.size ≤ w5.heap.size := b5.size
    have l5 : w.heap.size < w5.heap.size := by omega
    have E5 : E < w5.heap.size := by omega
    clear b5 q4 hx4 ht4 l4 E4 z5
    go_upto_region 14 with (fail)
    have CM : ∀ w' v', Tab w' → ArgsC w' v' [sgl d.v, (⟨true, v, rt, rl, rb, rr, some ⟨ab, ao, none⟩, cap, es⟩ : AL)] → Hid (Calls Tryz.prog 27 #[.string ⟨#[77, 65, 84, 67, 72]⟩, v', .int .i64 0] w' fun e w'' => e = .returned (.agg #[.int .i64 (m).t, .int .i64 (m).n, .string (m).s, .bool (m).b, .int .i64 (m).c]) ∧ Below w'.heap.size w' w'') := fun w' v' h1 h2 => Lib.hid (hcm.out w' v' _ rfl h1 h2)
    go_cut [10] from 77 to 82 (fun a wc => ∃ M, a = .pointer (some ⟨M, 0, none⟩) ∧ w5.heap.size ≤ M ∧ wc.heap[M]? = some (.cells #[.int .i64 m.t, .int .i64 m.n, .string m.s, .bool m.b, .int .i64 m.c] 26 (0, 0)) ∧ Below w5.heap.size w5 wc)
    case first =>
      refine wp_region_noPanic ?_
      refine wp_region_held_drew (S := fun w' => w'.cell? ⟨w.heap.size, 0, none⟩ = some (.bool true) ∧ w'.cell? ⟨w.heap.size, 1, none⟩ = some (.int .i64 v.t) ∧ w'.cell? ⟨w.heap.size, 2, none⟩ = some (.int .i64 v.n) ∧ w'.cell? ⟨w.heap.size, 3, none⟩ = some (.string v.s) ∧ w'.cell? ⟨w.heap.size, 4, none⟩ = some (.bool v.b) ∧ w'.cell? ⟨w.heap.size, 5, none⟩ = some (.int .i64 v.c) ∧ w'.cell? ⟨w.heap.size, 6, none⟩ = some (.int .i64 rt) ∧ w'.cell? ⟨w.heap.size, 7, none⟩ = some (.int .i64 rl) ∧ w'.cell? ⟨w.heap.size, 8, none⟩ = some (.int .i64 rb) ∧ w'.cell? ⟨w.heap.size, 9, none⟩ = some (.int .i64 rr) ∧ w'.cell? ⟨w.heap.size, 10, none⟩ = some (.slice (some ⟨ab, ao, none⟩) es.length cap) ∧ w'.cell? ⟨E, 0, none⟩ = some (.int .i64 d.r) ∧ w'.cell? ⟨E, 1, none⟩ = some (.int .i64 d.c) ∧ w'.cell? ⟨E, 2, none⟩ = some (.int .i64 d.v.t) ∧ w'.cell? ⟨E, 3, none⟩ = some (.int .i64 d.v.n) ∧ w'.cell? ⟨E, 4, none⟩ = some (.string d.v.s) ∧ w'.cell? ⟨E, 5, none⟩ = some (.bool d.v.b) ∧ w'.cell? ⟨E, 6, none⟩ = some (.int .i64 d.v.c) ∧ Below w5.heap.size w5 w' ∧ w5.heap.size ≤ w'.heap.size) (by kernel_rfl) (by (try dsimp only); refine ⟨?_, ?_, ?_, ?_, ?_, ?_, ?_, ?_, ?_, ?_, ?_, ?_, ?_, ?_, ?_, ?_, ?_, ?_, ?_, ?_⟩ <;> first | assumption | exact Below.drew (Below.refl _ _) | exact Nat.le_refl _) (fun hHeld => ?_)
      generalize w5.drew = wz5 at *
      refine wpAnyH_take (i := 0) (oi := ⟨_, _, _, _, _, _⟩) (v := ?v11) rfl (by kernel_rfl) (by kernel_rfl) (by kernel_rfl) (fun _ _ _ h => h) (Or.inl ⟨by rfl, ?hy11⟩) hHeld ?rest11
      case hy11 => (intro w2 hSw; (try dsimp only at hSw); go_split_ands; go_simp; first | done | with_reducible rfl)
      try simp only [Act.put, List.setIfInBounds_toArray, List.set_cons_zero, List.set_cons_succ]
      refine wpAnyH_take (i := 1) (oi := ⟨_, _, _, _, _, _⟩) (v := ?v12) rfl (by kernel_rfl) (by kernel_rfl) (by kernel_rfl) (fun _ _ _ h => h) (Or.inl ⟨by rfl, ?hy12⟩) hHeld ?rest12
      case hy12 => (intro w2 hSw; (try dsimp only at hSw); go_split_ands; go_simp; first | done | with_reducible rfl)
      try simp only [Act.put, List.setIfInBounds_toArray, List.set_cons_zero, List.set_cons_succ]
      refine wpAnyH_take (i := 3) (oi := ⟨_, _, _, _, _, _⟩) (v := ?v13) rfl (by kernel_rfl) (by kernel_rfl) (by kernel_rfl) (fun _ _ _ h => h) (Or.inl ⟨by rfl, ?hy13⟩) hHeld ?rest13
      case hy13 => (intro w2 hSw; (try dsimp only at hSw); go_split_ands; go_simp; first | done | with_reducible rfl)
      try simp only [Act.put, List.setIfInBounds_toArray, List.set_cons_zero, List.set_cons_succ]
      refine wpAnyH_ready (rs := [2, 6]) (by kernel_rfl) (by simp) ?_
      refine AllReadyH.cons (o := ⟨_, _, _, _, _, _⟩) rfl (fun K hK => ?_) (AllReadyH.cons (o := ⟨_, _, _, _, _, _⟩) rfl (fun K hK => ?_) AllReadyH.nil)
      · go_split_ands
        go_simp
        have hBq : Below w5.heap.size w5 wz5 := by with_reducible assumption
        have hZq : w5.heap.size ≤ wz5.heap.size := by with_reducible assumption
        refine (lsingle_any _ _ _ _ _ _).mono ?_
        rintro e wn1 ⟨rfl, hb⟩
        refine hK.out _ _ ?_ (fun hHeld => ?_)
        · ((try dsimp only); refine ⟨?_, ?_, ?_, ?_, ?_, ?_, ?_, ?_, ?_, ?_, ?_, ?_, ?_, ?_, ?_, ?_, ?_, ?_, ?_, ?_⟩ <;> first | (rw [hb.cell (by dsimp only; omega)]; with_reducible assumption) | exact Below.trans (by with_reducible assumption) (hb.mono (by omega)) | (have := hb.size; omega))
        clear hK K hb hBq hZq
        try simp only [Act.put, List.setIfInBounds_toArray, List.set_cons_zero, List.set_cons_succ]
        refine wpAnyH_ready (rs := [4, 6]) (by kernel_rfl) (by simp) ?_
        refine AllReadyH.cons (o := ⟨_, _, _, _, _, _⟩) rfl (fun K hK => ?_) (AllReadyH.cons (o := ⟨_, _, _, _, _, _⟩) rfl (fun K hK => ?_) AllReadyH.nil)
        · go_split_ands
          go_simp
          have hBq : Below w5.heap.size w5 wn1 := by with_reducible assumption
          have hZq : w5.heap.size ≤ wn1.heap.size := by with_reducible assumption
          have hq9 : Below w5.heap.size w5 (wn1.alloc (.cells #[.bool false, .int .i64 d.v.t, .int .i64 d.v.n, .string d.v.s, .bool d.v.b, .int .i64 d.v.c, .int .i64 0, .int .i64 0, .int .i64 0, .int .i64 0, .slice none 0 0, .bool true, .int .i64 v.t, .int .i64 v.n, .string v.s, .bool v.b, .int .i64 v.c, .int .i64 rt, .int .i64 rl, .int .i64 rb, .int .i64 rr, .slice (some ⟨ab, ao, none⟩) es.length cap] 38)) := hBq.alloc hZq _
          have hAr : Hid (ArgsC (wn1.alloc (.cells #[.bool false, .int .i64 d.v.t, .int .i64 d.v.n, .string d.v.s, .bool d.v.b, .int .i64 d.v.c, .int .i64 0, .int .i64 0, .int .i64 0, .int .i64 0, .slice none 0 0, .bool true, .int .i64 v.t, .int .i64 v.n, .string v.s, .bool v.b, .int .i64 v.c, .int .i64 rt, .int .i64 rl, .int .i64 rb, .int .i64 rr, .slice (some ⟨ab, ao, none⟩) es.length cap] 38)) (.slice (some ⟨wn1.heap.size, 0, none⟩) 2 2) [sgl d.v, (⟨true, v, rt, rl, rb, rr, some ⟨ab, ao, none⟩, cap, es⟩ : AL)]) := Lib.hid (args_ofp [sgl d.v, (⟨true, v, rt, rl, rb, rr, some ⟨ab, ao, none⟩, cap, es⟩ : AL)] (by rfl) 2 rfl (fun y hy => by simp at hy; rcases hy with rfl | rfl; exact sgl_in hdok.out _ _; exact (hx5.out.below hq9).mono hq9.size) (Nat.le_refl _))
          refine hK.out _ _ ?_ (fun hHeld => ?_)
          · ((try dsimp only); refine ⟨?_, ?_, ?_, ?_, ?_, ?_, ?_, ?_, ?_, ?_, ?_, ?_, ?_, ?_, ?_, ?_, ?_, ?_, ?_, ?_⟩ <;> first | exact bx_cellp (by dsimp only; omega) (by with_reducible assumption) | exact Below.alloc (by with_reducible assumption) (by omega) _ | (simp; omega))
          clear hK K hBq hZq hq9
          try simp only [Act.put, List.setIfInBounds_toArray, List.set_cons_zero, List.set_cons_succ]
          generalize (wn1.alloc (.cells #[.bool false, .int .i64 d.v.t, .int .i64 d.v.n, .string d.v.s, .bool d.v.b, .int .i64 d.v.c, .int .i64 0, .int .i64 0, .int .i64 0, .int .i64 0, .slice none 0 0, .bool true, .int .i64 v.t, .int .i64 v.n, .string v.s, .bool v.b, .int .i64 v.c, .int .i64 rt, .int .i64 rl, .int .i64 rb, .int .i64 rr, .slice (some ⟨ab, ao, none⟩) es.length cap] 38)) = wn2 at *
          refine wpAnyH_ready (rs := [5, 6]) (by kernel_rfl) (by simp) ?_
          refine AllReadyH.cons (o := ⟨_, _, _, _, _, _⟩) rfl (fun K hK => ?_) (AllReadyH.cons (o := ⟨_, _, _, _, _, _⟩) rfl (fun K hK => ?_) AllReadyH.nil)
          · go_split_ands
            go_simp
            have hBq : Below w5.heap.size w5 wn2 := by with_reducible assumption
            have hZq : w5.heap.size ≤ wn2.heap.size := by with_reducible assumption
            refine ((CM _ _ (Tab.below ht5.out hBq) hAr.out).out).mono ?_
            rintro e wn3 ⟨rfl, hb⟩
            refine hK.out _ _ ?_ (fun hHeld => ?_)
            · ((try dsimp only); refine ⟨?_, ?_, ?_, ?_, ?_, ?_, ?_, ?_, ?_, ?_, ?_, ?_, ?_, ?_, ?_, ?_, ?_, ?_, ?_, ?_⟩ <;> first | (rw [hb.cell (by dsimp only; omega)]; with_reducible assumption) | exact Below.trans (by with_reducible assumption) (hb.mono (by omega)) | (have := hb.size; omega))
            clear hK K hb hBq hZq
            try simp only [Act.put, List.setIfInBounds_toArray, List.set_cons_zero, List.set_cons_succ]
            clear hAr
            refine wpAnyH_ready (rs := [6]) (by kernel_rfl) (by simp) ?_
            refine AllReadyH.cons (o := ⟨_, _, _, _, _, _⟩) rfl (fun K hK => ?_) AllReadyH.nil
            go_split_ands
            go_simp
            have hBq : Below w5.heap.size w5 wn3 := by with_reducible assumption
            have hZq : w5.heap.size ≤ wn3.heap.size := by with_reducible assumption
            have hM := blk_new wn3 #[.int .i64 0, .int .i64 0, .string ⟨#[]⟩, .bool false, .int .i64 0] 26
            have hb9 : Below wn3.heap.size wn3 (wn3.alloc (.cells #[.int .i64 0, .int .i64 0, .string ⟨#[]⟩, .bool false, .int .i64 0] 26)) := (Below.refl _ _).alloc (Nat.le_refl _) _
            have hMz : wn3.heap.size < (wn3.alloc (.cells #[.int .i64 0, .int .i64 0, .string ⟨#[]⟩, .bool false, .int .i64 0] 26)).heap.size := by simp
            refine hK.out _ _ ?_ (fun hHeld => ?_)
            · ((try dsimp only); refine ⟨?_, ?_, ?_, ?_, ?_, ?_, ?_, ?_, ?_, ?_, ?_, ?_, ?_, ?_, ?_, ?_, ?_, ?_, ?_, ?_⟩ <;> first | exact bx_cellp (by dsimp only; omega) (by with_reducible assumption) | exact Below.alloc (by with_reducible assumption) (by omega) _ | (simp; omega))
            clear hK K hb9
            try simp only [Act.put, List.setIfInBounds_toArray, List.set_cons_zero, List.set_cons_succ]
            generalize (wn3.alloc (.cells #[.int .i64 0, .int .i64 0, .string ⟨#[]⟩, .bool false, .int .i64 0] 26)) = wn4 at *
            obtain ⟨M, hMe⟩ : ∃ M, wn3.heap.size = M := ⟨_, rfl⟩
            rw [hMe] at hM hMz ⊢
            have hMl : w5.heap.size ≤ M := by omega
            clear hBq hZq hMe
            refine wpAnyH_ready (rs := [7]) (by kernel_rfl) (by simp) ?_
            refine AllReadyH.cons (o := ⟨_, _, _, _, _, _⟩) rfl (fun K hK => ?_) AllReadyH.nil
            go_split_ands
            have hcl0 : wn4.cell? ⟨M, 0, none⟩ = some (.int .i64 0) := blk_cell hM 0
            have hcl1 : wn4.cell? ⟨M, 1, none⟩ = some (.int .i64 0) := blk_cell hM 1
            have hcl2 : wn4.cell? ⟨M, 2, none⟩ = some (.string ⟨#[]⟩) := blk_cell hM 2
            have hcl3 : wn4.cell? ⟨M, 3, none⟩ = some (.bool false) := blk_cell hM 3
            have hcl4 : wn4.cell? ⟨M, 4, none⟩ = some (.int .i64 0) := blk_cell hM 4
            have hfz0 : wn4.frozen? ⟨M, 0, none⟩ = false := blk_frozen hM 0
            have hfz1 : wn4.frozen? ⟨M, 1, none⟩ = false := blk_frozen hM 1
            have hfz2 : wn4.frozen? ⟨M, 2, none⟩ = false := blk_frozen hM 2
            have hfz3 : wn4.frozen? ⟨M, 3, none⟩ = false := blk_frozen hM 3
            have hfz4 : wn4.frozen? ⟨M, 4, none⟩ = false := blk_frozen hM 4
            go_simp
            have hBq : Below w5.heap.size w5 wn4 := by with_reducible assumption
            have hZq : w5.heap.size ≤ wn4.heap.size := by with_reducible assumption
            have hM1 : M ≠ w.heap.size := by omega
            have hM2 : M ≠ E := by omega
            clear hcl0 hfz0 hcl1 hfz1 hcl2 hfz2 hcl3 hfz3 hcl4 hfz4
            have hBf : Below w5.heap.size w5 (((((wn4.setCell ⟨M, 0, none⟩ (.int .i64 m.t)).setCell ⟨M, 1, none⟩ (.int .i64 m.n)).setCell ⟨M, 2, none⟩ (.string m.s)).setCell ⟨M, 3, none⟩ (.bool m.b)).setCell ⟨M, 4, none⟩ (.int .i64 m.c)) := below5 hBq hMl
            have hMf : (((((wn4.setCell ⟨M, 0, none⟩ (.int .i64 m.t)).setCell ⟨M, 1, none⟩ (.int .i64 m.n)).setCell ⟨M, 2, none⟩ (.string m.s)).setCell ⟨M, 3, none⟩ (.bool m.b)).setCell ⟨M, 4, none⟩ (.int .i64 m.c)).heap[M]? = some (.cells #[.int .i64 m.t, .int .i64 m.n, .string m.s, .bool m.b, .int .i64 m.c] 26 (0, 0)) := row5 hM
            have hZf : w5.heap.size ≤ (((((wn4.setCell ⟨M, 0, none⟩ (.int .i64 m.t)).setCell ⟨M, 1, none⟩ (.int .i64 m.n)).setCell ⟨M, 2, none⟩ (.string m.s)).setCell ⟨M, 3, none⟩ (.bool m.b)).setCell ⟨M, 4, none⟩ (.int .i64 m.c)).heap.size := size_sc5 hZq
            have hk0 : (((((wn4.setCell ⟨M, 0, none⟩ (.int .i64 m.t)).setCell ⟨M, 1, none⟩ (.int .i64 m.n)).setCell ⟨M, 2, none⟩ (.string m.s)).setCell ⟨M, 3, none⟩ (.bool m.b)).setCell ⟨M, 4, none⟩ (.int .i64 m.c)).cell? ⟨w.heap.size, 0, none⟩ = some (.bool true) := cell_sc5 hM1 (by with_reducible assumption)
            have hk1 : (((((wn4.setCell ⟨M, 0, none⟩ (.int .i64 m.t)).setCell ⟨M, 1, none⟩ (.int .i64 m.n)).setCell ⟨M, 2, none⟩ (.string m.s)).setCell ⟨M, 3, none⟩ (.bool m.b)).setCell ⟨M, 4, none⟩ (.int .i64 m.c)).cell? ⟨w.heap.size, 1, none⟩ = some (.int .i64 v.t) := cell_sc5 hM1 (by with_reducible assumption)
            have hk2 : (((((wn4.setCell ⟨M, 0, none⟩ (.int .i64 m.t)).setCell ⟨M, 1, none⟩ (.int .i64 m.n)).setCell ⟨M, 2, none⟩ (.string m.s)).setCell ⟨M, 3, none⟩ (.bool m.b)).setCell ⟨M, 4, none⟩ (.int .i64 m.c)).cell? ⟨w.heap.size, 2, none⟩ = some (.int .i64 v.n) := cell_sc5 hM1 (by with_reducible assumption)
            have hk3 : (((((wn4.setCell ⟨M, 0, none⟩ (.int .i64 m.t)).setCell ⟨M, 1, none⟩ (.int .i64 m.n)).setCell ⟨M, 2, none⟩ (.string m.s)).setCell ⟨M, 3, none⟩ (.bool m.b)).setCell ⟨M, 4, none⟩ (.int .i64 m.c)).cell? ⟨w.heap.size, 3, none⟩ = some (.string v.s) := cell_sc5 hM1 (by with_reducible assumption)
            have hk4 : (((((wn4.setCell ⟨M, 0, none⟩ (.int .i64 m.t)).setCell ⟨M, 1, none⟩ (.int .i64 m.n)).setCell ⟨M, 2, none⟩ (.string m.s)).setCell ⟨M, 3, none⟩ (.bool m.b)).setCell ⟨M, 4, none⟩ (.int .i64 m.c)).cell? ⟨w.heap.size, 4, none⟩ = some (.bool v.b) := cell_sc5 hM1 (by with_reducible assumption)
            have hk5 : (((((wn4.setCell ⟨M, 0, none⟩ (.int .i64 m.t)).setCell ⟨M, 1, none⟩ (.int .i64 m.n)).setCell ⟨M, 2, none⟩ (.string m.s)).setCell ⟨M, 3, none⟩ (.bool m.b)).setCell ⟨M, 4, none⟩ (.int .i64 m.c)).cell? ⟨w.heap.size, 5, none⟩ = some (.int .i64 v.c) := cell_sc5 hM1 (by with_reducible assumption)
            have hk6 : (((((wn4.setCell ⟨M, 0, none⟩ (.int .i64 m.t)).setCell ⟨M, 1, none⟩ (.int .i64 m.n)).setCell ⟨M, 2, none⟩ (.string m.s)).setCell ⟨M, 3, none⟩ (.bool m.b)).setCell ⟨M, 4, none⟩ (.int .i64 m.c)).cell? ⟨w.heap.size, 6, none⟩ = some (.int .i64 rt) := cell_sc5 hM1 (by with_reducible assumption)
            have hk7 : (((((wn4.setCell ⟨M, 0, none⟩ (.int .i64 m.t)).setCell ⟨M, 1, none⟩ (.int .i64 m.n)).setCell ⟨M, 2, none⟩ (.string m.s)).setCell ⟨M, 3, none⟩ (.bool m.b)).setCell ⟨M, 4, none⟩ (.int .i64 m.c)).cell? ⟨w.heap.size, 7, none⟩ = some (.int .i64 rl) := cell_sc5 hM1 (by with_reducible assumption)
            have hk8 : (((((wn4.setCell ⟨M, 0, none⟩ (.int .i64 m.t)).setCell ⟨M, 1, none⟩ (.int .i64 m.n)).setCell ⟨M, 2, none⟩ (.string m.s)).setCell ⟨M, 3, none⟩ (.bool m.b)).setCell ⟨M, 4, none⟩ (.int .i64 m.c)).cell? ⟨w.heap.size, 8, none⟩ = some (.int .i64 rb) := cell_sc5 hM1 (by with_reducible assumption)
            have hk9 : (((((wn4.setCell ⟨M, 0, none⟩ (.int .i64 m.t)).setCell ⟨M, 1, none⟩ (.int .i64 m.n)).setCell ⟨M, 2, none⟩ (.string m.s)).setCell ⟨M, 3, none⟩ (.bool m.b)).setCell ⟨M, 4, none⟩ (.int .i64 m.c)).cell? ⟨w.heap.size, 9, none⟩ = some (.int .i64 rr) := cell_sc5 hM1 (by with_reducible assumption)
            have hk10 : (((((wn4.setCell ⟨M, 0, none⟩ (.int .i64 m.t)).setCell ⟨M, 1, none⟩ (.int .i64 m.n)).setCell ⟨M, 2, none⟩ (.string m.s)).setCell ⟨M, 3, none⟩ (.bool m.b)).setCell ⟨M, 4, none⟩ (.int .i64 m.c)).cell? ⟨w.heap.size, 10, none⟩ = some (.slice (some ⟨ab, ao, none⟩) es.length cap) := cell_sc5 hM1 (by with_reducible assumption)
            have hl0 : (((((wn4.setCell ⟨M, 0, none⟩ (.int .i64 m.t)).setCell ⟨M, 1, none⟩ (.int .i64 m.n)).setCell ⟨M, 2, none⟩ (.string m.s)).setCell ⟨M, 3, none⟩ (.bool m.b)).setCell ⟨M, 4, none⟩ (.int .i64 m.c)).cell? ⟨E, 0, none⟩ = some (.int .i64 d.r) := cell_sc5 hM2 (by with_reducible assumption)
            have hl1 : (((((wn4.setCell ⟨M, 0, none⟩ (.int .i64 m.t)).setCell ⟨M, 1, none⟩ (.int .i64 m.n)).setCell ⟨M, 2, none⟩ (.string m.s)).setCell ⟨M, 3, none⟩ (.bool m.b)).setCell ⟨M, 4, none⟩ (.int .i64 m.c)).cell? ⟨E, 1, none⟩ = some (.int .i64 d.c) := cell_sc5 hM2 (by with_reducible assumption)
            have hl2 : (((((wn4.setCell ⟨M, 0, none⟩ (.int .i64 m.t)).setCell ⟨M, 1, none⟩ (.int .i64 m.n)).setCell ⟨M, 2, none⟩ (.string m.s)).setCell ⟨M, 3, none⟩ (.bool m.b)).setCell ⟨M, 4, none⟩ (.int .i64 m.c)).cell? ⟨E, 2, none⟩ = some (.int .i64 d.v.t) := cell_sc5 hM2 (by with_reducible assumption)
            have hl3 : (((((wn4.setCell ⟨M, 0, none⟩ (.int .i64 m.t)).setCell ⟨M, 1, none⟩ (.int .i64 m.n)).setCell ⟨M, 2, none⟩ (.string m.s)).setCell ⟨M, 3, none⟩ (.bool m.b)).setCell ⟨M, 4, none⟩ (.int .i64 m.c)).cell? ⟨E, 3, none⟩ = some (.int .i64 d.v.n) := cell_sc5 hM2 (by with_reducible assumption)
            have hl4 : (((((wn4.setCell ⟨M, 0, none⟩ (.int .i64 m.t)).setCell ⟨M, 1, none⟩ (.int .i64 m.n)).setCell ⟨M, 2, none⟩ (.string m.s)).setCell ⟨M, 3, none⟩ (.bool m.b)).setCell ⟨M, 4, none⟩ (.int .i64 m.c)).cell? ⟨E, 4, none⟩ = some (.string d.v.s) := cell_sc5 hM2 (by with_reducible assumption)
            have hl5 : (((((wn4.setCell ⟨M, 0, none⟩ (.int .i64 m.t)).setCell ⟨M, 1, none⟩ (.int .i64 m.n)).setCell ⟨M, 2, none⟩ (.string m.s)).setCell ⟨M, 3, none⟩ (.bool m.b)).setCell ⟨M, 4, none⟩ (.int .i64 m.c)).cell? ⟨E, 5, none⟩ = some (.bool d.v.b) := cell_sc5 hM2 (by with_reducible assumption)
            have hl6 : (((((wn4.setCell ⟨M, 0, none⟩ (.int .i64 m.t)).setCell ⟨M, 1, none⟩ (.int .i64 m.n)).setCell ⟨M, 2, none⟩ (.string m.s)).setCell ⟨M, 3, none⟩ (.bool m.b)).setCell ⟨M, 4, none⟩ (.int .i64 m.c)).cell? ⟨E, 6, none⟩ = some (.int .i64 d.v.c) := cell_sc5 hM2 (by with_reducible assumption)
            clear hM hBq hZq
            generalize (((((wn4.setCell ⟨M, 0, none⟩ (.int .i64 m.t)).setCell ⟨M, 1, none⟩ (.int .i64 m.n)).setCell ⟨M, 2, none⟩ (.string m.s)).setCell ⟨M, 3, none⟩ (.bool m.b)).setCell ⟨M, 4, none⟩ (.int .i64 m.c)) = wq at *
            refine hK.out _ _ ?_ (fun hHeld => ?_)
            · ((try dsimp only); refine ⟨?_, ?_, ?_, ?_, ?_, ?_, ?_, ?_, ?_, ?_, ?_, ?_, ?_, ?_, ?_, ?_, ?_, ?_, ?_, ?_⟩ <;> with_reducible assumption)
            clear hK K
            refine wpAnyH_done (by kernel_rfl) ?_ _
            refine NoPanic.normal ?_
            go_wp2
            go_meet
            case rel => exact ⟨M, rfl, hMl, hMf, hBf⟩
          · go_split_ands
            go_simp
            have hBq : Below w5.heap.size w5 wn2 := by with_reducible assumption
            have hZq : w5.heap.size ≤ wn2.heap.size := by with_reducible assumption
            have hM := blk_new wn2 #[.int .i64 0, .int .i64 0, .string ⟨#[]⟩, .bool false, .int .i64 0] 26
            have hb9 : Below wn2.heap.size wn2 (wn2.alloc (.cells #[.int .i64 0, .int .i64 0, .string ⟨#[]⟩, .bool false, .int .i64 0] 26)) := (Below.refl _ _).alloc (Nat.le_refl _) _
            have hMz : wn2.heap.size < (wn2.alloc (.cells #[.int .i64 0, .int .i64 0, .string ⟨#[]⟩, .bool false, .int .i64 0] 26)).heap.size := by simp
            have hAr := Lib.hid (hAr.out.below hb9)
            refine hK.out _ _ ?_ (fun hHeld => ?_)
            · ((try dsimp only); refine ⟨?_, ?_, ?_, ?_, ?_, ?_, ?_, ?_, ?_, ?_, ?_, ?_, ?_, ?_, ?_, ?_, ?_, ?_, ?_, ?_⟩ <;> first | exact bx_cellp (by dsimp only; omega) (by with_reducible assumption) | exact Below.alloc (by with_reducible assumption) (by omega) _ | (simp; omega))
            clear hK K hb9
            try simp only [Act.put, List.setIfInBounds_toArray, List.set_cons_zero, List.set_cons_succ]
            generalize (wn2.alloc (.cells #[.int .i64 0, .int .i64 0, .string ⟨#[]⟩, .bool false, .int .i64 0] 26)) = wn5 at *
            obtain ⟨M, hMe⟩ : ∃ M, wn2.heap.size = M := ⟨_, rfl⟩
            rw [hMe] at hM hMz ⊢
            have hMl : w5.heap.size ≤ M := by omega
            clear hBq hZq hMe
            refine wpAnyH_ready (rs := [5]) (by kernel_rfl) (by simp) ?_
            refine AllReadyH.cons (o := ⟨_, _, _, _, _, _⟩) rfl (fun K hK => ?_) AllReadyH.nil
            go_split_ands
            go_simp
            have hBq : Below w5.heap.size w5 wn5 := by with_reducible assumption
            have hZq : w5.heap.size ≤ wn5.heap.size := by with_reducible assumption
            refine ((CM _ _ (Tab.below ht5.out hBq) hAr.out).out).mono ?_
            rintro e wn6 ⟨rfl, hb⟩
            have hM := blk_below hM hb (Array.getElem?_eq_some_iff.1 hM).1
            refine hK.out _ _ ?_ (fun hHeld => ?_)
            · ((try dsimp only); refine ⟨?_, ?_, ?_, ?_, ?_, ?_, ?_, ?_, ?_, ?_, ?_, ?_, ?_, ?_, ?_, ?_, ?_, ?_, ?_, ?_⟩ <;> first | (rw [hb.cell (by dsimp only; omega)]; with_reducible assumption) | exact Below.trans (by with_reducible assumption) (hb.mono (by omega)) | (have := hb.size; omega))
            clear hK K hb hBq hZq
            try simp only [Act.put, List.setIfInBounds_toArray, List.set_cons_zero, List.set_cons_succ]
            clear hAr
            refine wpAnyH_ready (rs := [7]) (by kernel_rfl) (by simp) ?_
            refine AllReadyH.cons (o := ⟨_, _, _, _, _, _⟩) rfl (fun K hK => ?_) AllReadyH.nil
            go_split_ands
            have hcl0 : wn6.cell? ⟨M, 0, none⟩ = some (.int .i64 0) := blk_cell hM 0
            have hcl1 : wn6.cell? ⟨M, 1, none⟩ = some (.int .i64 0) := blk_cell hM 1
            have hcl2 : wn6.cell? ⟨M, 2, none⟩ = some (.string ⟨#[]⟩) := blk_cell hM 2
            have hcl3 : wn6.cell? ⟨M, 3, none⟩ = some (.bool false) := blk_cell hM 3
            have hcl4 : wn6.cell? ⟨M, 4, none⟩ = some (.int .i64 0) := blk_cell hM 4
            have hfz0 : wn6.frozen? ⟨M, 0, none⟩ = false := blk_frozen hM 0
            have hfz1 : wn6.frozen? ⟨M, 1, none⟩ = false := blk_frozen hM 1
            have hfz2 : wn6.frozen? ⟨M, 2, none⟩ = false := blk_frozen hM 2
            have hfz3 : wn6.frozen? ⟨M, 3, none⟩ = false := blk_frozen hM 3
            have hfz4 : wn6.frozen? ⟨M, 4, none⟩ = false := blk_frozen hM 4
            go_simp
            have hBq : Below w5.heap.size w5 wn6 := by with_reducible assumption
            have hZq : w5.heap.size ≤ wn6.heap.size := by with_reducible assumption
            have hM1 : M ≠ w.heap.size := by omega
            have hM2 : M ≠ E := by omega
            clear hcl0 hfz0 hcl1 hfz1 hcl2 hfz2 hcl3 hfz3 hcl4 hfz4
            have hBf : Below w5.heap.size w5 (((((wn6.setCell ⟨M, 0, none⟩ (.int .i64 m.t)).setCell ⟨M, 1, none⟩ (.int .i64 m.n)).setCell ⟨M, 2, none⟩ (.string m.s)).setCell ⟨M, 3, none⟩ (.bool m.b)).setCell ⟨M, 4, none⟩ (.int .i64 m.c)) := below5 hBq hMl
            have hMf : (((((wn6.setCell ⟨M, 0, none⟩ (.int .i64 m.t)).setCell ⟨M, 1, none⟩ (.int .i64 m.n)).setCell ⟨M, 2, none⟩ (.string m.s)).setCell ⟨M, 3, none⟩ (.bool m.b)).setCell ⟨M, 4, none⟩ (.int .i64 m.c)).heap[M]? = some (.cells #[.int .i64 m.t, .int .i64 m.n, .string m.s, .bool m.b, .int .i64 m.c] 26 (0, 0)) := row5 hM
            have hZf : w5.heap.size ≤ (((((wn6.setCell ⟨M, 0, none⟩ (.int .i64 m.t)).setCell ⟨M, 1, none⟩ (.int .i64 m.n)).setCell ⟨M, 2, none⟩ (.string m.s)).setCell ⟨M, 3, none⟩ (.bool m.b)).setCell ⟨M, 4, none⟩ (.int .i64 m.c)).heap.size := size_sc5 hZq
            have hk0 : (((((wn6.setCell ⟨M, 0, none⟩ (.int .i64 m.t)).setCell ⟨M, 1, none⟩ (.int .i64 m.n)).setCell ⟨M, 2, none⟩ (.string m.s)).setCell ⟨M, 3, none⟩ (.bool m.b)).setCell ⟨M, 4, none⟩ (.int .i64 m.c)).cell? ⟨w.heap.size, 0, none⟩ = some (.bool true) := cell_sc5 hM1 (by with_reducible assumption)
            have hk1 : (((((wn6.setCell ⟨M, 0, none⟩ (.int .i64 m.t)).setCell ⟨M, 1, none⟩ (.int .i64 m.n)).setCell ⟨M, 2, none⟩ (.string m.s)).setCell ⟨M, 3, none⟩ (.bool m.b)).setCell ⟨M, 4, none⟩ (.int .i64 m.c)).cell? ⟨w.heap.size, 1, none⟩ = some (.int .i64 v.t) := cell_sc5 hM1 (by with_reducible assumption)
            have hk2 : (((((wn6.setCell ⟨M, 0, none⟩ (.int .i64 m.t)).setCell ⟨M, 1, none⟩ (.int .i64 m.n)).setCell ⟨M, 2, none⟩ (.string m.s)).setCell ⟨M, 3, none⟩ (.bool m.b)).setCell ⟨M, 4, none⟩ (.int .i64 m.c)).cell? ⟨w.heap.size, 2, none⟩ = some (.int .i64 v.n) := cell_sc5 hM1 (by with_reducible assumption)
            have hk3 : (((((wn6.setCell ⟨M, 0, none⟩ (.int .i64 m.t)).setCell ⟨M, 1, none⟩ (.int .i64 m.n)).setCell ⟨M, 2, none⟩ (.string m.s)).setCell ⟨M, 3, none⟩ (.bool m.b)).setCell ⟨M, 4, none⟩ (.int .i64 m.c)).cell? ⟨w.heap.size, 3, none⟩ = some (.string v.s) := cell_sc5 hM1 (by with_reducible assumption)
            have hk4 : (((((wn6.setCell ⟨M, 0, none⟩ (.int .i64 m.t)).setCell ⟨M, 1, none⟩ (.int .i64 m.n)).setCell ⟨M, 2, none⟩ (.string m.s)).setCell ⟨M, 3, none⟩ (.bool m.b)).setCell ⟨M, 4, none⟩ (.int .i64 m.c)).cell? ⟨w.heap.size, 4, none⟩ = some (.bool v.b) := cell_sc5 hM1 (by with_reducible assumption)
            have hk5 : (((((wn6.setCell ⟨M, 0, none⟩ (.int .i64 m.t)).setCell ⟨M, 1, none⟩ (.int .i64 m.n)).setCell ⟨M, 2, none⟩ (.string m.s)).setCell ⟨M, 3, none⟩ (.bool m.b)).setCell ⟨M, 4, none⟩ (.int .i64 m.c)).cell? ⟨w.heap.size, 5, none⟩ = some (.int .i64 v.c) := cell_sc5 hM1 (by with_reducible assumption)
            have hk6 : (((((wn6.setCell ⟨M, 0, none⟩ (.int .i64 m.t)).setCell ⟨M, 1, none⟩ (.int .i64 m.n)).setCell ⟨M, 2, none⟩ (.string m.s)).setCell ⟨M, 3, none⟩ (.bool m.b)).setCell ⟨M, 4, none⟩ (.int .i64 m.c)).cell? ⟨w.heap.size, 6, none⟩ = some (.int .i64 rt) := cell_sc5 hM1 (by with_reducible assumption)
            have hk7 : (((((wn6.setCell ⟨M, 0, none⟩ (.int .i64 m.t)).setCell ⟨M, 1, none⟩ (.int .i64 m.n)).setCell ⟨M, 2, none⟩ (.string m.s)).setCell ⟨M, 3, none⟩ (.bool m.b)).setCell ⟨M, 4, none⟩ (.int .i64 m.c)).cell? ⟨w.heap.size, 7, none⟩ = some (.int .i64 rl) := cell_sc5 hM1 (by with_reducible assumption)
            have hk8 : (((((wn6.setCell ⟨M, 0, none⟩ (.int .i64 m.t)).setCell ⟨M, 1, none⟩ (.int .i64 m.n)).setCell ⟨M, 2, none⟩ (.string m.s)).setCell ⟨M, 3, none⟩ (.bool m.b)).setCell ⟨M, 4, none⟩ (.int .i64 m.c)).cell? ⟨w.heap.size, 8, none⟩ = some (.int .i64 rb) := cell_sc5 hM1 (by with_reducible assumption)
            have hk9 : (((((wn6.setCell ⟨M, 0, none⟩ (.int .i64 m.t)).setCell ⟨M, 1, none⟩ (.int .i64 m.n)).setCell ⟨M, 2, none⟩ (.string m.s)).setCell ⟨M, 3, none⟩ (.bool m.b)).setCell ⟨M, 4, none⟩ (.int .i64 m.c)).cell? ⟨w.heap.size, 9, none⟩ = some (.int .i64 rr) := cell_sc5 hM1 (by with_reducible assumption)
            have hk10 : (((((wn6.setCell ⟨M, 0, none⟩ (.int .i64 m.t)).setCell ⟨M, 1, none⟩ (.int .i64 m.n)).setCell ⟨M, 2, none⟩ (.string m.s)).setCell ⟨M, 3, none⟩ (.bool m.b)).setCell ⟨M, 4, none⟩ (.int .i64 m.c)).cell? ⟨w.heap.size, 10, none⟩ = some (.slice (some ⟨ab, ao, none⟩) es.length cap) := cell_sc5 hM1 (by with_reducible assumption)
            have hl0 : (((((wn6.setCell ⟨M, 0, none⟩ (.int .i64 m.t)).setCell ⟨M, 1, none⟩ (.int .i64 m.n)).setCell ⟨M, 2, none⟩ (.string m.s)).setCell ⟨M, 3, none⟩ (.bool m.b)).setCell ⟨M, 4, none⟩ (.int .i64 m.c)).cell? ⟨E, 0, none⟩ = some (.int .i64 d.r) := cell_sc5 hM2 (by with_reducible assumption)
            have hl1 : (((((wn6.setCell ⟨M, 0, none⟩ (.int .i64 m.t)).setCell ⟨M, 1, none⟩ (.int .i64 m.n)).setCell ⟨M, 2, none⟩ (.string m.s)).setCell ⟨M, 3, none⟩ (.bool m.b)).setCell ⟨M, 4, none⟩ (.int .i64 m.c)).cell? ⟨E, 1, none⟩ = some (.int .i64 d.c) := cell_sc5 hM2 (by with_reducible assumption)
            have hl2 : (((((wn6.setCell ⟨M, 0, none⟩ (.int .i64 m.t)).setCell ⟨M, 1, none⟩ (.int .i64 m.n)).setCell ⟨M, 2, none⟩ (.string m.s)).setCell ⟨M, 3, none⟩ (.bool m.b)).setCell ⟨M, 4, none⟩ (.int .i64 m.c)).cell? ⟨E, 2, none⟩ = some (.int .i64 d.v.t) := cell_sc5 hM2 (by with_reducible assumption)
            have hl3 : (((((wn6.setCell ⟨M, 0, none⟩ (.int .i64 m.t)).setCell ⟨M, 1, none⟩ (.int .i64 m.n)).setCell ⟨M, 2, none⟩ (.string m.s)).setCell ⟨M, 3, none⟩ (.bool m.b)).setCell ⟨M, 4, none⟩ (.int .i64 m.c)).cell? ⟨E, 3, none⟩ = some (.int .i64 d.v.n) := cell_sc5 hM2 (by with_reducible assumption)
            have hl4 : (((((wn6.setCell ⟨M, 0, none⟩ (.int .i64 m.t)).setCell ⟨M, 1, none⟩ (.int .i64 m.n)).setCell ⟨M, 2, none⟩ (.string m.s)).setCell ⟨M, 3, none⟩ (.bool m.b)).setCell ⟨M, 4, none⟩ (.int .i64 m.c)).cell? ⟨E, 4, none⟩ = some (.string d.v.s) := cell_sc5 hM2 (by with_reducible assumption)
            have hl5 : (((((wn6.setCell ⟨M, 0, none⟩ (.int .i64 m.t)).setCell ⟨M, 1, none⟩ (.int .i64 m.n)).setCell ⟨M, 2, none⟩ (.string m.s)).setCell ⟨M, 3, none⟩ (.bool m.b)).setCell ⟨M, 4, none⟩ (.int .i64 m.c)).cell? ⟨E, 5, none⟩ = some (.bool d.v.b) := cell_sc5 hM2 (by with_reducible assumption)
            have hl6 : (((((wn6.setCell ⟨M, 0, none⟩ (.int .i64 m.t)).setCell ⟨M, 1, none⟩ (.int .i64 m.n)).setCell ⟨M, 2, none⟩ (.string m.s)).setCell ⟨M, 3, none⟩ (.bool m.b)).setCell ⟨M, 4, none⟩ (.int .i64 m.c)).cell? ⟨E, 6, none⟩ = some (.int .i64 d.v.c) := cell_sc5 hM2 (by with_reducible assumption)
            clear hM hBq hZq
            generalize (((((wn6.setCell ⟨M, 0, none⟩ (.int .i64 m.t)).setCell ⟨M, 1, none⟩ (.int .i64 m.n)).setCell ⟨M, 2, none⟩ (.string m.s)).setCell ⟨M, 3, none⟩ (.bool m.b)).setCell ⟨M, 4, none⟩ (.int .i64 m.c)) = wq at *
            refine hK.out _ _ ?_ (fun hHeld => ?_)
            · ((try dsimp only); refine ⟨?_, ?_, ?_, ?_, ?_, ?_, ?_, ?_, ?_, ?_, ?_, ?_, ?_, ?_, ?_, ?_, ?_, ?_, ?_, ?_⟩ <;> with_reducible assumption)
            clear hK K
            refine wpAnyH_done (by kernel_rfl) ?_ _
            refine NoPanic.normal ?_
            go_wp2
            go_meet
            case rel => exact ⟨M, rfl, hMl, hMf, hBf⟩
        · go_split_ands
          go_simp
          have hBq : Below w5.heap.size w5 wn1 := by with_reducible assumption
          have hZq : w5.heap.size ≤ wn1.heap.size := by with_reducible assumption
          have hM := blk_new wn1 #[.int .i64 0, .int .i64 0, .string ⟨#[]⟩, .bool false, .int .i64 0] 26
          have hb9 : Below wn1.heap.size wn1 (wn1.alloc (.cells #[.int .i64 0, .int .i64 0, .string ⟨#[]⟩, .bool false, .int .i64 0] 26)) := (Below.refl _ _).alloc (Nat.le_refl _) _
          have hMz : wn1.heap.size < (wn1.alloc (.cells #[.int .i64 0, .int .i64 0, .string ⟨#[]⟩, .bool false, .int .i64 0] 26)).heap.size := by simp
          refine hK.out _ _ ?_ (fun hHeld => ?_)
          · ((try dsimp only); refine ⟨?_, ?_, ?_, ?_, ?_, ?_, ?_, ?_, ?_, ?_, ?_, ?_, ?_, ?_, ?_, ?_, ?_, ?_, ?_, ?_⟩ <;> first | exact bx_cellp (by dsimp only; omega) (by with_reducible assumption) | exact Below.alloc (by with_reducible assumption) (by omega) _ | (simp; omega))
          clear hK K hb9
          try simp only [Act.put, List.setIfInBounds_toArray, List.set_cons_zero, List.set_cons_succ]
          generalize (wn1.alloc (.cells #[.int .i64 0, .int .i64 0, .string ⟨#[]⟩, .bool false, .int .i64 0] 26)) = wn7 at *
          obtain ⟨M, hMe⟩ : ∃ M, wn1.heap.size = M := ⟨_, rfl⟩
          rw [hMe] at hM hMz ⊢
          have hMl : w5.heap.size ≤ M := by omega
          clear hBq hZq hMe
          refine wpAnyH_ready (rs := [4]) (by kernel_rfl) (by simp) ?_
          refine AllReadyH.cons (o := ⟨_, _, _, _, _, _⟩) rfl (fun K hK => ?_) AllReadyH.nil
          go_split_ands
          go_simp
          have hBq : Below w5.heap.size w5 wn7 := by with_reducible assumption
          have hZq : w5.heap.size ≤ wn7.heap.size := by with_reducible assumption
          have hq9 : Below w5.heap.size w5 (wn7.alloc (.cells #[.bool false, .int .i64 d.v.t, .int .i64 d.v.n, .string d.v.s, .bool d.v.b, .int .i64 d.v.c, .int .i64 0, .int .i64 0, .int .i64 0, .int .i64 0, .slice none 0 0, .bool true, .int .i64 v.t, .int .i64 v.n, .string v.s, .bool v.b, .int .i64 v.c, .int .i64 rt, .int .i64 rl, .int .i64 rb, .int .i64 rr, .slice (some ⟨ab, ao, none⟩) es.length cap] 38)) := hBq.alloc hZq _
          have hAr : Hid (ArgsC (wn7.alloc (.cells #[.bool false, .int .i64 d.v.t, .int .i64 d.v.n, .string d.v.s, .bool d.v.b, .int .i64 d.v.c, .int .i64 0, .int .i64 0, .int .i64 0, .int .i64 0, .slice none 0 0, .bool true, .int .i64 v.t, .int .i64 v.n, .string v.s, .bool v.b, .int .i64 v.c, .int .i64 rt, .int .i64 rl, .int .i64 rb, .int .i64 rr, .slice (some ⟨ab, ao, none⟩) es.length cap] 38)) (.slice (some ⟨wn7.heap.size, 0, none⟩) 2 2) [sgl d.v, (⟨true, v, rt, rl, rb, rr, some ⟨ab, ao, none⟩, cap, es⟩ : AL)]) := Lib.hid (args_ofp [sgl d.v, (⟨true, v, rt, rl, rb, rr, some ⟨ab, ao, none⟩, cap, es⟩ : AL)] (by rfl) 2 rfl (fun y hy => by simp at hy; rcases hy with rfl | rfl; exact sgl_in hdok.out _ _; exact (hx5.out.below hq9).mono hq9.size) (Nat.le_refl _))
          have hM := blk_alloc hM (.cells #[.bool false, .int .i64 d.v.t, .int .i64 d.v.n, .string d.v.s, .bool d.v.b, .int .i64 d.v.c, .int .i64 0, .int .i64 0, .int .i64 0, .int .i64 0, .slice none 0 0, .bool true, .int .i64 v.t, .int .i64 v.n, .string v.s, .bool v.b, .int .i64 v.c, .int .i64 rt, .int .i64 rl, .int .i64 rb, .int .i64 rr, .slice (some ⟨ab, ao, none⟩) es.length cap] 38)
          refine hK.out _ _ ?_ (fun hHeld => ?_)
          · ((try dsimp only); refine ⟨?_, ?_, ?_, ?_, ?_, ?_, ?_, ?_, ?_, ?_, ?_, ?_, ?_, ?_, ?_, ?_, ?_, ?_, ?_, ?_⟩ <;> first | exact bx_cellp (by dsimp only; omega) (by with_reducible assumption) | exact Below.alloc (by with_reducible assumption) (by omega) _ | (simp; omega))
          clear hK K hBq hZq hq9
          try simp only [Act.put, List.setIfInBounds_toArray, List.set_cons_zero, List.set_cons_succ]
          generalize (wn7.alloc (.cells #[.bool false, .int .i64 d.v.t, .int .i64 d.v.n, .string d.v.s, .bool d.v.b, .int .i64 d.v.c, .int .i64 0, .int .i64 0, .int .i64 0, .int .i64 0, .slice none 0 0, .bool true, .int .i64 v.t, .int .i64 v.n, .string v.s, .bool v.b, .int .i64 v.c, .int .i64 rt, .int .i64 rl, .int .i64 rb, .int .i64 rr, .slice (some ⟨ab, ao, none⟩) es.length cap] 38)) = wn8 at *
          refine wpAnyH_ready (rs := [5]) (by kernel_rfl) (by simp) ?_
          refine AllReadyH.cons (o := ⟨_, _, _, _, _, _⟩) rfl (fun K hK => ?_) AllReadyH.nil
          go_split_ands
          go_simp
          have hBq : Below w5.heap.size w5 wn8 := by with_reducible assumption
          have hZq : w5.heap.size ≤ wn8.heap.size := by with_reducible assumption
          refine ((CM _ _ (Tab.below ht5.out hBq) hAr.out).out).mono ?_
          rintro e wn9 ⟨rfl, hb⟩
          have hM := blk_below hM hb (Array.getElem?_eq_some_iff.1 hM).1
          refine hK.out _ _ ?_ (fun hHeld => ?_)
          · ((try dsimp only); refine ⟨?_, ?_, ?_, ?_, ?_, ?_, ?_, ?_, ?_, ?_, ?_, ?_, ?_, ?_, ?_, ?_, ?_, ?_, ?_, ?_⟩ <;> first | (rw [hb.cell (by dsimp only; omega)]; with_reducible assumption) | exact Below.trans (by with_reducible assumption) (hb.mono (by omega)) | (have := hb.size; omega))
          clear hK K hb hBq hZq
          try simp only [Act.put, List.setIfInBounds_toArray, List.set_cons_zero, List.set_cons_succ]
          clear hAr
          refine wpAnyH_ready (rs := [7]) (by kernel_rfl) (by simp) ?_
          refine AllReadyH.cons (o := ⟨_, _, _, _, _, _⟩) rfl (fun K hK => ?_) AllReadyH.nil
          go_split_ands
          have hcl0 : wn9.cell? ⟨M, 0, none⟩ = some (.int .i64 0) := blk_cell hM 0
          have hcl1 : wn9.cell? ⟨M, 1, none⟩ = some (.int .i64 0) := blk_cell hM 1
          have hcl2 : wn9.cell? ⟨M, 2, none⟩ = some (.string ⟨#[]⟩) := blk_cell hM 2
          have hcl3 : wn9.cell? ⟨M, 3, none⟩ = some (.bool false) := blk_cell hM 3
          have hcl4 : wn9.cell? ⟨M, 4, none⟩ = some (.int .i64 0) := blk_cell hM 4
          have hfz0 : wn9.frozen? ⟨M, 0, none⟩ = false := blk_frozen hM 0
          have hfz1 : wn9.frozen? ⟨M, 1, none⟩ = false := blk_frozen hM 1
          have hfz2 : wn9.frozen? ⟨M, 2, none⟩ = false := blk_frozen hM 2
          have hfz3 : wn9.frozen? ⟨M, 3, none⟩ = false := blk_frozen hM 3
          have hfz4 : wn9.frozen? ⟨M, 4, none⟩ = false := blk_frozen hM 4
          go_simp
          have hBq : Below w5.heap.size w5 wn9 := by with_reducible assumption
          have hZq : w5.heap.size ≤ wn9.heap.size := by with_reducible assumption
          have hM1 : M ≠ w.heap.size := by omega
          have hM2 : M ≠ E := by omega
          clear hcl0 hfz0 hcl1 hfz1 hcl2 hfz2 hcl3 hfz3 hcl4 hfz4
          have hBf : Below w5.heap.size w5 (((((wn9.setCell ⟨M, 0, none⟩ (.int .i64 m.t)).setCell ⟨M, 1, none⟩ (.int .i64 m.n)).setCell ⟨M, 2, none⟩ (.string m.s)).setCell ⟨M, 3, none⟩ (.bool m.b)).setCell ⟨M, 4, none⟩ (.int .i64 m.c)) := below5 hBq hMl
          have hMf : (((((wn9.setCell ⟨M, 0, none⟩ (.int .i64 m.t)).setCell ⟨M, 1, none⟩ (.int .i64 m.n)).setCell ⟨M, 2, none⟩ (.string m.s)).setCell ⟨M, 3, none⟩ (.bool m.b)).setCell ⟨M, 4, none⟩ (.int .i64 m.c)).heap[M]? = some (.cells #[.int .i64 m.t, .int .i64 m.n, .string m.s, .bool m.b, .int .i64 m.c] 26 (0, 0)) := row5 hM
          have hZf : w5.heap.size ≤ (((((wn9.setCell ⟨M, 0, none⟩ (.int .i64 m.t)).setCell ⟨M, 1, none⟩ (.int .i64 m.n)).setCell ⟨M, 2, none⟩ (.string m.s)).setCell ⟨M, 3, none⟩ (.bool m.b)).setCell ⟨M, 4, none⟩ (.int .i64 m.c)).heap.size := size_sc5 hZq
          have hk0 : (((((wn9.setCell ⟨M, 0, none⟩ (.int .i64 m.t)).setCell ⟨M, 1, none⟩ (.int .i64 m.n)).setCell ⟨M, 2, none⟩ (.string m.s)).setCell ⟨M, 3, none⟩ (.bool m.b)).setCell ⟨M, 4, none⟩ (.int .i64 m.c)).cell? ⟨w.heap.size, 0, none⟩ = some (.bool true) := cell_sc5 hM1 (by with_reducible assumption)
          have hk1 : (((((wn9.setCell ⟨M, 0, none⟩ (.int .i64 m.t)).setCell ⟨M, 1, none⟩ (.int .i64 m.n)).setCell ⟨M, 2, none⟩ (.string m.s)).setCell ⟨M, 3, none⟩ (.bool m.b)).setCell ⟨M, 4, none⟩ (.int .i64 m.c)).cell? ⟨w.heap.size, 1, none⟩ = some (.int .i64 v.t) := cell_sc5 hM1 (by with_reducible assumption)
          have hk2 : (((((wn9.setCell ⟨M, 0, none⟩ (.int .i64 m.t)).setCell ⟨M, 1, none⟩ (.int .i64 m.n)).setCell ⟨M, 2, none⟩ (.string m.s)).setCell ⟨M, 3, none⟩ (.bool m.b)).setCell ⟨M, 4, none⟩ (.int .i64 m.c)).cell? ⟨w.heap.size, 2, none⟩ = some (.int .i64 v.n) := cell_sc5 hM1 (by with_reducible assumption)
          have hk3 : (((((wn9.setCell ⟨M, 0, none⟩ (.int .i64 m.t)).setCell ⟨M, 1, none⟩ (.int .i64 m.n)).setCell ⟨M, 2, none⟩ (.string m.s)).setCell ⟨M, 3, none⟩ (.bool m.b)).setCell ⟨M, 4, none⟩ (.int .i64 m.c)).cell? ⟨w.heap.size, 3, none⟩ = some (.string v.s) := cell_sc5 hM1 (by with_reducible assumption)
          have hk4 : (((((wn9.setCell ⟨M, 0, none⟩ (.int .i64 m.t)).setCell ⟨M, 1, none⟩ (.int .i64 m.n)).setCell ⟨M, 2, none⟩ (.string m.s)).setCell ⟨M, 3, none⟩ (.bool m.b)).setCell ⟨M, 4, none⟩ (.int .i64 m.c)).cell? ⟨w.heap.size, 4, none⟩ = some (.bool v.b) := cell_sc5 hM1 (by with_reducible assumption)
          have hk5 : (((((wn9.setCell ⟨M, 0, none⟩ (.int .i64 m.t)).setCell ⟨M, 1, none⟩ (.int .i64 m.n)).setCell ⟨M, 2, none⟩ (.string m.s)).setCell ⟨M, 3, none⟩ (.bool m.b)).setCell ⟨M, 4, none⟩ (.int .i64 m.c)).cell? ⟨w.heap.size, 5, none⟩ = some (.int .i64 v.c) := cell_sc5 hM1 (by with_reducible assumption)
          have hk6 : (((((wn9.setCell ⟨M, 0, none⟩ (.int .i64 m.t)).setCell ⟨M, 1, none⟩ (.int .i64 m.n)).setCell ⟨M, 2, none⟩ (.string m.s)).setCell ⟨M, 3, none⟩ (.bool m.b)).setCell ⟨M, 4, none⟩ (.int .i64 m.c)).cell? ⟨w.heap.size, 6, none⟩ = some (.int .i64 rt) := cell_sc5 hM1 (by with_reducible assumption)
          have hk7 : (((((wn9.setCell ⟨M, 0, none⟩ (.int .i64 m.t)).setCell ⟨M, 1, none⟩ (.int .i64 m.n)).setCell ⟨M, 2, none⟩ (.string m.s)).setCell ⟨M, 3, none⟩ (.bool m.b)).setCell ⟨M, 4, none⟩ (.int .i64 m.c)).cell? ⟨w.heap.size, 7, none⟩ = some (.int .i64 rl) := cell_sc5 hM1 (by with_reducible assumption)
          have hk8 : (((((wn9.setCell ⟨M, 0, none⟩ (.int .i64 m.t)).setCell ⟨M, 1, none⟩ (.int .i64 m.n)).setCell ⟨M, 2, none⟩ (.string m.s)).setCell ⟨M, 3, none⟩ (.bool m.b)).setCell ⟨M, 4, none⟩ (.int .i64 m.c)).cell? ⟨w.heap.size, 8, none⟩ = some (.int .i64 rb) := cell_sc5 hM1 (by with_reducible assumption)
          have hk9 : (((((wn9.setCell ⟨M, 0, none⟩ (.int .i64 m.t)).setCell ⟨M, 1, none⟩ (.int .i64 m.n)).setCell ⟨M, 2, none⟩ (.string m.s)).setCell ⟨M, 3, none⟩ (.bool m.b)).setCell ⟨M, 4, none⟩ (.int .i64 m.c)).cell? ⟨w.heap.size, 9, none⟩ = some (.int .i64 rr) := cell_sc5 hM1 (by with_reducible assumption)
          have hk10 : (((((wn9.setCell ⟨M, 0, none⟩ (.int .i64 m.t)).setCell ⟨M, 1, none⟩ (.int .i64 m.n)).setCell ⟨M, 2, none⟩ (.string m.s)).setCell ⟨M, 3, none⟩ (.bool m.b)).setCell ⟨M, 4, none⟩ (.int .i64 m.c)).cell? ⟨w.heap.size, 10, none⟩ = some (.slice (some ⟨ab, ao, none⟩) es.length cap) := cell_sc5 hM1 (by with_reducible assumption)
          have hl0 : (((((wn9.setCell ⟨M, 0, none⟩ (.int .i64 m.t)).setCell ⟨M, 1, none⟩ (.int .i64 m.n)).setCell ⟨M, 2, none⟩ (.string m.s)).setCell ⟨M, 3, none⟩ (.bool m.b)).setCell ⟨M, 4, none⟩ (.int .i64 m.c)).cell? ⟨E, 0, none⟩ = some (.int .i64 d.r) := cell_sc5 hM2 (by with_reducible assumption)
          have hl1 : (((((wn9.setCell ⟨M, 0, none⟩ (.int .i64 m.t)).setCell ⟨M, 1, none⟩ (.int .i64 m.n)).setCell ⟨M, 2, none⟩ (.string m.s)).setCell ⟨M, 3, none⟩ (.bool m.b)).setCell ⟨M, 4, none⟩ (.int .i64 m.c)).cell? ⟨E, 1, none⟩ = some (.int .i64 d.c) := cell_sc5 hM2 (by with_reducible assumption)
          have hl2 : (((((wn9.setCell ⟨M, 0, none⟩ (.int .i64 m.t)).setCell ⟨M, 1, none⟩ (.int .i64 m.n)).setCell ⟨M, 2, none⟩ (.string m.s)).setCell ⟨M, 3, none⟩ (.bool m.b)).setCell ⟨M, 4, none⟩ (.int .i64 m.c)).cell? ⟨E, 2, none⟩ = some (.int .i64 d.v.t) := cell_sc5 hM2 (by with_reducible assumption)
          have hl3 : (((((wn9.setCell ⟨M, 0, none⟩ (.int .i64 m.t)).setCell ⟨M, 1, none⟩ (.int .i64 m.n)).setCell ⟨M, 2, none⟩ (.string m.s)).setCell ⟨M, 3, none⟩ (.bool m.b)).setCell ⟨M, 4, none⟩ (.int .i64 m.c)).cell? ⟨E, 3, none⟩ = some (.int .i64 d.v.n) := cell_sc5 hM2 (by with_reducible assumption)
          have hl4 : (((((wn9.setCell ⟨M, 0, none⟩ (.int .i64 m.t)).setCell ⟨M, 1, none⟩ (.int .i64 m.n)).setCell ⟨M, 2, none⟩ (.string m.s)).setCell ⟨M, 3, none⟩ (.bool m.b)).setCell ⟨M, 4, none⟩ (.int .i64 m.c)).cell? ⟨E, 4, none⟩ = some (.string d.v.s) := cell_sc5 hM2 (by with_reducible assumption)
          have hl5 : (((((wn9.setCell ⟨M, 0, none⟩ (.int .i64 m.t)).setCell ⟨M, 1, none⟩ (.int .i64 m.n)).setCell ⟨M, 2, none⟩ (.string m.s)).setCell ⟨M, 3, none⟩ (.bool m.b)).setCell ⟨M, 4, none⟩ (.int .i64 m.c)).cell? ⟨E, 5, none⟩ = some (.bool d.v.b) := cell_sc5 hM2 (by with_reducible assumption)
          have hl6 : (((((wn9.setCell ⟨M, 0, none⟩ (.int .i64 m.t)).setCell ⟨M, 1, none⟩ (.int .i64 m.n)).setCell ⟨M, 2, none⟩ (.string m.s)).setCell ⟨M, 3, none⟩ (.bool m.b)).setCell ⟨M, 4, none⟩ (.int .i64 m.c)).cell? ⟨E, 6, none⟩ = some (.int .i64 d.v.c) := cell_sc5 hM2 (by with_reducible assumption)
          clear hM hBq hZq
          generalize (((((wn9.setCell ⟨M, 0, none⟩ (.int .i64 m.t)).setCell ⟨M, 1, none⟩ (.int .i64 m.n)).setCell ⟨M, 2, none⟩ (.string m.s)).setCell ⟨M, 3, none⟩ (.bool m.b)).setCell ⟨M, 4, none⟩ (.int .i64 m.c)) = wq at *
          refine hK.out _ _ ?_ (fun hHeld => ?_)
          · ((try dsimp only); refine ⟨?_, ?_, ?_, ?_, ?_, ?_, ?_, ?_, ?_, ?_, ?_, ?_, ?_, ?_, ?_, ?_, ?_, ?_, ?_, ?_⟩ <;> with_reducible assumption)
          clear hK K
          refine wpAnyH_done (by kernel_rfl) ?_ _
          refine NoPanic.normal ?_
          go_wp2
          go_meet
          case rel => exact ⟨M, rfl, hMl, hMf, hBf⟩
      · go_split_ands
        go_simp
        have hBq : Below w5.heap.size w5 wz5 := by with_reducible assumption
        have hZq : w5.heap.size ≤ wz5.heap.size := by with_reducible assumption
        have hM := blk_new wz5 #[.int .i64 0, .int .i64 0, .string ⟨#[]⟩, .bool false, .int .i64 0] 26
        have hb9 : Below wz5.heap.size wz5 (wz5.alloc (.cells #[.int .i64 0, .int .i64 0, .string ⟨#[]⟩, .bool false, .int .i64 0] 26)) := (Below.refl _ _).alloc (Nat.le_refl _) _
        have hMz : wz5.heap.size < (wz5.alloc (.cells #[.int .i64 0, .int .i64 0, .string ⟨#[]⟩, .bool false, .int .i64 0] 26)).heap.size := by simp
        refine hK.out _ _ ?_ (fun hHeld => ?_)
        · ((try dsimp only); refine ⟨?_, ?_, ?_, ?_, ?_, ?_, ?_, ?_, ?_, ?_, ?_, ?_, ?_, ?_, ?_, ?_, ?_, ?_, ?_, ?_⟩ <;> first | exact bx_cellp (by dsimp only; omega) (by with_reducible assumption) | exact Below.alloc (by with_reducible assumption) (by omega) _ | (simp; omega))
        clear hK K hb9
        try simp only [Act.put, List.setIfInBounds_toArray, List.set_cons_zero, List.set_cons_succ]
        generalize (wz5.alloc (.cells #[.int .i64 0, .int .i64 0, .string ⟨#[]⟩, .bool false, .int .i64 0] 26)) = wn10 at *
        obtain ⟨M, hMe⟩ : ∃ M, wz5.heap.size = M := ⟨_, rfl⟩
        rw [hMe] at hM hMz ⊢
        have hMl : w5.heap.size ≤ M := by omega
        clear hBq hZq hMe
        refine wpAnyH_ready (rs := [2]) (by kernel_rfl) (by simp) ?_
        refine AllReadyH.cons (o := ⟨_, _, _, _, _, _⟩) rfl (fun K hK => ?_) AllReadyH.nil
        go_split_ands
        go_simp
        have hBq : Below w5.heap.size w5 wn10 := by with_reducible assumption
        have hZq : w5.heap.size ≤ wn10.heap.size := by with_reducible assumption
        refine (lsingle_any _ _ _ _ _ _).mono ?_
        rintro e wn11 ⟨rfl, hb⟩
        have hM := blk_below hM hb (Array.getElem?_eq_some_iff.1 hM).1
        refine hK.out _ _ ?_ (fun hHeld => ?_)
        · ((try dsimp only); refine ⟨?_, ?_, ?_, ?_, ?_, ?_, ?_, ?_, ?_, ?_, ?_, ?_, ?_, ?_, ?_, ?_, ?_, ?_, ?_, ?_⟩ <;> first | (rw [hb.cell (by dsimp only; omega)]; with_reducible assumption) | exact Below.trans (by with_reducible assumption) (hb.mono (by omega)) | (have := hb.size; omega))
        clear hK K hb hBq hZq
        try simp only [Act.put, List.setIfInBounds_toArray, List.set_cons_zero, List.set_cons_succ]
        refine wpAnyH_ready (rs := [4]) (by kernel_rfl) (by simp) ?_
        refine AllReadyH.cons (o := ⟨_, _, _, _, _, _⟩) rfl (fun K hK => ?_) AllReadyH.nil
        go_split_ands
        go_simp
        have hBq : Below w5.heap.size w5 wn11 := by with_reducible assumption
        have hZq : w5.heap.size ≤ wn11.heap.size := by with_reducible assumption
        have hq9 : Below w5.heap.size w5 (wn11.alloc (.cells #[.bool false, .int .i64 d.v.t, .int .i64 d.v.n, .string d.v.s, .bool d.v.b, .int .i64 d.v.c, .int .i64 0, .int .i64 0, .int .i64 0, .int .i64 0, .slice none 0 0, .bool true, .int .i64 v.t, .int .i64 v.n, .string v.s, .bool v.b, .int .i64 v.c, .int .i64 rt, .int .i64 rl, .int .i64 rb, .int .i64 rr, .slice (some ⟨ab, ao, none⟩) es.length cap] 38)) := hBq.alloc hZq _
        have hAr : Hid (ArgsC (wn11.alloc (.cells #[.bool false, .int .i64 d.v.t, .int .i64 d.v.n, .string d.v.s, .bool d.v.b, .int .i64 d.v.c, .int .i64 0, .int .i64 0, .int .i64 0, .int .i64 0, .slice none 0 0, .bool true, .int .i64 v.t, .int .i64 v.n, .string v.s, .bool v.b, .int .i64 v.c, .int .i64 rt, .int .i64 rl, .int .i64 rb, .int .i64 rr, .slice (some ⟨ab, ao, none⟩) es.length cap] 38)) (.slice (some ⟨wn11.heap.size, 0, none⟩) 2 2) [sgl d.v, (⟨true, v, rt, rl, rb, rr, some ⟨ab, ao, none⟩, cap, es⟩ : AL)]) := Lib.hid (args_ofp [sgl d.v, (⟨true, v, rt, rl, rb, rr, some ⟨ab, ao, none⟩, cap, es⟩ : AL)] (by rfl) 2 rfl (fun y hy => by simp at hy; rcases hy with rfl | rfl; exact sgl_in hdok.out _ _; exact (hx5.out.below hq9).mono hq9.size) (Nat.le_refl _))
        have hM := blk_alloc hM (.cells #[.bool false, .int .i64 d.v.t, .int .i64 d.v.n, .string d.v.s, .bool d.v.b, .int .i64 d.v.c, .int .i64 0, .int .i64 0, .int .i64 0, .int .i64 0, .slice none 0 0, .bool true, .int .i64 v.t, .int .i64 v.n, .string v.s, .bool v.b, .int .i64 v.c, .int .i64 rt, .int .i64 rl, .int .i64 rb, .int .i64 rr, .slice (some ⟨ab, ao, none⟩) es.length cap] 38)
        refine hK.out _ _ ?_ (fun hHeld => ?_)
        · ((try dsimp only); refine ⟨?_, ?_, ?_, ?_, ?_, ?_, ?_, ?_, ?_, ?_, ?_, ?_, ?_, ?_, ?_, ?_, ?_, ?_, ?_, ?_⟩ <;> first | exact bx_cellp (by dsimp only; omega) (by with_reducible assumption) | exact Below.alloc (by with_reducible assumption) (by omega) _ | (simp; omega))
        clear hK K hBq hZq hq9
        try simp only [Act.put, List.setIfInBounds_toArray, List.set_cons_zero, List.set_cons_succ]
        generalize (wn11.alloc (.cells #[.bool false, .int .i64 d.v.t, .int .i64 d.v.n, .string d.v.s, .bool d.v.b, .int .i64 d.v.c, .int .i64 0, .int .i64 0, .int .i64 0, .int .i64 0, .slice none 0 0, .bool true, .int .i64 v.t, .int .i64 v.n, .string v.s, .bool v.b, .int .i64 v.c, .int .i64 rt, .int .i64 rl, .int .i64 rb, .int .i64 rr, .slice (some ⟨ab, ao, none⟩) es.length cap] 38)) = wn12 at *
        refine wpAnyH_ready (rs := [5]) (by kernel_rfl) (by simp) ?_
        refine AllReadyH.cons (o := ⟨_, _, _, _, _, _⟩) rfl (fun K hK => ?_) AllReadyH.nil
        go_split_ands
        go_simp
        have hBq : Below w5.heap.size w5 wn12 := by with_reducible assumption
        have hZq : w5.heap.size ≤ wn12.heap.size := by with_reducible assumption
        refine ((CM _ _ (Tab.below ht5.out hBq) hAr.out).out).mono ?_
        rintro e wn13 ⟨rfl, hb⟩
        have hM := blk_below hM hb (Array.getElem?_eq_some_iff.1 hM).1
        refine hK.out _ _ ?_ (fun hHeld => ?_)
        · ((try dsimp only); refine ⟨?_, ?_, ?_, ?_, ?_, ?_, ?_, ?_, ?_, ?_, ?_, ?_, ?_, ?_, ?_, ?_, ?_, ?_, ?_, ?_⟩ <;> first | (rw [hb.cell (by dsimp only; omega)]; with_reducible assumption) | exact Below.trans (by with_reducible assumption) (hb.mono (by omega)) | (have := hb.size; omega))
        clear hK K hb hBq hZq
        try simp only [Act.put, List.setIfInBounds_toArray, List.set_cons_zero, List.set_cons_succ]
        clear hAr
        refine wpAnyH_ready (rs := [7]) (by kernel_rfl) (by simp) ?_
        refine AllReadyH.cons (o := ⟨_, _, _, _, _, _⟩) rfl (fun K hK => ?_) AllReadyH.nil
        go_split_ands
        have hcl0 : wn13.cell? ⟨M, 0, none⟩ = some (.int .i64 0) := blk_cell hM 0
        have hcl1 : wn13.cell? ⟨M, 1, none⟩ = some (.int .i64 0) := blk_cell hM 1
        have hcl2 : wn13.cell? ⟨M, 2, none⟩ = some (.string ⟨#[]⟩) := blk_cell hM 2
        have hcl3 : wn13.cell? ⟨M, 3, none⟩ = some (.bool false) := blk_cell hM 3
        have hcl4 : wn13.cell? ⟨M, 4, none⟩ = some (.int .i64 0) := blk_cell hM 4
        have hfz0 : wn13.frozen? ⟨M, 0, none⟩ = false := blk_frozen hM 0
        have hfz1 : wn13.frozen? ⟨M, 1, none⟩ = false := blk_frozen hM 1
        have hfz2 : wn13.frozen? ⟨M, 2, none⟩ = false := blk_frozen hM 2
        have hfz3 : wn13.frozen? ⟨M, 3, none⟩ = false := blk_frozen hM 3
        have hfz4 : wn13.frozen? ⟨M, 4, none⟩ = false := blk_frozen hM 4
        go_simp
        have hBq : Below w5.heap.size w5 wn13 := by with_reducible assumption
        have hZq : w5.heap.size ≤ wn13.heap.size := by with_reducible assumption
        have hM1 : M ≠ w.heap.size := by omega
        have hM2 : M ≠ E := by omega
        clear hcl0 hfz0 hcl1 hfz1 hcl2 hfz2 hcl3 hfz3 hcl4 hfz4
        have hBf : Below w5.heap.size w5 (((((wn13.setCell ⟨M, 0, none⟩ (.int .i64 m.t)).setCell ⟨M, 1, none⟩ (.int .i64 m.n)).setCell ⟨M, 2, none⟩ (.string m.s)).setCell ⟨M, 3, none⟩ (.bool m.b)).setCell ⟨M, 4, none⟩ (.int .i64 m.c)) := below5 hBq hMl
        have hMf : (((((wn13.setCell ⟨M, 0, none⟩ (.int .i64 m.t)).setCell ⟨M, 1, none⟩ (.int .i64 m.n)).setCell ⟨M, 2, none⟩ (.string m.s)).setCell ⟨M, 3, none⟩ (.bool m.b)).setCell ⟨M, 4, none⟩ (.int .i64 m.c)).heap[M]? = some (.cells #[.int .i64 m.t, .int .i64 m.n, .string m.s, .bool m.b, .int .i64 m.c] 26 (0, 0)) := row5 hM
        have hZf : w5.heap.size ≤ (((((wn13.setCell ⟨M, 0, none⟩ (.int .i64 m.t)).setCell ⟨M, 1, none⟩ (.int .i64 m.n)).setCell ⟨M, 2, none⟩ (.string m.s)).setCell ⟨M, 3, none⟩ (.bool m.b)).setCell ⟨M, 4, none⟩ (.int .i64 m.c)).heap.size := size_sc5 hZq
        have hk0 : (((((wn13.setCell ⟨M, 0, none⟩ (.int .i64 m.t)).setCell ⟨M, 1, none⟩ (.int .i64 m.n)).setCell ⟨M, 2, none⟩ (.string m.s)).setCell ⟨M, 3, none⟩ (.bool m.b)).setCell ⟨M, 4, none⟩ (.int .i64 m.c)).cell? ⟨w.heap.size, 0, none⟩ = some (.bool true) := cell_sc5 hM1 (by with_reducible assumption)
        have hk1 : (((((wn13.setCell ⟨M, 0, none⟩ (.int .i64 m.t)).setCell ⟨M, 1, none⟩ (.int .i64 m.n)).setCell ⟨M, 2, none⟩ (.string m.s)).setCell ⟨M, 3, none⟩ (.bool m.b)).setCell ⟨M, 4, none⟩ (.int .i64 m.c)).cell? ⟨w.heap.size, 1, none⟩ = some (.int .i64 v.t) := cell_sc5 hM1 (by with_reducible assumption)
        have hk2 : (((((wn13.setCell ⟨M, 0, none⟩ (.int .i64 m.t)).setCell ⟨M, 1, none⟩ (.int .i64 m.n)).setCell ⟨M, 2, none⟩ (.string m.s)).setCell ⟨M, 3, none⟩ (.bool m.b)).setCell ⟨M, 4, none⟩ (.int .i64 m.c)).cell? ⟨w.heap.size, 2, none⟩ = some (.int .i64 v.n) := cell_sc5 hM1 (by with_reducible assumption)
        have hk3 : (((((wn13.setCell ⟨M, 0, none⟩ (.int .i64 m.t)).setCell ⟨M, 1, none⟩ (.int .i64 m.n)).setCell ⟨M, 2, none⟩ (.string m.s)).setCell ⟨M, 3, none⟩ (.bool m.b)).setCell ⟨M, 4, none⟩ (.int .i64 m.c)).cell? ⟨w.heap.size, 3, none⟩ = some (.string v.s) := cell_sc5 hM1 (by with_reducible assumption)
        have hk4 : (((((wn13.setCell ⟨M, 0, none⟩ (.int .i64 m.t)).setCell ⟨M, 1, none⟩ (.int .i64 m.n)).setCell ⟨M, 2, none⟩ (.string m.s)).setCell ⟨M, 3, none⟩ (.bool m.b)).setCell ⟨M, 4, none⟩ (.int .i64 m.c)).cell? ⟨w.heap.size, 4, none⟩ = some (.bool v.b) := cell_sc5 hM1 (by with_reducible assumption)
        have hk5 : (((((wn13.setCell ⟨M, 0, none⟩ (.int .i64 m.t)).setCell ⟨M, 1, none⟩ (.int .i64 m.n)).setCell ⟨M, 2, none⟩ (.string m.s)).setCell ⟨M, 3, none⟩ (.bool m.b)).setCell ⟨M, 4, none⟩ (.int .i64 m.c)).cell? ⟨w.heap.size, 5, none⟩ = some (.int .i64 v.c) := cell_sc5 hM1 (by with_reducible assumption)
        have hk6 : (((((wn13.setCell ⟨M, 0, none⟩ (.int .i64 m.t)).setCell ⟨M, 1, none⟩ (.int .i64 m.n)).setCell ⟨M, 2, none⟩ (.string m.s)).setCell ⟨M, 3, none⟩ (.bool m.b)).setCell ⟨M, 4, none⟩ (.int .i64 m.c)).cell? ⟨w.heap.size, 6, none⟩ = some (.int .i64 rt) := cell_sc5 hM1 (by with_reducible assumption)
        have hk7 : (((((wn13.setCell ⟨M, 0, none⟩ (.int .i64 m.t)).setCell ⟨M, 1, none⟩ (.int .i64 m.n)).setCell ⟨M, 2, none⟩ (.string m.s)).setCell ⟨M, 3, none⟩ (.bool m.b)).setCell ⟨M, 4, none⟩ (.int .i64 m.c)).cell? ⟨w.heap.size, 7, none⟩ = some (.int .i64 rl) := cell_sc5 hM1 (by with_reducible assumption)
        have hk8 : (((((wn13.setCell ⟨M, 0, none⟩ (.int .i64 m.t)).setCell ⟨M, 1, none⟩ (.int .i64 m.n)).setCell ⟨M, 2, none⟩ (.string m.s)).setCell ⟨M, 3, none⟩ (.bool m.b)).setCell ⟨M, 4, none⟩ (.int .i64 m.c)).cell? ⟨w.heap.size, 8, none⟩ = some (.int .i64 rb) := cell_sc5 hM1 (by with_reducible assumption)
        have hk9 : (((((wn13.setCell ⟨M, 0, none⟩ (.int .i64 m.t)).setCell ⟨M, 1, none⟩ (.int .i64 m.n)).setCell ⟨M, 2, none⟩ (.string m.s)).setCell ⟨M, 3, none⟩ (.bool m.b)).setCell ⟨M, 4, none⟩ (.int .i64 m.c)).cell? ⟨w.heap.size, 9, none⟩ = some (.int .i64 rr) := cell_sc5 hM1 (by with_reducible assumption)
        have hk10 : (((((wn13.setCell ⟨M, 0, none⟩ (.int .i64 m.t)).setCell ⟨M, 1, none⟩ (.int .i64 m.n)).setCell ⟨M, 2, none⟩ (.string m.s)).setCell ⟨M, 3, none⟩ (.bool m.b)).setCell ⟨M, 4, none⟩ (.int .i64 m.c)).cell? ⟨w.heap.size, 10, none⟩ = some (.slice (some ⟨ab, ao, none⟩) es.length cap) := cell_sc5 hM1 (by with_reducible assumption)
        have hl0 : (((((wn13.setCell ⟨M, 0, none⟩ (.int .i64 m.t)).setCell ⟨M, 1, none⟩ (.int .i64 m.n)).setCell ⟨M, 2, none⟩ (.string m.s)).setCell ⟨M, 3, none⟩ (.bool m.b)).setCell ⟨M, 4, none⟩ (.int .i64 m.c)).cell? ⟨E, 0, none⟩ = some (.int .i64 d.r) := cell_sc5 hM2 (by with_reducible assumption)
        have hl1 : (((((wn13.setCell ⟨M, 0, none⟩ (.int .i64 m.t)).setCell ⟨M, 1, none⟩ (.int .i64 m.n)).setCell ⟨M, 2, none⟩ (.string m.s)).setCell ⟨M, 3, none⟩ (.bool m.b)).setCell ⟨M, 4, none⟩ (.int .i64 m.c)).cell? ⟨E, 1, none⟩ = some (.int .i64 d.c) := cell_sc5 hM2 (by with_reducible assumption)
        have hl2 : (((((wn13.setCell ⟨M, 0, none⟩ (.int .i64 m.t)).setCell ⟨M, 1, none⟩ (.int .i64 m.n)).setCell ⟨M, 2, none⟩ (.string m.s)).setCell ⟨M, 3, none⟩ (.bool m.b)).setCell ⟨M, 4, none⟩ (.int .i64 m.c)).cell? ⟨E, 2, none⟩ = some (.int .i64 d.v.t) := cell_sc5 hM2 (by with_reducible assumption)
        have hl3 : (((((wn13.setCell ⟨M, 0, none⟩ (.int .i64 m.t)).setCell ⟨M, 1, none⟩ (.int .i64 m.n)).setCell ⟨M, 2, none⟩ (.string m.s)).setCell ⟨M, 3, none⟩ (.bool m.b)).setCell ⟨M, 4, none⟩ (.int .i64 m.c)).cell? ⟨E, 3, none⟩ = some (.int .i64 d.v.n) := cell_sc5 hM2 (by with_reducible assumption)
        have hl4 : (((((wn13.setCell ⟨M, 0, none⟩ (.int .i64 m.t)).setCell ⟨M, 1, none⟩ (.int .i64 m.n)).setCell ⟨M, 2, none⟩ (.string m.s)).setCell ⟨M, 3, none⟩ (.bool m.b)).setCell ⟨M, 4, none⟩ (.int .i64 m.c)).cell? ⟨E, 4, none⟩ = some (.string d.v.s) := cell_sc5 hM2 (by with_reducible assumption)
        have hl5 : (((((wn13.setCell ⟨M, 0, none⟩ (.int .i64 m.t)).setCell ⟨M, 1, none⟩ (.int .i64 m.n)).setCell ⟨M, 2, none⟩ (.string m.s)).setCell ⟨M, 3, none⟩ (.bool m.b)).setCell ⟨M, 4, none⟩ (.int .i64 m.c)).cell? ⟨E, 5, none⟩ = some (.bool d.v.b) := cell_sc5 hM2 (by with_reducible assumption)
        have hl6 : (((((wn13.setCell ⟨M, 0, none⟩ (.int .i64 m.t)).setCell ⟨M, 1, none⟩ (.int .i64 m.n)).setCell ⟨M, 2, none⟩ (.string m.s)).setCell ⟨M, 3, none⟩ (.bool m.b)).setCell ⟨M, 4, none⟩ (.int .i64 m.c)).cell? ⟨E, 6, none⟩ = some (.int .i64 d.v.c) := cell_sc5 hM2 (by with_reducible assumption)
        clear hM hBq hZq
        generalize (((((wn13.setCell ⟨M, 0, none⟩ (.int .i64 m.t)).setCell ⟨M, 1, none⟩ (.int .i64 m.n)).setCell ⟨M, 2, none⟩ (.string m.s)).setCell ⟨M, 3, none⟩ (.bool m.b)).setCell ⟨M, 4, none⟩ (.int .i64 m.c)) = wq at *
        refine hK.out _ _ ?_ (fun hHeld => ?_)
        · ((try dsimp only); refine ⟨?_, ?_, ?_, ?_, ?_, ?_, ?_, ?_, ?_, ?_, ?_, ?_, ?_, ?_, ?_, ?_, ?_, ?_, ?_, ?_⟩ <;> with_reducible assumption)
        clear hK K
        refine wpAnyH_done (by kernel_rfl) ?_ _
        refine NoPanic.normal ?_
        go_wp2
        go_meet
        case rel => exact ⟨M, rfl, hMl, hMf, hBf⟩
    case rest =>
      obtain ⟨M, rfl, hMl, hMf, hbc⟩ := hcut
      obtain ⟨w6, rfl⟩ : ∃ w6, w6 = wc := ⟨_, rfl⟩
      clear CM
      have hMz := (Array.getElem?_eq_some_iff.1 hMf).1
      have x0 : w6.cell? ⟨w.heap.size, 0, none⟩ = some (.bool true) := (hbc.cell (p := ⟨w.heap.size, 0, none⟩) l5).trans (by with_reducible assumption)
      have x1 : w6.cell? ⟨w.heap.size, 1, none⟩ = some (.int .i64 v.t) := (hbc.cell (p := ⟨w.heap.size, 1, none⟩) l5).trans (by with_reducible assumption)
      have x2 : w6.cell? ⟨w.heap.size, 2, none⟩ = some (.int .i64 v.n) := (hbc.cell (p := ⟨w.heap.size, 2, none⟩) l5).trans (by with_reducible assumption)
      have x3 : w6.cell? ⟨w.heap.size, 3, none⟩ = some (.string v.s) := (hbc.cell (p := ⟨w.heap.size, 3, none⟩) l5).trans (by with_reducible assumption)
      have x4 : w6.cell? ⟨w.heap.size, 4, none⟩ = some (.bool v.b) := (hbc.cell (p := ⟨w.heap.size, 4, none⟩) l5).trans (by with_reducible assumption)
      have x5 : w6.cell? ⟨w.heap.size, 5, none⟩ = some (.int .i64 v.c) := (hbc.cell (p := ⟨w.heap.size, 5, none⟩) l5).trans (by with_reducible assumption)
      have x6 : w6.cell? ⟨w.heap.size, 6, none⟩ = some (.int .i64 rt) := (hbc.cell (p := ⟨w.heap.size, 6, none⟩) l5).trans (by with_reducible assumption)
      have x7 : w6.cell? ⟨w.heap.size, 7, none⟩ = some (.int .i64 rl) := (hbc.cell (p := ⟨w.heap.size, 7, none⟩) l5).trans (by with_reducible assumption)
      have x8 : w6.cell? ⟨w.heap.size, 8, none⟩ = some (.int .i64 rb) := (hbc.cell (p := ⟨w.heap.size, 8, none⟩) l5).trans (by with_reducible assumption)
      have x9 : w6.cell? ⟨w.heap.size, 9, none⟩ = some (.int .i64 rr) := (hbc.cell (p := ⟨w.heap.size, 9, none⟩) l5).trans (by with_reducible assumption)
      have x10 : w6.cell? ⟨w.heap.size, 10, none⟩ = some (.slice (some ⟨ab, ao, none⟩) es.length cap) := (hbc.cell (p := ⟨w.heap.size, 10, none⟩) l5).trans (by with_reducible assumption)
      have y0 : w6.cell? ⟨E, 0, none⟩ = some (.int .i64 d.r) := (hbc.cell (p := ⟨E, 0, none⟩) E5).trans (by with_reducible assumption)
      have y1 : w6.cell? ⟨E, 1, none⟩ = some (.int .i64 d.c) := (hbc.cell (p := ⟨E, 1, none⟩) E5).trans (by with_reducible assumption)
      have y2 : w6.cell? ⟨E, 2, none⟩ = some (.int .i64 d.v.t) := (hbc.cell (p := ⟨E, 2, none⟩) E5).trans (by with_reducible assumption)
      have y3 : w6.cell? ⟨E, 3, none⟩ = some (.int .i64 d.v.n) := (hbc.cell (p := ⟨E, 3, none⟩) E5).trans (by with_reducible assumption)
      have y4 : w6.cell? ⟨E, 4, none⟩ = some (.string d.v.s) := (hbc.cell (p := ⟨E, 4, none⟩) E5).trans (by with_reducible assumption)
      have y5 : w6.cell? ⟨E, 5, none⟩ = some (.bool d.v.b) := (hbc.cell (p := ⟨E, 5, none⟩) E5).trans (by with_reducible assumption)
      have y6 : w6.cell? ⟨E, 6, none⟩ = some (.int .i64 d.v.c) := (hbc.cell (p := ⟨E, 6, none⟩) E5).trans (by with_reducible assumption)
      have k0 : w6.cell? ⟨M, 0, none⟩ = some (.int .i64 m.t) := blk_cell hMf 0
      have k1 : w6.cell? ⟨M, 1, none⟩ = some (.int .i64 m.n) := blk_cell hMf 1
      have k2 : w6.cell? ⟨M, 2, none⟩ = some (.string m.s) := blk_cell hMf 2
      have k3 : w6.cell? ⟨M, 3, none⟩ = some (.bool m.b) := blk_cell hMf 3
      have k4 : w6.cell? ⟨M, 4, none⟩ = some (.int .i64 m.c) := blk_cell hMf 4
      have q6 := q5.trans (hbc.mono q5.size)
      have hx6 := Lib.hid ((hx5.out.below hbc).mono hbc.size)
      have ht6 := Lib.hid (Tab.below ht5.out hbc)
      have z6 : w5.heap.size ≤ w6.heap.size := hbc.size
      have l6 : w.heap.size < w6.heap.size := by omega
      have E6 : E < w6.heap.size := by omega
      clear hbc q5 hx5 ht5 l5 E5 z6 hMf
      rcases hcase.out with ⟨h4, hmv⟩ | ⟨h4, n1, n2, hmv⟩ | ⟨h4, hli, i, hF, hmv, hi1, hi2, hi3⟩
      · have hb4 : decide (d.v.t = 4) = true := by simpa using h4
        have hb4' : (d.v.t == 4) = true := by simpa using h4
        clear h4 hcase
        subst hmv
        have hve := vEq_self_a d.v.t d.v.n d.v.s d.v.b d.v.c
        go_wp2
        go_ret
        exact ⟨rfl, q6⟩
      · have hb4 : decide (d.v.t = 4) = false := by simpa using h4
        have hb4' : (d.v.t == 4) = false := by simpa using h4
        clear h4 hcase
        have hv8 : vEq m.t m.n m.s m.b m.c 4 0 ⟨#[]⟩ false 8 = true := by rw [hmv]; rfl
        clear hmv
        have hrtrb : ¬ rt = rb := n1
        have hrlrr : ¬ rl = rr := n2
        clear n1 n2
        have hrtrb1 : decide (rt = rb) = false := by simpa using hrtrb
        have hrtrb2 : (rt == rb) = false := by simpa using hrtrb
        have hrtrb3 : (rt != rb) = true := by simpa using hrtrb
        have hrtrb4 : decide (rt ≠ rb) = true := by simpa using hrtrb
        clear hrtrb
        have hrlrr1 : decide (rl = rr) = false := by simpa using hrlrr
        have hrlrr2 : (rl == rr) = false := by simpa using hrlrr
        have hrlrr3 : (rl != rr) = true := by simpa using hrlrr
        have hrlrr4 : decide (rl ≠ rr) = true := by simpa using hrlrr
        clear hrlrr
        go_wp2
        go_ret
        exact ⟨rfl, q6⟩
      · have h4' := Lib.hid h4
        have hb4 : decide (d.v.t = 4) = false := by simpa using h4
        have hb4' : (d.v.t == 4) = false := by simpa using h4
        clear h4 hcase
        subst hmv
        dsimp only at k0 k1 k2 k3 k4
        have hF' := Lib.hid hF
        have hi2' := Lib.hid hi2
        have hi3' := Lib.hid hi3
        have hli' := Lib.hid hli
        clear hF hi2 hi3 hli
        go_upto_region 17 with (fail)
        go_cut [106] from 91 to 106 (fun c wc => c = .bool false ∧ wc = w6)
        case first =>
          by_cases hrtrb : rt = rb
          · have hrtrb1 : decide (rt = rb) = true := by simpa using hrtrb
            have hrtrb2 : (rt == rb) = true := by simpa using hrtrb
            have hrtrb3 : (rt != rb) = false := by simpa using hrtrb
            have hrtrb4 : decide (rt ≠ rb) = false := by simpa using hrtrb
            clear hrtrb
            go_wp2
            go_meet
            case rel => exact ⟨rfl, rfl⟩
          · have hrlrr : rl = rr := by rcases hli'.out with h | h; exact absurd h hrtrb; exact h
            have hrtrb1 : decide (rt = rb) = false := by simpa using hrtrb
            have hrtrb2 : (rt == rb) = false := by simpa using hrtrb
            have hrtrb3 : (rt != rb) = true := by simpa using hrtrb
            have hrtrb4 : decide (rt ≠ rb) = true := by simpa using hrtrb
            clear hrtrb
            have hrlrr1 : decide (rl = rr) = true := by simpa using hrlrr
            have hrlrr2 : (rl == rr) = true := by simpa using hrlrr
            have hrlrr3 : (rl != rr) = false := by simpa using hrlrr
            have hrlrr4 : decide (rl ≠ rr) = false := by simpa using hrlrr
            clear hrlrr
            go_wp2
            go_meet
            case rel => exact ⟨rfl, rfl⟩
        case rest =>
          obtain ⟨rfl, hwc⟩ := hcut
          subst hwc
          have ew7 : IntKind.i64.wrap ((d.r - rt + 1) + (d.c - rl + 1)) = (d.r - rt + 1) + (d.c - rl + 1) := IntWalk.i64_in _ (by omega)
          have ew8 : IntKind.i64.wrap ((d.r - rt + 1) + (d.c - rl + 1) - 1) = (d.r - rt + 1) + (d.c - rl + 1) - 1 := IntWalk.i64_in _ (by omega)
          have ew9 : IntKind.i64.wrap (((d.r - rt + 1) + (d.c - rl + 1) - 1) * 10000) = (((d.r - rt + 1) + (d.c - rl + 1) - 1) * 10000) := IntWalk.i64_in _ (by omega)
          go_upto_region 20 with (fail)
          have hgt : ¬ (((d.r - rt + 1) + (d.c - rl + 1) - 1) * 10000) < (((i : Int) + 1) * 10000) := by omega
          have hgtb : decide ((((d.r - rt + 1) + (d.c - rl + 1) - 1) * 10000) < (((i : Int) + 1) * 10000)) = false := by simp; omega
          have hgt2 : (i : Int) + 1 ≤ (d.r - rt + 1) + (d.c - rl + 1) - 1 := by omega
          have hgt3 : ¬ (d.r - rt + 1) + (d.c - rl + 1) - 1 < (i : Int) + 1 := by omega
          have hlt : ¬ (((i : Int) + 1) * 10000) < 10000 := by omega
          have hltb : decide ((((i : Int) + 1) * 10000) < 10000) = false := by simp; omega
          have hn1 : Hid (rowsL (⟨true, v, rt, rl, rb, rr, some ⟨ab, ao, none⟩, cap, es⟩ : AL) = 1 ∨ colsL (⟨true, v, rt, rl, rb, rr, some ⟨ab, ao, none⟩, cap, es⟩ : AL) = 1) := Lib.hid (by rcases hli'.out with h | h; (left; unfold rowsL; dsimp only; omega); (right; unfold colsL; dsimp only; omega))
          have hve := vEq_self_a d.v.t d.v.n d.v.s d.v.b d.v.c
          refine wp_region_noPanic ?_
          refine wp_region_held_drew (S := fun w' => w'.cell? ⟨w.heap.size, 0, none⟩ = some (.bool true) ∧ w'.cell? ⟨w.heap.size, 1, none⟩ = some (.int .i64 v.t) ∧ w'.cell? ⟨w.heap.size, 2, none⟩ = some (.int .i64 v.n) ∧ w'.cell? ⟨w.heap.size, 3, none⟩ = some (.string v.s) ∧ w'.cell? ⟨w.heap.size, 4, none⟩ = some (.bool v.b) ∧ w'.cell? ⟨w.heap.size, 5, none⟩ = some (.int .i64 v.c) ∧ w'.cell? ⟨w.heap.size, 6, none⟩ = some (.int .i64 rt) ∧ w'.cell? ⟨w.heap.size, 7, none⟩ = some (.int .i64 rl) ∧ w'.cell? ⟨w.heap.size, 8, none⟩ = some (.int .i64 rb) ∧ w'.cell? ⟨w.heap.size, 9, none⟩ = some (.int .i64 rr) ∧ w'.cell? ⟨w.heap.size, 10, none⟩ = some (.slice (some ⟨ab, ao, none⟩) es.length cap) ∧ w'.cell? ⟨E, 0, none⟩ = some (.int .i64 d.r) ∧ w'.cell? ⟨E, 1, none⟩ = some (.int .i64 d.c) ∧ w'.cell? ⟨E, 2, none⟩ = some (.int .i64 d.v.t) ∧ w'.cell? ⟨E, 3, none⟩ = some (.int .i64 d.v.n) ∧ w'.cell? ⟨E, 4, none⟩ = some (.string d.v.s) ∧ w'.cell? ⟨E, 5, none⟩ = some (.bool d.v.b) ∧ w'.cell? ⟨E, 6, none⟩ = some (.int .i64 d.v.c) ∧ w'.cell? ⟨M, 0, none⟩ = some (.int .i64 1) ∧ w'.cell? ⟨M, 1, none⟩ = some (.int .i64 (((i : Int) + 1) * 10000)) ∧ w'.cell? ⟨M, 2, none⟩ = some (.string ⟨#[]⟩) ∧ w'.cell? ⟨M, 3, none⟩ = some (.bool false) ∧ w'.cell? ⟨M, 4, none⟩ = some (.int .i64 0) ∧ Below wc.heap.size wc w' ∧ wc.heap.size ≤ w'.heap.size) (by kernel_rfl) (by (try dsimp only); refine ⟨?_, ?_, ?_, ?_, ?_, ?_, ?_, ?_, ?_, ?_, ?_, ?_, ?_, ?_, ?_, ?_, ?_, ?_, ?_, ?_, ?_, ?_, ?_, ?_, ?_⟩ <;> first | assumption | exact Below.drew (Below.refl _ _) | exact Nat.le_refl _) (fun hHeld => ?_)
          generalize wc.drew = wz7 at *
          refine wpAnyH_take (i := 0) (oi := ⟨_, _, _, _, _, _⟩) (v := ?v14) rfl (by kernel_rfl) (by kernel_rfl) (by kernel_rfl) (fun _ _ _ h => h) (Or.inl ⟨by rfl, ?hy14⟩) hHeld ?rest14
          case hy14 => (intro w2 hSw; (try dsimp only at hSw); go_split_ands; go_simp; first | done | with_reducible rfl)
          try simp only [Act.put, List.setIfInBounds_toArray, List.set_cons_zero, List.set_cons_succ]
          refine wpAnyH_take (i := 1) (oi := ⟨_, _, _, _, _, _⟩) (v := ?v15) rfl (by kernel_rfl) (by kernel_rfl) (by kernel_rfl) (fun _ _ _ h => h) (Or.inl ⟨by rfl, ?hy15⟩) hHeld ?rest15
          case hy15 => (intro w2 hSw; (try dsimp only at hSw); go_split_ands; go_simp; first | done | with_reducible rfl)
          try simp only [Act.put, List.setIfInBounds_toArray, List.set_cons_zero, List.set_cons_succ]
          refine wpAnyH_take (i := 2) (oi := ⟨_, _, _, _, _, _⟩) (v := (.bool false)) rfl (by kernel_rfl) (by kernel_rfl) (by kernel_rfl) (fun _ _ _ h => h) (Or.inl ⟨by rfl, ?_⟩) hHeld ?_
          · (intro w2 hSw; (try dsimp only at hSw); go_split_ands; go_simp)
          try simp only [Act.put, List.setIfInBounds_toArray, List.set_cons_zero, List.set_cons_succ]
          refine wpAnyH_take (i := 3) (oi := ⟨_, _, _, _, _, _⟩) (v := (.bool false)) rfl (by kernel_rfl) (by kernel_rfl) (by kernel_rfl) (fun _ _ _ h => h) (Or.inl ⟨by rfl, ?_⟩) hHeld ?_
          · (intro w2 hSw; (try dsimp only at hSw); go_split_ands; go_simp)
          try simp only [Act.put, List.setIfInBounds_toArray, List.set_cons_zero, List.set_cons_succ]
          refine wpAnyH_take (i := 4) (oi := ⟨_, _, _, _, _, _⟩) (v := ?v16) rfl (by kernel_rfl) (by kernel_rfl) (by kernel_rfl) (fun _ _ _ h => h) (Or.inl ⟨by rfl, ?hy16⟩) hHeld ?rest16
          case hy16 => (intro w2 hSw; (try dsimp only at hSw); go_split_ands; go_simp; first | done | with_reducible rfl)
          try simp only [Act.put, List.setIfInBounds_toArray, List.set_cons_zero, List.set_cons_succ]
          refine wpAnyH_take (i := 5) (oi := ⟨_, _, _, _, _, _⟩) (v := ?v17) rfl (by kernel_rfl) (by kernel_rfl) (by kernel_rfl) (fun _ _ _ h => h) (Or.inl ⟨by rfl, ?hy17⟩) hHeld ?rest17
          case hy17 => (intro w2 hSw; (try dsimp only at hSw); go_split_ands; go_simp; first | done | with_reducible rfl)
          try simp only [Act.put, List.setIfInBounds_toArray, List.set_cons_zero, List.set_cons_succ]
          refine wpAnyH_take (i := 6) (oi := ⟨_, _, _, _, _, _⟩) (v := ?v18) rfl (by kernel_rfl) (by kernel_rfl) (by kernel_rfl) (fun _ _ _ h => h) (Or.inl ⟨by rfl, ?hy18⟩) hHeld ?rest18
          case hy18 => (intro w2 hSw; (try dsimp only at hSw); go_split_ands; go_simp; first | done | with_reducible rfl)
          try simp only [Act.put, List.setIfInBounds_toArray, List.set_cons_zero, List.set_cons_succ]
          refine wpAnyH_take (i := 7) (oi := ⟨_, _, _, _, _, _⟩) (v := (.bool false)) rfl (by kernel_rfl) (by kernel_rfl) (by kernel_rfl) (fun _ _ _ h => h) (Or.inl ⟨by rfl, ?_⟩) hHeld ?_
          · (intro w2 hSw; (try dsimp only at hSw); go_split_ands; go_simp)
          try simp only [Act.put, List.setIfInBounds_toArray, List.set_cons_zero, List.set_cons_succ]
          refine wpAnyH_take (i := 8) (oi := ⟨_, _, _, _, _, _⟩) (v := (.bool false)) rfl (by kernel_rfl) (by kernel_rfl) (by kernel_rfl) (fun _ _ _ h => h) (Or.inl ⟨by rfl, ?_⟩) hHeld ?_
          · (intro w2 hSw; (try dsimp only at hSw); go_split_ands; go_simp)
          try simp only [Act.put, List.setIfInBounds_toArray, List.set_cons_zero, List.set_cons_succ]
          refine wpAnyH_take (i := 9) (oi := ⟨_, _, _, _, _, _⟩) (v := (.bool false)) rfl (by kernel_rfl) (by kernel_rfl) (by kernel_rfl) (fun _ _ _ h => h) (Or.inl ⟨by rfl, ?_⟩) hHeld ?_
          · (intro w2 hSw; (try dsimp only at hSw); go_split_ands; go_simp)
          try simp only [Act.put, List.setIfInBounds_toArray, List.set_cons_zero, List.set_cons_succ]
          refine wpAnyH_take (i := 10) (oi := ⟨_, _, _, _, _, _⟩) (v := ?v19) rfl (by kernel_rfl) (by kernel_rfl) (by kernel_rfl) (fun _ _ _ h => h) (Or.inl ⟨by rfl, ?hy19⟩) hHeld ?rest19
          case hy19 => (intro w2 hSw; (try dsimp only at hSw); go_split_ands; go_simp; first | done | with_reducible rfl)
          try simp only [Act.put, List.setIfInBounds_toArray, List.set_cons_zero, List.set_cons_succ]
          refine wpAnyH_take (i := 11) (oi := ⟨_, _, _, _, _, _⟩) (v := ?v20) rfl (by kernel_rfl) (by kernel_rfl) (by kernel_rfl) (fun _ _ _ h => h) (Or.inl ⟨by rfl, ?hy20⟩) hHeld ?rest20
          case hy20 => (intro w2 hSw; (try dsimp only at hSw); go_split_ands; go_simp; first | done | with_reducible rfl)
          try simp only [Act.put, List.setIfInBounds_toArray, List.set_cons_zero, List.set_cons_succ]
          refine wpAnyH_take (i := 12) (oi := ⟨_, _, _, _, _, _⟩) (v := (.bool false)) rfl (by kernel_rfl) (by kernel_rfl) (by kernel_rfl) (fun _ _ _ h => h) (Or.inl ⟨by rfl, ?_⟩) hHeld ?_
          · (intro w2 hSw; (try dsimp only at hSw); go_split_ands; go_simp)
          try simp only [Act.put, List.setIfInBounds_toArray, List.set_cons_zero, List.set_cons_succ]
          refine wpAnyH_take (i := 13) (oi := ⟨_, _, _, _, _, _⟩) (v := (.bool false)) rfl (by kernel_rfl) (by kernel_rfl) (by kernel_rfl) (fun _ _ _ h => h) (Or.inl ⟨by rfl, ?_⟩) hHeld ?_
          · (intro w2 hSw; (try dsimp only at hSw); go_split_ands; go_simp)
          try simp only [Act.put, List.setIfInBounds_toArray, List.set_cons_zero, List.set_cons_succ]
          refine wpAnyH_take (i := 14) (oi := ⟨_, _, _, _, _, _⟩) (v := (.bool false)) rfl (by kernel_rfl) (by kernel_rfl) (by kernel_rfl) (fun _ _ _ h => h) (Or.inl ⟨by rfl, ?_⟩) hHeld ?_
          · (intro w2 hSw; (try dsimp only at hSw); go_split_ands; go_simp)
          try simp only [Act.put, List.setIfInBounds_toArray, List.set_cons_zero, List.set_cons_succ]
          refine wpAnyH_take (i := 15) (oi := ⟨_, _, _, _, _, _⟩) (v := ?v21) rfl (by kernel_rfl) (by kernel_rfl) (by kernel_rfl) (fun _ _ _ h => h) (Or.inl ⟨by rfl, ?hy21⟩) hHeld ?rest21
          case hy21 => (intro w2 hSw; (try dsimp only at hSw); go_split_ands; go_simp; first | done | with_reducible rfl)
          try simp only [Act.put, List.setIfInBounds_toArray, List.set_cons_zero, List.set_cons_succ]
          refine wpAnyH_take (i := 16) (oi := ⟨_, _, _, _, _, _⟩) (v := ?v22) rfl (by kernel_rfl) (by kernel_rfl) (by kernel_rfl) (fun _ _ _ h => h) (Or.inl ⟨by rfl, ?hy22⟩) hHeld ?rest22
          case hy22 => (intro w2 hSw; (try dsimp only at hSw); go_split_ands; go_simp; first | done | with_reducible rfl)
          try simp only [Act.put, List.setIfInBounds_toArray, List.set_cons_zero, List.set_cons_succ]
          refine wpAnyH_take (i := 18) (oi := ⟨_, _, _, _, _, _⟩) (v := ?v23) rfl (by kernel_rfl) (by kernel_rfl) (by kernel_rfl) (fun _ _ _ h => h) (Or.inl ⟨by rfl, ?hy23⟩) hHeld ?rest23
          case hy23 => (intro w2 hSw; (try dsimp only at hSw); go_split_ands; go_simp; first | done | with_reducible rfl)
          try simp only [Act.put, List.setIfInBounds_toArray, List.set_cons_zero, List.set_cons_succ]
          refine wpAnyH_take (i := 19) (oi := ⟨_, _, _, _, _, _⟩) (v := ?v24) rfl (by kernel_rfl) (by kernel_rfl) (by kernel_rfl) (fun _ _ _ h => h) (Or.inl ⟨by rfl, ?hy24⟩) hHeld ?rest24
          case hy24 => (intro w2 hSw; (try dsimp only at hSw); go_split_ands; go_simp; first | done | with_reducible rfl)
          try simp only [Act.put, List.setIfInBounds_toArray, List.set_cons_zero, List.set_cons_succ]
          refine wpAnyH_take (i := 22) (oi := ⟨_, _, _, _, _, _⟩) (v := ?v25) rfl (by kernel_rfl) (by kernel_rfl) (by kernel_rfl) (fun _ _ _ h => h) (Or.inl ⟨by rfl, ?hy25⟩) hHeld ?rest25
          case hy25 => (intro w2 hSw; (try dsimp only at hSw); go_split_ands; go_simp; first | done | with_reducible rfl)
          try simp only [Act.put, List.setIfInBounds_toArray, List.set_cons_zero, List.set_cons_succ]
          refine wpAnyH_take (i := 23) (oi := ⟨_, _, _, _, _, _⟩) (v := ?v26) rfl (by kernel_rfl) (by kernel_rfl) (by kernel_rfl) (fun _ _ _ h => h) (Or.inl ⟨by rfl, ?hy26⟩) hHeld ?rest26
          case hy26 => (intro w2 hSw; (try dsimp only at hSw); go_split_ands; go_simp; first | done | with_reducible rfl)
          try simp only [Act.put, List.setIfInBounds_toArray, List.set_cons_zero, List.set_cons_succ]
          refine wpAnyH_ready (rs := [17]) (by kernel_rfl) (by simp) ?_
          refine AllReadyH.cons (o := ⟨_, _, _, _, _, _⟩) rfl (fun K hK => ?_) AllReadyH.nil
          go_split_ands
          go_simp
          refine (lsingle_any _ _ _ _ _ _).mono ?_
          rintro e w1 ⟨rfl, hb⟩
          refine hK.out _ _ ?_ (fun hHeld => ?_)
          · ((try dsimp only); refine ⟨?_, ?_, ?_, ?_, ?_, ?_, ?_, ?_, ?_, ?_, ?_, ?_, ?_, ?_, ?_, ?_, ?_, ?_, ?_, ?_, ?_, ?_, ?_, ?_, ?_⟩ <;> first | (rw [hb.cell (by dsimp only; omega)]; with_reducible assumption) | exact Below.trans (by with_reducible assumption) (hb.mono (by omega)) | (have := hb.size; omega))
          clear hK K hb
          try simp only [Act.put, List.setIfInBounds_toArray, List.set_cons_zero, List.set_cons_succ]
          refine wpAnyH_ready (rs := [20]) (by kernel_rfl) (by simp) ?_
          refine AllReadyH.cons (o := ⟨_, _, _, _, _, _⟩) rfl (fun K hK => ?_) AllReadyH.nil
          go_split_ands
          go_simp
          have hBq : Below wc.heap.size wc w1 := by with_reducible assumption
          have hZq : wc.heap.size ≤ w1.heap.size := by with_reducible assumption
          have b7 : Below wc.heap.size wc (w1.alloc (.cells #[.bool false, .int .i64 d.v.t, .int .i64 d.v.n, .string d.v.s, .bool d.v.b, .int .i64 d.v.c, .int .i64 0, .int .i64 0, .int .i64 0, .int .i64 0, .slice none 0 0, .bool true, .int .i64 v.t, .int .i64 v.n, .string v.s, .bool v.b, .int .i64 v.c, .int .i64 rt, .int .i64 rl, .int .i64 rb, .int .i64 rr, .slice (some ⟨ab, ao, none⟩) es.length cap, .bool true, .int .i64 v.t, .int .i64 v.n, .string v.s, .bool v.b, .int .i64 v.c, .int .i64 rt, .int .i64 rl, .int .i64 rb, .int .i64 rr, .slice (some ⟨ab, ao, none⟩) es.length cap] 38)) := hBq.alloc hZq _
          have hA7 : Hid (ArgsC (w1.alloc (.cells #[.bool false, .int .i64 d.v.t, .int .i64 d.v.n, .string d.v.s, .bool d.v.b, .int .i64 d.v.c, .int .i64 0, .int .i64 0, .int .i64 0, .int .i64 0, .slice none 0 0, .bool true, .int .i64 v.t, .int .i64 v.n, .string v.s, .bool v.b, .int .i64 v.c, .int .i64 rt, .int .i64 rl, .int .i64 rb, .int .i64 rr, .slice (some ⟨ab, ao, none⟩) es.length cap, .bool true, .int .i64 v.t, .int .i64 v.n, .string v.s, .bool v.b, .int .i64 v.c, .int .i64 rt, .int .i64 rl, .int .i64 rb, .int .i64 rr, .slice (some ⟨ab, ao, none⟩) es.length cap] 38)) (.slice (some ⟨w1.heap.size, 0, none⟩) 3 3) [sgl d.v, (⟨true, v, rt, rl, rb, rr, some ⟨ab, ao, none⟩, cap, es⟩ : AL), (⟨true, v, rt, rl, rb, rr, some ⟨ab, ao, none⟩, cap, es⟩ : AL)]) := Lib.hid (args_ofp [sgl d.v, (⟨true, v, rt, rl, rb, rr, some ⟨ab, ao, none⟩, cap, es⟩ : AL), (⟨true, v, rt, rl, rb, rr, some ⟨ab, ao, none⟩, cap, es⟩ : AL)] (by rfl) 3 rfl (fun y hy => by simp at hy; rcases hy with rfl | rfl; exact sgl_in hdok.out _ _; exact (hx6.out.below b7).mono b7.size) (Nat.le_refl _))
          have hT7 := Lib.hid (Tab.below ht6.out b7)
          refine hK.out _ _ ?_ (fun hHeld => ?_)
          · ((try dsimp only); refine ⟨?_, ?_, ?_, ?_, ?_, ?_, ?_, ?_, ?_, ?_, ?_, ?_, ?_, ?_, ?_, ?_, ?_, ?_, ?_, ?_, ?_, ?_, ?_, ?_, ?_⟩ <;> first | exact bx_cellp (by dsimp only; omega) (by with_reducible assumption) | exact Below.alloc (by with_reducible assumption) (by omega) _ | (simp; omega))
          clear hK K hBq hZq b7
          try simp only [Act.put, List.setIfInBounds_toArray, List.set_cons_zero, List.set_cons_succ]
          generalize (w1.alloc (.cells #[.bool false, .int .i64 d.v.t, .int .i64 d.v.n, .string d.v.s, .bool d.v.b, .int .i64 d.v.c, .int .i64 0, .int .i64 0, .int .i64 0, .int .i64 0, .slice none 0 0, .bool true, .int .i64 v.t, .int .i64 v.n, .string v.s, .bool v.b, .int .i64 v.c, .int .i64 rt, .int .i64 rl, .int .i64 rb, .int .i64 rr, .slice (some ⟨ab, ao, none⟩) es.length cap, .bool true, .int .i64 v.t, .int .i64 v.n, .string v.s, .bool v.b, .int .i64 v.c, .int .i64 rt, .int .i64 rl, .int .i64 rb, .int .i64 rr, .slice (some ⟨ab, ao, none⟩) es.length cap] 38)) = w8 at *
          refine wpAnyH_ready (rs := [21]) (by kernel_rfl) (by simp) ?_
          refine AllReadyH.cons (o := ⟨_, _, _, _, _, _⟩) rfl (fun K hK => ?_) AllReadyH.nil
          go_split_ands
          go_simp
          refine (kp_LOOKUP (x := (⟨true, v, rt, rl, rb, rr, some ⟨ab, ao, none⟩, cap, es⟩ : AL)) rfl hy'.out hu.out h4'.out rfl hn1.out hF'.out hT7.out hA7.out).mono ?_
          rintro e w9 ⟨rfl, hb⟩
          refine hK.out _ _ ?_ (fun hHeld => ?_)
          · ((try dsimp only); refine ⟨?_, ?_, ?_, ?_, ?_, ?_, ?_, ?_, ?_, ?_, ?_, ?_, ?_, ?_, ?_, ?_, ?_, ?_, ?_, ?_, ?_, ?_, ?_, ?_, ?_⟩ <;> first | (rw [hb.cell (by dsimp only; omega)]; with_reducible assumption) | exact Below.trans (by with_reducible assumption) (hb.mono (by omega)) | (have := hb.size; omega))
          clear hK K hb hA7 hT7
          try simp only [Act.put, List.setIfInBounds_toArray, List.set_cons_zero, List.set_cons_succ]
          refine wpAnyH_take (i := 24) (oi := ⟨_, _, _, _, _, _⟩) (v := (.bool false)) rfl (by kernel_rfl) (by kernel_rfl) (by kernel_rfl) (fun _ _ _ h => h) (Or.inl ⟨by rfl, ?_⟩) hHeld ?_
          · (intro w2 hSw; (try dsimp only at hSw); go_split_ands; go_simp)
          try simp only [Act.put, List.setIfInBounds_toArray, List.set_cons_zero, List.set_cons_succ]
          refine wpAnyH_take (i := 25) (oi := ⟨_, _, _, _, _, _⟩) (v := (.bool false)) rfl (by kernel_rfl) (by kernel_rfl) (by kernel_rfl) (fun _ _ _ h => h) (Or.inl ⟨by rfl, ?_⟩) hHeld ?_
          · (intro w2 hSw; (try dsimp only at hSw); go_split_ands; go_simp)
          try simp only [Act.put, List.setIfInBounds_toArray, List.set_cons_zero, List.set_cons_succ]
          refine wpAnyH_done (by kernel_rfl) ?_ _
          refine NoPanic.normal ?_
          go_split_ands
          have b9 : Below wc.heap.size wc w9 := by with_reducible assumption
          have x9_0 : w9.cell? ⟨w.heap.size, 0, none⟩ = some (.bool true) := by with_reducible assumption
          have x9_1 : w9.cell? ⟨w.heap.size, 1, none⟩ = some (.int .i64 v.t) := by with_reducible assumption
          have x9_2 : w9.cell? ⟨w.heap.size, 2, none⟩ = some (.int .i64 v.n) := by with_reducible assumption
          have x9_3 : w9.cell? ⟨w.heap.size, 3, none⟩ = some (.string v.s) := by with_reducible assumption
          have x9_4 : w9.cell? ⟨w.heap.size, 4, none⟩ = some (.bool v.b) := by with_reducible assumption
          have x9_5 : w9.cell? ⟨w.heap.size, 5, none⟩ = some (.int .i64 v.c) := by with_reducible assumption
          have x9_6 : w9.cell? ⟨w.heap.size, 6, none⟩ = some (.int .i64 rt) := by with_reducible assumption
          have x9_7 : w9.cell? ⟨w.heap.size, 7, none⟩ = some (.int .i64 rl) := by with_reducible assumption
          have x9_8 : w9.cell? ⟨w.heap.size, 8, none⟩ = some (.int .i64 rb) := by with_reducible assumption
          have x9_9 : w9.cell? ⟨w.heap.size, 9, none⟩ = some (.int .i64 rr) := by with_reducible assumption
          have x9_10 : w9.cell? ⟨w.heap.size, 10, none⟩ = some (.slice (some ⟨ab, ao, none⟩) es.length cap) := by with_reducible assumption
          have e9_0 : w9.cell? ⟨E, 0, none⟩ = some (.int .i64 d.r) := by with_reducible assumption
          have e9_1 : w9.cell? ⟨E, 1, none⟩ = some (.int .i64 d.c) := by with_reducible assumption
          have e9_2 : w9.cell? ⟨E, 2, none⟩ = some (.int .i64 d.v.t) := by with_reducible assumption
          have e9_3 : w9.cell? ⟨E, 3, none⟩ = some (.int .i64 d.v.n) := by with_reducible assumption
          have e9_4 : w9.cell? ⟨E, 4, none⟩ = some (.string d.v.s) := by with_reducible assumption
          have e9_5 : w9.cell? ⟨E, 5, none⟩ = some (.bool d.v.b) := by with_reducible assumption
          have e9_6 : w9.cell? ⟨E, 6, none⟩ = some (.int .i64 d.v.c) := by with_reducible assumption
          have m9_0 : w9.cell? ⟨M, 0, none⟩ = some (.int .i64 1) := by with_reducible assumption
          have m9_1 : w9.cell? ⟨M, 1, none⟩ = some (.int .i64 (((i : Int) + 1) * 10000)) := by with_reducible assumption
          have m9_2 : w9.cell? ⟨M, 2, none⟩ = some (.string ⟨#[]⟩) := by with_reducible assumption
          have m9_3 : w9.cell? ⟨M, 3, none⟩ = some (.bool false) := by with_reducible assumption
          have m9_4 : w9.cell? ⟨M, 4, none⟩ = some (.int .i64 0) := by with_reducible assumption
          have q9 := q6.trans (b9.mono q6.size)
          have hx9 := Lib.hid ((hx6.out.below b9).mono b9.size)
          have z9 : wc.heap.size ≤ w9.heap.size := b9.size
          have l9 : w.heap.size < w9.heap.size := by omega
          have E9 : E < w9.heap.size := by omega
          have M9 : M < w9.heap.size := by omega
          have hb9 := Lib.hid b9
          clear b9 q6 hx6
          go_wp2
          go_loopw [12] (fun a wr => ∃ j : Nat, j ≤ K ∧ a = .int .i64 (j : Int) ∧ Hid (∀ (f : Nat) (c : EL), f < j → es[f]? = some c → c.v ≠ d.v) ∧ Below w9.heap.size w9 wr) (fun a _ => K - (intOf a).toNat)
          case atStart => exact ⟨0, Nat.zero_le _, rfl, Lib.hid (fun f c hf => absurd hf (Nat.not_lt_zero _)), Below.refl _ _⟩
          case round =>
            obtain ⟨j, hj, rfl, hno, hbr⟩ := hrel
            have xr_0 : wr.cell? ⟨w.heap.size, 0, none⟩ = some (.bool true) := (hbr.cell (p := ⟨w.heap.size, 0, none⟩) l9).trans x9_0
            have xr_1 : wr.cell? ⟨w.heap.size, 1, none⟩ = some (.int .i64 v.t) := (hbr.cell (p := ⟨w.heap.size, 1, none⟩) l9).trans x9_1
            have xr_2 : wr.cell? ⟨w.heap.size, 2, none⟩ = some (.int .i64 v.n) := (hbr.cell (p := ⟨w.heap.size, 2, none⟩) l9).trans x9_2
            have xr_3 : wr.cell? ⟨w.heap.size, 3, none⟩ = some (.string v.s) := (hbr.cell (p := ⟨w.heap.size, 3, none⟩) l9).trans x9_3
            have xr_4 : wr.cell? ⟨w.heap.size, 4, none⟩ = some (.bool v.b) := (hbr.cell (p := ⟨w.heap.size, 4, none⟩) l9).trans x9_4
            have xr_5 : wr.cell? ⟨w.heap.size, 5, none⟩ = some (.int .i64 v.c) := (hbr.cell (p := ⟨w.heap.size, 5, none⟩) l9).trans x9_5
            have xr_6 : wr.cell? ⟨w.heap.size, 6, none⟩ = some (.int .i64 rt) := (hbr.cell (p := ⟨w.heap.size, 6, none⟩) l9).trans x9_6
            have xr_7 : wr.cell? ⟨w.heap.size, 7, none⟩ = some (.int .i64 rl) := (hbr.cell (p := ⟨w.heap.size, 7, none⟩) l9).trans x9_7
            have xr_8 : wr.cell? ⟨w.heap.size, 8, none⟩ = some (.int .i64 rb) := (hbr.cell (p := ⟨w.heap.size, 8, none⟩) l9).trans x9_8
            have xr_9 : wr.cell? ⟨w.heap.size, 9, none⟩ = some (.int .i64 rr) := (hbr.cell (p := ⟨w.heap.size, 9, none⟩) l9).trans x9_9
            have xr_10 : wr.cell? ⟨w.heap.size, 10, none⟩ = some (.slice (some ⟨ab, ao, none⟩) es.length cap) := (hbr.cell (p := ⟨w.heap.size, 10, none⟩) l9).trans x9_10
            have er_0 : wr.cell? ⟨E, 0, none⟩ = some (.int .i64 d.r) := (hbr.cell (p := ⟨E, 0, none⟩) E9).trans e9_0
            have er_1 : wr.cell? ⟨E, 1, none⟩ = some (.int .i64 d.c) := (hbr.cell (p := ⟨E, 1, none⟩) E9).trans e9_1
            have er_2 : wr.cell? ⟨E, 2, none⟩ = some (.int .i64 d.v.t) := (hbr.cell (p := ⟨E, 2, none⟩) E9).trans e9_2
            have er_3 : wr.cell? ⟨E, 3, none⟩ = some (.int .i64 d.v.n) := (hbr.cell (p := ⟨E, 3, none⟩) E9).trans e9_3
            have er_4 : wr.cell? ⟨E, 4, none⟩ = some (.string d.v.s) := (hbr.cell (p := ⟨E, 4, none⟩) E9).trans e9_4
            have er_5 : wr.cell? ⟨E, 5, none⟩ = some (.bool d.v.b) := (hbr.cell (p := ⟨E, 5, none⟩) E9).trans e9_5
            have er_6 : wr.cell? ⟨E, 6, none⟩ = some (.int .i64 d.v.c) := (hbr.cell (p := ⟨E, 6, none⟩) E9).trans e9_6
            have mr_0 : wr.cell? ⟨M, 0, none⟩ = some (.int .i64 1) := (hbr.cell (p := ⟨M, 0, none⟩) M9).trans m9_0
            have mr_1 : wr.cell? ⟨M, 1, none⟩ = some (.int .i64 (((i : Int) + 1) * 10000)) := (hbr.cell (p := ⟨M, 1, none⟩) M9).trans m9_1
            have mr_2 : wr.cell? ⟨M, 2, none⟩ = some (.string ⟨#[]⟩) := (hbr.cell (p := ⟨M, 2, none⟩) M9).trans m9_2
            have mr_3 : wr.cell? ⟨M, 3, none⟩ = some (.bool false) := (hbr.cell (p := ⟨M, 3, none⟩) M9).trans m9_3
            have mr_4 : wr.cell? ⟨M, 4, none⟩ = some (.int .i64 0) := (hbr.cell (p := ⟨M, 4, none⟩) M9).trans m9_4
            have qr := q9.trans (hbr.mono q9.size)
            have hxr := Lib.hid ((hx9.out.below hbr).mono hbr.size)
            have hbr' := Lib.hid hbr
            clear hbr q9
            by_cases hjl : j < K
            · obtain ⟨c, hc⟩ : ∃ c, es[j]? = some c := ⟨_, List.getElem?_eq_getElem (by omega)⟩
              obtain ⟨ab2, ao2, hA3, hab2, hcell⟩ := hxr.out.2.1 j c.cs (by rw [List.getElem?_map, hc]; rfl)
              cases hA3
              have cj0 : wr.cell? ⟨ab, ao + j * 7, none⟩ = some (.int .i64 c.r) := hcell 0 _ rfl
              have cj1 : wr.cell? ⟨ab, ao + j * 7 + 1, none⟩ = some (.int .i64 c.c) := hcell 1 _ rfl
              have cj2 : wr.cell? ⟨ab, ao + j * 7 + 2, none⟩ = some (.int .i64 c.v.t) := hcell 2 _ rfl
              have cj3 : wr.cell? ⟨ab, ao + j * 7 + 3, none⟩ = some (.int .i64 c.v.n) := hcell 3 _ rfl
              have cj4 : wr.cell? ⟨ab, ao + j * 7 + 4, none⟩ = some (.string c.v.s) := hcell 4 _ rfl
              have cj5 : wr.cell? ⟨ab, ao + j * 7 + 5, none⟩ = some (.bool c.v.b) := hcell 5 _ rfl
              have cj6 : wr.cell? ⟨ab, ao + j * 7 + 6, none⟩ = some (.int .i64 c.v.c) := hcell 6 _ rfl
              have hji : (j : Int) < (K : Int) := by omega
              have hjn : (j : Int) < (es.length : Int) := by omega
              obtain ⟨z, hz⟩ : ∃ z, c.v.eqv d.v = z := ⟨_, rfl⟩
              have hz' := Lib.hid hz
              unfold VL.eqv at hz
              have hc' := Lib.hid hc
              clear hc hcell
              go_upto_region 25 with (fail)
              go_quiet (fail)
              cases z
              · go_wp2
                exact ⟨⟨j + 1, by omega, by go_num, Lib.hid (fun f c2 hf h9 => by rcases Nat.lt_succ_iff_lt_or_eq.1 hf with h | rfl; exact hno.out f c2 h h9; rw [hc'.out] at h9; cases h9; intro e9; have := (eqv_iff _ _).2 e9; rw [hz'.out] at this; cases this), by first | exact hbr'.out | exact below_drewN hbr'.out _ | exact Below.drew hbr'.out⟩, by simp [intOf]; omega⟩
              · have hlast := hi2'.out j c hjl hc'.out ((eqv_iff _ _).1 hz'.out)
                have hlb : decide ((((i : Int) + 1) * 10000) < (((d.r - rt + 1) + (d.c - rl + 1) - 1) * 10000)) = true := by simp; omega
                have hlb2 : (((i : Int) + 1) * 10000) < (((d.r - rt + 1) + (d.c - rl + 1) - 1) * 10000) := by omega
                have hlb3 : (i : Int) + 1 < (d.r - rt + 1) + (d.c - rl + 1) - 1 := by omega
                have hlb4 : decide ((i : Int) + 1 < (d.r - rt + 1) + (d.c - rl + 1) - 1) = true := by simp; omega
                clear hlast
                go_wp2
                go_ret
                exact ⟨rfl, by first | exact qr | exact below_drewN qr _⟩
            · obtain rfl : j = K := by omega
              have hjj : ¬ (j : Int) < (j : Int) := by omega
              by_cases h0 : d.v.t = 0
              · have h01 : decide (d.v.t = 0) = true := by simpa using h0
                have h02 : (d.v.t == 0) = true := by simpa using h0
                clear h0
                go_wp2
                go_ret
                exact ⟨rfl, qr⟩
              · have hq := hi3'.out hno.out h0
                have h01 : decide (d.v.t = 0) = false := by simpa using h0
                have h02 : (d.v.t == 0) = false := by simpa using h0
                have h03 : ((((i : Int) + 1) * 10000) == (((d.r - rt + 1) + (d.c - rl + 1) - 1) * 10000)) = true := by simp; omega
                have h04 : decide ((((i : Int) + 1) * 10000) = (((d.r - rt + 1) + (d.c - rl + 1) - 1) * 10000)) = true := by simp; omega
                clear h0 hq
                go_wp2
                go_ret
                exact ⟨rfl, qr⟩
end Go.Proofs.YtaomlgpakbjegaaGreatDoor
