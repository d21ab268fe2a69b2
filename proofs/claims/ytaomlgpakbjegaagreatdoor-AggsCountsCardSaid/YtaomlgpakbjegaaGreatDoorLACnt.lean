/-
  the walk of the law AggsCounts.
-/
import Derived.Test.YtaomlgpakbjegaaGreatDoorRows
import Derived.Test.YtaomlgpakbjegaaGreatDoorBase
import Derived.Test.YtaomlgpakbjegaaGreatDoorRowB
import Derived.Test.YtaomlgpakbjegaaGreatDoorDecA
import Derived.Test.YtaomlgpakbjegaaGreatDoorValA
import Derived.Test.YtaomlgpakbjegaaGreatDoorValB
import Derived.Test.YtaomlgpakbjegaaGreatDoorMg8
import Derived.Test.YtaomlgpakbjegaaGreatDoorValC
import Derived.Test.YtaomlgpakbjegaaGreatDoorAddrC
import Derived.Test.YtaomlgpakbjegaaGreatDoorAddrI
import Derived.Test.YtaomlgpakbjegaaGreatDoorMapK
import Derived.Test.YtaomlgpakbjegaaGreatDoorMg13
import Derived.Test.YtaomlgpakbjegaaGreatDoorAArg
import Derived.Test.YtaomlgpakbjegaaGreatDoorProg
import Derived.Test.YtaomlgpakbjegaaGreatDoorShelfB
import Derived.Test.YtaomlgpakbjegaaGreatDoorDFlo
import Derived.Test.YtaomlgpakbjegaaGreatDoorShelf
import Derived.Test.YtaomlgpakbjegaaGreatDoorFmtU
import Derived.Test.YtaomlgpakbjegaaGreatDoorPrintL
import Derived.Test.YtaomlgpakbjegaaGreatDoorDPrint
import Derived.Test.YtaomlgpakbjegaaGreatDoorRPr
import Derived.Test.YtaomlgpakbjegaaGreatDoorNDoA
import Derived.Test.YtaomlgpakbjegaaGreatDoorValD
import Derived.Test.YtaomlgpakbjegaaGreatDoorMg22
import Derived.Test.YtaomlgpakbjegaaGreatDoorValJ
import Derived.Test.YtaomlgpakbjegaaGreatDoorValL
import Derived.Test.YtaomlgpakbjegaaGreatDoorNCallK
import Derived.Test.YtaomlgpakbjegaaGreatDoorAItm
import Derived.Test.YtaomlgpakbjegaaGreatDoorAAmo
import Derived.Test.YtaomlgpakbjegaaGreatDoorASum
import Derived.Test.YtaomlgpakbjegaaGreatDoorAFind
import Derived.Test.YtaomlgpakbjegaaGreatDoorACall
import Derived.Test.YtaomlgpakbjegaaGreatDoorACallB
import Derived.Test.YtaomlgpakbjegaaGreatDoorANum
import Derived.Test.YtaomlgpakbjegaaGreatDoorAInt
import Derived.Test.YtaomlgpakbjegaaGreatDoorALar
import Derived.Test.YtaomlgpakbjegaaGreatDoorACol
import Derived.Test.YtaomlgpakbjegaaGreatDoorAAt
import Derived.Test.YtaomlgpakbjegaaGreatDoorACnt
import Derived.Test.YtaomlgpakbjegaaGreatDoorACif
import Derived.Test.YtaomlgpakbjegaaGreatDoorAClo
import Derived.Test.YtaomlgpakbjegaaGreatDoorAKn
import Derived.Test.YtaomlgpakbjegaaGreatDoorAAtB
import Derived.Test.YtaomlgpakbjegaaGreatDoorRArgM
import Derived.Test.YtaomlgpakbjegaaGreatDoorR8D
import Derived.WalkSpells
import Derived.WalkLawsBesides
import Derived.StillTactics
import Derived.Laws.Pointers
import Derived.Deep.RegionHeld3
import Derived.Deep.QuietTactic
import Derived.BigQuiet
import Derived.RowKit3
import Derived.Lib.Hide
import Derived.Lib.OthersKept
import Derived.OwnWalk
import Derived.Lib.IndexLaws
import Derived.Lib.ItoaMem
import Derived.WalkKit
import Derived.ProofKit
import Derived.OpenShut
import Derived.Carry
import Derived.ChangeSame
import Derived.Deep.Draws
import Derived.Maps.OwnSet
import Derived.Maps.AppendAt
import Derived.Shelf.SlGeneric
import Derived.Shelf.SortM.Plain
import Derived.Shelf.SortM.SortNone
import Derived.Ground.SlgmProg
import Derived.Laws.EntriesVeiled
import Derived.Laws.BitsAllLaws
import Derived.Shelf.Strings.Builder1
import Derived.Shelf.Strings.Builder2
import Derived.Shelf.Strings.OnBuilder
import Derived.Shelf.Strings.Trim
import Derived.Shelf.Small.Utf8
import Derived.Shelf.Small.Bits
import Derived.Shelf.Small.Strs
import Derived.Shelf.Small.Wraps
import Derived.Shelf.Strings.BuilderF
import Derived.Shelf.Strings.BuilderK
import Derived.Shelf.Strconv.Itoa0
import Derived.Shelf.Strconv.Itoa1
import Derived.Shelf.LaysM
import Derived.Shelf.Strconv.Itoa2
import Derived.Ground.MpProg
import Derived.Shelf.Pu.ParseUintPublic10
import Derived.Shelf.Strings.Search1
import Derived.Shelf.Strings.Search2
import Derived.Shelf.Strings.Search3
import Derived.Shelf.Strings.Cut
import Derived.Shelf.Strings.Shaped
import Derived.Shelf.Strings.Prefix
import Derived.Shelf.Strings.Runes
import Derived.Shelf.Strings.AsciiSet
import Derived.Shelf.Bits.Mul64
import Derived.Shelf.Strings.Repeat
import Derived.Shelf.Unicode.DecodeSlow
import Derived.Lib.TrimByte
import Derived.Lib.Bytealg
import Derived.Lib.SlTrimSet
import Derived.Lib.ParseIntB
import Derived.Shelf.Strings.SlTrimAscii
import Derived.Lib.SmallJoins
import Derived.Deep.RegionWith
import Derived.Laws.Externs
import Derived.IntWalk
import Derived.Sort.OwnSorted
import Derived.Sort.OwnSortedInts
import Derived.Deep.AppendLies
import Derived.Deep.RegionLaw
namespace Go.Proofs.YtaomlgpakbjegaaGreatDoor
open Go.RowKit

set_option maxRecDepth 100000 in
set_option maxHeartbeats 2000000 in
theorem wcnt_no (x : AL) (w : World) (ht : Tab w) (hin : x.In w w.heap.size) (hm : x.many = false) : Calls Tryz.prog 13 #[.agg #[.bool x.many, .int .i64 x.v.t, .int .i64 x.v.n, .string x.v.s, .bool x.v.b, .int .i64 x.v.c, .int .i64 x.t, .int .i64 x.l, .int .i64 x.b, .int .i64 x.r, .slice x.A x.es.length x.cap]] w fun e w' => e = .returned (.bool true) ∧ Below w.heap.size w w' := by
  have hin' := Lib.hid hin
  clear hin
  go_enter Tryz.func13, Tryz.ntmps13
  go_wp2_with fail
  refine (akn_any _ (Tab.below ht (by (repeat (first | (with_reducible exact Below.refl _ _) | (with_reducible refine Below.alloc ?_ (by first | omega | (dsimp only; omega) | (simp <;> omega)) _) | (with_reducible refine Below.setCell ?_ (by first | omega | (dsimp only; omega) | (simp <;> omega)) _) | (with_reducible refine Below.drew ?_) | (with_reducible refine below_drewN ?_ _) | (with_reducible refine Below.trans ?_ (Below.mono (by assumption) (by first | omega | (dsimp only; omega) | (simp <;> omega))))))))).mono ?_
  rintro e w1 ⟨rfl, hb1⟩
  obtain ⟨gc1, gf1, gz1⟩ := bkeep hb1 (w.heap.size + 1) (by first | (simp; done) | omega)
  have l1 : w.heap.size < w1.heap.size := by omega
  go_wp2
  go_ret
  exact ⟨rfl, by (repeat (first | (with_reducible exact Below.refl _ _) | (with_reducible refine Below.alloc ?_ (by first | omega | (dsimp only; omega) | (simp <;> omega)) _) | (with_reducible refine Below.setCell ?_ (by first | omega | (dsimp only; omega) | (simp <;> omega)) _) | (with_reducible refine Below.drew ?_) | (with_reducible refine below_drewN ?_ _) | (with_reducible refine Below.trans ?_ (Below.mono (by assumption) (by first | omega | (dsimp only; omega) | (simp <;> omega))))))⟩
/-- a single Blank -/
def s0 : AL := ⟨false, v0, 0, 0, 0, 0, none, 0, []⟩
theorem s0_in (w : World) (B : Nat) : s0.In w B := ⟨by (show (-9223372036854775808 : Int) ≤ 0 ∧ (0 : Int) ≤ 9223372036854775807; omega), (fun i c hi => (by simp [s0] at hi)), (fun e he => (by cases he)), (by show 0 ≤ 9223372036854775807; omega)⟩
theorem kz_COUNTIF {w : World} {v : Value} {x : AL} {l : List AL} {nB : Int} (hy : argMay x = true) (hB : cifL x v0 = ⟨1, nB, ⟨#[]⟩, false, 0⟩) (hl : x.many = true ∧ l = [x, s0]) (hTab : Tab w) (hv : ArgsC w v l) : Calls Tryz.prog 27 #[.string ⟨#[67, 79, 85, 78, 84, 73, 70]⟩, v, .int .i64 0] w fun e w' => e = .returned (.agg #[.int .i64 1, .int .i64 nB, .string ⟨#[]⟩, .bool false, .int .i64 0]) ∧ Below w.heap.size w w' := by
  obtain ⟨hm, rfl⟩ := hl
  have h := kx_COUNTIF x s0 hm hy rfl (by decide +kernel) (by show ¬ (0 : Int) = 4; omega) hTab hv
  rw [show cifL x s0.v = cifL x v0 from rfl, hB] at h
  exact h
set_option maxRecDepth 100000 in
set_option maxHeartbeats 2000000 in
theorem wcnt_bad (v : VL) (rt rl rb rr : Int) (A : Option Addr) (cap : Nat) (es : List EL) (w : World) (ht : Tab w) (hin : (⟨true, v, rt, rl, rb, rr, A, cap, es⟩ : AL).In w w.heap.size) (hy : argMay (⟨true, v, rt, rl, rb, rr, A, cap, es⟩ : AL) = false) : Calls Tryz.prog 13 #[.agg #[.bool true, .int .i64 v.t, .int .i64 v.n, .string v.s, .bool v.b, .int .i64 v.c, .int .i64 rt, .int .i64 rl, .int .i64 rb, .int .i64 rr, .slice A es.length cap]] w fun e w' => e = .returned (.bool true) ∧ Below w.heap.size w w' := by
  have hin' := Lib.hid hin
  have CA : ∀ w1, Below w.heap.size w w1 → Hid (Calls Tryz.prog 39 #[.agg #[.bool true, .int .i64 v.t, .int .i64 v.n, .string v.s, .bool v.b, .int .i64 v.c, .int .i64 rt, .int .i64 rl, .int .i64 rb, .int .i64 rr, .slice A es.length cap]] w1 fun e w' => e = .returned (.bool false) ∧ Below w1.heap.size w1 w') := fun w1 q1 => Lib.hid (by
    have h := rarg_any (⟨true, v, rt, rl, rb, rr, A, cap, es⟩ : AL) w1 ((hin.below q1).mono q1.size)
    rw [hy] at h
    exact h)
  clear hin hy
  go_enter Tryz.func13, Tryz.ntmps13
  go_wp2_with fail
  refine (akn_any _ (Tab.below ht (by (repeat (first | (with_reducible exact Below.refl _ _) | (with_reducible refine Below.alloc ?_ (by first | omega | (dsimp only; omega) | (simp <;> omega)) _) | (with_reducible refine Below.setCell ?_ (by first | omega | (dsimp only; omega) | (simp <;> omega)) _) | (with_reducible refine Below.drew ?_) | (with_reducible refine below_drewN ?_ _) | (with_reducible refine Below.trans ?_ (Below.mono (by assumption) (by first | omega | (dsimp only; omega) | (simp <;> omega))))))))).mono ?_
  rintro e w1 ⟨rfl, hb1⟩
  obtain ⟨gc1, gf1, gz1⟩ := bkeep hb1 (w.heap.size + 1) (by first | (simp; done) | omega)
  have l1 : w.heap.size < w1.heap.size := by omega
  have q1 : Below w.heap.size w w1 := by (repeat (first | (with_reducible exact Below.refl _ _) | (with_reducible refine Below.alloc ?_ (by first | omega | (dsimp only; omega) | (simp <;> omega)) _) | (with_reducible refine Below.setCell ?_ (by first | omega | (dsimp only; omega) | (simp <;> omega)) _) | (with_reducible refine Below.drew ?_) | (with_reducible refine below_drewN ?_ _) | (with_reducible refine Below.trans ?_ (Below.mono (by assumption) (by first | omega | (dsimp only; omega) | (simp <;> omega))))))
  go_wp2_with fail
  refine (CA _ q1).out.mono ?_
  clear CA
  rintro e w2 ⟨rfl, hb2⟩
  go_wp2
  go_ret
  exact ⟨rfl, by (repeat (first | (with_reducible exact Below.refl _ _) | (with_reducible refine Below.alloc ?_ (by first | omega | (dsimp only; omega) | (simp <;> omega)) _) | (with_reducible refine Below.setCell ?_ (by first | omega | (dsimp only; omega) | (simp <;> omega)) _) | (with_reducible refine Below.drew ?_) | (with_reducible refine below_drewN ?_ _) | (with_reducible refine Below.trans ?_ (Below.mono (by assumption) (by first | omega | (dsimp only; omega) | (simp <;> omega))))))⟩
set_option maxRecDepth 100000 in
set_option maxHeartbeats 4000000 in
theorem wcnt_yes (v : VL) (rt rl rb rr : Int) (A : Option Addr) (cap : Nat) (es : List EL) (w : World) (ht : Tab w) (hin : (⟨true, v, rt, rl, rb, rr, A, cap, es⟩ : AL).In w w.heap.size) (hy : argMay (⟨true, v, rt, rl, rb, rr, A, cap, es⟩ : AL) = true) (nB nO nN nR nC : Int) (hB : cifL (⟨true, v, rt, rl, rb, rr, A, cap, es⟩ : AL) v0 = ⟨1, nB, ⟨#[]⟩, false, 0⟩) (hO : numL (((itemsL [(⟨true, v, rt, rl, rb, rr, A, cap, es⟩ : AL)]).countP (fun v => !decide (v.t = 0)) : Nat) * 10000) = ⟨1, nO, ⟨#[]⟩, false, 0⟩) (hN : numL (((itemsL [(⟨true, v, rt, rl, rb, rr, A, cap, es⟩ : AL)]).countP (fun v => decide (v.t = 1)) : Nat) * 10000) = ⟨1, nN, ⟨#[]⟩, false, 0⟩) (hRw : numL (rowsL (⟨true, v, rt, rl, rb, rr, A, cap, es⟩ : AL) * 10000) = ⟨1, nR, ⟨#[]⟩, false, 0⟩) (hCl : numL (colsL (⟨true, v, rt, rl, rb, rr, A, cap, es⟩ : AL) * 10000) = ⟨1, nC, ⟨#[]⟩, false, 0⟩) (hle : nN ≤ nO) (n : Int) (hn : (es.length : Int) = n) (hnb : 0 ≤ n ∧ n ≤ 17179900000) (hon : nO ≤ n * 10000) (q : Int) (hq0 : 0 ≤ nC) (hq : nC / 10000 = q) (hqb : 0 ≤ q ∧ q ≤ 20000) (S : Int) (hS1 : nR * q = S) (hS2 : nB + nO = S) (hS3 : 0 ≤ S ∧ S ≤ 900000000000000) : Calls Tryz.prog 13 #[.agg #[.bool true, .int .i64 v.t, .int .i64 v.n, .string v.s, .bool v.b, .int .i64 v.c, .int .i64 rt, .int .i64 rl, .int .i64 rb, .int .i64 rr, .slice A es.length cap]] w fun e w' => e = .returned (.bool true) ∧ Below w.heap.size w w' := by
  have hy' := Lib.hid hy
  have hin' := Lib.hid hin
  have CA : ∀ w1, Below w.heap.size w w1 → Hid (Calls Tryz.prog 39 #[.agg #[.bool true, .int .i64 v.t, .int .i64 v.n, .string v.s, .bool v.b, .int .i64 v.c, .int .i64 rt, .int .i64 rl, .int .i64 rb, .int .i64 rr, .slice A es.length cap]] w1 fun e w' => e = .returned (.bool true) ∧ Below w1.heap.size w1 w') := fun w1 q1 => Lib.hid (by
    have h := rarg_any (⟨true, v, rt, rl, rb, rr, A, cap, es⟩ : AL) w1 ((hin.below q1).mono q1.size)
    rw [hy] at h
    exact h)
  clear hin hy
  go_enter Tryz.func13, Tryz.ntmps13
  go_wp2_with fail
  refine (akn_any _ (Tab.below ht (by (repeat (first | (with_reducible exact Below.refl _ _) | (with_reducible refine Below.alloc ?_ (by first | omega | (dsimp only; omega) | (simp <;> omega)) _) | (with_reducible refine Below.setCell ?_ (by first | omega | (dsimp only; omega) | (simp <;> omega)) _) | (with_reducible refine Below.drew ?_) | (with_reducible refine below_drewN ?_ _) | (with_reducible refine Below.trans ?_ (Below.mono (by assumption) (by first | omega | (dsimp only; omega) | (simp <;> omega))))))))).mono ?_
  rintro e w1 ⟨rfl, hb1⟩
  obtain ⟨gc1, gf1, gz1⟩ := bkeep hb1 (w.heap.size + 1) (by first | (simp; done) | omega)
  have l1 : w.heap.size < w1.heap.size := by omega
  have q1 : Below w.heap.size w w1 := by (repeat (first | (with_reducible exact Below.refl _ _) | (with_reducible refine Below.alloc ?_ (by first | omega | (dsimp only; omega) | (simp <;> omega)) _) | (with_reducible refine Below.setCell ?_ (by first | omega | (dsimp only; omega) | (simp <;> omega)) _) | (with_reducible refine Below.drew ?_) | (with_reducible refine below_drewN ?_ _) | (with_reducible refine Below.trans ?_ (Below.mono (by assumption) (by first | omega | (dsimp only; omega) | (simp <;> omega))))))
  go_wp2_with fail
  refine (CA _ q1).out.mono ?_
  clear CA
  rintro e w2 ⟨rfl, hb2⟩
  obtain ⟨gc2, gf2, gz2⟩ := bkeep hb2 (w.heap.size + 1) (by omega)
  have l2 : w.heap.size < w2.heap.size := by omega
  have q2 : Below w.heap.size w w2 := q1.trans (hb2.mono (by omega))
  have hx2 := Lib.hid ((hin'.out.below q2).mono q2.size)
  have ht2 := Tab.below ht q2
  obtain ⟨u, hu⟩ : ∃ u, u = (w2.alloc (.cells #[.bool true, .int .i64 v.t, .int .i64 v.n, .string v.s, .bool v.b, .int .i64 v.c, .int .i64 rt, .int .i64 rl, .int .i64 rb, .int .i64 rr, .slice A es.length cap] 38)) := ⟨_, rfl⟩
  have bu : Below w2.heap.size w2 u := by rw [hu]; exact (Below.refl _ _).alloc (Nat.le_refl _) _
  have qu : Below w.heap.size w u := q2.trans (bu.mono q2.size)
  have hAu : Hid (ArgsC u (.slice (some ⟨w2.heap.size, 0, none⟩) 1 1) [(⟨true, v, rt, rl, rb, rr, A, cap, es⟩ : AL)]) := Lib.hid (by
    rw [hu]
    exact args_ofp [(⟨true, v, rt, rl, rb, rr, A, cap, es⟩ : AL)] (by rfl) 1 rfl (fun y hy => by simp at hy; subst hy; exact hx2.out.below ((Below.refl _ _).alloc (Nat.le_refl _) _)) (by simp))
  have htu := Lib.hid (Tab.below ht2 bu)
  have hzu : u.heap.size = w2.heap.size + 1 := by rw [hu]; simp
  have cu0 : u.cell? ⟨w2.heap.size, 0, none⟩ = some (.bool true) := by rw [hu]; simp
  have cu1 : u.cell? ⟨w2.heap.size, 1, none⟩ = some (.int .i64 v.t) := by rw [hu]; simp
  have cu2 : u.cell? ⟨w2.heap.size, 2, none⟩ = some (.int .i64 v.n) := by rw [hu]; simp
  have cu3 : u.cell? ⟨w2.heap.size, 3, none⟩ = some (.string v.s) := by rw [hu]; simp
  have cu4 : u.cell? ⟨w2.heap.size, 4, none⟩ = some (.bool v.b) := by rw [hu]; simp
  have cu5 : u.cell? ⟨w2.heap.size, 5, none⟩ = some (.int .i64 v.c) := by rw [hu]; simp
  have cu6 : u.cell? ⟨w2.heap.size, 6, none⟩ = some (.int .i64 rt) := by rw [hu]; simp
  have cu7 : u.cell? ⟨w2.heap.size, 7, none⟩ = some (.int .i64 rl) := by rw [hu]; simp
  have cu8 : u.cell? ⟨w2.heap.size, 8, none⟩ = some (.int .i64 rb) := by rw [hu]; simp
  have cu9 : u.cell? ⟨w2.heap.size, 9, none⟩ = some (.int .i64 rr) := by rw [hu]; simp
  have cu10 : u.cell? ⟨w2.heap.size, 10, none⟩ = some (.slice A es.length cap) := by rw [hu]; simp
  have ca0 : w2.cell? ⟨w.heap.size, 0, none⟩ = some (.bool true) := by rw [gc2 _ _ (by omega), gc1 _ _ (by omega)]; exact c_at rfl rfl
  have ca1 : w2.cell? ⟨w.heap.size, 1, none⟩ = some (.int .i64 v.t) := by rw [gc2 _ _ (by omega), gc1 _ _ (by omega)]; exact c_at rfl rfl
  have ca2 : w2.cell? ⟨w.heap.size, 2, none⟩ = some (.int .i64 v.n) := by rw [gc2 _ _ (by omega), gc1 _ _ (by omega)]; exact c_at rfl rfl
  have ca3 : w2.cell? ⟨w.heap.size, 3, none⟩ = some (.string v.s) := by rw [gc2 _ _ (by omega), gc1 _ _ (by omega)]; exact c_at rfl rfl
  have ca4 : w2.cell? ⟨w.heap.size, 4, none⟩ = some (.bool v.b) := by rw [gc2 _ _ (by omega), gc1 _ _ (by omega)]; exact c_at rfl rfl
  have ca5 : w2.cell? ⟨w.heap.size, 5, none⟩ = some (.int .i64 v.c) := by rw [gc2 _ _ (by omega), gc1 _ _ (by omega)]; exact c_at rfl rfl
  have ca6 : w2.cell? ⟨w.heap.size, 6, none⟩ = some (.int .i64 rt) := by rw [gc2 _ _ (by omega), gc1 _ _ (by omega)]; exact c_at rfl rfl
  have ca7 : w2.cell? ⟨w.heap.size, 7, none⟩ = some (.int .i64 rl) := by rw [gc2 _ _ (by omega), gc1 _ _ (by omega)]; exact c_at rfl rfl
  have ca8 : w2.cell? ⟨w.heap.size, 8, none⟩ = some (.int .i64 rb) := by rw [gc2 _ _ (by omega), gc1 _ _ (by omega)]; exact c_at rfl rfl
  have ca9 : w2.cell? ⟨w.heap.size, 9, none⟩ = some (.int .i64 rr) := by rw [gc2 _ _ (by omega), gc1 _ _ (by omega)]; exact c_at rfl rfl
  have ca10 : w2.cell? ⟨w.heap.size, 10, none⟩ = some (.slice A es.length cap) := by rw [gc2 _ _ (by omega), gc1 _ _ (by omega)]; exact c_at rfl rfl
  go_wp2_with fail
  rw [← hu]
  have ht0 := ht
  clear hu ht2 hx2 hb2 q1 q2 ht
  have CC : ∀ (r : Int) (nm : ByteArray) (R : VL), (∀ u' v', Tab u' → ArgsC u' v' [(⟨true, v, rt, rl, rb, rr, A, cap, es⟩ : AL)] → Calls Tryz.prog 27 #[.string nm, v', .int .i64 0] u' fun e w' => e = .returned (.agg #[.int .i64 (R).t, .int .i64 (R).n, .string (R).s, .bool (R).b, .int .i64 (R).c]) ∧ Below u'.heap.size u' w') → R = ⟨1, r, ⟨#[]⟩, false, 0⟩ → ∀ u', Below u.heap.size u u' → Hid (Calls Tryz.prog 27 #[.string nm, .slice (some ⟨w2.heap.size, 0, none⟩) 1 1, .int .i64 0] u' fun e w' => e = .returned (.agg #[.int .i64 1, .int .i64 r, .string ⟨#[]⟩, .bool false, .int .i64 0]) ∧ Below u'.heap.size u' w') := by
    intro r nm R hC hR u' hb
    subst hR
    exact Lib.hid (hC u' _ (Tab.below htu.out hb) (hAu.out.below hb))
  have C1 := CC nB ⟨#[66, 76, 65, 78, 75, 83]⟩ _ (fun u' v' h1 h2 => kx_BLANKS (⟨true, v, rt, rl, rb, rr, A, cap, es⟩ : AL) rfl hy'.out h1 h2) hB
  have C2 := CC nO ⟨#[67, 79, 85, 78, 84, 65]⟩ _ (fun u' v' h1 h2 => kx_COUNTA (⟨true, v, rt, rl, rb, rr, A, cap, es⟩ : AL) rfl hy'.out h1 h2) hO
  have C3 := CC nN ⟨#[67, 79, 85, 78, 84]⟩ _ (fun u' v' h1 h2 => kx_COUNT (⟨true, v, rt, rl, rb, rr, A, cap, es⟩ : AL) rfl hy'.out h1 h2) hN
  have C4 := CC nR ⟨#[82, 79, 87, 83]⟩ _ (fun u' v' h1 h2 => kx_ROWS (⟨true, v, rt, rl, rb, rr, A, cap, es⟩ : AL) rfl hy'.out h1 h2) hRw
  have C5 := CC nC ⟨#[67, 79, 76, 83]⟩ _ (fun u' v' h1 h2 => kx_COLS (⟨true, v, rt, rl, rb, rr, A, cap, es⟩ : AL) rfl hy'.out h1 h2) hCl
  have hB' := Lib.hid hB
  clear CC hB hO hN hRw hCl
  refine (C1 _ (Below.refl _ _)).out.mono ?_
  clear C1
  rintro e u1 ⟨rfl, hb⟩
  have s1 : Below u.heap.size u (u1.alloc (.cells #[.int .i64 1, .int .i64 nB, .string ⟨#[]⟩, .bool false, .int .i64 0] 26)) := hb.alloc hb.size _
  have z1 := hb.size
  clear hb
  go_wp2_with fail
  have f1 : ∀ j v, (#[.int .i64 1, .int .i64 nB, .string ⟨#[]⟩, .bool false, .int .i64 0] : Array Value)[j]? = some v → (u1.alloc (.cells #[.int .i64 1, .int .i64 nB, .string ⟨#[]⟩, .bool false, .int .i64 0] 26)).cell? ⟨u1.heap.size, j, none⟩ = some v := fun j v h => c_at rfl h
  have p1 : u1.heap.size < (u1.alloc (.cells #[.int .i64 1, .int .i64 nB, .string ⟨#[]⟩, .bool false, .int .i64 0] 26)).heap.size := by simp
  generalize u1.alloc (.cells #[.int .i64 1, .int .i64 nB, .string ⟨#[]⟩, .bool false, .int .i64 0] 26) = y1 at *
  have g1 : Below u.heap.size u y1 := s1
  refine (C2 _ g1).out.mono ?_
  clear C2
  rintro e u2 ⟨rfl, hb⟩
  have s2 : Below y1.heap.size y1 (u2.alloc (.cells #[.int .i64 1, .int .i64 nO, .string ⟨#[]⟩, .bool false, .int .i64 0] 26)) := hb.alloc hb.size _
  have z2 := hb.size
  clear hb
  go_wp2_with fail
  have f2 : ∀ j v, (#[.int .i64 1, .int .i64 nO, .string ⟨#[]⟩, .bool false, .int .i64 0] : Array Value)[j]? = some v → (u2.alloc (.cells #[.int .i64 1, .int .i64 nO, .string ⟨#[]⟩, .bool false, .int .i64 0] 26)).cell? ⟨u2.heap.size, j, none⟩ = some v := fun j v h => c_at rfl h
  have p2 : u2.heap.size < (u2.alloc (.cells #[.int .i64 1, .int .i64 nO, .string ⟨#[]⟩, .bool false, .int .i64 0] 26)).heap.size := by simp
  generalize u2.alloc (.cells #[.int .i64 1, .int .i64 nO, .string ⟨#[]⟩, .bool false, .int .i64 0] 26) = y2 at *
  have g2 : Below u.heap.size u y2 := g1.trans (s2.mono g1.size)
  refine (C3 _ g2).out.mono ?_
  clear C3
  rintro e u3 ⟨rfl, hb⟩
  have s3 : Below y2.heap.size y2 (u3.alloc (.cells #[.int .i64 1, .int .i64 nN, .string ⟨#[]⟩, .bool false, .int .i64 0] 26)) := hb.alloc hb.size _
  have z3 := hb.size
  clear hb
  go_wp2_with fail
  have f3 : ∀ j v, (#[.int .i64 1, .int .i64 nN, .string ⟨#[]⟩, .bool false, .int .i64 0] : Array Value)[j]? = some v → (u3.alloc (.cells #[.int .i64 1, .int .i64 nN, .string ⟨#[]⟩, .bool false, .int .i64 0] 26)).cell? ⟨u3.heap.size, j, none⟩ = some v := fun j v h => c_at rfl h
  have p3 : u3.heap.size < (u3.alloc (.cells #[.int .i64 1, .int .i64 nN, .string ⟨#[]⟩, .bool false, .int .i64 0] 26)).heap.size := by simp
  generalize u3.alloc (.cells #[.int .i64 1, .int .i64 nN, .string ⟨#[]⟩, .bool false, .int .i64 0] 26) = y3 at *
  have g3 : Below u.heap.size u y3 := g2.trans (s3.mono g2.size)
  refine (C4 _ g3).out.mono ?_
  clear C4
  rintro e u4 ⟨rfl, hb⟩
  have s4 : Below y3.heap.size y3 (u4.alloc (.cells #[.int .i64 1, .int .i64 nR, .string ⟨#[]⟩, .bool false, .int .i64 0] 26)) := hb.alloc hb.size _
  have z4 := hb.size
  clear hb
  go_wp2_with fail
  have f4 : ∀ j v, (#[.int .i64 1, .int .i64 nR, .string ⟨#[]⟩, .bool false, .int .i64 0] : Array Value)[j]? = some v → (u4.alloc (.cells #[.int .i64 1, .int .i64 nR, .string ⟨#[]⟩, .bool false, .int .i64 0] 26)).cell? ⟨u4.heap.size, j, none⟩ = some v := fun j v h => c_at rfl h
  have p4 : u4.heap.size < (u4.alloc (.cells #[.int .i64 1, .int .i64 nR, .string ⟨#[]⟩, .bool false, .int .i64 0] 26)).heap.size := by simp
  generalize u4.alloc (.cells #[.int .i64 1, .int .i64 nR, .string ⟨#[]⟩, .bool false, .int .i64 0] 26) = y4 at *
  have g4 : Below u.heap.size u y4 := g3.trans (s4.mono g3.size)
  refine (C5 _ g4).out.mono ?_
  clear C5
  rintro e u5 ⟨rfl, hb⟩
  have s5 : Below y4.heap.size y4 u5 := hb
  have z5 := hb.size
  clear hb
  have g5 : Below u.heap.size u u5 := g4.trans (s5.mono g4.size)
  have r4 := s5
  have r3 : Below y3.heap.size y3 u5 := s4.trans (r4.mono s4.size)
  have r2 : Below y2.heap.size y2 u5 := s3.trans (r3.mono s3.size)
  have r1 : Below y1.heap.size y1 u5 := s2.trans (r2.mono s2.size)
  have c1_0 : u5.cell? ⟨u1.heap.size, 0, none⟩ = some (.int .i64 1) := (r1.cell (p := ⟨u1.heap.size, 0, none⟩) p1).trans (f1 0 _ rfl)
  have c1_1 : u5.cell? ⟨u1.heap.size, 1, none⟩ = some (.int .i64 nB) := (r1.cell (p := ⟨u1.heap.size, 1, none⟩) p1).trans (f1 1 _ rfl)
  have c1_2 : u5.cell? ⟨u1.heap.size, 2, none⟩ = some (.string ⟨#[]⟩) := (r1.cell (p := ⟨u1.heap.size, 2, none⟩) p1).trans (f1 2 _ rfl)
  have c1_3 : u5.cell? ⟨u1.heap.size, 3, none⟩ = some (.bool false) := (r1.cell (p := ⟨u1.heap.size, 3, none⟩) p1).trans (f1 3 _ rfl)
  have c1_4 : u5.cell? ⟨u1.heap.size, 4, none⟩ = some (.int .i64 0) := (r1.cell (p := ⟨u1.heap.size, 4, none⟩) p1).trans (f1 4 _ rfl)
  have m1 : u1.heap.size < u5.heap.size := Nat.lt_of_lt_of_le p1 r1.size
  have n1 : u1.heap.size ≠ u5.heap.size := Nat.ne_of_lt m1
  have c2_0 : u5.cell? ⟨u2.heap.size, 0, none⟩ = some (.int .i64 1) := (r2.cell (p := ⟨u2.heap.size, 0, none⟩) p2).trans (f2 0 _ rfl)
  have c2_1 : u5.cell? ⟨u2.heap.size, 1, none⟩ = some (.int .i64 nO) := (r2.cell (p := ⟨u2.heap.size, 1, none⟩) p2).trans (f2 1 _ rfl)
  have c2_2 : u5.cell? ⟨u2.heap.size, 2, none⟩ = some (.string ⟨#[]⟩) := (r2.cell (p := ⟨u2.heap.size, 2, none⟩) p2).trans (f2 2 _ rfl)
  have c2_3 : u5.cell? ⟨u2.heap.size, 3, none⟩ = some (.bool false) := (r2.cell (p := ⟨u2.heap.size, 3, none⟩) p2).trans (f2 3 _ rfl)
  have c2_4 : u5.cell? ⟨u2.heap.size, 4, none⟩ = some (.int .i64 0) := (r2.cell (p := ⟨u2.heap.size, 4, none⟩) p2).trans (f2 4 _ rfl)
  have m2 : u2.heap.size < u5.heap.size := Nat.lt_of_lt_of_le p2 r2.size
  have n2 : u2.heap.size ≠ u5.heap.size := Nat.ne_of_lt m2
  have c3_0 : u5.cell? ⟨u3.heap.size, 0, none⟩ = some (.int .i64 1) := (r3.cell (p := ⟨u3.heap.size, 0, none⟩) p3).trans (f3 0 _ rfl)
  have c3_1 : u5.cell? ⟨u3.heap.size, 1, none⟩ = some (.int .i64 nN) := (r3.cell (p := ⟨u3.heap.size, 1, none⟩) p3).trans (f3 1 _ rfl)
  have c3_2 : u5.cell? ⟨u3.heap.size, 2, none⟩ = some (.string ⟨#[]⟩) := (r3.cell (p := ⟨u3.heap.size, 2, none⟩) p3).trans (f3 2 _ rfl)
  have c3_3 : u5.cell? ⟨u3.heap.size, 3, none⟩ = some (.bool false) := (r3.cell (p := ⟨u3.heap.size, 3, none⟩) p3).trans (f3 3 _ rfl)
  have c3_4 : u5.cell? ⟨u3.heap.size, 4, none⟩ = some (.int .i64 0) := (r3.cell (p := ⟨u3.heap.size, 4, none⟩) p3).trans (f3 4 _ rfl)
  have m3 : u3.heap.size < u5.heap.size := Nat.lt_of_lt_of_le p3 r3.size
  have n3 : u3.heap.size ≠ u5.heap.size := Nat.ne_of_lt m3
  have c4_0 : u5.cell? ⟨u4.heap.size, 0, none⟩ = some (.int .i64 1) := (r4.cell (p := ⟨u4.heap.size, 0, none⟩) p4).trans (f4 0 _ rfl)
  have c4_1 : u5.cell? ⟨u4.heap.size, 1, none⟩ = some (.int .i64 nR) := (r4.cell (p := ⟨u4.heap.size, 1, none⟩) p4).trans (f4 1 _ rfl)
  have c4_2 : u5.cell? ⟨u4.heap.size, 2, none⟩ = some (.string ⟨#[]⟩) := (r4.cell (p := ⟨u4.heap.size, 2, none⟩) p4).trans (f4 2 _ rfl)
  have c4_3 : u5.cell? ⟨u4.heap.size, 3, none⟩ = some (.bool false) := (r4.cell (p := ⟨u4.heap.size, 3, none⟩) p4).trans (f4 3 _ rfl)
  have c4_4 : u5.cell? ⟨u4.heap.size, 4, none⟩ = some (.int .i64 0) := (r4.cell (p := ⟨u4.heap.size, 4, none⟩) p4).trans (f4 4 _ rfl)
  have m4 : u4.heap.size < u5.heap.size := Nat.lt_of_lt_of_le p4 r4.size
  have n4 : u4.heap.size ≠ u5.heap.size := Nat.ne_of_lt m4
  clear f1 p1 r1 f2 p2 r2 f3 p3 r3 f4 p4 r4
  have ca0 : u5.cell? ⟨w.heap.size, 0, none⟩ = some (.bool true) := ((bu.trans (g5.mono bu.size)).cell (p := ⟨w.heap.size, 0, none⟩) l2).trans ca0
  have ca1 : u5.cell? ⟨w.heap.size, 1, none⟩ = some (.int .i64 v.t) := ((bu.trans (g5.mono bu.size)).cell (p := ⟨w.heap.size, 1, none⟩) l2).trans ca1
  have ca2 : u5.cell? ⟨w.heap.size, 2, none⟩ = some (.int .i64 v.n) := ((bu.trans (g5.mono bu.size)).cell (p := ⟨w.heap.size, 2, none⟩) l2).trans ca2
  have ca3 : u5.cell? ⟨w.heap.size, 3, none⟩ = some (.string v.s) := ((bu.trans (g5.mono bu.size)).cell (p := ⟨w.heap.size, 3, none⟩) l2).trans ca3
  have ca4 : u5.cell? ⟨w.heap.size, 4, none⟩ = some (.bool v.b) := ((bu.trans (g5.mono bu.size)).cell (p := ⟨w.heap.size, 4, none⟩) l2).trans ca4
  have ca5 : u5.cell? ⟨w.heap.size, 5, none⟩ = some (.int .i64 v.c) := ((bu.trans (g5.mono bu.size)).cell (p := ⟨w.heap.size, 5, none⟩) l2).trans ca5
  have ca6 : u5.cell? ⟨w.heap.size, 6, none⟩ = some (.int .i64 rt) := ((bu.trans (g5.mono bu.size)).cell (p := ⟨w.heap.size, 6, none⟩) l2).trans ca6
  have ca7 : u5.cell? ⟨w.heap.size, 7, none⟩ = some (.int .i64 rl) := ((bu.trans (g5.mono bu.size)).cell (p := ⟨w.heap.size, 7, none⟩) l2).trans ca7
  have ca8 : u5.cell? ⟨w.heap.size, 8, none⟩ = some (.int .i64 rb) := ((bu.trans (g5.mono bu.size)).cell (p := ⟨w.heap.size, 8, none⟩) l2).trans ca8
  have ca9 : u5.cell? ⟨w.heap.size, 9, none⟩ = some (.int .i64 rr) := ((bu.trans (g5.mono bu.size)).cell (p := ⟨w.heap.size, 9, none⟩) l2).trans ca9
  have ca10 : u5.cell? ⟨w.heap.size, 10, none⟩ = some (.slice A es.length cap) := ((bu.trans (g5.mono bu.size)).cell (p := ⟨w.heap.size, 10, none⟩) l2).trans ca10
  have m0 : w.heap.size < u5.heap.size := Nat.lt_of_lt_of_le l2 (bu.trans (g5.mono bu.size)).size
  have n0 : w.heap.size ≠ u5.heap.size := Nat.ne_of_lt m0
  have hw1 : IntKind.i64.wrap n = n := IntWalk.i64_in _ (by omega)
  have hw2 : IntKind.i64.wrap (n * 10000) = n * 10000 := IntWalk.i64_in _ (by omega)
  have hwS : IntKind.i64.wrap S = S := IntWalk.i64_in _ (by omega)
  have hqt : nC.tdiv 10000 = q := by rw [Int.tdiv_eq_ediv_of_nonneg hq0]; exact hq
  have hwq : IntKind.i64.wrap q = q := IntWalk.i64_in _ (by omega)
  have hw3 : IntKind.i64.wrap (nB + nO) = S := by rw [hS2]; exact IntWalk.i64_in _ (by omega)
  have hw4 : IntKind.i64.wrap (nR * q) = S := by rw [hS1]; exact IntWalk.i64_in _ (by omega)
  have hle' : ¬ nO < nN := by omega
  have hon' : ¬ n * 10000 < nO := by omega
  go_wp2_with fail
  have da0 : (u5.alloc (.cells #[.int .i64 1, .int .i64 nC, .string ⟨#[]⟩, .bool false, .int .i64 0] 26)).cell? ⟨w.heap.size, 0, none⟩ = some (.bool true) := bx_cellp m0 ca0
  have da1 : (u5.alloc (.cells #[.int .i64 1, .int .i64 nC, .string ⟨#[]⟩, .bool false, .int .i64 0] 26)).cell? ⟨w.heap.size, 1, none⟩ = some (.int .i64 v.t) := bx_cellp m0 ca1
  have da2 : (u5.alloc (.cells #[.int .i64 1, .int .i64 nC, .string ⟨#[]⟩, .bool false, .int .i64 0] 26)).cell? ⟨w.heap.size, 2, none⟩ = some (.int .i64 v.n) := bx_cellp m0 ca2
  have da3 : (u5.alloc (.cells #[.int .i64 1, .int .i64 nC, .string ⟨#[]⟩, .bool false, .int .i64 0] 26)).cell? ⟨w.heap.size, 3, none⟩ = some (.string v.s) := bx_cellp m0 ca3
  have da4 : (u5.alloc (.cells #[.int .i64 1, .int .i64 nC, .string ⟨#[]⟩, .bool false, .int .i64 0] 26)).cell? ⟨w.heap.size, 4, none⟩ = some (.bool v.b) := bx_cellp m0 ca4
  have da5 : (u5.alloc (.cells #[.int .i64 1, .int .i64 nC, .string ⟨#[]⟩, .bool false, .int .i64 0] 26)).cell? ⟨w.heap.size, 5, none⟩ = some (.int .i64 v.c) := bx_cellp m0 ca5
  have da6 : (u5.alloc (.cells #[.int .i64 1, .int .i64 nC, .string ⟨#[]⟩, .bool false, .int .i64 0] 26)).cell? ⟨w.heap.size, 6, none⟩ = some (.int .i64 rt) := bx_cellp m0 ca6
  have da7 : (u5.alloc (.cells #[.int .i64 1, .int .i64 nC, .string ⟨#[]⟩, .bool false, .int .i64 0] 26)).cell? ⟨w.heap.size, 7, none⟩ = some (.int .i64 rl) := bx_cellp m0 ca7
  have da8 : (u5.alloc (.cells #[.int .i64 1, .int .i64 nC, .string ⟨#[]⟩, .bool false, .int .i64 0] 26)).cell? ⟨w.heap.size, 8, none⟩ = some (.int .i64 rb) := bx_cellp m0 ca8
  have da9 : (u5.alloc (.cells #[.int .i64 1, .int .i64 nC, .string ⟨#[]⟩, .bool false, .int .i64 0] 26)).cell? ⟨w.heap.size, 9, none⟩ = some (.int .i64 rr) := bx_cellp m0 ca9
  have da10 : (u5.alloc (.cells #[.int .i64 1, .int .i64 nC, .string ⟨#[]⟩, .bool false, .int .i64 0] 26)).cell? ⟨w.heap.size, 10, none⟩ = some (.slice A es.length cap) := bx_cellp m0 ca10
  have d1_0 : (u5.alloc (.cells #[.int .i64 1, .int .i64 nC, .string ⟨#[]⟩, .bool false, .int .i64 0] 26)).cell? ⟨u1.heap.size, 0, none⟩ = some (.int .i64 1) := bx_cellp m1 c1_0
  have d1_1 : (u5.alloc (.cells #[.int .i64 1, .int .i64 nC, .string ⟨#[]⟩, .bool false, .int .i64 0] 26)).cell? ⟨u1.heap.size, 1, none⟩ = some (.int .i64 nB) := bx_cellp m1 c1_1
  have d1_2 : (u5.alloc (.cells #[.int .i64 1, .int .i64 nC, .string ⟨#[]⟩, .bool false, .int .i64 0] 26)).cell? ⟨u1.heap.size, 2, none⟩ = some (.string ⟨#[]⟩) := bx_cellp m1 c1_2
  have d1_3 : (u5.alloc (.cells #[.int .i64 1, .int .i64 nC, .string ⟨#[]⟩, .bool false, .int .i64 0] 26)).cell? ⟨u1.heap.size, 3, none⟩ = some (.bool false) := bx_cellp m1 c1_3
  have d1_4 : (u5.alloc (.cells #[.int .i64 1, .int .i64 nC, .string ⟨#[]⟩, .bool false, .int .i64 0] 26)).cell? ⟨u1.heap.size, 4, none⟩ = some (.int .i64 0) := bx_cellp m1 c1_4
  have d2_0 : (u5.alloc (.cells #[.int .i64 1, .int .i64 nC, .string ⟨#[]⟩, .bool false, .int .i64 0] 26)).cell? ⟨u2.heap.size, 0, none⟩ = some (.int .i64 1) := bx_cellp m2 c2_0
  have d2_1 : (u5.alloc (.cells #[.int .i64 1, .int .i64 nC, .string ⟨#[]⟩, .bool false, .int .i64 0] 26)).cell? ⟨u2.heap.size, 1, none⟩ = some (.int .i64 nO) := bx_cellp m2 c2_1
  have d2_2 : (u5.alloc (.cells #[.int .i64 1, .int .i64 nC, .string ⟨#[]⟩, .bool false, .int .i64 0] 26)).cell? ⟨u2.heap.size, 2, none⟩ = some (.string ⟨#[]⟩) := bx_cellp m2 c2_2
  have d2_3 : (u5.alloc (.cells #[.int .i64 1, .int .i64 nC, .string ⟨#[]⟩, .bool false, .int .i64 0] 26)).cell? ⟨u2.heap.size, 3, none⟩ = some (.bool false) := bx_cellp m2 c2_3
  have d2_4 : (u5.alloc (.cells #[.int .i64 1, .int .i64 nC, .string ⟨#[]⟩, .bool false, .int .i64 0] 26)).cell? ⟨u2.heap.size, 4, none⟩ = some (.int .i64 0) := bx_cellp m2 c2_4
  have d4_0 : (u5.alloc (.cells #[.int .i64 1, .int .i64 nC, .string ⟨#[]⟩, .bool false, .int .i64 0] 26)).cell? ⟨u4.heap.size, 0, none⟩ = some (.int .i64 1) := bx_cellp m4 c4_0
  have d4_1 : (u5.alloc (.cells #[.int .i64 1, .int .i64 nC, .string ⟨#[]⟩, .bool false, .int .i64 0] 26)).cell? ⟨u4.heap.size, 1, none⟩ = some (.int .i64 nR) := bx_cellp m4 c4_1
  have d4_2 : (u5.alloc (.cells #[.int .i64 1, .int .i64 nC, .string ⟨#[]⟩, .bool false, .int .i64 0] 26)).cell? ⟨u4.heap.size, 2, none⟩ = some (.string ⟨#[]⟩) := bx_cellp m4 c4_2
  have d4_3 : (u5.alloc (.cells #[.int .i64 1, .int .i64 nC, .string ⟨#[]⟩, .bool false, .int .i64 0] 26)).cell? ⟨u4.heap.size, 3, none⟩ = some (.bool false) := bx_cellp m4 c4_3
  have d4_4 : (u5.alloc (.cells #[.int .i64 1, .int .i64 nC, .string ⟨#[]⟩, .bool false, .int .i64 0] 26)).cell? ⟨u4.heap.size, 4, none⟩ = some (.int .i64 0) := bx_cellp m4 c4_4
  have d5_0 : (u5.alloc (.cells #[.int .i64 1, .int .i64 nC, .string ⟨#[]⟩, .bool false, .int .i64 0] 26)).cell? ⟨u5.heap.size, 0, none⟩ = some (.int .i64 1) := c_at rfl rfl
  have d5_1 : (u5.alloc (.cells #[.int .i64 1, .int .i64 nC, .string ⟨#[]⟩, .bool false, .int .i64 0] 26)).cell? ⟨u5.heap.size, 1, none⟩ = some (.int .i64 nC) := c_at rfl rfl
  have d5_2 : (u5.alloc (.cells #[.int .i64 1, .int .i64 nC, .string ⟨#[]⟩, .bool false, .int .i64 0] 26)).cell? ⟨u5.heap.size, 2, none⟩ = some (.string ⟨#[]⟩) := c_at rfl rfl
  have d5_3 : (u5.alloc (.cells #[.int .i64 1, .int .i64 nC, .string ⟨#[]⟩, .bool false, .int .i64 0] 26)).cell? ⟨u5.heap.size, 3, none⟩ = some (.bool false) := c_at rfl rfl
  have d5_4 : (u5.alloc (.cells #[.int .i64 1, .int .i64 nC, .string ⟨#[]⟩, .bool false, .int .i64 0] 26)).cell? ⟨u5.heap.size, 4, none⟩ = some (.int .i64 0) := c_at rfl rfl
  have dB : Below w.heap.size w (u5.alloc (.cells #[.int .i64 1, .int .i64 nC, .string ⟨#[]⟩, .bool false, .int .i64 0] 26)) := (qu.trans (g5.mono qu.size)).alloc (Nat.le_of_lt m0) _
  have dz : u5.heap.size < (u5.alloc (.cells #[.int .i64 1, .int .i64 nC, .string ⟨#[]⟩, .bool false, .int .i64 0] 26)).heap.size := by simp
  generalize (u5.alloc (.cells #[.int .i64 1, .int .i64 nC, .string ⟨#[]⟩, .bool false, .int .i64 0] 26)) = y5 at *
  clear ca0 ca1 ca2 ca3 ca4 ca5 ca6 ca7 ca8 ca9 ca10 c1_0 c1_1 c1_2 c1_3 c1_4 c2_0 c2_1 c2_2 c2_3 c2_4 c3_0 c3_1 c3_2 c3_3 c3_4 c4_0 c4_1 c4_2 c4_3 c4_4 g1 g2 g3 g4 g5 s1 s2 s3 s4 s5 gc1 gf1 gc2 gf2 cu0 cu1 cu2 cu3 cu4 cu5 cu6 cu7 cu8 cu9 cu10 hAu htu qu bu hn hnb hle hon hle' hon' hw1 hw2
  have hve := vEq_self_a 1 nB ⟨#[]⟩ false 0
  refine wp_region_noPanic ?_
  refine wp_region_held_drew (S := fun w' => w'.cell? ⟨w.heap.size, 0, none⟩ = some (.bool true) ∧ w'.cell? ⟨w.heap.size, 1, none⟩ = some (.int .i64 v.t) ∧ w'.cell? ⟨w.heap.size, 2, none⟩ = some (.int .i64 v.n) ∧ w'.cell? ⟨w.heap.size, 3, none⟩ = some (.string v.s) ∧ w'.cell? ⟨w.heap.size, 4, none⟩ = some (.bool v.b) ∧ w'.cell? ⟨w.heap.size, 5, none⟩ = some (.int .i64 v.c) ∧ w'.cell? ⟨w.heap.size, 6, none⟩ = some (.int .i64 rt) ∧ w'.cell? ⟨w.heap.size, 7, none⟩ = some (.int .i64 rl) ∧ w'.cell? ⟨w.heap.size, 8, none⟩ = some (.int .i64 rb) ∧ w'.cell? ⟨w.heap.size, 9, none⟩ = some (.int .i64 rr) ∧ w'.cell? ⟨w.heap.size, 10, none⟩ = some (.slice A es.length cap) ∧ w'.cell? ⟨u1.heap.size, 0, none⟩ = some (.int .i64 1) ∧ w'.cell? ⟨u1.heap.size, 1, none⟩ = some (.int .i64 nB) ∧ w'.cell? ⟨u1.heap.size, 2, none⟩ = some (.string ⟨#[]⟩) ∧ w'.cell? ⟨u1.heap.size, 3, none⟩ = some (.bool false) ∧ w'.cell? ⟨u1.heap.size, 4, none⟩ = some (.int .i64 0) ∧ w'.cell? ⟨u2.heap.size, 0, none⟩ = some (.int .i64 1) ∧ w'.cell? ⟨u2.heap.size, 1, none⟩ = some (.int .i64 nO) ∧ w'.cell? ⟨u2.heap.size, 2, none⟩ = some (.string ⟨#[]⟩) ∧ w'.cell? ⟨u2.heap.size, 3, none⟩ = some (.bool false) ∧ w'.cell? ⟨u2.heap.size, 4, none⟩ = some (.int .i64 0) ∧ w'.cell? ⟨u4.heap.size, 0, none⟩ = some (.int .i64 1) ∧ w'.cell? ⟨u4.heap.size, 1, none⟩ = some (.int .i64 nR) ∧ w'.cell? ⟨u4.heap.size, 2, none⟩ = some (.string ⟨#[]⟩) ∧ w'.cell? ⟨u4.heap.size, 3, none⟩ = some (.bool false) ∧ w'.cell? ⟨u4.heap.size, 4, none⟩ = some (.int .i64 0) ∧ w'.cell? ⟨u5.heap.size, 0, none⟩ = some (.int .i64 1) ∧ w'.cell? ⟨u5.heap.size, 1, none⟩ = some (.int .i64 nC) ∧ w'.cell? ⟨u5.heap.size, 2, none⟩ = some (.string ⟨#[]⟩) ∧ w'.cell? ⟨u5.heap.size, 3, none⟩ = some (.bool false) ∧ w'.cell? ⟨u5.heap.size, 4, none⟩ = some (.int .i64 0) ∧ Below w.heap.size w w' ∧ u5.heap.size < w'.heap.size) (by kernel_rfl) (by (try dsimp only); refine ⟨?_, ?_, ?_, ?_, ?_, ?_, ?_, ?_, ?_, ?_, ?_, ?_, ?_, ?_, ?_, ?_, ?_, ?_, ?_, ?_, ?_, ?_, ?_, ?_, ?_, ?_, ?_, ?_, ?_, ?_, ?_, ?_, ?_⟩ <;> first | assumption | exact Below.drew (by assumption)) (fun hHeld => ?_)
  refine wpAnyH_take (i := 0) (oi := ⟨_, _, _, _, _, _⟩) (v := ?v8) rfl (by kernel_rfl) (by kernel_rfl) (by kernel_rfl) (fun _ _ _ h => h) (Or.inl ⟨by rfl, ?hy8⟩) hHeld ?rest8
  case hy8 => (intro w2 hSw; (try dsimp only at hSw); go_split_ands; go_simp; first | done | with_reducible rfl)
  try simp only [Act.put, List.setIfInBounds_toArray, List.set_cons_zero, List.set_cons_succ]
  refine wpAnyH_take (i := 1) (oi := ⟨_, _, _, _, _, _⟩) (v := ?v9) rfl (by kernel_rfl) (by kernel_rfl) (by kernel_rfl) (fun _ _ _ h => h) (Or.inl ⟨by rfl, ?hy9⟩) hHeld ?rest9
  case hy9 => (intro w2 hSw; (try dsimp only at hSw); go_split_ands; go_simp; first | done | with_reducible rfl)
  try simp only [Act.put, List.setIfInBounds_toArray, List.set_cons_zero, List.set_cons_succ]
  refine wpAnyH_take (i := 2) (oi := ⟨_, _, _, _, _, _⟩) (v := ?v10) rfl (by kernel_rfl) (by kernel_rfl) (by kernel_rfl) (fun _ _ _ h => h) (Or.inl ⟨by rfl, ?hy10⟩) hHeld ?rest10
  case hy10 => (intro w2 hSw; (try dsimp only at hSw); go_split_ands; go_simp; first | done | with_reducible rfl)
  try simp only [Act.put, List.setIfInBounds_toArray, List.set_cons_zero, List.set_cons_succ]
  refine wpAnyH_take (i := 3) (oi := ⟨_, _, _, _, _, _⟩) (v := ?v11) rfl (by kernel_rfl) (by kernel_rfl) (by kernel_rfl) (fun _ _ _ h => h) (Or.inl ⟨by rfl, ?hy11⟩) hHeld ?rest11
  case hy11 => (intro w2 hSw; (try dsimp only at hSw); go_split_ands; go_simp; first | done | with_reducible rfl)
  try simp only [Act.put, List.setIfInBounds_toArray, List.set_cons_zero, List.set_cons_succ]
  refine wpAnyH_take (i := 4) (oi := ⟨_, _, _, _, _, _⟩) (v := ?v12) rfl (by kernel_rfl) (by kernel_rfl) (by kernel_rfl) (fun _ _ _ h => h) (Or.inl ⟨by rfl, ?hy12⟩) hHeld ?rest12
  case hy12 => (intro w2 hSw; (try dsimp only at hSw); go_split_ands; go_simp; first | done | with_reducible rfl)
  try simp only [Act.put, List.setIfInBounds_toArray, List.set_cons_zero, List.set_cons_succ]
  refine wpAnyH_take (i := 5) (oi := ⟨_, _, _, _, _, _⟩) (v := ?v13) rfl (by kernel_rfl) (by kernel_rfl) (by kernel_rfl) (fun _ _ _ h => h) (Or.inl ⟨by rfl, ?hy13⟩) hHeld ?rest13
  case hy13 => (intro w2 hSw; (try dsimp only at hSw); go_split_ands; go_simp; first | done | with_reducible rfl)
  try simp only [Act.put, List.setIfInBounds_toArray, List.set_cons_zero, List.set_cons_succ]
  refine wpAnyH_take (i := 6) (oi := ⟨_, _, _, _, _, _⟩) (v := ?v14) rfl (by kernel_rfl) (by kernel_rfl) (by kernel_rfl) (fun _ _ _ h => h) (Or.inl ⟨by rfl, ?hy14⟩) hHeld ?rest14
  case hy14 => (intro w2 hSw; (try dsimp only at hSw); go_split_ands; go_simp; first | done | with_reducible rfl)
  try simp only [Act.put, List.setIfInBounds_toArray, List.set_cons_zero, List.set_cons_succ]
  refine wpAnyH_take (i := 7) (oi := ⟨_, _, _, _, _, _⟩) (v := ?v15) rfl (by kernel_rfl) (by kernel_rfl) (by kernel_rfl) (fun _ _ _ h => h) (Or.inl ⟨by rfl, ?hy15⟩) hHeld ?rest15
  case hy15 => (intro w2 hSw; (try dsimp only at hSw); go_split_ands; go_simp; first | done | with_reducible rfl)
  try simp only [Act.put, List.setIfInBounds_toArray, List.set_cons_zero, List.set_cons_succ]
  refine wpAnyH_take (i := 8) (oi := ⟨_, _, _, _, _, _⟩) (v := ?v16) rfl (by kernel_rfl) (by kernel_rfl) (by kernel_rfl) (fun _ _ _ h => h) (Or.inl ⟨by rfl, ?hy16⟩) hHeld ?rest16
  case hy16 => (intro w2 hSw; (try dsimp only at hSw); go_split_ands; go_simp; first | done | with_reducible rfl)
  try simp only [Act.put, List.setIfInBounds_toArray, List.set_cons_zero, List.set_cons_succ]
  refine wpAnyH_take (i := 9) (oi := ⟨_, _, _, _, _, _⟩) (v := ?v17) rfl (by kernel_rfl) (by kernel_rfl) (by kernel_rfl) (fun _ _ _ h => h) (Or.inl ⟨by rfl, ?hy17⟩) hHeld ?rest17
  case hy17 => (intro w2 hSw; (try dsimp only at hSw); go_split_ands; go_simp; first | done | with_reducible rfl)
  try simp only [Act.put, List.setIfInBounds_toArray, List.set_cons_zero, List.set_cons_succ]
  refine wpAnyH_take (i := 10) (oi := ⟨_, _, _, _, _, _⟩) (v := ?v18) rfl (by kernel_rfl) (by kernel_rfl) (by kernel_rfl) (fun _ _ _ h => h) (Or.inl ⟨by rfl, ?hy18⟩) hHeld ?rest18
  case hy18 => (intro w2 hSw; (try dsimp only at hSw); go_split_ands; go_simp; first | done | with_reducible rfl)
  try simp only [Act.put, List.setIfInBounds_toArray, List.set_cons_zero, List.set_cons_succ]
  refine wpAnyH_take (i := 11) (oi := ⟨_, _, _, _, _, _⟩) (v := (.bool true)) rfl (by kernel_rfl) (by kernel_rfl) (by kernel_rfl) (fun _ _ _ h => h) (Or.inl ⟨by rfl, ?_⟩) hHeld ?_
  · (intro w2 hSw; (try dsimp only at hSw); go_split_ands; go_simp)
  try simp only [Act.put, List.setIfInBounds_toArray, List.set_cons_zero, List.set_cons_succ]
  refine wpAnyH_take (i := 12) (oi := ⟨_, _, _, _, _, _⟩) (v := (.bool true)) rfl (by kernel_rfl) (by kernel_rfl) (by kernel_rfl) (fun _ _ _ h => h) (Or.inl ⟨by rfl, ?_⟩) hHeld ?_
  · (intro w2 hSw; (try dsimp only at hSw); go_split_ands; go_simp)
  try simp only [Act.put, List.setIfInBounds_toArray, List.set_cons_zero, List.set_cons_succ]
  refine wpAnyH_take (i := 13) (oi := ⟨_, _, _, _, _, _⟩) (v := ?v21) rfl (by kernel_rfl) (by kernel_rfl) (by kernel_rfl) (fun _ _ _ h => h) (Or.inl ⟨by rfl, ?hy21⟩) hHeld ?rest21
  case hy21 => (intro w2 hSw; (try dsimp only at hSw); go_split_ands; go_simp; first | done | with_reducible rfl)
  try simp only [Act.put, List.setIfInBounds_toArray, List.set_cons_zero, List.set_cons_succ]
  refine wpAnyH_take (i := 14) (oi := ⟨_, _, _, _, _, _⟩) (v := ?v22) rfl (by kernel_rfl) (by kernel_rfl) (by kernel_rfl) (fun _ _ _ h => h) (Or.inl ⟨by rfl, ?hy22⟩) hHeld ?rest22
  case hy22 => (intro w2 hSw; (try dsimp only at hSw); go_split_ands; go_simp; first | done | with_reducible rfl)
  try simp only [Act.put, List.setIfInBounds_toArray, List.set_cons_zero, List.set_cons_succ]
  refine wpAnyH_take (i := 18) (oi := ⟨_, _, _, _, _, _⟩) (v := ?v23) rfl (by kernel_rfl) (by kernel_rfl) (by kernel_rfl) (fun _ _ _ h => h) (Or.inl ⟨by rfl, ?hy23⟩) hHeld ?rest23
  case hy23 => (intro w2 hSw; (try dsimp only at hSw); go_split_ands; go_simp; first | done | with_reducible rfl)
  try simp only [Act.put, List.setIfInBounds_toArray, List.set_cons_zero, List.set_cons_succ]
  refine wpAnyH_ready (rs := [15]) (by kernel_rfl) (by simp) ?_
  refine AllReadyH.cons (o := ⟨_, _, _, _, _, _⟩) rfl (fun K hK => ?_) AllReadyH.nil
  go_split_ands
  go_simp
  refine (lsingle_any 0 0 ⟨#[]⟩ false 0 _).mono ?_
  rintro e w1 ⟨rfl, hb⟩
  refine hK.out _ _ ?_ (fun hHeld => ?_)
  · ((try dsimp only); refine ⟨?_, ?_, ?_, ?_, ?_, ?_, ?_, ?_, ?_, ?_, ?_, ?_, ?_, ?_, ?_, ?_, ?_, ?_, ?_, ?_, ?_, ?_, ?_, ?_, ?_, ?_, ?_, ?_, ?_, ?_, ?_, ?_, ?_⟩ <;> first | (rw [hb.cell (by dsimp only; omega)]; assumption) | exact Below.trans (by assumption) (hb.mono (by omega)) | (have := hb.size; omega))
  clear hK K
  try simp only [Act.put, List.setIfInBounds_toArray, List.set_cons_zero, List.set_cons_succ]
  refine wpAnyH_ready (rs := [16]) (by kernel_rfl) (by simp) ?_
  refine AllReadyH.cons (o := ⟨_, _, _, _, _, _⟩) rfl (fun K hK => ?_) AllReadyH.nil
  go_split_ands
  go_simp
  refine hK.out _ _ ?_ (fun hHeld => ?_)
  · ((try dsimp only); refine ⟨?_, ?_, ?_, ?_, ?_, ?_, ?_, ?_, ?_, ?_, ?_, ?_, ?_, ?_, ?_, ?_, ?_, ?_, ?_, ?_, ?_, ?_, ?_, ?_, ?_, ?_, ?_, ?_, ?_, ?_, ?_, ?_, ?_⟩ <;> first | exact bx_cellp (by dsimp only; omega) (by assumption) | exact Below.alloc (by assumption) (by omega) _ | (simp; omega))
  clear hK K
  try simp only [Act.put, List.setIfInBounds_toArray, List.set_cons_zero, List.set_cons_succ]
  refine wpAnyH_ready (rs := [17]) (by kernel_rfl) (by simp) ?_
  refine AllReadyH.cons (o := ⟨_, _, _, _, _, _⟩) rfl (fun K hK => ?_) AllReadyH.nil
  go_split_ands
  go_simp
  refine (kz_COUNTIF (l := [(⟨true, v, rt, rl, rb, rr, A, cap, es⟩ : AL), s0]) hy'.out hB'.out ⟨rfl, rfl⟩ (Tab.below ht0 (by assumption)) (args_ofp [(⟨true, v, rt, rl, rb, rr, A, cap, es⟩ : AL), s0] (by rfl) 2 rfl (fun y hy => by simp at hy; rcases hy with rfl | rfl; exact (hin'.out.below (by assumption)).mono (Below.size (by assumption)); exact s0_in _ _) (Nat.le_refl _))).mono ?_
  rintro e w1 ⟨rfl, hb⟩
  refine hK.out _ _ ?_ (fun hHeld => ?_)
  · ((try dsimp only); refine ⟨?_, ?_, ?_, ?_, ?_, ?_, ?_, ?_, ?_, ?_, ?_, ?_, ?_, ?_, ?_, ?_, ?_, ?_, ?_, ?_, ?_, ?_, ?_, ?_, ?_, ?_, ?_, ?_, ?_, ?_, ?_, ?_, ?_⟩ <;> first | (rw [hb.cell (by dsimp only; omega)]; assumption) | exact Below.trans (by assumption) (hb.mono (by omega)) | (have := hb.size; omega))
  clear hK K
  try simp only [Act.put, List.setIfInBounds_toArray, List.set_cons_zero, List.set_cons_succ]
  refine wpAnyH_take (i := 19) (oi := ⟨_, _, _, _, _, _⟩) (v := (.bool true)) rfl (by kernel_rfl) (by kernel_rfl) (by kernel_rfl) (fun _ _ _ h => h) (Or.inl ⟨by rfl, ?_⟩) hHeld ?_
  · (intro w2 hSw; (try dsimp only at hSw); go_split_ands; go_simp)
  try simp only [Act.put, List.setIfInBounds_toArray, List.set_cons_zero, List.set_cons_succ]
  refine wpAnyH_take (i := 20) (oi := ⟨_, _, _, _, _, _⟩) (v := (.bool true)) rfl (by kernel_rfl) (by kernel_rfl) (by kernel_rfl) (fun _ _ _ h => h) (Or.inl ⟨by rfl, ?_⟩) hHeld ?_
  · (intro w2 hSw; (try dsimp only at hSw); go_split_ands; go_simp)
  try simp only [Act.put, List.setIfInBounds_toArray, List.set_cons_zero, List.set_cons_succ]
  refine wpAnyH_take (i := 21) (oi := ⟨_, _, _, _, _, _⟩) (v := (.bool true)) rfl (by kernel_rfl) (by kernel_rfl) (by kernel_rfl) (fun _ _ _ h => h) (Or.inl ⟨by rfl, ?_⟩) hHeld ?_
  · (intro w2 hSw; (try dsimp only at hSw); go_split_ands; go_simp)
  try simp only [Act.put, List.setIfInBounds_toArray, List.set_cons_zero, List.set_cons_succ]
  refine wpAnyH_done (by kernel_rfl) ?_ _
  refine NoPanic.normal ?_
  go_split_ands
  go_wp2
  go_ret
  exact ⟨rfl, by assumption⟩
end Go.Proofs.YtaomlgpakbjegaaGreatDoor
