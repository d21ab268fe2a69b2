/-
  aggs: rows, cols, whole; COUNT, COUNTA.
-/
import Derived.Test.YtaomlgpakbjegaaGreatDoorRows
import Derived.Test.YtaomlgpakbjegaaGreatDoorBase
import Derived.Test.YtaomlgpakbjegaaGreatDoorRowB
import Derived.Test.YtaomlgpakbjegaaGreatDoorMg5
import Derived.Test.YtaomlgpakbjegaaGreatDoorValA
import Derived.Test.YtaomlgpakbjegaaGreatDoorValB
import Derived.Test.YtaomlgpakbjegaaGreatDoorValC
import Derived.Test.YtaomlgpakbjegaaGreatDoorAddrC
import Derived.Test.YtaomlgpakbjegaaGreatDoorMg10
import Derived.Test.YtaomlgpakbjegaaGreatDoorMapK
import Derived.Test.YtaomlgpakbjegaaGreatDoorAArg
import Derived.Test.YtaomlgpakbjegaaGreatDoorProg
import Derived.Test.YtaomlgpakbjegaaGreatDoorMg3
import Derived.Test.YtaomlgpakbjegaaGreatDoorShelf
import Derived.Test.YtaomlgpakbjegaaGreatDoorMg2
import Derived.Test.YtaomlgpakbjegaaGreatDoorMg12
import Derived.Test.YtaomlgpakbjegaaGreatDoorDPrint
import Derived.Test.YtaomlgpakbjegaaGreatDoorRPr
import Derived.Test.YtaomlgpakbjegaaGreatDoorKnuth
import Derived.Test.YtaomlgpakbjegaaGreatDoorDDiv
import Derived.Test.YtaomlgpakbjegaaGreatDoorDDig
import Derived.Test.YtaomlgpakbjegaaGreatDoorCutW
import Derived.Test.YtaomlgpakbjegaaGreatDoorDParse
import Derived.Test.YtaomlgpakbjegaaGreatDoorDecK
import Derived.Test.YtaomlgpakbjegaaGreatDoorDDivA
import Derived.Test.YtaomlgpakbjegaaGreatDoorValD
import Derived.Test.YtaomlgpakbjegaaGreatDoorMg23
import Derived.Test.YtaomlgpakbjegaaGreatDoorValL
import Derived.Test.YtaomlgpakbjegaaGreatDoorMg25
import Derived.Test.YtaomlgpakbjegaaGreatDoorAItm
import Derived.Test.YtaomlgpakbjegaaGreatDoorAAmo
import Derived.Test.YtaomlgpakbjegaaGreatDoorASum
import Derived.Test.YtaomlgpakbjegaaGreatDoorAFind
import Derived.Test.YtaomlgpakbjegaaGreatDoorACall
import Derived.Test.YtaomlgpakbjegaaGreatDoorACallB
import Derived.Test.YtaomlgpakbjegaaGreatDoorANum
import Derived.Test.YtaomlgpakbjegaaGreatDoorALar
import Derived.Test.YtaomlgpakbjegaaGreatDoorACol
import Derived.Test.YtaomlgpakbjegaaGreatDoorMg40
import Derived.WalkSpells
import Derived.WalkLawsBesides
import Derived.StillTactics
import Derived.Laws.Pointers
import Derived.Deep.RegionHeld3
import Derived.Deep.QuietTactic
import Derived.BigQuiet
import Derived.RowKit3
import Derived.Lib.Hide
import Derived.Lib.OthersKept
import Derived.OwnWalk
import Derived.Lib.IndexLaws
import Derived.Lib.ItoaMem
import Derived.WalkKit
import Derived.ProofKit
import Derived.OpenShut
import Derived.Carry
import Derived.ChangeSame
import Derived.Deep.Draws
import Derived.Maps.OwnSet
import Derived.Maps.AppendAt
import Derived.Shelf.SlGeneric
import Derived.Shelf.SortM.Plain
import Derived.Shelf.SortM.SortNone
import Derived.Ground.SlgmProg
import Derived.Laws.EntriesVeiled
import Derived.Laws.BitsAllLaws
import Derived.Shelf.Strings.Builder1
import Derived.Shelf.Strings.Builder2
import Derived.Shelf.Strings.OnBuilder
import Derived.Shelf.Strings.Trim
import Derived.Shelf.Small.Utf8
import Derived.Shelf.Small.Bits
import Derived.Shelf.Small.Strs
import Derived.Shelf.Small.Wraps
import Derived.Shelf.Strings.BuilderF
import Derived.Shelf.Strings.BuilderK
import Derived.Shelf.Strconv.Itoa0
import Derived.Shelf.Strconv.Itoa1
import Derived.Shelf.LaysM
import Derived.Shelf.Strconv.Itoa2
import Derived.Ground.MpProg
import Derived.Shelf.Pu.ParseUintPublic10
import Derived.Shelf.Strings.Search1
import Derived.Shelf.Strings.Search2
import Derived.Shelf.Strings.Search3
import Derived.Shelf.Strings.Cut
import Derived.Shelf.Strings.Shaped
import Derived.Shelf.Strings.Prefix
import Derived.Shelf.Strings.Runes
import Derived.Shelf.Strings.AsciiSet
import Derived.Shelf.Bits.Mul64
import Derived.Shelf.Strings.Repeat
import Derived.Shelf.Unicode.DecodeSlow
import Derived.Lib.TrimByte
import Derived.Lib.Bytealg
import Derived.Lib.SlTrimSet
import Derived.Lib.ParseIntB
import Derived.Shelf.Strings.SlTrimAscii
import Derived.Lib.SmallJoins
import Derived.Deep.RegionWith
import Derived.Laws.Externs
import Derived.IntWalk
import Derived.Sort.OwnSorted
import Derived.Sort.OwnSortedInts
import Derived.Deep.AppendLies
import Derived.Deep.RegionLaw
namespace Go.Proofs.YtaomlgpakbjegaaGreatDoor
open Go.RowKit

theorem rect_in {t l b r : Int} (h : mayRectB t l b r = true) : 1 ≤ t ∧ t ≤ b ∧ b ≤ 1048576 ∧ 1 ≤ l ∧ l ≤ r ∧ r ≤ 16384 := by
  unfold mayRectB mayB at h
  simp at h
  omega
def rowsL (x : AL) : Int := x.b - x.t + 1
def colsL (x : AL) : Int := x.r - x.l + 1
set_option maxHeartbeats 400000 in
theorem arows_any (x : AL) (h : mayRectB x.t x.l x.b x.r = true) (w : World) : Calls Tryz.prog 143 #[.agg #[.bool x.many, .int .i64 x.v.t, .int .i64 x.v.n, .string x.v.s, .bool x.v.b, .int .i64 x.v.c, .int .i64 x.t, .int .i64 x.l, .int .i64 x.b, .int .i64 x.r, .slice x.A x.es.length x.cap]] w fun e w' => e = .returned (.int .i64 (rowsL x)) ∧ Below w.heap.size w w' := by
  obtain ⟨h1, h2, h3, h4, h5, h6⟩ := rect_in h
  obtain ⟨m, ⟨t, n, s, bb, c⟩, rt, rl, rb, rr, A, cap, es⟩ := x
  unfold rowsL
  dsimp only at h1 h2 h3 h4 h5 h6 ⊢
  have e1 : IntKind.i64.wrap (rb - rt) = rb - rt := IntWalk.i64_in _ (by omega)
  have e2 : IntKind.i64.wrap (rb - rt + 1) = rb - rt + 1 := IntWalk.i64_in _ (by omega)
  clear h
  go_enter Tryz.func143, Tryz.ntmps143
  go_wp2
  go_ret
  exact ⟨by go_num, by (repeat (first | (with_reducible exact Below.refl _ _) | (with_reducible refine Below.alloc ?_ (by first | omega | (dsimp only; omega) | (simp <;> omega)) _) | (with_reducible refine Below.setCell ?_ (by first | omega | (dsimp only; omega) | (simp <;> omega)) _) | (with_reducible refine Below.drew ?_) | (with_reducible refine below_drewN ?_ _) | (with_reducible refine Below.trans ?_ (Below.mono (by assumption) (by first | omega | (dsimp only; omega) | (simp <;> omega))))))⟩
set_option maxHeartbeats 400000 in
theorem acols_any (x : AL) (h : mayRectB x.t x.l x.b x.r = true) (w : World) : Calls Tryz.prog 145 #[.agg #[.bool x.many, .int .i64 x.v.t, .int .i64 x.v.n, .string x.v.s, .bool x.v.b, .int .i64 x.v.c, .int .i64 x.t, .int .i64 x.l, .int .i64 x.b, .int .i64 x.r, .slice x.A x.es.length x.cap]] w fun e w' => e = .returned (.int .i64 (colsL x)) ∧ Below w.heap.size w w' := by
  obtain ⟨h1, h2, h3, h4, h5, h6⟩ := rect_in h
  obtain ⟨m, ⟨t, n, s, bb, c⟩, rt, rl, rb, rr, A, cap, es⟩ := x
  unfold colsL
  dsimp only at h1 h2 h3 h4 h5 h6 ⊢
  have e1 : IntKind.i64.wrap (rr - rl) = rr - rl := IntWalk.i64_in _ (by omega)
  have e2 : IntKind.i64.wrap (rr - rl + 1) = rr - rl + 1 := IntWalk.i64_in _ (by omega)
  clear h
  go_enter Tryz.func145, Tryz.ntmps145
  go_wp2
  go_ret
  exact ⟨by go_num, by (repeat (first | (with_reducible exact Below.refl _ _) | (with_reducible refine Below.alloc ?_ (by first | omega | (dsimp only; omega) | (simp <;> omega)) _) | (with_reducible refine Below.setCell ?_ (by first | omega | (dsimp only; omega) | (simp <;> omega)) _) | (with_reducible refine Below.drew ?_) | (with_reducible refine below_drewN ?_ _) | (with_reducible refine Below.trans ?_ (Below.mono (by assumption) (by first | omega | (dsimp only; omega) | (simp <;> omega))))))⟩
set_option maxHeartbeats 400000 in
theorem awhole_any (n : Int) (hn : -900000000000000 ≤ n ∧ n ≤ 900000000000000) (w : World) : Calls Tryz.prog 142 #[.int .i64 n] w fun e w' => e = .returned (.agg #[.int .i64 ((numL (n * 10000))).t, .int .i64 ((numL (n * 10000))).n, .string ((numL (n * 10000))).s, .bool ((numL (n * 10000))).b, .int .i64 ((numL (n * 10000))).c]) ∧ Below w.heap.size w w' := by
  have C := Lib.hid (vnum_any (n * 10000) (by omega) (w.alloc (.cells #[.int .i64 0, .int .i64 0, .string ⟨#[]⟩, .bool false, .int .i64 0] 26)))
  have e1 : IntKind.i64.wrap (n * 10000) = n * 10000 := IntWalk.i64_in _ (by omega)
  have e2 : IntKind.i64.wrap n = n := IntWalk.i64_in _ (by omega)
  go_enter Tryz.func142, Tryz.ntmps142
  go_wp2_with fail
  refine C.out.mono ?_
  clear C
  rintro e w1 ⟨rfl, hb⟩
  obtain ⟨hc, hf, hz⟩ := bkeep hb (w.heap.size + 1) (by simp)
  have l1 : w.heap.size < w1.heap.size := by omega
  go_wp2
  refine bodyPost_ret (v := .agg #[.int .i64 ((numL (n * 10000))).t, .int .i64 ((numL (n * 10000))).n, .string ((numL (n * 10000))).s, .bool ((numL (n * 10000))).b, .int .i64 ((numL (n * 10000))).c]) ?_ rfl ⟨rfl, by (repeat (first | (with_reducible exact Below.refl _ _) | (with_reducible refine Below.alloc ?_ (by first | omega | (dsimp only; omega) | (simp <;> omega)) _) | (with_reducible refine Below.setCell ?_ (by first | omega | (dsimp only; omega) | (simp <;> omega)) _) | (with_reducible refine Below.drew ?_) | (with_reducible refine below_drewN ?_ _) | (with_reducible refine Below.trans ?_ (Below.mono (by assumption) (by first | omega | (dsimp only; omega) | (simp <;> omega))))))⟩
  simp [results, Tryz.results142, go_sem, numL, *]
set_option maxHeartbeats 400000 in
theorem aisn_any (v : VL) (z : Bool) (hz : decide (v.t = 1) = z) (w : World) : Calls Tryz.prog 131 #[.agg #[.int .i64 v.t, .int .i64 v.n, .string v.s, .bool v.b, .int .i64 v.c]] w fun e w' => e = .returned (.bool z) ∧ Below w.heap.size w w' := by
  go_enter Tryz.func131, Tryz.ntmps131
  go_wp2
  refine bodyPost_ret (v := .bool z) ?_ rfl ⟨rfl, by (repeat (first | (with_reducible exact Below.refl _ _) | (with_reducible refine Below.alloc ?_ (by first | omega | (dsimp only; omega) | (simp <;> omega)) _) | (with_reducible refine Below.setCell ?_ (by first | omega | (dsimp only; omega) | (simp <;> omega)) _) | (with_reducible refine Below.drew ?_) | (with_reducible refine below_drewN ?_ _) | (with_reducible refine Below.trans ?_ (Below.mono (by assumption) (by first | omega | (dsimp only; omega) | (simp <;> omega))))))⟩
  simp [results, Tryz.results131, go_sem, ← hz]
  by_cases h9 : v.t = 1 <;> simp [h9]
set_option maxHeartbeats 400000 in
theorem aisv_any (v : VL) (z : Bool) (hz : (!decide (v.t = 0)) = z) (w : World) : Calls Tryz.prog 132 #[.agg #[.int .i64 v.t, .int .i64 v.n, .string v.s, .bool v.b, .int .i64 v.c]] w fun e w' => e = .returned (.bool z) ∧ Below w.heap.size w w' := by
  go_enter Tryz.func132, Tryz.ntmps132
  go_wp2
  refine bodyPost_ret (v := .bool z) ?_ rfl ⟨rfl, by (repeat (first | (with_reducible exact Below.refl _ _) | (with_reducible refine Below.alloc ?_ (by first | omega | (dsimp only; omega) | (simp <;> omega)) _) | (with_reducible refine Below.setCell ?_ (by first | omega | (dsimp only; omega) | (simp <;> omega)) _) | (with_reducible refine Below.drew ?_) | (with_reducible refine below_drewN ?_ _) | (with_reducible refine Below.trans ?_ (Below.mono (by assumption) (by first | omega | (dsimp only; omega) | (simp <;> omega))))))⟩
  simp [results, Tryz.results132, go_sem, ← hz]
  by_cases h9 : v.t = 0 <;> simp [h9]
set_option maxRecDepth 100000 in
set_option maxHeartbeats 2000000 in
theorem acnt_any (l : List AL) (hlen : l.length ≤ 1649267441664) (hN : (itemsL l).length ≤ 2932031007402) (text : Int) (w : World) (A : Option Addr) (cap : Nat) (hR : RdB w w.heap.size A 11 (l.map AL.cs)) (hin : ∀ x ∈ l, x.In w w.heap.size) (pb g : Nat) (hbox : w.cell? ⟨pb, 0, none⟩ = some (.func (.func g) #[] #[])) (hgo : ∀ args w, Sem.run Tryz.prog (callFunc g args) w = .ok (.enter g args) w) (p : VL → Bool) (hP : ∀ (x : VL) (z : Bool), p x = z → ∀ w, Calls Tryz.prog g #[.agg #[.int .i64 x.t, .int .i64 x.n, .string x.s, .bool x.b, .int .i64 x.c]] w fun e w' => e = .returned (.bool z) ∧ Below w.heap.size w w') : Calls Tryz.prog 195 #[.slice A l.length cap, .int .i64 text, .pointer (some ⟨pb, 0, none⟩)] w fun e w' => e = .returned (.agg #[.int .i64 ((numL (((itemsL l).countP p : Nat) * 10000))).t, .int .i64 ((numL (((itemsL l).countP p : Nat) * 10000))).n, .string ((numL (((itemsL l).countP p : Nat) * 10000))).s, .bool ((numL (((itemsL l).countP p : Nat) * 10000))).b, .int .i64 ((numL (((itemsL l).countP p : Nat) * 10000))).c]) ∧ Below w.heap.size w w' := by
  have b0 : Below w.heap.size w (w.alloc (.cells #[.int .i64 0, .int .i64 0, .string ⟨#[]⟩, .bool false, .int .i64 0] 26)) := (Below.refl _ _).alloc (Nat.le_refl _) _
  have C1 := Lib.hid (aitems_any l hlen (by omega) (w.alloc (.cells #[.int .i64 0, .int .i64 0, .string ⟨#[]⟩, .bool false, .int .i64 0] 26)) A cap ((hR.below b0).mono b0.size) (fun x hx => ((hin x hx).below b0).mono b0.size))
  have hpl : pb < w.heap.size := World.block_lt_of_cell? _ _ hbox
  have hP' := Lib.hid hP
  clear hR hin hP
  obtain ⟨m, hm⟩ : ∃ m, itemsL l = m := ⟨_, rfl⟩
  rw [hm] at hN C1 ⊢
  obtain ⟨r, hr⟩ : ∃ r, numL ((m.countP p : Nat) * 10000) = r := ⟨_, rfl⟩
  rw [hr]
  have hr' := Lib.hid hr
  clear hm hr
  go_enter Tryz.func195, Tryz.ntmps195
  go_wp2_with fail
  refine C1.out.mono ?_
  clear C1
  rintro e w1 ⟨⟨v1, rfl, hown1⟩, hb1⟩
  obtain ⟨A1, cap1, rfl, hr1⟩ := own_rdv hown1
  have hR' := Lib.hid hr1
  have g1 : Below w.heap.size w w1 := b0.trans (hb1.mono b0.size)
  have hbx : w1.cell? ⟨pb, 0, none⟩ = some (.func (.func g) #[] #[]) := (g1.cell (p := ⟨pb, 0, none⟩) hpl).trans hbox
  obtain ⟨hc1, hf1, hz1⟩ := bkeep hb1 (w.heap.size + 1) (by simp)
  clear hr1 hown1 hbox
  have hpl1 : pb < w1.heap.size := by have := g1.size; omega
  have g1' := Lib.hid g1
  clear hb1 g1 b0
  go_wp2
  go_loopw [6, 12] (fun v i wr => ∃ k : Nat, k ≤ m.length ∧ i = .int .i64 (k : Int) ∧ v = .int .i64 ((m.take k).countP p : Nat) ∧ Below w1.heap.size w1 wr) (fun _ i _ => m.length - (intOf i).toNat)
  case atStart => exact ⟨0, Nat.zero_le _, rfl, rfl, Below.refl _ _⟩
  case round =>
    obtain ⟨k, hk, rfl, rfl, hbr⟩ := hrel
    have hzr := hbr.size
    have hbw : wr.cell? ⟨pb, 0, none⟩ = some (.func (.func g) #[] #[]) := (hbr.cell (p := ⟨pb, 0, none⟩) hpl1).trans hbx
    have hpn : pb ≠ wr.heap.size := by omega
    have hpl2 : pb < wr.heap.size := by omega
    have hwr : w.heap.size < wr.heap.size := by omega
    have hwn : w.heap.size ≠ wr.heap.size := by omega
    by_cases hlt : k < m.length
    · obtain ⟨x, hx⟩ : ∃ x, m[k]? = some x := ⟨_, List.getElem?_eq_getElem hlt⟩
      obtain ⟨ab, ao, hA2, hab, hcell⟩ := (hR'.out.below hbr) k x.cs (by rw [List.getElem?_map, hx]; rfl)
      obtain rfl : A1 = some ⟨ab, ao, none⟩ := hA2
      have hx0 : wr.cell? ⟨ab, ao + k * 5, none⟩ = some (.int .i64 x.t) := hcell 0 _ rfl
      have hx1 : wr.cell? ⟨ab, ao + k * 5 + 1, none⟩ = some (.int .i64 x.n) := hcell 1 _ rfl
      have hx2 : wr.cell? ⟨ab, ao + k * 5 + 2, none⟩ = some (.string x.s) := hcell 2 _ rfl
      have hx3 : wr.cell? ⟨ab, ao + k * 5 + 3, none⟩ = some (.bool x.b) := hcell 3 _ rfl
      have hx4 : wr.cell? ⟨ab, ao + k * 5 + 4, none⟩ = some (.int .i64 x.c) := hcell 4 _ rfl
      have habr : ab < wr.heap.size := by omega
      have hkl : (k : Int) < (m.length : Int) := by omega
      have hne : ab ≠ wr.heap.size := by omega
      have hts : m.take (k + 1) = m.take k ++ [x] := by rw [List.take_add_one, hx]; rfl
      obtain ⟨z, hz⟩ : ∃ z, p x = z := ⟨_, rfl⟩
      have CP := Lib.hid (hP'.out x z hz (wr.alloc (.cells #[.int .i64 x.t, .int .i64 x.n, .string x.s, .bool x.b, .int .i64 x.c] 26)))
      have hcnt : Hid (((m.take (k + 1)).countP p : Nat) = (m.take k).countP p + (if z = true then 1 else 0)) := Lib.hid (by
        rw [hts, List.countP_append, List.countP_singleton, hz])
      have hc0 : (m.take k).countP p ≤ k := Nat.le_trans List.countP_le_length (by rw [List.length_take]; omega)
      generalize (m.take k).countP p = q at *
      have hwq : IntKind.i64.wrap ((q : Int) + 1) = (q : Int) + 1 := IntWalk.i64_in _ (by omega)
      clear hx hcell hts hz
      go_wp2_with fail
      refine CP.out.mono ?_
      clear CP
      rintro e w3 ⟨rfl, hb3⟩
      have g3 : Below w1.heap.size w1 w3 := (hbr.alloc (by omega) _).trans (hb3.mono (by simp; omega))
      have hg3 := Lib.hid g3
      have hz3 := hb3.size
      simp only [World.size_alloc] at hz3
      clear g3 hb3
      cases z
      · go_wp2
        exact ⟨⟨k + 1, by omega, by go_num, by rw [hcnt.out]; simp, hg3.out⟩, by simp [intOf]; omega⟩
      · go_wp2
        exact ⟨⟨k + 1, by omega, by go_num, by rw [hcnt.out]; simp, hg3.out⟩, by simp [intOf]; omega⟩
    · obtain rfl : k = m.length := by omega
      have hkl : ¬ (m.length : Int) < (m.length : Int) := by omega
      rw [List.take_length]
      have hc0 : m.countP p ≤ m.length := List.countP_le_length
      have CW := awhole_any (m.countP p : Nat) (by omega) wr
      rw [hr'.out] at CW
      have CW := Lib.hid CW
      clear hr'
      generalize m.countP p = q at *
      have g9 : Below w.heap.size w wr := g1'.out.trans (hbr.mono (by omega))
      go_wp2_with fail
      refine CW.out.mono ?_
      clear CW
      rintro e w3 ⟨rfl, hb3⟩
      have g8 : Below w.heap.size w w3 := g9.trans (hb3.mono (by omega))
      have g7 : Below w1.heap.size w1 w3 := hbr.trans (hb3.mono (by omega))
      have hr0 : w3.cell? ⟨w.heap.size, 0, none⟩ = some (.int .i64 0) := by rw [g7.cell (by dsimp only; omega), hc1 _ _ (by omega)]; simp
      have hs0 : w3.frozen? ⟨w.heap.size, 0, none⟩ = false := by rw [g7.frozen (by dsimp only; omega), hf1 _ _ (by omega)]; simp
      have hr1 : w3.cell? ⟨w.heap.size, 1, none⟩ = some (.int .i64 0) := by rw [g7.cell (by dsimp only; omega), hc1 _ _ (by omega)]; simp
      have hs1 : w3.frozen? ⟨w.heap.size, 1, none⟩ = false := by rw [g7.frozen (by dsimp only; omega), hf1 _ _ (by omega)]; simp
      have hr2 : w3.cell? ⟨w.heap.size, 2, none⟩ = some (.string ⟨#[]⟩) := by rw [g7.cell (by dsimp only; omega), hc1 _ _ (by omega)]; simp
      have hs2 : w3.frozen? ⟨w.heap.size, 2, none⟩ = false := by rw [g7.frozen (by dsimp only; omega), hf1 _ _ (by omega)]; simp
      have hr3 : w3.cell? ⟨w.heap.size, 3, none⟩ = some (.bool false) := by rw [g7.cell (by dsimp only; omega), hc1 _ _ (by omega)]; simp
      have hs3 : w3.frozen? ⟨w.heap.size, 3, none⟩ = false := by rw [g7.frozen (by dsimp only; omega), hf1 _ _ (by omega)]; simp
      have hr4 : w3.cell? ⟨w.heap.size, 4, none⟩ = some (.int .i64 0) := by rw [g7.cell (by dsimp only; omega), hc1 _ _ (by omega)]; simp
      have hs4 : w3.frozen? ⟨w.heap.size, 4, none⟩ = false := by rw [g7.frozen (by dsimp only; omega), hf1 _ _ (by omega)]; simp
      have z8 := hb3.size
      have l3 : w.heap.size < w3.heap.size := by omega
      clear hc1 hf1 hbr g7 hb3 g9
      go_wp2
      refine bodyPost_ret (v := .agg #[.int .i64 (r).t, .int .i64 (r).n, .string (r).s, .bool (r).b, .int .i64 (r).c]) ?_ rfl ⟨rfl, by (repeat (first | (with_reducible exact Below.refl _ _) | (with_reducible refine Below.alloc ?_ (by first | omega | (dsimp only; omega) | (simp <;> omega)) _) | (with_reducible refine Below.setCell ?_ (by first | omega | (dsimp only; omega) | (simp <;> omega)) _) | (with_reducible refine Below.drew ?_) | (with_reducible refine below_drewN ?_ _) | (with_reducible refine Below.trans ?_ (Below.mono (by assumption) (by first | omega | (dsimp only; omega) | (simp <;> omega))))))⟩
      simp [results, Tryz.results195, go_sem, *]
end Go.Proofs.YtaomlgpakbjegaaGreatDoor
