/-
  the walk of the law AggsBetween.
-/
import Derived.Test.YtaomlgpakbjegaaGreatDoorProg
import Derived.Test.YtaomlgpakbjegaaGreatDoorMg3
import Derived.Test.YtaomlgpakbjegaaGreatDoorRows
import Derived.Test.YtaomlgpakbjegaaGreatDoorBase
import Derived.Test.YtaomlgpakbjegaaGreatDoorRowB
import Derived.Test.YtaomlgpakbjegaaGreatDoorMg5
import Derived.Test.YtaomlgpakbjegaaGreatDoorValA
import Derived.Test.YtaomlgpakbjegaaGreatDoorValB
import Derived.Test.YtaomlgpakbjegaaGreatDoorValC
import Derived.Test.YtaomlgpakbjegaaGreatDoorAddrC
import Derived.Test.YtaomlgpakbjegaaGreatDoorMg10
import Derived.Test.YtaomlgpakbjegaaGreatDoorMapK
import Derived.Test.YtaomlgpakbjegaaGreatDoorShelf
import Derived.Test.YtaomlgpakbjegaaGreatDoorMg2
import Derived.Test.YtaomlgpakbjegaaGreatDoorMg12
import Derived.Test.YtaomlgpakbjegaaGreatDoorDPrint
import Derived.Test.YtaomlgpakbjegaaGreatDoorRPr
import Derived.Test.YtaomlgpakbjegaaGreatDoorKnuth
import Derived.Test.YtaomlgpakbjegaaGreatDoorDDiv
import Derived.Test.YtaomlgpakbjegaaGreatDoorDDig
import Derived.Test.YtaomlgpakbjegaaGreatDoorCutW
import Derived.Test.YtaomlgpakbjegaaGreatDoorDParse
import Derived.Test.YtaomlgpakbjegaaGreatDoorDecK
import Derived.Test.YtaomlgpakbjegaaGreatDoorDDivA
import Derived.Test.YtaomlgpakbjegaaGreatDoorValD
import Derived.Test.YtaomlgpakbjegaaGreatDoorMg23
import Derived.Test.YtaomlgpakbjegaaGreatDoorValL
import Derived.Test.YtaomlgpakbjegaaGreatDoorMg25
import Derived.Test.YtaomlgpakbjegaaGreatDoorAItm
import Derived.Test.YtaomlgpakbjegaaGreatDoorAAmo
import Derived.Test.YtaomlgpakbjegaaGreatDoorASum
import Derived.Test.YtaomlgpakbjegaaGreatDoorAFind
import Derived.Test.YtaomlgpakbjegaaGreatDoorACall
import Derived.Test.YtaomlgpakbjegaaGreatDoorACallB
import Derived.Test.YtaomlgpakbjegaaGreatDoorANum
import Derived.Test.YtaomlgpakbjegaaGreatDoorAVal
import Derived.Test.YtaomlgpakbjegaaGreatDoorALar
import Derived.Test.YtaomlgpakbjegaaGreatDoorAPlB
import Derived.Test.YtaomlgpakbjegaaGreatDoorAMea
import Derived.Test.YtaomlgpakbjegaaGreatDoorASom
import Derived.Test.YtaomlgpakbjegaaGreatDoorAArg
import Derived.Test.YtaomlgpakbjegaaGreatDoorACol
import Derived.Test.YtaomlgpakbjegaaGreatDoorMg40
import Derived.Test.YtaomlgpakbjegaaGreatDoorACnt
import Derived.Test.YtaomlgpakbjegaaGreatDoorACif
import Derived.Test.YtaomlgpakbjegaaGreatDoorAClo
import Derived.Test.YtaomlgpakbjegaaGreatDoorAKn
import Derived.Test.YtaomlgpakbjegaaGreatDoorAAtB
import Derived.Test.YtaomlgpakbjegaaGreatDoorABet
import Derived.Test.YtaomlgpakbjegaaGreatDoorADown
import Derived.Outline
import Derived.Deep.CutRange
import Derived.Deep.CutBlock
import Derived.Maps.AppendAt
import Derived.WalkSpells
import Derived.WalkLawsBesides
import Derived.StillTactics
import Derived.Laws.Pointers
import Derived.Deep.RegionHeld3
import Derived.Deep.QuietTactic
import Derived.BigQuiet
import Derived.RowKit3
import Derived.Lib.Hide
import Derived.Lib.OthersKept
import Derived.OwnWalk
import Derived.Lib.IndexLaws
import Derived.Lib.ItoaMem
import Derived.Shelf.SlGeneric
import Derived.Shelf.SortM.Plain
import Derived.Shelf.SortM.SortNone
import Derived.Ground.SlgmProg
import Derived.WalkKit
import Derived.ProofKit
import Derived.OpenShut
import Derived.Carry
import Derived.ChangeSame
import Derived.Deep.Draws
import Derived.Maps.OwnSet
import Derived.Laws.EntriesVeiled
import Derived.Laws.BitsAllLaws
import Derived.Shelf.Strings.Builder1
import Derived.Shelf.Strings.Builder2
import Derived.Shelf.Strings.OnBuilder
import Derived.Shelf.Strings.Trim
import Derived.Shelf.Small.Utf8
import Derived.Shelf.Small.Bits
import Derived.Shelf.Small.Strs
import Derived.Shelf.Small.Wraps
import Derived.Shelf.Strings.BuilderF
import Derived.Shelf.Strings.BuilderK
import Derived.Shelf.Strconv.Itoa0
import Derived.Shelf.Strconv.Itoa1
import Derived.Shelf.LaysM
import Derived.Shelf.Strconv.Itoa2
import Derived.Ground.MpProg
import Derived.Shelf.Pu.ParseUintPublic10
import Derived.Shelf.Strings.Search1
import Derived.Shelf.Strings.Search2
import Derived.Shelf.Strings.Search3
import Derived.Shelf.Strings.Cut
import Derived.Shelf.Strings.Shaped
import Derived.Shelf.Strings.Prefix
import Derived.Shelf.Strings.Runes
import Derived.Shelf.Strings.AsciiSet
import Derived.Shelf.Bits.Mul64
import Derived.Shelf.Strings.Repeat
import Derived.Shelf.Unicode.DecodeSlow
import Derived.Lib.TrimByte
import Derived.Lib.Bytealg
import Derived.Lib.SlTrimSet
import Derived.Lib.ParseIntB
import Derived.Shelf.Strings.SlTrimAscii
import Derived.Lib.SmallJoins
import Derived.Deep.RegionWith
import Derived.Laws.Externs
import Derived.IntWalk
import Derived.Sort.OwnSorted
import Derived.Sort.OwnSortedInts
import Derived.RangeFuncBox
import Derived.RangeFuncLeaves
import Derived.Shelf.Abstract
import Derived.OwnWalkIn
import Derived.TacticsInMore
import Derived.LoopNIn
import Derived.LoopIn
import Derived.Lib.Slices
import Derived.Lib.MinMax
import Derived.Deep.AppendLies
import Derived.Deep.RegionLaw
namespace Go.Proofs.YtaomlgpakbjegaaGreatDoor
open Go.RowKit

theorem cell_sc5 {w : World} {P b j : Nat} {a0 a1 a2 a3 a4 v : Value} (h : P ≠ b) (hc : w.cell? ⟨b, j, none⟩ = some v) : (((((w.setCell ⟨P, 0, none⟩ a0).setCell ⟨P, 1, none⟩ a1).setCell ⟨P, 2, none⟩ a2).setCell ⟨P, 3, none⟩ a3).setCell ⟨P, 4, none⟩ a4).cell? ⟨b, j, none⟩ = some v := by
  rw [World.cell?_setCell_far _ _ _ _ (by simpa using h), World.cell?_setCell_far _ _ _ _ (by simpa using h), World.cell?_setCell_far _ _ _ _ (by simpa using h), World.cell?_setCell_far _ _ _ _ (by simpa using h), World.cell?_setCell_far _ _ _ _ (by simpa using h)]
  exact hc
theorem size_sc5 {w : World} {n P : Nat} {a0 a1 a2 a3 a4 : Value} (h : n ≤ w.heap.size) : n ≤ (((((w.setCell ⟨P, 0, none⟩ a0).setCell ⟨P, 1, none⟩ a1).setCell ⟨P, 2, none⟩ a2).setCell ⟨P, 3, none⟩ a3).setCell ⟨P, 4, none⟩ a4).heap.size := by simpa using h
set_option maxRecDepth 100000 in
set_option maxHeartbeats 8000000 in
theorem wbet_none (l : List Int) (w : World) (ht : Tab w) (A : Option Addr) (cap : Nat) (h0 : l = []) : Calls Tryz.prog 12 #[.slice A l.length cap] w fun e w' => e = .returned (.bool true) ∧ Below w.heap.size w w' := by
  subst h0
  go_enter Tryz.func12, Tryz.ntmps12
  go_wp2_with fail
  refine (akn_any _ (Tab.below ht (by (repeat (first | (with_reducible exact Below.refl _ _) | (with_reducible refine Below.alloc ?_ (by first | omega | (dsimp only; omega) | (simp <;> omega)) _) | (with_reducible refine Below.setCell ?_ (by first | omega | (dsimp only; omega) | (simp <;> omega)) _) | (with_reducible refine Below.drew ?_) | (with_reducible refine below_drewN ?_ _) | (with_reducible refine Below.trans ?_ (Below.mono (by assumption) (by first | omega | (dsimp only; omega) | (simp <;> omega))))))))).mono ?_
  rintro e w1 ⟨rfl, hb1⟩
  have q1 : Below w.heap.size w w1 := by (repeat (first | (with_reducible exact Below.refl _ _) | (with_reducible refine Below.alloc ?_ (by first | omega | (dsimp only; omega) | (simp <;> omega)) _) | (with_reducible refine Below.setCell ?_ (by first | omega | (dsimp only; omega) | (simp <;> omega)) _) | (with_reducible refine Below.drew ?_) | (with_reducible refine below_drewN ?_ _) | (with_reducible refine Below.trans ?_ (Below.mono (by assumption) (by first | omega | (dsimp only; omega) | (simp <;> omega))))))
  go_wp2
  go_ret
  exact ⟨rfl, q1⟩
set_option maxRecDepth 100000 in
set_option maxHeartbeats 8000000 in
theorem wbet_big (l : List Int) (w : World) (ht : Tab w) (A : Option Addr) (cap : Nat) (hn : 60 < l.length) : Calls Tryz.prog 12 #[.slice A l.length cap] w fun e w' => e = .returned (.bool true) ∧ Below w.heap.size w w' := by
  have hbe : ((l.length : Int) == 0) = false := by simp; intro e; rw [e] at hn; simp at hn
  have hbg : decide ((60 : Int) < (l.length : Int)) = true := by simp; omega
  have hn0 : ¬ (l.length : Int) = 0 := by omega
  have hn1 : (60 : Int) < (l.length : Int) := by omega
  go_enter Tryz.func12, Tryz.ntmps12
  go_wp2_with fail
  refine (akn_any _ (Tab.below ht (by (repeat (first | (with_reducible exact Below.refl _ _) | (with_reducible refine Below.alloc ?_ (by first | omega | (dsimp only; omega) | (simp <;> omega)) _) | (with_reducible refine Below.setCell ?_ (by first | omega | (dsimp only; omega) | (simp <;> omega)) _) | (with_reducible refine Below.drew ?_) | (with_reducible refine below_drewN ?_ _) | (with_reducible refine Below.trans ?_ (Below.mono (by assumption) (by first | omega | (dsimp only; omega) | (simp <;> omega))))))))).mono ?_
  rintro e w1 ⟨rfl, hb1⟩
  have q1 : Below w.heap.size w w1 := by (repeat (first | (with_reducible exact Below.refl _ _) | (with_reducible refine Below.alloc ?_ (by first | omega | (dsimp only; omega) | (simp <;> omega)) _) | (with_reducible refine Below.setCell ?_ (by first | omega | (dsimp only; omega) | (simp <;> omega)) _) | (with_reducible refine Below.drew ?_) | (with_reducible refine below_drewN ?_ _) | (with_reducible refine Below.trans ?_ (Below.mono (by assumption) (by first | omega | (dsimp only; omega) | (simp <;> omega))))))
  go_wp2
  go_ret
  exact ⟨rfl, q1⟩
set_option maxRecDepth 100000 in
set_option maxHeartbeats 8000000 in
theorem wbet_yes (l : List Int) (hl : ∀ x ∈ l, -9223372036854775808 ≤ x ∧ x ≤ 9223372036854775807) (w : World) (ht : Tab w) (A : Option Addr) (cap : Nat) (hR : RdI w A l) (h0 : l ≠ []) (h60 : l.length ≤ 60) (mn mx md mw : Int) (hB : BetL l mn mx md mw) (f : Nat → Int) (hD : DownL l mn mx f) : Calls Tryz.prog 12 #[.slice A l.length cap] w fun e w' => e = .returned (.bool true) ∧ Below w.heap.size w w' := by
  have hn : 0 < l.length := List.length_pos_iff.2 h0
  have hn0 : ¬ (l.length : Int) = 0 := by omega
  have hn1 : ¬ (60 : Int) < (l.length : Int) := by omega
  have a1 := hB.a1
  have a2 := hB.a2
  have hB' := Lib.hid hB
  have hD' := Lib.hid hD
  have hl' := Lib.hid hl
  have h0' := Lib.hid h0
  have hR' := Lib.hid hR
  have hbe : ((l.length : Int) == 0) = false := by simpa using h0
  have hbg : decide ((60 : Int) < (l.length : Int)) = false := by simp; omega
  clear hR hl hB hD h0
  go_enter Tryz.func12, Tryz.ntmps12
  go_wp2_with fail
  refine (akn_any _ (Tab.below ht (by (repeat (first | (with_reducible exact Below.refl _ _) | (with_reducible refine Below.alloc ?_ (by first | omega | (dsimp only; omega) | (simp <;> omega)) _) | (with_reducible refine Below.setCell ?_ (by first | omega | (dsimp only; omega) | (simp <;> omega)) _) | (with_reducible refine Below.drew ?_) | (with_reducible refine below_drewN ?_ _) | (with_reducible refine Below.trans ?_ (Below.mono (by assumption) (by first | omega | (dsimp only; omega) | (simp <;> omega))))))))).mono ?_
  rintro e w1 ⟨rfl, hb1⟩
  have q1 : Below w.heap.size w w1 := by (repeat (first | (with_reducible exact Below.refl _ _) | (with_reducible refine Below.alloc ?_ (by first | omega | (dsimp only; omega) | (simp <;> omega)) _) | (with_reducible refine Below.setCell ?_ (by first | omega | (dsimp only; omega) | (simp <;> omega)) _) | (with_reducible refine Below.drew ?_) | (with_reducible refine below_drewN ?_ _) | (with_reducible refine Below.trans ?_ (Below.mono (by assumption) (by first | omega | (dsimp only; omega) | (simp <;> omega))))))
  have CL := Lib.hid (lcolumn_any l (by omega) w1 A cap (RdB.mono (RdB.below hR'.out q1) q1.size))
  go_wp2_with fail
  refine CL.out.mono ?_
  clear CL
  rintro e w2 hC
  obtain ⟨v, rfl, hown⟩ := hC.out
  have hb2 := hC.bel
  obtain ⟨vA, vc, rfl, hrk⟩ := own_rdk hown
  have hrk' := Lib.hid hrk
  clear hC hown hrk
  have q2 : Below w.heap.size w w2 := q1.trans (hb2.mono q1.size)
  have ht2 := Lib.hid (Tab.below ht q2)
  have hmy : Hid (argMay (colA l vA vc) = true) := Lib.hid (col_may h0'.out (by omega) _ _)
  obtain ⟨u, hu⟩ : ∃ u, u = (w2.alloc (.cells #[.bool true, .int .i64 0, .int .i64 0, .string ⟨#[]⟩, .bool false, .int .i64 0, .int .i64 1, .int .i64 1, .int .i64 (max 1 (l.length : Int)), .int .i64 1, .slice vA l.length vc] 38)) := ⟨_, rfl⟩
  have bu : Below w2.heap.size w2 u := by rw [hu]; exact (Below.refl _ _).alloc (Nat.le_refl _) _
  have qu : Below w.heap.size w u := q2.trans (bu.mono q2.size)
  have hxu : Hid ((colA l vA vc).In u u.heap.size) := Lib.hid (colA_in hl'.out (by omega) ((hrk'.out.below bu).mono bu.size))
  have hAu : Hid (ArgsC u (.slice (some ⟨w2.heap.size, 0, none⟩) 1 1) [(colA l vA vc)]) := Lib.hid (by
    have hxu2 := hxu.out
    rw [hu] at hxu2 ⊢
    exact args_ofp [(colA l vA vc)] (by simp [AL.cs, colA, colE_len, v0]) 1 rfl (fun y hy => by simp at hy; subst hy; exact hxu2) (Nat.le_refl _))
  have htu := Lib.hid (Tab.below ht2.out bu)
  have hub : w2.heap.size < u.heap.size := by rw [hu]; simp
  have cu0 : u.cell? ⟨w2.heap.size, 0, none⟩ = some (.bool true) := by rw [hu]; exact c_at rfl rfl
  have cu1 : u.cell? ⟨w2.heap.size, 1, none⟩ = some (.int .i64 0) := by rw [hu]; exact c_at rfl rfl
  have cu2 : u.cell? ⟨w2.heap.size, 2, none⟩ = some (.int .i64 0) := by rw [hu]; exact c_at rfl rfl
  have cu3 : u.cell? ⟨w2.heap.size, 3, none⟩ = some (.string ⟨#[]⟩) := by rw [hu]; exact c_at rfl rfl
  have cu4 : u.cell? ⟨w2.heap.size, 4, none⟩ = some (.bool false) := by rw [hu]; exact c_at rfl rfl
  have cu5 : u.cell? ⟨w2.heap.size, 5, none⟩ = some (.int .i64 0) := by rw [hu]; exact c_at rfl rfl
  have cu6 : u.cell? ⟨w2.heap.size, 6, none⟩ = some (.int .i64 1) := by rw [hu]; exact c_at rfl rfl
  have cu7 : u.cell? ⟨w2.heap.size, 7, none⟩ = some (.int .i64 1) := by rw [hu]; exact c_at rfl rfl
  have cu8 : u.cell? ⟨w2.heap.size, 8, none⟩ = some (.int .i64 (max 1 (l.length : Int))) := by rw [hu]; exact c_at rfl rfl
  have cu9 : u.cell? ⟨w2.heap.size, 9, none⟩ = some (.int .i64 1) := by rw [hu]; exact c_at rfl rfl
  have cu10 : u.cell? ⟨w2.heap.size, 10, none⟩ = some (.slice vA l.length vc) := by rw [hu]; exact c_at rfl rfl
  go_wp2_with fail
  rw [← hu]
  clear hu
  obtain ⟨ub, hube⟩ : ∃ ub, w2.heap.size = ub := ⟨_, rfl⟩
  rw [hube] at hub hAu cu0 cu1 cu2 cu3 cu4 cu5 cu6 cu7 cu8 cu9 cu10 ⊢
  clear hube bu
  have CC : ∀ (r : Int) (nm : ByteArray) (R : VL), nm.size ≤ 16 → takesA nm [true] = true → DoA nm [(colA l vA vc)] 0 R → R = ⟨1, r, ⟨#[]⟩, false, 0⟩ → ∀ u', Below u.heap.size u u' → Hid (Calls Tryz.prog 27 #[.string nm, .slice (some ⟨ub, 0, none⟩) 1 1, .int .i64 0] u' fun e w' => e = .returned (.agg #[.int .i64 1, .int .i64 r, .string ⟨#[]⟩, .bool false, .int .i64 0]) ∧ Below u'.heap.size u' w') := by
    intro r nm R h1 h2 h3 h4 u' hb
    exact Lib.hid (kcol (colA l vA vc) h1 rfl hmy.out h2 h3 h4 (Tab.below htu.out hb) (hAu.out.below hb))
  have hN : (itemsL [(colA l vA vc)]).length ≤ 2932031007402 := by rw [col_len]; omega
  have C1 := CC mn ⟨#[77, 73, 78]⟩ _ (by decide) (by decide +kernel) (ata_MIN [(colA l vA vc)] (by simp) hN 0) (by have h := some_form h0'.out hB'.out.min_ (by omega) vA vc; rw [col_nums] at h ⊢; exact h)
  have C2 := CC mx ⟨#[77, 65, 88]⟩ _ (by decide) (by decide +kernel) (ata_MAX [(colA l vA vc)] (by simp) hN 0) (by have h := some_form h0'.out hB'.out.max_ (by omega) vA vc; rw [col_nums] at h ⊢; exact h)
  have C3 := CC md ⟨#[77, 69, 68, 73, 65, 78]⟩ _ (by decide) (by decide +kernel) (ata_MEDIAN [(colA l vA vc)] (by simp) hN 0) (by have h := some_form h0'.out hB'.out.med (by omega) vA vc; rw [col_nums] at h ⊢; exact h)
  have C4 := CC mw ⟨#[65, 86, 71]⟩ _ (by decide) (by decide +kernel) (ata_AVG [(colA l vA vc)] (by simp) hN 0) (by have h := some_form h0'.out hB'.out.mean (by omega) vA vc; rw [col_nums] at h ⊢; exact h)
  have C5 := CC ((l.length : Int) * 10000) ⟨#[67, 79, 85, 78, 84]⟩ _ (by decide) (by decide +kernel) (ata_COUNT [(colA l vA vc)] (by simp) hN 0) (by rw [col_count]; exact numL_form (by omega))
  clear CC hN
  refine (C1 _ (Below.refl _ _)).out.mono ?_
  clear C1
  rintro e u1 ⟨rfl, hb⟩
  have s1 : Below u.heap.size u (u1.alloc (.cells #[.int .i64 1, .int .i64 mn, .string ⟨#[]⟩, .bool false, .int .i64 0] 26)) := hb.alloc hb.size _
  clear hb
  go_wp2_with fail
  have f1 : ∀ j v, (#[.int .i64 1, .int .i64 mn, .string ⟨#[]⟩, .bool false, .int .i64 0] : Array Value)[j]? = some v → (u1.alloc (.cells #[.int .i64 1, .int .i64 mn, .string ⟨#[]⟩, .bool false, .int .i64 0] 26)).cell? ⟨u1.heap.size, j, none⟩ = some v := fun j v h => c_at rfl h
  have p1 : u1.heap.size < (u1.alloc (.cells #[.int .i64 1, .int .i64 mn, .string ⟨#[]⟩, .bool false, .int .i64 0] 26)).heap.size := by simp
  generalize u1.alloc (.cells #[.int .i64 1, .int .i64 mn, .string ⟨#[]⟩, .bool false, .int .i64 0] 26) = y1 at *
  obtain ⟨b1, hbe⟩ : ∃ b, u1.heap.size = b := ⟨_, rfl⟩
  rw [hbe] at f1 p1 ⊢
  clear hbe
  have g1 : Below u.heap.size u y1 := s1
  refine (C2 _ g1).out.mono ?_
  clear C2
  rintro e u2 ⟨rfl, hb⟩
  have s2 : Below y1.heap.size y1 (u2.alloc (.cells #[.int .i64 1, .int .i64 mx, .string ⟨#[]⟩, .bool false, .int .i64 0] 26)) := hb.alloc hb.size _
  clear hb
  go_wp2_with fail
  have f2 : ∀ j v, (#[.int .i64 1, .int .i64 mx, .string ⟨#[]⟩, .bool false, .int .i64 0] : Array Value)[j]? = some v → (u2.alloc (.cells #[.int .i64 1, .int .i64 mx, .string ⟨#[]⟩, .bool false, .int .i64 0] 26)).cell? ⟨u2.heap.size, j, none⟩ = some v := fun j v h => c_at rfl h
  have p2 : u2.heap.size < (u2.alloc (.cells #[.int .i64 1, .int .i64 mx, .string ⟨#[]⟩, .bool false, .int .i64 0] 26)).heap.size := by simp
  generalize u2.alloc (.cells #[.int .i64 1, .int .i64 mx, .string ⟨#[]⟩, .bool false, .int .i64 0] 26) = y2 at *
  obtain ⟨b2, hbe⟩ : ∃ b, u2.heap.size = b := ⟨_, rfl⟩
  rw [hbe] at f2 p2 ⊢
  clear hbe
  have g2 : Below u.heap.size u y2 := g1.trans (s2.mono g1.size)
  refine (C3 _ g2).out.mono ?_
  clear C3
  rintro e u3 ⟨rfl, hb⟩
  have s3 : Below y2.heap.size y2 (u3.alloc (.cells #[.int .i64 1, .int .i64 md, .string ⟨#[]⟩, .bool false, .int .i64 0] 26)) := hb.alloc hb.size _
  clear hb
  go_wp2_with fail
  have f3 : ∀ j v, (#[.int .i64 1, .int .i64 md, .string ⟨#[]⟩, .bool false, .int .i64 0] : Array Value)[j]? = some v → (u3.alloc (.cells #[.int .i64 1, .int .i64 md, .string ⟨#[]⟩, .bool false, .int .i64 0] 26)).cell? ⟨u3.heap.size, j, none⟩ = some v := fun j v h => c_at rfl h
  have p3 : u3.heap.size < (u3.alloc (.cells #[.int .i64 1, .int .i64 md, .string ⟨#[]⟩, .bool false, .int .i64 0] 26)).heap.size := by simp
  generalize u3.alloc (.cells #[.int .i64 1, .int .i64 md, .string ⟨#[]⟩, .bool false, .int .i64 0] 26) = y3 at *
  obtain ⟨b3, hbe⟩ : ∃ b, u3.heap.size = b := ⟨_, rfl⟩
  rw [hbe] at f3 p3 ⊢
  clear hbe
  have g3 : Below u.heap.size u y3 := g2.trans (s3.mono g2.size)
  refine (C4 _ g3).out.mono ?_
  clear C4
  rintro e u4 ⟨rfl, hb⟩
  have s4 : Below y3.heap.size y3 (u4.alloc (.cells #[.int .i64 1, .int .i64 mw, .string ⟨#[]⟩, .bool false, .int .i64 0] 26)) := hb.alloc hb.size _
  clear hb
  go_upto_region 10 with (fail)
  have f4 : ∀ j v, (#[.int .i64 1, .int .i64 mw, .string ⟨#[]⟩, .bool false, .int .i64 0] : Array Value)[j]? = some v → (u4.alloc (.cells #[.int .i64 1, .int .i64 mw, .string ⟨#[]⟩, .bool false, .int .i64 0] 26)).cell? ⟨u4.heap.size, j, none⟩ = some v := fun j v h => c_at rfl h
  have p4 : u4.heap.size < (u4.alloc (.cells #[.int .i64 1, .int .i64 mw, .string ⟨#[]⟩, .bool false, .int .i64 0] 26)).heap.size := by simp
  generalize u4.alloc (.cells #[.int .i64 1, .int .i64 mw, .string ⟨#[]⟩, .bool false, .int .i64 0] 26) = y4 at *
  obtain ⟨b4, hbe⟩ : ∃ b, u4.heap.size = b := ⟨_, rfl⟩
  rw [hbe] at f4 p4 ⊢
  clear hbe
  have g4 : Below u.heap.size u y4 := g3.trans (s4.mono g3.size)
  have z3 := s4
  have z2 : Below y2.heap.size y2 y4 := s3.trans (z3.mono s3.size)
  have z1 : Below y1.heap.size y1 y4 := s2.trans (z2.mono s2.size)
  have k1_0 : y4.cell? ⟨b1, 0, none⟩ = some (.int .i64 1) := (z1.cell (p := ⟨b1, 0, none⟩) p1).trans (f1 0 _ rfl)
  have k1_1 : y4.cell? ⟨b1, 1, none⟩ = some (.int .i64 mn) := (z1.cell (p := ⟨b1, 1, none⟩) p1).trans (f1 1 _ rfl)
  have k1_2 : y4.cell? ⟨b1, 2, none⟩ = some (.string ⟨#[]⟩) := (z1.cell (p := ⟨b1, 2, none⟩) p1).trans (f1 2 _ rfl)
  have k1_3 : y4.cell? ⟨b1, 3, none⟩ = some (.bool false) := (z1.cell (p := ⟨b1, 3, none⟩) p1).trans (f1 3 _ rfl)
  have k1_4 : y4.cell? ⟨b1, 4, none⟩ = some (.int .i64 0) := (z1.cell (p := ⟨b1, 4, none⟩) p1).trans (f1 4 _ rfl)
  have k2_0 : y4.cell? ⟨b2, 0, none⟩ = some (.int .i64 1) := (z2.cell (p := ⟨b2, 0, none⟩) p2).trans (f2 0 _ rfl)
  have k2_1 : y4.cell? ⟨b2, 1, none⟩ = some (.int .i64 mx) := (z2.cell (p := ⟨b2, 1, none⟩) p2).trans (f2 1 _ rfl)
  have k2_2 : y4.cell? ⟨b2, 2, none⟩ = some (.string ⟨#[]⟩) := (z2.cell (p := ⟨b2, 2, none⟩) p2).trans (f2 2 _ rfl)
  have k2_3 : y4.cell? ⟨b2, 3, none⟩ = some (.bool false) := (z2.cell (p := ⟨b2, 3, none⟩) p2).trans (f2 3 _ rfl)
  have k2_4 : y4.cell? ⟨b2, 4, none⟩ = some (.int .i64 0) := (z2.cell (p := ⟨b2, 4, none⟩) p2).trans (f2 4 _ rfl)
  have k3_0 : y4.cell? ⟨b3, 0, none⟩ = some (.int .i64 1) := (z3.cell (p := ⟨b3, 0, none⟩) p3).trans (f3 0 _ rfl)
  have k3_1 : y4.cell? ⟨b3, 1, none⟩ = some (.int .i64 md) := (z3.cell (p := ⟨b3, 1, none⟩) p3).trans (f3 1 _ rfl)
  have k3_2 : y4.cell? ⟨b3, 2, none⟩ = some (.string ⟨#[]⟩) := (z3.cell (p := ⟨b3, 2, none⟩) p3).trans (f3 2 _ rfl)
  have k3_3 : y4.cell? ⟨b3, 3, none⟩ = some (.bool false) := (z3.cell (p := ⟨b3, 3, none⟩) p3).trans (f3 3 _ rfl)
  have k3_4 : y4.cell? ⟨b3, 4, none⟩ = some (.int .i64 0) := (z3.cell (p := ⟨b3, 4, none⟩) p3).trans (f3 4 _ rfl)
  have k4_0 : y4.cell? ⟨b4, 0, none⟩ = some (.int .i64 1) := f4 0 _ rfl
  have k4_1 : y4.cell? ⟨b4, 1, none⟩ = some (.int .i64 mw) := f4 1 _ rfl
  have k4_2 : y4.cell? ⟨b4, 2, none⟩ = some (.string ⟨#[]⟩) := f4 2 _ rfl
  have k4_3 : y4.cell? ⟨b4, 3, none⟩ = some (.bool false) := f4 3 _ rfl
  have k4_4 : y4.cell? ⟨b4, 4, none⟩ = some (.int .i64 0) := f4 4 _ rfl
  go_wp2_with fail
  refine (C5 _ g4).out.mono ?_
  clear C5
  rintro e y5 ⟨rfl, s5⟩
  have g5 : Below u.heap.size u y5 := g4.trans (s5.mono g4.size)
  have r4 := s5
  have r3 : Below y3.heap.size y3 y5 := s4.trans (r4.mono s4.size)
  have r2 : Below y2.heap.size y2 y5 := s3.trans (r3.mono s3.size)
  have r1 : Below y1.heap.size y1 y5 := s2.trans (r2.mono s2.size)
  have c1_0 : y5.cell? ⟨b1, 0, none⟩ = some (.int .i64 1) := (r1.cell (p := ⟨b1, 0, none⟩) p1).trans (f1 0 _ rfl)
  have c1_1 : y5.cell? ⟨b1, 1, none⟩ = some (.int .i64 mn) := (r1.cell (p := ⟨b1, 1, none⟩) p1).trans (f1 1 _ rfl)
  have c1_2 : y5.cell? ⟨b1, 2, none⟩ = some (.string ⟨#[]⟩) := (r1.cell (p := ⟨b1, 2, none⟩) p1).trans (f1 2 _ rfl)
  have c1_3 : y5.cell? ⟨b1, 3, none⟩ = some (.bool false) := (r1.cell (p := ⟨b1, 3, none⟩) p1).trans (f1 3 _ rfl)
  have c1_4 : y5.cell? ⟨b1, 4, none⟩ = some (.int .i64 0) := (r1.cell (p := ⟨b1, 4, none⟩) p1).trans (f1 4 _ rfl)
  have m1 : b1 < y5.heap.size := Nat.lt_of_lt_of_le p1 r1.size
  have c2_0 : y5.cell? ⟨b2, 0, none⟩ = some (.int .i64 1) := (r2.cell (p := ⟨b2, 0, none⟩) p2).trans (f2 0 _ rfl)
  have c2_1 : y5.cell? ⟨b2, 1, none⟩ = some (.int .i64 mx) := (r2.cell (p := ⟨b2, 1, none⟩) p2).trans (f2 1 _ rfl)
  have c2_2 : y5.cell? ⟨b2, 2, none⟩ = some (.string ⟨#[]⟩) := (r2.cell (p := ⟨b2, 2, none⟩) p2).trans (f2 2 _ rfl)
  have c2_3 : y5.cell? ⟨b2, 3, none⟩ = some (.bool false) := (r2.cell (p := ⟨b2, 3, none⟩) p2).trans (f2 3 _ rfl)
  have c2_4 : y5.cell? ⟨b2, 4, none⟩ = some (.int .i64 0) := (r2.cell (p := ⟨b2, 4, none⟩) p2).trans (f2 4 _ rfl)
  have m2 : b2 < y5.heap.size := Nat.lt_of_lt_of_le p2 r2.size
  have c3_0 : y5.cell? ⟨b3, 0, none⟩ = some (.int .i64 1) := (r3.cell (p := ⟨b3, 0, none⟩) p3).trans (f3 0 _ rfl)
  have c3_1 : y5.cell? ⟨b3, 1, none⟩ = some (.int .i64 md) := (r3.cell (p := ⟨b3, 1, none⟩) p3).trans (f3 1 _ rfl)
  have c3_2 : y5.cell? ⟨b3, 2, none⟩ = some (.string ⟨#[]⟩) := (r3.cell (p := ⟨b3, 2, none⟩) p3).trans (f3 2 _ rfl)
  have c3_3 : y5.cell? ⟨b3, 3, none⟩ = some (.bool false) := (r3.cell (p := ⟨b3, 3, none⟩) p3).trans (f3 3 _ rfl)
  have c3_4 : y5.cell? ⟨b3, 4, none⟩ = some (.int .i64 0) := (r3.cell (p := ⟨b3, 4, none⟩) p3).trans (f3 4 _ rfl)
  have m3 : b3 < y5.heap.size := Nat.lt_of_lt_of_le p3 r3.size
  have c4_0 : y5.cell? ⟨b4, 0, none⟩ = some (.int .i64 1) := (r4.cell (p := ⟨b4, 0, none⟩) p4).trans (f4 0 _ rfl)
  have c4_1 : y5.cell? ⟨b4, 1, none⟩ = some (.int .i64 mw) := (r4.cell (p := ⟨b4, 1, none⟩) p4).trans (f4 1 _ rfl)
  have c4_2 : y5.cell? ⟨b4, 2, none⟩ = some (.string ⟨#[]⟩) := (r4.cell (p := ⟨b4, 2, none⟩) p4).trans (f4 2 _ rfl)
  have c4_3 : y5.cell? ⟨b4, 3, none⟩ = some (.bool false) := (r4.cell (p := ⟨b4, 3, none⟩) p4).trans (f4 3 _ rfl)
  have c4_4 : y5.cell? ⟨b4, 4, none⟩ = some (.int .i64 0) := (r4.cell (p := ⟨b4, 4, none⟩) p4).trans (f4 4 _ rfl)
  have m4 : b4 < y5.heap.size := Nat.lt_of_lt_of_le p4 r4.size
  have ca0 : y5.cell? ⟨ub, 0, none⟩ = some (.bool true) := (g5.cell (p := ⟨ub, 0, none⟩) hub).trans cu0
  have ca1 : y5.cell? ⟨ub, 1, none⟩ = some (.int .i64 0) := (g5.cell (p := ⟨ub, 1, none⟩) hub).trans cu1
  have ca2 : y5.cell? ⟨ub, 2, none⟩ = some (.int .i64 0) := (g5.cell (p := ⟨ub, 2, none⟩) hub).trans cu2
  have ca3 : y5.cell? ⟨ub, 3, none⟩ = some (.string ⟨#[]⟩) := (g5.cell (p := ⟨ub, 3, none⟩) hub).trans cu3
  have ca4 : y5.cell? ⟨ub, 4, none⟩ = some (.bool false) := (g5.cell (p := ⟨ub, 4, none⟩) hub).trans cu4
  have ca5 : y5.cell? ⟨ub, 5, none⟩ = some (.int .i64 0) := (g5.cell (p := ⟨ub, 5, none⟩) hub).trans cu5
  have ca6 : y5.cell? ⟨ub, 6, none⟩ = some (.int .i64 1) := (g5.cell (p := ⟨ub, 6, none⟩) hub).trans cu6
  have ca7 : y5.cell? ⟨ub, 7, none⟩ = some (.int .i64 1) := (g5.cell (p := ⟨ub, 7, none⟩) hub).trans cu7
  have ca8 : y5.cell? ⟨ub, 8, none⟩ = some (.int .i64 (max 1 (l.length : Int))) := (g5.cell (p := ⟨ub, 8, none⟩) hub).trans cu8
  have ca9 : y5.cell? ⟨ub, 9, none⟩ = some (.int .i64 1) := (g5.cell (p := ⟨ub, 9, none⟩) hub).trans cu9
  have ca10 : y5.cell? ⟨ub, 10, none⟩ = some (.slice vA l.length vc) := (g5.cell (p := ⟨ub, 10, none⟩) hub).trans cu10
  have m0 : ub < y5.heap.size := Nat.lt_of_lt_of_le hub g5.size
  clear f1 p1 r1 s1 g1 f2 p2 r2 s2 g2 f3 p3 r3 s3 g3 f4 p4 r4 s4 g4 s5 z1 z2 z3 k1_0 k1_1 k1_2 k1_3 k1_4 k2_0 k2_1 k2_2 k2_3 k2_4 k3_0 k3_1 k3_2 k3_3 k3_4 k4_0 k4_1 k4_2 k4_3 k4_4 cu0 cu1 cu2 cu3 cu4 cu5 cu6 cu7 cu8 cu9 cu10
  have hwc : IntKind.i64.wrap ((l.length : Int) * 10000) = (l.length : Int) * 10000 := IntWalk.i64_in _ (by omega)
  have q5 : Below w.heap.size w y5 := qu.trans (g5.mono qu.size)
  have hxg := Lib.hid (hxu.out.below g5)
  clear hxu
  have hAg := Lib.hid (hAu.out.below g5)
  have htg := Lib.hid (Tab.below htu.out g5)
  have hxg2 := Lib.hid (hxg.out.mono g5.size)
  clear g5 hAu htu hxg qu hub
  go_wp2_with fail
  refine (lnumber_any _ _).mono ?_
  rintro e y6 ⟨rfl, hb⟩
  have d1_0 : y6.cell? ⟨b1, 0, none⟩ = some (.int .i64 1) := (hb.cell (p := ⟨b1, 0, none⟩) m1).trans c1_0
  have d1_1 : y6.cell? ⟨b1, 1, none⟩ = some (.int .i64 mn) := (hb.cell (p := ⟨b1, 1, none⟩) m1).trans c1_1
  have d1_2 : y6.cell? ⟨b1, 2, none⟩ = some (.string ⟨#[]⟩) := (hb.cell (p := ⟨b1, 2, none⟩) m1).trans c1_2
  have d1_3 : y6.cell? ⟨b1, 3, none⟩ = some (.bool false) := (hb.cell (p := ⟨b1, 3, none⟩) m1).trans c1_3
  have d1_4 : y6.cell? ⟨b1, 4, none⟩ = some (.int .i64 0) := (hb.cell (p := ⟨b1, 4, none⟩) m1).trans c1_4
  have e1 : b1 < y6.heap.size := Nat.lt_of_lt_of_le m1 hb.size
  have d2_0 : y6.cell? ⟨b2, 0, none⟩ = some (.int .i64 1) := (hb.cell (p := ⟨b2, 0, none⟩) m2).trans c2_0
  have d2_1 : y6.cell? ⟨b2, 1, none⟩ = some (.int .i64 mx) := (hb.cell (p := ⟨b2, 1, none⟩) m2).trans c2_1
  have d2_2 : y6.cell? ⟨b2, 2, none⟩ = some (.string ⟨#[]⟩) := (hb.cell (p := ⟨b2, 2, none⟩) m2).trans c2_2
  have d2_3 : y6.cell? ⟨b2, 3, none⟩ = some (.bool false) := (hb.cell (p := ⟨b2, 3, none⟩) m2).trans c2_3
  have d2_4 : y6.cell? ⟨b2, 4, none⟩ = some (.int .i64 0) := (hb.cell (p := ⟨b2, 4, none⟩) m2).trans c2_4
  have e2 : b2 < y6.heap.size := Nat.lt_of_lt_of_le m2 hb.size
  have d3_0 : y6.cell? ⟨b3, 0, none⟩ = some (.int .i64 1) := (hb.cell (p := ⟨b3, 0, none⟩) m3).trans c3_0
  have d3_1 : y6.cell? ⟨b3, 1, none⟩ = some (.int .i64 md) := (hb.cell (p := ⟨b3, 1, none⟩) m3).trans c3_1
  have d3_2 : y6.cell? ⟨b3, 2, none⟩ = some (.string ⟨#[]⟩) := (hb.cell (p := ⟨b3, 2, none⟩) m3).trans c3_2
  have d3_3 : y6.cell? ⟨b3, 3, none⟩ = some (.bool false) := (hb.cell (p := ⟨b3, 3, none⟩) m3).trans c3_3
  have d3_4 : y6.cell? ⟨b3, 4, none⟩ = some (.int .i64 0) := (hb.cell (p := ⟨b3, 4, none⟩) m3).trans c3_4
  have e3 : b3 < y6.heap.size := Nat.lt_of_lt_of_le m3 hb.size
  have d4_0 : y6.cell? ⟨b4, 0, none⟩ = some (.int .i64 1) := (hb.cell (p := ⟨b4, 0, none⟩) m4).trans c4_0
  have d4_1 : y6.cell? ⟨b4, 1, none⟩ = some (.int .i64 mw) := (hb.cell (p := ⟨b4, 1, none⟩) m4).trans c4_1
  have d4_2 : y6.cell? ⟨b4, 2, none⟩ = some (.string ⟨#[]⟩) := (hb.cell (p := ⟨b4, 2, none⟩) m4).trans c4_2
  have d4_3 : y6.cell? ⟨b4, 3, none⟩ = some (.bool false) := (hb.cell (p := ⟨b4, 3, none⟩) m4).trans c4_3
  have d4_4 : y6.cell? ⟨b4, 4, none⟩ = some (.int .i64 0) := (hb.cell (p := ⟨b4, 4, none⟩) m4).trans c4_4
  have e4 : b4 < y6.heap.size := Nat.lt_of_lt_of_le m4 hb.size
  have da0 : y6.cell? ⟨ub, 0, none⟩ = some (.bool true) := (hb.cell (p := ⟨ub, 0, none⟩) m0).trans ca0
  have da1 : y6.cell? ⟨ub, 1, none⟩ = some (.int .i64 0) := (hb.cell (p := ⟨ub, 1, none⟩) m0).trans ca1
  have da2 : y6.cell? ⟨ub, 2, none⟩ = some (.int .i64 0) := (hb.cell (p := ⟨ub, 2, none⟩) m0).trans ca2
  have da3 : y6.cell? ⟨ub, 3, none⟩ = some (.string ⟨#[]⟩) := (hb.cell (p := ⟨ub, 3, none⟩) m0).trans ca3
  have da4 : y6.cell? ⟨ub, 4, none⟩ = some (.bool false) := (hb.cell (p := ⟨ub, 4, none⟩) m0).trans ca4
  have da5 : y6.cell? ⟨ub, 5, none⟩ = some (.int .i64 0) := (hb.cell (p := ⟨ub, 5, none⟩) m0).trans ca5
  have da6 : y6.cell? ⟨ub, 6, none⟩ = some (.int .i64 1) := (hb.cell (p := ⟨ub, 6, none⟩) m0).trans ca6
  have da7 : y6.cell? ⟨ub, 7, none⟩ = some (.int .i64 1) := (hb.cell (p := ⟨ub, 7, none⟩) m0).trans ca7
  have da8 : y6.cell? ⟨ub, 8, none⟩ = some (.int .i64 (max 1 (l.length : Int))) := (hb.cell (p := ⟨ub, 8, none⟩) m0).trans ca8
  have da9 : y6.cell? ⟨ub, 9, none⟩ = some (.int .i64 1) := (hb.cell (p := ⟨ub, 9, none⟩) m0).trans ca9
  have da10 : y6.cell? ⟨ub, 10, none⟩ = some (.slice vA l.length vc) := (hb.cell (p := ⟨ub, 10, none⟩) m0).trans ca10
  have e0 : ub < y6.heap.size := Nat.lt_of_lt_of_le m0 hb.size
  have q6 : Below w.heap.size w y6 := q5.trans (hb.mono q5.size)
  have hA6 := Lib.hid (hAg.out.below hb)
  have ht6 := Lib.hid (Tab.below htg.out hb)
  have hx6 := Lib.hid ((hxg2.out.below hb).mono hb.size)
  clear c1_0 c1_1 c1_2 c1_3 c1_4 c2_0 c2_1 c2_2 c2_3 c2_4 c3_0 c3_1 c3_2 c3_3 c3_4 c4_0 c4_1 c4_2 c4_3 c4_4 ca0 ca1 ca2 ca3 ca4 ca5 ca6 ca7 ca8 ca9 ca10 m0 m1 m2 m3 m4 hAg htg hxg2 hb q5 q1 q2 hb1 hb2 ht2 hrk' hR' hmy
  have hve := vEq_self_a 1 ((l.length : Int) * 10000) ⟨#[]⟩ false 0
  have t1 : ¬ md < mn := by omega
  have t2 : ¬ mx < md := by omega
  have t3 : ¬ mw < mn := by omega
  have t4 : ¬ mx < mw := by omega
  clear a1 a2
  go_wp2_with fail
  obtain ⟨i0, hi, hz0, hz1, hz2⟩ := info_parts i64_info'
  have hbx0 := blk_new y6 #[.int .i64 1, .int .i64 mx, .string ⟨#[]⟩, .bool false, .int .i64 0] 26
  have hBL : Below y6.heap.size y6 (y6.alloc (.cells #[.int .i64 1, .int .i64 mx, .string ⟨#[]⟩, .bool false, .int .i64 0] 26)) := (Below.refl _ _).alloc (Nat.le_refl _) _
  have hzL : y6.heap.size < (y6.alloc (.cells #[.int .i64 1, .int .i64 mx, .string ⟨#[]⟩, .bool false, .int .i64 0] 26)).heap.size := by simp
  obtain ⟨bx, hbxe⟩ : ∃ bx, y6.heap.size = bx := ⟨_, rfl⟩
  rw [hbxe] at e0 e1 e2 hbx0 hBL hzL ⊢
  have hbxe' := Lib.hid hbxe
  clear hve t1 t2 t3 t4 e3 e4 hwc hbe hbg hn0 hn1 hbxe d3_0 d3_1 d3_2 d3_3 d3_4 d4_0 d4_1 d4_2 d4_3 d4_4
  go_loopw [9, 10] (fun v i wr => ∃ m : Nat, m ≤ l.length ∧ i = .int .i64 ((m : Int) + 1) ∧ Hid (OwnI wr (bx + 1) v ((List.range m).map fun j => f (j + 1))) ∧ Hid (wr.heap[bx]? = some (.cells #[.int .i64 1, .int .i64 (f m), .string ⟨#[]⟩, .bool false, .int .i64 0] 26 (0, 0))) ∧ Below bx y6 wr ∧ bx < wr.heap.size) (fun _ i _ => l.length + 1 - (intOf i).toNat)
  case atStart => exact ⟨0, Nat.zero_le _, rfl, Lib.hid (World.ownsRow_nil _ _ _ _), Lib.hid (by rw [hD'.out.zero]; exact hbx0), hBL, hzL⟩
  case round =>
    obtain ⟨m, hm, rfl, hown, hbox, hbr, hlt⟩ := hrel
    clear hbx0 hBL hzL
    obtain ⟨A5, cap5, hve5, hr5⟩ := own_rdi hown.out
    subst hve5
    have hr5' := Lib.hid hr5
    clear hr5
    have hlmm : ((List.range m).map fun j => f (j + 1)).length = m := by simp
    rw [hlmm]
    have hown3 := hown.out
    rw [hlmm] at hown3
    have hown := Lib.hid hown3
    clear hlmm hown3
    have w1_0 : wr.cell? ⟨b1, 0, none⟩ = some (.int .i64 1) := (hbr.cell (p := ⟨b1, 0, none⟩) e1).trans d1_0
    have w1_1 : wr.cell? ⟨b1, 1, none⟩ = some (.int .i64 mn) := (hbr.cell (p := ⟨b1, 1, none⟩) e1).trans d1_1
    have w1_2 : wr.cell? ⟨b1, 2, none⟩ = some (.string ⟨#[]⟩) := (hbr.cell (p := ⟨b1, 2, none⟩) e1).trans d1_2
    have w1_3 : wr.cell? ⟨b1, 3, none⟩ = some (.bool false) := (hbr.cell (p := ⟨b1, 3, none⟩) e1).trans d1_3
    have w1_4 : wr.cell? ⟨b1, 4, none⟩ = some (.int .i64 0) := (hbr.cell (p := ⟨b1, 4, none⟩) e1).trans d1_4
    have w2_0 : wr.cell? ⟨b2, 0, none⟩ = some (.int .i64 1) := (hbr.cell (p := ⟨b2, 0, none⟩) e2).trans d2_0
    have w2_1 : wr.cell? ⟨b2, 1, none⟩ = some (.int .i64 mx) := (hbr.cell (p := ⟨b2, 1, none⟩) e2).trans d2_1
    have w2_2 : wr.cell? ⟨b2, 2, none⟩ = some (.string ⟨#[]⟩) := (hbr.cell (p := ⟨b2, 2, none⟩) e2).trans d2_2
    have w2_3 : wr.cell? ⟨b2, 3, none⟩ = some (.bool false) := (hbr.cell (p := ⟨b2, 3, none⟩) e2).trans d2_3
    have w2_4 : wr.cell? ⟨b2, 4, none⟩ = some (.int .i64 0) := (hbr.cell (p := ⟨b2, 4, none⟩) e2).trans d2_4
    have wa0 : wr.cell? ⟨ub, 0, none⟩ = some (.bool true) := (hbr.cell (p := ⟨ub, 0, none⟩) e0).trans da0
    have wa1 : wr.cell? ⟨ub, 1, none⟩ = some (.int .i64 0) := (hbr.cell (p := ⟨ub, 1, none⟩) e0).trans da1
    have wa2 : wr.cell? ⟨ub, 2, none⟩ = some (.int .i64 0) := (hbr.cell (p := ⟨ub, 2, none⟩) e0).trans da2
    have wa3 : wr.cell? ⟨ub, 3, none⟩ = some (.string ⟨#[]⟩) := (hbr.cell (p := ⟨ub, 3, none⟩) e0).trans da3
    have wa4 : wr.cell? ⟨ub, 4, none⟩ = some (.bool false) := (hbr.cell (p := ⟨ub, 4, none⟩) e0).trans da4
    have wa5 : wr.cell? ⟨ub, 5, none⟩ = some (.int .i64 0) := (hbr.cell (p := ⟨ub, 5, none⟩) e0).trans da5
    have wa6 : wr.cell? ⟨ub, 6, none⟩ = some (.int .i64 1) := (hbr.cell (p := ⟨ub, 6, none⟩) e0).trans da6
    have wa7 : wr.cell? ⟨ub, 7, none⟩ = some (.int .i64 1) := (hbr.cell (p := ⟨ub, 7, none⟩) e0).trans da7
    have wa8 : wr.cell? ⟨ub, 8, none⟩ = some (.int .i64 (max 1 (l.length : Int))) := (hbr.cell (p := ⟨ub, 8, none⟩) e0).trans da8
    have wa9 : wr.cell? ⟨ub, 9, none⟩ = some (.int .i64 1) := (hbr.cell (p := ⟨ub, 9, none⟩) e0).trans da9
    have wa10 : wr.cell? ⟨ub, 10, none⟩ = some (.slice vA l.length vc) := (hbr.cell (p := ⟨ub, 10, none⟩) e0).trans da10
    have hb6 : Below y6.heap.size y6 wr := by rw [hbxe'.out]; exact hbr
    have hxr := Lib.hid ((hx6.out.below hb6).mono hb6.size)
    have htr := Lib.hid (Tab.below ht6.out hb6)
    have hAr0 := Lib.hid (hA6.out.below hb6)
    have q7 : Below w.heap.size w wr := q6.trans (hb6.mono q6.size)
    clear hb6
    have hubr : ub < wr.heap.size := by omega
    have hb1r : b1 < wr.heap.size := by omega
    have hb2r : b2 < wr.heap.size := by omega
    clear da0 da1 da2 da3 da4 da5 da6 da7 da8 da9 da10 d1_0 d1_1 d1_2 d1_3 d1_4 d2_0 d2_1 d2_2 d2_3 d2_4 e0 e1 e2
    by_cases hlm : m < l.length
    · obtain ⟨y, hye⟩ : ∃ y, f (m + 1) = y := ⟨_, rfl⟩
      obtain ⟨bf, hbf⟩ : ∃ bf, f m = bf := ⟨_, rfl⟩
      obtain ⟨Kz, hKz⟩ : ∃ K, ((m : Int) + 1) * 10000 = K := ⟨_, rfl⟩
      have hyb := hD'.out.bd (m + 1) (by omega)
      have hya := hD'.out.at_ (m + 1) (by omega) (by omega)
      have hyl := hD'.out.le m hlm
      rw [hye] at hyb hya hyl
      rw [hbf] at hyl
      have hbox2 := hbox.out
      rw [hbf] at hbox2
      have hle : ¬ bf < y := by omega
      have hrs : Hid ((List.range (m + 1)).map (fun j => f (j + 1)) = (List.range m).map (fun j => f (j + 1)) ++ [y]) := Lib.hid (by rw [List.range_succ, List.map_append]; simp [hye])
      have hwk : IntKind.i64.wrap (((m : Int) + 1) * 10000) = Kz := by rw [hKz]; exact IntWalk.i64_in _ (by omega)
      have hKb : -9223372036854775808 ≤ Kz ∧ Kz ≤ 9223372036854775807 := by omega
      have CLrg : ∀ (w' : World) (v' : Value), Tab w' → ArgsC w' v' [(colA l vA vc), numA Kz] → Calls Tryz.prog 27 #[.string ⟨#[76, 65, 82, 71, 69]⟩, v', .int .i64 0] w' fun e w'' => e = .returned (.agg #[.int .i64 1, .int .i64 y, .string ⟨#[]⟩, .bool false, .int .i64 0]) ∧ Below w'.heap.size w' w'' := fun w' v' h1 h2 => kcol_LARGE (k := m + 1) h0'.out h60 (by omega) hya (by omega) h1 (by rw [show (((m + 1 : Nat) : Int) * 10000) = Kz by rw [← hKz]; push_cast; rfl]; exact h2)
      have hye' := Lib.hid hye
      have hwi : IntKind.i64.wrap ((m : Int) + 1 + 1) = (m : Int) + 1 + 1 := IntWalk.i64_in _ (by omega)
      have hml : (m : Int) + 1 ≤ (l.length : Int) := by omega
      have hbox2' := Lib.hid hbox2
      clear hye hbf hKz hya hyl hbox2 hyb hbox
      go_upto_region 19 with (fail)
      go_cut [11] from 87 to 137 (fun p wc => ∃ P, p = .pointer (some ⟨P, 0, none⟩) ∧ wr.heap.size ≤ P ∧ wc.heap[P]? = some (.cells #[.int .i64 1, .int .i64 y, .string ⟨#[]⟩, .bool false, .int .i64 0] 26 (0, 0)) ∧ Below wr.heap.size wr wc)
      case first =>
        refine wp_region_noPanic ?_
        refine wp_region_held_drew (S := fun w' => w'.cell? ⟨ub, 0, none⟩ = some (.bool true) ∧ w'.cell? ⟨ub, 1, none⟩ = some (.int .i64 0) ∧ w'.cell? ⟨ub, 2, none⟩ = some (.int .i64 0) ∧ w'.cell? ⟨ub, 3, none⟩ = some (.string ⟨#[]⟩) ∧ w'.cell? ⟨ub, 4, none⟩ = some (.bool false) ∧ w'.cell? ⟨ub, 5, none⟩ = some (.int .i64 0) ∧ w'.cell? ⟨ub, 6, none⟩ = some (.int .i64 1) ∧ w'.cell? ⟨ub, 7, none⟩ = some (.int .i64 1) ∧ w'.cell? ⟨ub, 8, none⟩ = some (.int .i64 (max 1 (l.length : Int))) ∧ w'.cell? ⟨ub, 9, none⟩ = some (.int .i64 1) ∧ w'.cell? ⟨ub, 10, none⟩ = some (.slice vA l.length vc) ∧ Below wr.heap.size wr w' ∧ wr.heap.size ≤ w'.heap.size) (by kernel_rfl) (by (try dsimp only); refine ⟨?_, ?_, ?_, ?_, ?_, ?_, ?_, ?_, ?_, ?_, ?_, ?_, ?_⟩ <;> first | assumption | exact Below.drew (Below.refl _ _) | exact Nat.le_refl _) (fun hHeld => ?_)
        generalize wr.drew = wz at *
        refine wpAnyH_take (i := 0) (oi := ⟨_, _, _, _, _, _⟩) (v := ?vtk1) rfl (by kernel_rfl) (by kernel_rfl) (by kernel_rfl) (fun _ _ _ h => h) (Or.inl ⟨by rfl, ?hytk1⟩) hHeld ?resttk1
        case hytk1 => (intro w2 hSw; (try dsimp only at hSw); go_split_ands; go_simp; first | done | with_reducible rfl)
        try simp only [Act.put, List.setIfInBounds_toArray, List.set_cons_zero, List.set_cons_succ]
        refine wpAnyH_take (i := 1) (oi := ⟨_, _, _, _, _, _⟩) (v := ?vtk2) rfl (by kernel_rfl) (by kernel_rfl) (by kernel_rfl) (fun _ _ _ h => h) (Or.inl ⟨by rfl, ?hytk2⟩) hHeld ?resttk2
        case hytk2 => (intro w2 hSw; (try dsimp only at hSw); go_split_ands; go_simp; first | done | with_reducible rfl)
        try simp only [Act.put, List.setIfInBounds_toArray, List.set_cons_zero, List.set_cons_succ]
        refine wpAnyH_take (i := 2) (oi := ⟨_, _, _, _, _, _⟩) (v := ?vtk3) rfl (by kernel_rfl) (by kernel_rfl) (by kernel_rfl) (fun _ _ _ h => h) (Or.inl ⟨by rfl, ?hytk3⟩) hHeld ?resttk3
        case hytk3 => (intro w2 hSw; (try dsimp only at hSw); go_split_ands; go_simp; first | done | with_reducible rfl)
        try simp only [Act.put, List.setIfInBounds_toArray, List.set_cons_zero, List.set_cons_succ]
        refine wpAnyH_take (i := 3) (oi := ⟨_, _, _, _, _, _⟩) (v := ?vtk4) rfl (by kernel_rfl) (by kernel_rfl) (by kernel_rfl) (fun _ _ _ h => h) (Or.inl ⟨by rfl, ?hytk4⟩) hHeld ?resttk4
        case hytk4 => (intro w2 hSw; (try dsimp only at hSw); go_split_ands; go_simp; first | done | with_reducible rfl)
        try simp only [Act.put, List.setIfInBounds_toArray, List.set_cons_zero, List.set_cons_succ]
        refine wpAnyH_take (i := 4) (oi := ⟨_, _, _, _, _, _⟩) (v := ?vtk5) rfl (by kernel_rfl) (by kernel_rfl) (by kernel_rfl) (fun _ _ _ h => h) (Or.inl ⟨by rfl, ?hytk5⟩) hHeld ?resttk5
        case hytk5 => (intro w2 hSw; (try dsimp only at hSw); go_split_ands; go_simp; first | done | with_reducible rfl)
        try simp only [Act.put, List.setIfInBounds_toArray, List.set_cons_zero, List.set_cons_succ]
        refine wpAnyH_ready (rs := [5, 9]) (by kernel_rfl) (by simp) ?_
        refine AllReadyH.cons (o := ⟨_, _, _, _, _, _⟩) rfl (fun K hK => ?_) (AllReadyH.cons (o := ⟨_, _, _, _, _, _⟩) rfl (fun K hK => ?_) AllReadyH.nil)
        · go_split_ands
          go_simp
          have hBq : Below wr.heap.size wr wz := by assumption
          have hZq : wr.heap.size ≤ wz.heap.size := by assumption
          refine (lnumber_any _ _).mono ?_
          rintro e wn6 ⟨rfl, hb⟩
          refine hK.out _ _ ?_ (fun hHeld => ?_)
          · ((try dsimp only); refine ⟨?_, ?_, ?_, ?_, ?_, ?_, ?_, ?_, ?_, ?_, ?_, ?_, ?_⟩ <;> first | (rw [hb.cell (by dsimp only; omega)]; assumption) | exact Below.trans (by assumption) (hb.mono (by omega)) | (have := hb.size; omega))
          clear hK K hb hBq hZq
          try simp only [Act.put, List.setIfInBounds_toArray, List.set_cons_zero, List.set_cons_succ]
          refine wpAnyH_ready (rs := [6, 9]) (by kernel_rfl) (by simp) ?_
          refine AllReadyH.cons (o := ⟨_, _, _, _, _, _⟩) rfl (fun K hK => ?_) (AllReadyH.cons (o := ⟨_, _, _, _, _, _⟩) rfl (fun K hK => ?_) AllReadyH.nil)
          · go_split_ands
            go_simp
            have hBq : Below wr.heap.size wr wn6 := by assumption
            have hZq : wr.heap.size ≤ wn6.heap.size := by assumption
            refine (lsingle_any _ _ _ _ _ _).mono ?_
            rintro e wn7 ⟨rfl, hb⟩
            refine hK.out _ _ ?_ (fun hHeld => ?_)
            · ((try dsimp only); refine ⟨?_, ?_, ?_, ?_, ?_, ?_, ?_, ?_, ?_, ?_, ?_, ?_, ?_⟩ <;> first | (rw [hb.cell (by dsimp only; omega)]; assumption) | exact Below.trans (by assumption) (hb.mono (by omega)) | (have := hb.size; omega))
            clear hK K hb hBq hZq
            try simp only [Act.put, List.setIfInBounds_toArray, List.set_cons_zero, List.set_cons_succ]
            refine wpAnyH_ready (rs := [7, 9]) (by kernel_rfl) (by simp) ?_
            refine AllReadyH.cons (o := ⟨_, _, _, _, _, _⟩) rfl (fun K hK => ?_) (AllReadyH.cons (o := ⟨_, _, _, _, _, _⟩) rfl (fun K hK => ?_) AllReadyH.nil)
            · go_split_ands
              go_simp
              have hBq : Below wr.heap.size wr wn7 := by assumption
              have hZq : wr.heap.size ≤ wn7.heap.size := by assumption
              have hq9 : Below wr.heap.size wr (wn7.alloc (.cells #[.bool true, .int .i64 0, .int .i64 0, .string ⟨#[]⟩, .bool false, .int .i64 0, .int .i64 1, .int .i64 1, .int .i64 (max 1 (l.length : Int)), .int .i64 1, .slice vA l.length vc, .bool false, .int .i64 1, .int .i64 Kz, .string ⟨#[]⟩, .bool false, .int .i64 0, .int .i64 0, .int .i64 0, .int .i64 0, .int .i64 0, .slice none 0 0] 38)) := hBq.alloc hZq _
              have hAr : Hid (ArgsC (wn7.alloc (.cells #[.bool true, .int .i64 0, .int .i64 0, .string ⟨#[]⟩, .bool false, .int .i64 0, .int .i64 1, .int .i64 1, .int .i64 (max 1 (l.length : Int)), .int .i64 1, .slice vA l.length vc, .bool false, .int .i64 1, .int .i64 Kz, .string ⟨#[]⟩, .bool false, .int .i64 0, .int .i64 0, .int .i64 0, .int .i64 0, .int .i64 0, .slice none 0 0] 38)) (.slice (some ⟨wn7.heap.size, 0, none⟩) 2 2) [(colA l vA vc), numA Kz]) := Lib.hid (args_ofp [(colA l vA vc), numA Kz] (by simp [AL.cs, colA, numA, colE_len, v0]) 2 rfl (fun x hx => by simp at hx; rcases hx with rfl | rfl; exact (hxr.out.below hq9).mono hq9.size; exact numA_in _ _ Kz (by omega)) (Nat.le_refl _))
              refine hK.out _ _ ?_ (fun hHeld => ?_)
              · ((try dsimp only); refine ⟨?_, ?_, ?_, ?_, ?_, ?_, ?_, ?_, ?_, ?_, ?_, ?_, ?_⟩ <;> first | exact bx_cellp (by dsimp only; omega) (by assumption) | exact Below.alloc (by assumption) (by omega) _ | (simp; omega))
              clear hK K hBq hZq hq9
              try simp only [Act.put, List.setIfInBounds_toArray, List.set_cons_zero, List.set_cons_succ]
              generalize wn7.alloc (.cells #[.bool true, .int .i64 0, .int .i64 0, .string ⟨#[]⟩, .bool false, .int .i64 0, .int .i64 1, .int .i64 1, .int .i64 (max 1 (l.length : Int)), .int .i64 1, .slice vA l.length vc, .bool false, .int .i64 1, .int .i64 Kz, .string ⟨#[]⟩, .bool false, .int .i64 0, .int .i64 0, .int .i64 0, .int .i64 0, .int .i64 0, .slice none 0 0] 38) = wn8 at *
              refine wpAnyH_ready (rs := [8, 9]) (by kernel_rfl) (by simp) ?_
              refine AllReadyH.cons (o := ⟨_, _, _, _, _, _⟩) rfl (fun K hK => ?_) (AllReadyH.cons (o := ⟨_, _, _, _, _, _⟩) rfl (fun K hK => ?_) AllReadyH.nil)
              · go_split_ands
                go_simp
                have hBq : Below wr.heap.size wr wn8 := by assumption
                have hZq : wr.heap.size ≤ wn8.heap.size := by assumption
                refine (CLrg _ _ (Tab.below htr.out hBq) hAr.out).mono ?_
                rintro e wn9 ⟨rfl, hb⟩
                refine hK.out _ _ ?_ (fun hHeld => ?_)
                · ((try dsimp only); refine ⟨?_, ?_, ?_, ?_, ?_, ?_, ?_, ?_, ?_, ?_, ?_, ?_, ?_⟩ <;> first | (rw [hb.cell (by dsimp only; omega)]; assumption) | exact Below.trans (by assumption) (hb.mono (by omega)) | (have := hb.size; omega))
                clear hK K hb hBq hZq
                try simp only [Act.put, List.setIfInBounds_toArray, List.set_cons_zero, List.set_cons_succ]
                refine wpAnyH_ready (rs := [9]) (by kernel_rfl) (by simp) ?_
                refine AllReadyH.cons (o := ⟨_, _, _, _, _, _⟩) rfl (fun K hK => ?_) AllReadyH.nil
                go_split_ands
                go_simp
                have hBq : Below wr.heap.size wr wn9 := by assumption
                have hZq : wr.heap.size ≤ wn9.heap.size := by assumption
                have hP := blk_new wn9 #[.int .i64 0, .int .i64 0, .string ⟨#[]⟩, .bool false, .int .i64 0] 26
                have hb9 : Below wn9.heap.size wn9 (wn9.alloc (.cells #[.int .i64 0, .int .i64 0, .string ⟨#[]⟩, .bool false, .int .i64 0] 26)) := (Below.refl _ _).alloc (Nat.le_refl _) _
                have hPz : wn9.heap.size < (wn9.alloc (.cells #[.int .i64 0, .int .i64 0, .string ⟨#[]⟩, .bool false, .int .i64 0] 26)).heap.size := by simp
                refine hK.out _ _ ?_ (fun hHeld => ?_)
                · ((try dsimp only); refine ⟨?_, ?_, ?_, ?_, ?_, ?_, ?_, ?_, ?_, ?_, ?_, ?_, ?_⟩ <;> first | exact bx_cellp (by dsimp only; omega) (by assumption) | exact Below.alloc (by assumption) (by omega) _ | (simp; omega))
                clear hK K hb9
                try simp only [Act.put, List.setIfInBounds_toArray, List.set_cons_zero, List.set_cons_succ]
                generalize wn9.alloc (.cells #[.int .i64 0, .int .i64 0, .string ⟨#[]⟩, .bool false, .int .i64 0] 26) = wn10 at *
                obtain ⟨P, hPe⟩ : ∃ P, wn9.heap.size = P := ⟨_, rfl⟩
                rw [hPe] at hP hPz ⊢
                have hPl : wr.heap.size ≤ P := by omega
                clear hBq hZq hPe
                refine wpAnyH_ready (rs := [10]) (by kernel_rfl) (by simp) ?_
                refine AllReadyH.cons (o := ⟨_, _, _, _, _, _⟩) rfl (fun K hK => ?_) AllReadyH.nil
                go_split_ands
                have hcl0 : wn10.cell? ⟨P, 0, none⟩ = some (.int .i64 0) := blk_cell hP 0
                have hcl1 : wn10.cell? ⟨P, 1, none⟩ = some (.int .i64 0) := blk_cell hP 1
                have hcl2 : wn10.cell? ⟨P, 2, none⟩ = some (.string ⟨#[]⟩) := blk_cell hP 2
                have hcl3 : wn10.cell? ⟨P, 3, none⟩ = some (.bool false) := blk_cell hP 3
                have hcl4 : wn10.cell? ⟨P, 4, none⟩ = some (.int .i64 0) := blk_cell hP 4
                have hfz0 : wn10.frozen? ⟨P, 0, none⟩ = false := blk_frozen hP 0
                have hfz1 : wn10.frozen? ⟨P, 1, none⟩ = false := blk_frozen hP 1
                have hfz2 : wn10.frozen? ⟨P, 2, none⟩ = false := blk_frozen hP 2
                have hfz3 : wn10.frozen? ⟨P, 3, none⟩ = false := blk_frozen hP 3
                have hfz4 : wn10.frozen? ⟨P, 4, none⟩ = false := blk_frozen hP 4
                go_simp
                have hBq : Below wr.heap.size wr wn10 := by assumption
                have hZq : wr.heap.size ≤ wn10.heap.size := by assumption
                have hPb := (Array.getElem?_eq_some_iff.1 hP).1
                have hPne : ub ≠ P := by omega
                have hPne2 : P ≠ ub := by omega
                refine hK.out _ _ ?_ (fun hHeld => ?_)
                · (refine ⟨?_, ?_, ?_, ?_, ?_, ?_, ?_, ?_, ?_, ?_, ?_, ?_, ?_⟩ <;> first | exact cell_sc5 hPne2 (by assumption) | exact (((((hBq.setCell (p := ⟨P, 0, none⟩) hPl _).setCell (p := ⟨P, 1, none⟩) hPl _).setCell (p := ⟨P, 2, none⟩) hPl _).setCell (p := ⟨P, 3, none⟩) hPl _).setCell (p := ⟨P, 4, none⟩) hPl _) | exact size_sc5 hZq)
                clear hK K
                refine wpAnyH_done (by kernel_rfl) ?_ _
                refine NoPanic.normal ?_
                go_wp2
                go_meet
                case rel =>
                  exact ⟨P, rfl, hPl, (row_set (row_set (row_set (row_set (row_set hP))))), (((((hBq.setCell (p := ⟨P, 0, none⟩) hPl _).setCell (p := ⟨P, 1, none⟩) hPl _).setCell (p := ⟨P, 2, none⟩) hPl _).setCell (p := ⟨P, 3, none⟩) hPl _).setCell (p := ⟨P, 4, none⟩) hPl _)⟩
              · go_split_ands
                go_simp
                have hBq : Below wr.heap.size wr wn8 := by assumption
                have hZq : wr.heap.size ≤ wn8.heap.size := by assumption
                have hP := blk_new wn8 #[.int .i64 0, .int .i64 0, .string ⟨#[]⟩, .bool false, .int .i64 0] 26
                have hb9 : Below wn8.heap.size wn8 (wn8.alloc (.cells #[.int .i64 0, .int .i64 0, .string ⟨#[]⟩, .bool false, .int .i64 0] 26)) := (Below.refl _ _).alloc (Nat.le_refl _) _
                have hPz : wn8.heap.size < (wn8.alloc (.cells #[.int .i64 0, .int .i64 0, .string ⟨#[]⟩, .bool false, .int .i64 0] 26)).heap.size := by simp
                have hAr := Lib.hid (hAr.out.below hb9)
                refine hK.out _ _ ?_ (fun hHeld => ?_)
                · ((try dsimp only); refine ⟨?_, ?_, ?_, ?_, ?_, ?_, ?_, ?_, ?_, ?_, ?_, ?_, ?_⟩ <;> first | exact bx_cellp (by dsimp only; omega) (by assumption) | exact Below.alloc (by assumption) (by omega) _ | (simp; omega))
                clear hK K hb9
                try simp only [Act.put, List.setIfInBounds_toArray, List.set_cons_zero, List.set_cons_succ]
                generalize wn8.alloc (.cells #[.int .i64 0, .int .i64 0, .string ⟨#[]⟩, .bool false, .int .i64 0] 26) = wn11 at *
                obtain ⟨P, hPe⟩ : ∃ P, wn8.heap.size = P := ⟨_, rfl⟩
                rw [hPe] at hP hPz ⊢
                have hPl : wr.heap.size ≤ P := by omega
                clear hBq hZq hPe
                refine wpAnyH_ready (rs := [8]) (by kernel_rfl) (by simp) ?_
                refine AllReadyH.cons (o := ⟨_, _, _, _, _, _⟩) rfl (fun K hK => ?_) AllReadyH.nil
                go_split_ands
                go_simp
                have hBq : Below wr.heap.size wr wn11 := by assumption
                have hZq : wr.heap.size ≤ wn11.heap.size := by assumption
                refine (CLrg _ _ (Tab.below htr.out hBq) hAr.out).mono ?_
                rintro e wn12 ⟨rfl, hb⟩
                have hP := blk_below hP hb (Array.getElem?_eq_some_iff.1 hP).1
                refine hK.out _ _ ?_ (fun hHeld => ?_)
                · ((try dsimp only); refine ⟨?_, ?_, ?_, ?_, ?_, ?_, ?_, ?_, ?_, ?_, ?_, ?_, ?_⟩ <;> first | (rw [hb.cell (by dsimp only; omega)]; assumption) | exact Below.trans (by assumption) (hb.mono (by omega)) | (have := hb.size; omega))
                clear hK K hb hBq hZq
                try simp only [Act.put, List.setIfInBounds_toArray, List.set_cons_zero, List.set_cons_succ]
                refine wpAnyH_ready (rs := [10]) (by kernel_rfl) (by simp) ?_
                refine AllReadyH.cons (o := ⟨_, _, _, _, _, _⟩) rfl (fun K hK => ?_) AllReadyH.nil
                go_split_ands
                have hcl0 : wn12.cell? ⟨P, 0, none⟩ = some (.int .i64 0) := blk_cell hP 0
                have hcl1 : wn12.cell? ⟨P, 1, none⟩ = some (.int .i64 0) := blk_cell hP 1
                have hcl2 : wn12.cell? ⟨P, 2, none⟩ = some (.string ⟨#[]⟩) := blk_cell hP 2
                have hcl3 : wn12.cell? ⟨P, 3, none⟩ = some (.bool false) := blk_cell hP 3
                have hcl4 : wn12.cell? ⟨P, 4, none⟩ = some (.int .i64 0) := blk_cell hP 4
                have hfz0 : wn12.frozen? ⟨P, 0, none⟩ = false := blk_frozen hP 0
                have hfz1 : wn12.frozen? ⟨P, 1, none⟩ = false := blk_frozen hP 1
                have hfz2 : wn12.frozen? ⟨P, 2, none⟩ = false := blk_frozen hP 2
                have hfz3 : wn12.frozen? ⟨P, 3, none⟩ = false := blk_frozen hP 3
                have hfz4 : wn12.frozen? ⟨P, 4, none⟩ = false := blk_frozen hP 4
                go_simp
                have hBq : Below wr.heap.size wr wn12 := by assumption
                have hZq : wr.heap.size ≤ wn12.heap.size := by assumption
                have hPb := (Array.getElem?_eq_some_iff.1 hP).1
                have hPne : ub ≠ P := by omega
                have hPne2 : P ≠ ub := by omega
                refine hK.out _ _ ?_ (fun hHeld => ?_)
                · (refine ⟨?_, ?_, ?_, ?_, ?_, ?_, ?_, ?_, ?_, ?_, ?_, ?_, ?_⟩ <;> first | exact cell_sc5 hPne2 (by assumption) | exact (((((hBq.setCell (p := ⟨P, 0, none⟩) hPl _).setCell (p := ⟨P, 1, none⟩) hPl _).setCell (p := ⟨P, 2, none⟩) hPl _).setCell (p := ⟨P, 3, none⟩) hPl _).setCell (p := ⟨P, 4, none⟩) hPl _) | exact size_sc5 hZq)
                clear hK K
                refine wpAnyH_done (by kernel_rfl) ?_ _
                refine NoPanic.normal ?_
                go_wp2
                go_meet
                case rel =>
                  exact ⟨P, rfl, hPl, (row_set (row_set (row_set (row_set (row_set hP))))), (((((hBq.setCell (p := ⟨P, 0, none⟩) hPl _).setCell (p := ⟨P, 1, none⟩) hPl _).setCell (p := ⟨P, 2, none⟩) hPl _).setCell (p := ⟨P, 3, none⟩) hPl _).setCell (p := ⟨P, 4, none⟩) hPl _)⟩
            · go_split_ands
              go_simp
              have hBq : Below wr.heap.size wr wn7 := by assumption
              have hZq : wr.heap.size ≤ wn7.heap.size := by assumption
              have hP := blk_new wn7 #[.int .i64 0, .int .i64 0, .string ⟨#[]⟩, .bool false, .int .i64 0] 26
              have hb9 : Below wn7.heap.size wn7 (wn7.alloc (.cells #[.int .i64 0, .int .i64 0, .string ⟨#[]⟩, .bool false, .int .i64 0] 26)) := (Below.refl _ _).alloc (Nat.le_refl _) _
              have hPz : wn7.heap.size < (wn7.alloc (.cells #[.int .i64 0, .int .i64 0, .string ⟨#[]⟩, .bool false, .int .i64 0] 26)).heap.size := by simp
              refine hK.out _ _ ?_ (fun hHeld => ?_)
              · ((try dsimp only); refine ⟨?_, ?_, ?_, ?_, ?_, ?_, ?_, ?_, ?_, ?_, ?_, ?_, ?_⟩ <;> first | exact bx_cellp (by dsimp only; omega) (by assumption) | exact Below.alloc (by assumption) (by omega) _ | (simp; omega))
              clear hK K hb9
              try simp only [Act.put, List.setIfInBounds_toArray, List.set_cons_zero, List.set_cons_succ]
              generalize wn7.alloc (.cells #[.int .i64 0, .int .i64 0, .string ⟨#[]⟩, .bool false, .int .i64 0] 26) = wn13 at *
              obtain ⟨P, hPe⟩ : ∃ P, wn7.heap.size = P := ⟨_, rfl⟩
              rw [hPe] at hP hPz ⊢
              have hPl : wr.heap.size ≤ P := by omega
              clear hBq hZq hPe
              refine wpAnyH_ready (rs := [7]) (by kernel_rfl) (by simp) ?_
              refine AllReadyH.cons (o := ⟨_, _, _, _, _, _⟩) rfl (fun K hK => ?_) AllReadyH.nil
              go_split_ands
              go_simp
              have hBq : Below wr.heap.size wr wn13 := by assumption
              have hZq : wr.heap.size ≤ wn13.heap.size := by assumption
              have hq9 : Below wr.heap.size wr (wn13.alloc (.cells #[.bool true, .int .i64 0, .int .i64 0, .string ⟨#[]⟩, .bool false, .int .i64 0, .int .i64 1, .int .i64 1, .int .i64 (max 1 (l.length : Int)), .int .i64 1, .slice vA l.length vc, .bool false, .int .i64 1, .int .i64 Kz, .string ⟨#[]⟩, .bool false, .int .i64 0, .int .i64 0, .int .i64 0, .int .i64 0, .int .i64 0, .slice none 0 0] 38)) := hBq.alloc hZq _
              have hAr : Hid (ArgsC (wn13.alloc (.cells #[.bool true, .int .i64 0, .int .i64 0, .string ⟨#[]⟩, .bool false, .int .i64 0, .int .i64 1, .int .i64 1, .int .i64 (max 1 (l.length : Int)), .int .i64 1, .slice vA l.length vc, .bool false, .int .i64 1, .int .i64 Kz, .string ⟨#[]⟩, .bool false, .int .i64 0, .int .i64 0, .int .i64 0, .int .i64 0, .int .i64 0, .slice none 0 0] 38)) (.slice (some ⟨wn13.heap.size, 0, none⟩) 2 2) [(colA l vA vc), numA Kz]) := Lib.hid (args_ofp [(colA l vA vc), numA Kz] (by simp [AL.cs, colA, numA, colE_len, v0]) 2 rfl (fun x hx => by simp at hx; rcases hx with rfl | rfl; exact (hxr.out.below hq9).mono hq9.size; exact numA_in _ _ Kz (by omega)) (Nat.le_refl _))
              have hP := blk_alloc hP (.cells #[.bool true, .int .i64 0, .int .i64 0, .string ⟨#[]⟩, .bool false, .int .i64 0, .int .i64 1, .int .i64 1, .int .i64 (max 1 (l.length : Int)), .int .i64 1, .slice vA l.length vc, .bool false, .int .i64 1, .int .i64 Kz, .string ⟨#[]⟩, .bool false, .int .i64 0, .int .i64 0, .int .i64 0, .int .i64 0, .int .i64 0, .slice none 0 0] 38)
              refine hK.out _ _ ?_ (fun hHeld => ?_)
              · ((try dsimp only); refine ⟨?_, ?_, ?_, ?_, ?_, ?_, ?_, ?_, ?_, ?_, ?_, ?_, ?_⟩ <;> first | exact bx_cellp (by dsimp only; omega) (by assumption) | exact Below.alloc (by assumption) (by omega) _ | (simp; omega))
              clear hK K hBq hZq hq9
              try simp only [Act.put, List.setIfInBounds_toArray, List.set_cons_zero, List.set_cons_succ]
              generalize wn13.alloc (.cells #[.bool true, .int .i64 0, .int .i64 0, .string ⟨#[]⟩, .bool false, .int .i64 0, .int .i64 1, .int .i64 1, .int .i64 (max 1 (l.length : Int)), .int .i64 1, .slice vA l.length vc, .bool false, .int .i64 1, .int .i64 Kz, .string ⟨#[]⟩, .bool false, .int .i64 0, .int .i64 0, .int .i64 0, .int .i64 0, .int .i64 0, .slice none 0 0] 38) = wn14 at *
              refine wpAnyH_ready (rs := [8]) (by kernel_rfl) (by simp) ?_
              refine AllReadyH.cons (o := ⟨_, _, _, _, _, _⟩) rfl (fun K hK => ?_) AllReadyH.nil
              go_split_ands
              go_simp
              have hBq : Below wr.heap.size wr wn14 := by assumption
              have hZq : wr.heap.size ≤ wn14.heap.size := by assumption
              refine (CLrg _ _ (Tab.below htr.out hBq) hAr.out).mono ?_
              rintro e wn15 ⟨rfl, hb⟩
              have hP := blk_below hP hb (Array.getElem?_eq_some_iff.1 hP).1
              refine hK.out _ _ ?_ (fun hHeld => ?_)
              · ((try dsimp only); refine ⟨?_, ?_, ?_, ?_, ?_, ?_, ?_, ?_, ?_, ?_, ?_, ?_, ?_⟩ <;> first | (rw [hb.cell (by dsimp only; omega)]; assumption) | exact Below.trans (by assumption) (hb.mono (by omega)) | (have := hb.size; omega))
              clear hK K hb hBq hZq
              try simp only [Act.put, List.setIfInBounds_toArray, List.set_cons_zero, List.set_cons_succ]
              refine wpAnyH_ready (rs := [10]) (by kernel_rfl) (by simp) ?_
              refine AllReadyH.cons (o := ⟨_, _, _, _, _, _⟩) rfl (fun K hK => ?_) AllReadyH.nil
              go_split_ands
              have hcl0 : wn15.cell? ⟨P, 0, none⟩ = some (.int .i64 0) := blk_cell hP 0
              have hcl1 : wn15.cell? ⟨P, 1, none⟩ = some (.int .i64 0) := blk_cell hP 1
              have hcl2 : wn15.cell? ⟨P, 2, none⟩ = some (.string ⟨#[]⟩) := blk_cell hP 2
              have hcl3 : wn15.cell? ⟨P, 3, none⟩ = some (.bool false) := blk_cell hP 3
              have hcl4 : wn15.cell? ⟨P, 4, none⟩ = some (.int .i64 0) := blk_cell hP 4
              have hfz0 : wn15.frozen? ⟨P, 0, none⟩ = false := blk_frozen hP 0
              have hfz1 : wn15.frozen? ⟨P, 1, none⟩ = false := blk_frozen hP 1
              have hfz2 : wn15.frozen? ⟨P, 2, none⟩ = false := blk_frozen hP 2
              have hfz3 : wn15.frozen? ⟨P, 3, none⟩ = false := blk_frozen hP 3
              have hfz4 : wn15.frozen? ⟨P, 4, none⟩ = false := blk_frozen hP 4
              go_simp
              have hBq : Below wr.heap.size wr wn15 := by assumption
              have hZq : wr.heap.size ≤ wn15.heap.size := by assumption
              have hPb := (Array.getElem?_eq_some_iff.1 hP).1
              have hPne : ub ≠ P := by omega
              have hPne2 : P ≠ ub := by omega
              refine hK.out _ _ ?_ (fun hHeld => ?_)
              · (refine ⟨?_, ?_, ?_, ?_, ?_, ?_, ?_, ?_, ?_, ?_, ?_, ?_, ?_⟩ <;> first | exact cell_sc5 hPne2 (by assumption) | exact (((((hBq.setCell (p := ⟨P, 0, none⟩) hPl _).setCell (p := ⟨P, 1, none⟩) hPl _).setCell (p := ⟨P, 2, none⟩) hPl _).setCell (p := ⟨P, 3, none⟩) hPl _).setCell (p := ⟨P, 4, none⟩) hPl _) | exact size_sc5 hZq)
              clear hK K
              refine wpAnyH_done (by kernel_rfl) ?_ _
              refine NoPanic.normal ?_
              go_wp2
              go_meet
              case rel =>
                exact ⟨P, rfl, hPl, (row_set (row_set (row_set (row_set (row_set hP))))), (((((hBq.setCell (p := ⟨P, 0, none⟩) hPl _).setCell (p := ⟨P, 1, none⟩) hPl _).setCell (p := ⟨P, 2, none⟩) hPl _).setCell (p := ⟨P, 3, none⟩) hPl _).setCell (p := ⟨P, 4, none⟩) hPl _)⟩
          · go_split_ands
            go_simp
            have hBq : Below wr.heap.size wr wn6 := by assumption
            have hZq : wr.heap.size ≤ wn6.heap.size := by assumption
            have hP := blk_new wn6 #[.int .i64 0, .int .i64 0, .string ⟨#[]⟩, .bool false, .int .i64 0] 26
            have hb9 : Below wn6.heap.size wn6 (wn6.alloc (.cells #[.int .i64 0, .int .i64 0, .string ⟨#[]⟩, .bool false, .int .i64 0] 26)) := (Below.refl _ _).alloc (Nat.le_refl _) _
            have hPz : wn6.heap.size < (wn6.alloc (.cells #[.int .i64 0, .int .i64 0, .string ⟨#[]⟩, .bool false, .int .i64 0] 26)).heap.size := by simp
            refine hK.out _ _ ?_ (fun hHeld => ?_)
            · ((try dsimp only); refine ⟨?_, ?_, ?_, ?_, ?_, ?_, ?_, ?_, ?_, ?_, ?_, ?_, ?_⟩ <;> first | exact bx_cellp (by dsimp only; omega) (by assumption) | exact Below.alloc (by assumption) (by omega) _ | (simp; omega))
            clear hK K hb9
            try simp only [Act.put, List.setIfInBounds_toArray, List.set_cons_zero, List.set_cons_succ]
            generalize wn6.alloc (.cells #[.int .i64 0, .int .i64 0, .string ⟨#[]⟩, .bool false, .int .i64 0] 26) = wn16 at *
            obtain ⟨P, hPe⟩ : ∃ P, wn6.heap.size = P := ⟨_, rfl⟩
            rw [hPe] at hP hPz ⊢
            have hPl : wr.heap.size ≤ P := by omega
            clear hBq hZq hPe
            refine wpAnyH_ready (rs := [6]) (by kernel_rfl) (by simp) ?_
            refine AllReadyH.cons (o := ⟨_, _, _, _, _, _⟩) rfl (fun K hK => ?_) AllReadyH.nil
            go_split_ands
            go_simp
            have hBq : Below wr.heap.size wr wn16 := by assumption
            have hZq : wr.heap.size ≤ wn16.heap.size := by assumption
            refine (lsingle_any _ _ _ _ _ _).mono ?_
            rintro e wn17 ⟨rfl, hb⟩
            have hP := blk_below hP hb (Array.getElem?_eq_some_iff.1 hP).1
            refine hK.out _ _ ?_ (fun hHeld => ?_)
            · ((try dsimp only); refine ⟨?_, ?_, ?_, ?_, ?_, ?_, ?_, ?_, ?_, ?_, ?_, ?_, ?_⟩ <;> first | (rw [hb.cell (by dsimp only; omega)]; assumption) | exact Below.trans (by assumption) (hb.mono (by omega)) | (have := hb.size; omega))
            clear hK K hb hBq hZq
            try simp only [Act.put, List.setIfInBounds_toArray, List.set_cons_zero, List.set_cons_succ]
            refine wpAnyH_ready (rs := [7]) (by kernel_rfl) (by simp) ?_
            refine AllReadyH.cons (o := ⟨_, _, _, _, _, _⟩) rfl (fun K hK => ?_) AllReadyH.nil
            go_split_ands
            go_simp
            have hBq : Below wr.heap.size wr wn17 := by assumption
            have hZq : wr.heap.size ≤ wn17.heap.size := by assumption
            have hq9 : Below wr.heap.size wr (wn17.alloc (.cells #[.bool true, .int .i64 0, .int .i64 0, .string ⟨#[]⟩, .bool false, .int .i64 0, .int .i64 1, .int .i64 1, .int .i64 (max 1 (l.length : Int)), .int .i64 1, .slice vA l.length vc, .bool false, .int .i64 1, .int .i64 Kz, .string ⟨#[]⟩, .bool false, .int .i64 0, .int .i64 0, .int .i64 0, .int .i64 0, .int .i64 0, .slice none 0 0] 38)) := hBq.alloc hZq _
            have hAr : Hid (ArgsC (wn17.alloc (.cells #[.bool true, .int .i64 0, .int .i64 0, .string ⟨#[]⟩, .bool false, .int .i64 0, .int .i64 1, .int .i64 1, .int .i64 (max 1 (l.length : Int)), .int .i64 1, .slice vA l.length vc, .bool false, .int .i64 1, .int .i64 Kz, .string ⟨#[]⟩, .bool false, .int .i64 0, .int .i64 0, .int .i64 0, .int .i64 0, .int .i64 0, .slice none 0 0] 38)) (.slice (some ⟨wn17.heap.size, 0, none⟩) 2 2) [(colA l vA vc), numA Kz]) := Lib.hid (args_ofp [(colA l vA vc), numA Kz] (by simp [AL.cs, colA, numA, colE_len, v0]) 2 rfl (fun x hx => by simp at hx; rcases hx with rfl | rfl; exact (hxr.out.below hq9).mono hq9.size; exact numA_in _ _ Kz (by omega)) (Nat.le_refl _))
            have hP := blk_alloc hP (.cells #[.bool true, .int .i64 0, .int .i64 0, .string ⟨#[]⟩, .bool false, .int .i64 0, .int .i64 1, .int .i64 1, .int .i64 (max 1 (l.length : Int)), .int .i64 1, .slice vA l.length vc, .bool false, .int .i64 1, .int .i64 Kz, .string ⟨#[]⟩, .bool false, .int .i64 0, .int .i64 0, .int .i64 0, .int .i64 0, .int .i64 0, .slice none 0 0] 38)
            refine hK.out _ _ ?_ (fun hHeld => ?_)
            · ((try dsimp only); refine ⟨?_, ?_, ?_, ?_, ?_, ?_, ?_, ?_, ?_, ?_, ?_, ?_, ?_⟩ <;> first | exact bx_cellp (by dsimp only; omega) (by assumption) | exact Below.alloc (by assumption) (by omega) _ | (simp; omega))
            clear hK K hBq hZq hq9
            try simp only [Act.put, List.setIfInBounds_toArray, List.set_cons_zero, List.set_cons_succ]
            generalize wn17.alloc (.cells #[.bool true, .int .i64 0, .int .i64 0, .string ⟨#[]⟩, .bool false, .int .i64 0, .int .i64 1, .int .i64 1, .int .i64 (max 1 (l.length : Int)), .int .i64 1, .slice vA l.length vc, .bool false, .int .i64 1, .int .i64 Kz, .string ⟨#[]⟩, .bool false, .int .i64 0, .int .i64 0, .int .i64 0, .int .i64 0, .int .i64 0, .slice none 0 0] 38) = wn18 at *
            refine wpAnyH_ready (rs := [8]) (by kernel_rfl) (by simp) ?_
            refine AllReadyH.cons (o := ⟨_, _, _, _, _, _⟩) rfl (fun K hK => ?_) AllReadyH.nil
            go_split_ands
            go_simp
            have hBq : Below wr.heap.size wr wn18 := by assumption
            have hZq : wr.heap.size ≤ wn18.heap.size := by assumption
            refine (CLrg _ _ (Tab.below htr.out hBq) hAr.out).mono ?_
            rintro e wn19 ⟨rfl, hb⟩
            have hP := blk_below hP hb (Array.getElem?_eq_some_iff.1 hP).1
            refine hK.out _ _ ?_ (fun hHeld => ?_)
            · ((try dsimp only); refine ⟨?_, ?_, ?_, ?_, ?_, ?_, ?_, ?_, ?_, ?_, ?_, ?_, ?_⟩ <;> first | (rw [hb.cell (by dsimp only; omega)]; assumption) | exact Below.trans (by assumption) (hb.mono (by omega)) | (have := hb.size; omega))
            clear hK K hb hBq hZq
            try simp only [Act.put, List.setIfInBounds_toArray, List.set_cons_zero, List.set_cons_succ]
            refine wpAnyH_ready (rs := [10]) (by kernel_rfl) (by simp) ?_
            refine AllReadyH.cons (o := ⟨_, _, _, _, _, _⟩) rfl (fun K hK => ?_) AllReadyH.nil
            go_split_ands
            have hcl0 : wn19.cell? ⟨P, 0, none⟩ = some (.int .i64 0) := blk_cell hP 0
            have hcl1 : wn19.cell? ⟨P, 1, none⟩ = some (.int .i64 0) := blk_cell hP 1
            have hcl2 : wn19.cell? ⟨P, 2, none⟩ = some (.string ⟨#[]⟩) := blk_cell hP 2
            have hcl3 : wn19.cell? ⟨P, 3, none⟩ = some (.bool false) := blk_cell hP 3
            have hcl4 : wn19.cell? ⟨P, 4, none⟩ = some (.int .i64 0) := blk_cell hP 4
            have hfz0 : wn19.frozen? ⟨P, 0, none⟩ = false := blk_frozen hP 0
            have hfz1 : wn19.frozen? ⟨P, 1, none⟩ = false := blk_frozen hP 1
            have hfz2 : wn19.frozen? ⟨P, 2, none⟩ = false := blk_frozen hP 2
            have hfz3 : wn19.frozen? ⟨P, 3, none⟩ = false := blk_frozen hP 3
            have hfz4 : wn19.frozen? ⟨P, 4, none⟩ = false := blk_frozen hP 4
            go_simp
            have hBq : Below wr.heap.size wr wn19 := by assumption
            have hZq : wr.heap.size ≤ wn19.heap.size := by assumption
            have hPb := (Array.getElem?_eq_some_iff.1 hP).1
            have hPne : ub ≠ P := by omega
            have hPne2 : P ≠ ub := by omega
            refine hK.out _ _ ?_ (fun hHeld => ?_)
            · (refine ⟨?_, ?_, ?_, ?_, ?_, ?_, ?_, ?_, ?_, ?_, ?_, ?_, ?_⟩ <;> first | exact cell_sc5 hPne2 (by assumption) | exact (((((hBq.setCell (p := ⟨P, 0, none⟩) hPl _).setCell (p := ⟨P, 1, none⟩) hPl _).setCell (p := ⟨P, 2, none⟩) hPl _).setCell (p := ⟨P, 3, none⟩) hPl _).setCell (p := ⟨P, 4, none⟩) hPl _) | exact size_sc5 hZq)
            clear hK K
            refine wpAnyH_done (by kernel_rfl) ?_ _
            refine NoPanic.normal ?_
            go_wp2
            go_meet
            case rel =>
              exact ⟨P, rfl, hPl, (row_set (row_set (row_set (row_set (row_set hP))))), (((((hBq.setCell (p := ⟨P, 0, none⟩) hPl _).setCell (p := ⟨P, 1, none⟩) hPl _).setCell (p := ⟨P, 2, none⟩) hPl _).setCell (p := ⟨P, 3, none⟩) hPl _).setCell (p := ⟨P, 4, none⟩) hPl _)⟩
        · go_split_ands
          go_simp
          have hBq : Below wr.heap.size wr wz := by assumption
          have hZq : wr.heap.size ≤ wz.heap.size := by assumption
          have hP := blk_new wz #[.int .i64 0, .int .i64 0, .string ⟨#[]⟩, .bool false, .int .i64 0] 26
          have hb9 : Below wz.heap.size wz (wz.alloc (.cells #[.int .i64 0, .int .i64 0, .string ⟨#[]⟩, .bool false, .int .i64 0] 26)) := (Below.refl _ _).alloc (Nat.le_refl _) _
          have hPz : wz.heap.size < (wz.alloc (.cells #[.int .i64 0, .int .i64 0, .string ⟨#[]⟩, .bool false, .int .i64 0] 26)).heap.size := by simp
          refine hK.out _ _ ?_ (fun hHeld => ?_)
          · ((try dsimp only); refine ⟨?_, ?_, ?_, ?_, ?_, ?_, ?_, ?_, ?_, ?_, ?_, ?_, ?_⟩ <;> first | exact bx_cellp (by dsimp only; omega) (by assumption) | exact Below.alloc (by assumption) (by omega) _ | (simp; omega))
          clear hK K hb9
          try simp only [Act.put, List.setIfInBounds_toArray, List.set_cons_zero, List.set_cons_succ]
          generalize wz.alloc (.cells #[.int .i64 0, .int .i64 0, .string ⟨#[]⟩, .bool false, .int .i64 0] 26) = wn20 at *
          obtain ⟨P, hPe⟩ : ∃ P, wz.heap.size = P := ⟨_, rfl⟩
          rw [hPe] at hP hPz ⊢
          have hPl : wr.heap.size ≤ P := by omega
          clear hBq hZq hPe
          refine wpAnyH_ready (rs := [5]) (by kernel_rfl) (by simp) ?_
          refine AllReadyH.cons (o := ⟨_, _, _, _, _, _⟩) rfl (fun K hK => ?_) AllReadyH.nil
          go_split_ands
          go_simp
          have hBq : Below wr.heap.size wr wn20 := by assumption
          have hZq : wr.heap.size ≤ wn20.heap.size := by assumption
          refine (lnumber_any _ _).mono ?_
          rintro e wn21 ⟨rfl, hb⟩
          have hP := blk_below hP hb (Array.getElem?_eq_some_iff.1 hP).1
          refine hK.out _ _ ?_ (fun hHeld => ?_)
          · ((try dsimp only); refine ⟨?_, ?_, ?_, ?_, ?_, ?_, ?_, ?_, ?_, ?_, ?_, ?_, ?_⟩ <;> first | (rw [hb.cell (by dsimp only; omega)]; assumption) | exact Below.trans (by assumption) (hb.mono (by omega)) | (have := hb.size; omega))
          clear hK K hb hBq hZq
          try simp only [Act.put, List.setIfInBounds_toArray, List.set_cons_zero, List.set_cons_succ]
          refine wpAnyH_ready (rs := [6]) (by kernel_rfl) (by simp) ?_
          refine AllReadyH.cons (o := ⟨_, _, _, _, _, _⟩) rfl (fun K hK => ?_) AllReadyH.nil
          go_split_ands
          go_simp
          have hBq : Below wr.heap.size wr wn21 := by assumption
          have hZq : wr.heap.size ≤ wn21.heap.size := by assumption
          refine (lsingle_any _ _ _ _ _ _).mono ?_
          rintro e wn22 ⟨rfl, hb⟩
          have hP := blk_below hP hb (Array.getElem?_eq_some_iff.1 hP).1
          refine hK.out _ _ ?_ (fun hHeld => ?_)
          · ((try dsimp only); refine ⟨?_, ?_, ?_, ?_, ?_, ?_, ?_, ?_, ?_, ?_, ?_, ?_, ?_⟩ <;> first | (rw [hb.cell (by dsimp only; omega)]; assumption) | exact Below.trans (by assumption) (hb.mono (by omega)) | (have := hb.size; omega))
          clear hK K hb hBq hZq
          try simp only [Act.put, List.setIfInBounds_toArray, List.set_cons_zero, List.set_cons_succ]
          refine wpAnyH_ready (rs := [7]) (by kernel_rfl) (by simp) ?_
          refine AllReadyH.cons (o := ⟨_, _, _, _, _, _⟩) rfl (fun K hK => ?_) AllReadyH.nil
          go_split_ands
          go_simp
          have hBq : Below wr.heap.size wr wn22 := by assumption
          have hZq : wr.heap.size ≤ wn22.heap.size := by assumption
          have hq9 : Below wr.heap.size wr (wn22.alloc (.cells #[.bool true, .int .i64 0, .int .i64 0, .string ⟨#[]⟩, .bool false, .int .i64 0, .int .i64 1, .int .i64 1, .int .i64 (max 1 (l.length : Int)), .int .i64 1, .slice vA l.length vc, .bool false, .int .i64 1, .int .i64 Kz, .string ⟨#[]⟩, .bool false, .int .i64 0, .int .i64 0, .int .i64 0, .int .i64 0, .int .i64 0, .slice none 0 0] 38)) := hBq.alloc hZq _
          have hAr : Hid (ArgsC (wn22.alloc (.cells #[.bool true, .int .i64 0, .int .i64 0, .string ⟨#[]⟩, .bool false, .int .i64 0, .int .i64 1, .int .i64 1, .int .i64 (max 1 (l.length : Int)), .int .i64 1, .slice vA l.length vc, .bool false, .int .i64 1, .int .i64 Kz, .string ⟨#[]⟩, .bool false, .int .i64 0, .int .i64 0, .int .i64 0, .int .i64 0, .int .i64 0, .slice none 0 0] 38)) (.slice (some ⟨wn22.heap.size, 0, none⟩) 2 2) [(colA l vA vc), numA Kz]) := Lib.hid (args_ofp [(colA l vA vc), numA Kz] (by simp [AL.cs, colA, numA, colE_len, v0]) 2 rfl (fun x hx => by simp at hx; rcases hx with rfl | rfl; exact (hxr.out.below hq9).mono hq9.size; exact numA_in _ _ Kz (by omega)) (Nat.le_refl _))
          have hP := blk_alloc hP (.cells #[.bool true, .int .i64 0, .int .i64 0, .string ⟨#[]⟩, .bool false, .int .i64 0, .int .i64 1, .int .i64 1, .int .i64 (max 1 (l.length : Int)), .int .i64 1, .slice vA l.length vc, .bool false, .int .i64 1, .int .i64 Kz, .string ⟨#[]⟩, .bool false, .int .i64 0, .int .i64 0, .int .i64 0, .int .i64 0, .int .i64 0, .slice none 0 0] 38)
          refine hK.out _ _ ?_ (fun hHeld => ?_)
          · ((try dsimp only); refine ⟨?_, ?_, ?_, ?_, ?_, ?_, ?_, ?_, ?_, ?_, ?_, ?_, ?_⟩ <;> first | exact bx_cellp (by dsimp only; omega) (by assumption) | exact Below.alloc (by assumption) (by omega) _ | (simp; omega))
          clear hK K hBq hZq hq9
          try simp only [Act.put, List.setIfInBounds_toArray, List.set_cons_zero, List.set_cons_succ]
          generalize wn22.alloc (.cells #[.bool true, .int .i64 0, .int .i64 0, .string ⟨#[]⟩, .bool false, .int .i64 0, .int .i64 1, .int .i64 1, .int .i64 (max 1 (l.length : Int)), .int .i64 1, .slice vA l.length vc, .bool false, .int .i64 1, .int .i64 Kz, .string ⟨#[]⟩, .bool false, .int .i64 0, .int .i64 0, .int .i64 0, .int .i64 0, .int .i64 0, .slice none 0 0] 38) = wn23 at *
          refine wpAnyH_ready (rs := [8]) (by kernel_rfl) (by simp) ?_
          refine AllReadyH.cons (o := ⟨_, _, _, _, _, _⟩) rfl (fun K hK => ?_) AllReadyH.nil
          go_split_ands
          go_simp
          have hBq : Below wr.heap.size wr wn23 := by assumption
          have hZq : wr.heap.size ≤ wn23.heap.size := by assumption
          refine (CLrg _ _ (Tab.below htr.out hBq) hAr.out).mono ?_
          rintro e wn24 ⟨rfl, hb⟩
          have hP := blk_below hP hb (Array.getElem?_eq_some_iff.1 hP).1
          refine hK.out _ _ ?_ (fun hHeld => ?_)
          · ((try dsimp only); refine ⟨?_, ?_, ?_, ?_, ?_, ?_, ?_, ?_, ?_, ?_, ?_, ?_, ?_⟩ <;> first | (rw [hb.cell (by dsimp only; omega)]; assumption) | exact Below.trans (by assumption) (hb.mono (by omega)) | (have := hb.size; omega))
          clear hK K hb hBq hZq
          try simp only [Act.put, List.setIfInBounds_toArray, List.set_cons_zero, List.set_cons_succ]
          refine wpAnyH_ready (rs := [10]) (by kernel_rfl) (by simp) ?_
          refine AllReadyH.cons (o := ⟨_, _, _, _, _, _⟩) rfl (fun K hK => ?_) AllReadyH.nil
          go_split_ands
          have hcl0 : wn24.cell? ⟨P, 0, none⟩ = some (.int .i64 0) := blk_cell hP 0
          have hcl1 : wn24.cell? ⟨P, 1, none⟩ = some (.int .i64 0) := blk_cell hP 1
          have hcl2 : wn24.cell? ⟨P, 2, none⟩ = some (.string ⟨#[]⟩) := blk_cell hP 2
          have hcl3 : wn24.cell? ⟨P, 3, none⟩ = some (.bool false) := blk_cell hP 3
          have hcl4 : wn24.cell? ⟨P, 4, none⟩ = some (.int .i64 0) := blk_cell hP 4
          have hfz0 : wn24.frozen? ⟨P, 0, none⟩ = false := blk_frozen hP 0
          have hfz1 : wn24.frozen? ⟨P, 1, none⟩ = false := blk_frozen hP 1
          have hfz2 : wn24.frozen? ⟨P, 2, none⟩ = false := blk_frozen hP 2
          have hfz3 : wn24.frozen? ⟨P, 3, none⟩ = false := blk_frozen hP 3
          have hfz4 : wn24.frozen? ⟨P, 4, none⟩ = false := blk_frozen hP 4
          go_simp
          have hBq : Below wr.heap.size wr wn24 := by assumption
          have hZq : wr.heap.size ≤ wn24.heap.size := by assumption
          have hPb := (Array.getElem?_eq_some_iff.1 hP).1
          have hPne : ub ≠ P := by omega
          have hPne2 : P ≠ ub := by omega
          refine hK.out _ _ ?_ (fun hHeld => ?_)
          · (refine ⟨?_, ?_, ?_, ?_, ?_, ?_, ?_, ?_, ?_, ?_, ?_, ?_, ?_⟩ <;> first | exact cell_sc5 hPne2 (by assumption) | exact (((((hBq.setCell (p := ⟨P, 0, none⟩) hPl _).setCell (p := ⟨P, 1, none⟩) hPl _).setCell (p := ⟨P, 2, none⟩) hPl _).setCell (p := ⟨P, 3, none⟩) hPl _).setCell (p := ⟨P, 4, none⟩) hPl _) | exact size_sc5 hZq)
          clear hK K
          refine wpAnyH_done (by kernel_rfl) ?_ _
          refine NoPanic.normal ?_
          go_wp2
          go_meet
          case rel =>
            exact ⟨P, rfl, hPl, (row_set (row_set (row_set (row_set (row_set hP))))), (((((hBq.setCell (p := ⟨P, 0, none⟩) hPl _).setCell (p := ⟨P, 1, none⟩) hPl _).setCell (p := ⟨P, 2, none⟩) hPl _).setCell (p := ⟨P, 3, none⟩) hPl _).setCell (p := ⟨P, 4, none⟩) hPl _)⟩
      case rest =>
        obtain ⟨P, rfl, hPl, hPs, hbw⟩ := hcut
        clear CLrg hxr htr hAr0 wa0 wa1 wa2 wa3 wa4 wa5 wa6 wa7 wa8 wa9 wa10
        have p0 : wc.cell? ⟨P, 0, none⟩ = some (.int .i64 1) := blk_cell hPs 0
        have p1 : wc.cell? ⟨P, 1, none⟩ = some (.int .i64 y) := blk_cell hPs 1
        have p2 : wc.cell? ⟨P, 2, none⟩ = some (.string ⟨#[]⟩) := blk_cell hPs 2
        have p3 : wc.cell? ⟨P, 3, none⟩ = some (.bool false) := blk_cell hPs 3
        have p4 : wc.cell? ⟨P, 4, none⟩ = some (.int .i64 0) := blk_cell hPs 4
        have hboxc : wc.heap[bx]? = some (.cells #[.int .i64 1, .int .i64 bf, .string ⟨#[]⟩, .bool false, .int .i64 0] 26 (0, 0)) := (hbw.block bx hlt).trans hbox2'.out
        have o0 : wc.cell? ⟨bx, 0, none⟩ = some (.int .i64 1) := blk_cell hboxc 0
        have r0 : wc.frozen? ⟨bx, 0, none⟩ = false := blk_frozen hboxc 0
        have o1 : wc.cell? ⟨bx, 1, none⟩ = some (.int .i64 bf) := blk_cell hboxc 1
        have r1 : wc.frozen? ⟨bx, 1, none⟩ = false := blk_frozen hboxc 1
        have o2 : wc.cell? ⟨bx, 2, none⟩ = some (.string ⟨#[]⟩) := blk_cell hboxc 2
        have r2 : wc.frozen? ⟨bx, 2, none⟩ = false := blk_frozen hboxc 2
        have o3 : wc.cell? ⟨bx, 3, none⟩ = some (.bool false) := blk_cell hboxc 3
        have r3 : wc.frozen? ⟨bx, 3, none⟩ = false := blk_frozen hboxc 3
        have o4 : wc.cell? ⟨bx, 4, none⟩ = some (.int .i64 0) := blk_cell hboxc 4
        have r4 : wc.frozen? ⟨bx, 4, none⟩ = false := blk_frozen hboxc 4
        have x1_0 : wc.cell? ⟨b1, 0, none⟩ = some (.int .i64 1) := (hbw.cell (p := ⟨b1, 0, none⟩) hb1r).trans w1_0
        have x1_1 : wc.cell? ⟨b1, 1, none⟩ = some (.int .i64 mn) := (hbw.cell (p := ⟨b1, 1, none⟩) hb1r).trans w1_1
        have x1_2 : wc.cell? ⟨b1, 2, none⟩ = some (.string ⟨#[]⟩) := (hbw.cell (p := ⟨b1, 2, none⟩) hb1r).trans w1_2
        have x1_3 : wc.cell? ⟨b1, 3, none⟩ = some (.bool false) := (hbw.cell (p := ⟨b1, 3, none⟩) hb1r).trans w1_3
        have x1_4 : wc.cell? ⟨b1, 4, none⟩ = some (.int .i64 0) := (hbw.cell (p := ⟨b1, 4, none⟩) hb1r).trans w1_4
        have x2_0 : wc.cell? ⟨b2, 0, none⟩ = some (.int .i64 1) := (hbw.cell (p := ⟨b2, 0, none⟩) hb2r).trans w2_0
        have x2_1 : wc.cell? ⟨b2, 1, none⟩ = some (.int .i64 mx) := (hbw.cell (p := ⟨b2, 1, none⟩) hb2r).trans w2_1
        have x2_2 : wc.cell? ⟨b2, 2, none⟩ = some (.string ⟨#[]⟩) := (hbw.cell (p := ⟨b2, 2, none⟩) hb2r).trans w2_2
        have x2_3 : wc.cell? ⟨b2, 3, none⟩ = some (.bool false) := (hbw.cell (p := ⟨b2, 3, none⟩) hb2r).trans w2_3
        have x2_4 : wc.cell? ⟨b2, 4, none⟩ = some (.int .i64 0) := (hbw.cell (p := ⟨b2, 4, none⟩) hb2r).trans w2_4
        have hownc : wc.ownsRow (bx + 1) 2 1 (.slice A5 m cap5) m (((List.range m).map fun j => f (j + 1)).map (Value.int .i64)) := by
          have h9 := ownsRow_below hown.out hbw
          rw [List.length_map, List.length_range] at h9
          exact h9
        have hbc : Below bx y6 wc := hbr.trans (hbw.mono (by omega))
        have hzc : wr.heap.size ≤ wc.heap.size := hbw.size
        have hPc : P < wc.heap.size := (Array.getElem?_eq_some_iff.1 hPs).1
        have hPx : P ≠ bx := by omega
        have hPx2 : bx ≠ P := by omega
        clear hbw w1_0 w1_1 w1_2 w1_3 w1_4 w2_0 w2_1 w2_2 w2_3 w2_4
        by_cases h1 : m = 0
        · by_cases h2 : m + 1 = l.length
          · have hk1 : (((m : Int) + 1) == 1) = true := by simp; omega
            have hk2 : (((m : Int) + 1) == (l.length : Int)) = true := by simp; omega
            obtain rfl : y = mx := by have h9 := hD'.out.one; rw [show (1 : Nat) = m + 1 by omega, hye'.out] at h9; exact h9
            obtain rfl : y = mn := by have h9 := hD'.out.last; rw [← (show m + 1 = l.length by omega), hye'.out] at h9; exact h9
            have hm60 : m + 1 ≤ 60 := by omega
            have h1' := Lib.hid h1
            have h2' := Lib.hid h2
            clear h1 h2
            have hvy := vEq_self_a 1 y ⟨#[]⟩ false 0
            go_upto_region 23 with (fail)
            have hown9 : (((((wc.setCell ⟨bx, 0, none⟩ (.int .i64 1)).setCell ⟨bx, 1, none⟩ (.int .i64 y)).setCell ⟨bx, 2, none⟩ (.string ⟨#[]⟩)).setCell ⟨bx, 3, none⟩ (.bool false)).setCell ⟨bx, 4, none⟩ (.int .i64 0)).ownsRow (bx + 1) 2 1 (.slice A5 m cap5) m (((List.range m).map fun j => f (j + 1)).map (Value.int .i64)) := own_set (own_set (own_set (own_set (own_set hownc _ _ (Nat.lt_succ_self _)) _ _ (Nat.lt_succ_self _)) _ _ (Nat.lt_succ_self _)) _ _ (Nat.lt_succ_self _)) _ _ (Nat.lt_succ_self _)
            have hbx9 : (((((wc.setCell ⟨bx, 0, none⟩ (.int .i64 1)).setCell ⟨bx, 1, none⟩ (.int .i64 y)).setCell ⟨bx, 2, none⟩ (.string ⟨#[]⟩)).setCell ⟨bx, 3, none⟩ (.bool false)).setCell ⟨bx, 4, none⟩ (.int .i64 0)).heap[bx]? = some (.cells #[.int .i64 1, .int .i64 y, .string ⟨#[]⟩, .bool false, .int .i64 0] 26 (0, 0)) := (row_set (row_set (row_set (row_set (row_set hboxc)))))
            have hB9 : Below bx y6 (((((wc.setCell ⟨bx, 0, none⟩ (.int .i64 1)).setCell ⟨bx, 1, none⟩ (.int .i64 y)).setCell ⟨bx, 2, none⟩ (.string ⟨#[]⟩)).setCell ⟨bx, 3, none⟩ (.bool false)).setCell ⟨bx, 4, none⟩ (.int .i64 0)) := (((((hbc.setCell (p := ⟨bx, 0, none⟩) (Nat.le_refl _) _).setCell (p := ⟨bx, 1, none⟩) (Nat.le_refl _) _).setCell (p := ⟨bx, 2, none⟩) (Nat.le_refl _) _).setCell (p := ⟨bx, 3, none⟩) (Nat.le_refl _) _).setCell (p := ⟨bx, 4, none⟩) (Nat.le_refl _) _)
            have hz9 : bx + 1 ≤ (((((wc.setCell ⟨bx, 0, none⟩ (.int .i64 1)).setCell ⟨bx, 1, none⟩ (.int .i64 y)).setCell ⟨bx, 2, none⟩ (.string ⟨#[]⟩)).setCell ⟨bx, 3, none⟩ (.bool false)).setCell ⟨bx, 4, none⟩ (.int .i64 0)).heap.size := size_sc5 (by omega)
            have hp9 : (((((wc.setCell ⟨bx, 0, none⟩ (.int .i64 1)).setCell ⟨bx, 1, none⟩ (.int .i64 y)).setCell ⟨bx, 2, none⟩ (.string ⟨#[]⟩)).setCell ⟨bx, 3, none⟩ (.bool false)).setCell ⟨bx, 4, none⟩ (.int .i64 0)).cell? ⟨P, 1, none⟩ = some (.int .i64 y) := cell_sc5 hPx2 p1
            generalize (((((wc.setCell ⟨bx, 0, none⟩ (.int .i64 1)).setCell ⟨bx, 1, none⟩ (.int .i64 y)).setCell ⟨bx, 2, none⟩ (.string ⟨#[]⟩)).setCell ⟨bx, 3, none⟩ (.bool false)).setCell ⟨bx, 4, none⟩ (.int .i64 0)) = ws at *
            clear hownc hboxc hbc p0 o0 r0 p1 o1 r1 p2 o2 r2 p3 o3 r3 p4 o4 r4 x1_0 x1_1 x1_2 x1_3 x1_4 x2_0 x2_1 x2_2 x2_3 x2_4
            go_wp2_with (at_builtin; go_loud (refine wpList_append_own_at _ rfl _ _ 50 rfl (bx + 1) 2 i0 (.int .i64 0) 1 8 Tryz.underlying50 hi hz0 hz1 hz2 rfl (by decide) _ _ _ rfl (hown9.alloc _) ⟨ws.heap.size, 0, none⟩ 1 1 [.int .i64 y] rfl rfl (cell_one_new _ _ _) (by simp [Value.oneCell']) (by unfold maxLen; omega) (by omega) (by simp; omega) ?_); intro v' w5 hown5 hgrow5 _ _)
            have hb10 : Below bx y6 w5 := (hB9.alloc (by omega) (.cells #[.int .i64 y] 2)).grown hgrow5 (by simp; omega) (fun q hq => by have := (hown9.lt q hq).1; omega)
            have hbx10 : w5.heap[bx]? = some (.cells #[.int .i64 1, .int .i64 y, .string ⟨#[]⟩, .bool false, .int .i64 0] 26 (0, 0)) := (hgrow5.block bx (by simp; omega) (fun e => by have := (hown9.lt _ (by first | exact e | exact e.symm)).1; omega)).trans ((Lib.alloc_old ws (.cells #[.int .i64 y] 2) bx (by omega)).trans hbx9)
            have hz10 : bx < w5.heap.size := (Array.getElem?_eq_some_iff.1 hbx10).1
            go_roundw
            case rel =>
              exact ⟨m + 1, by omega, by first | rfl | (simp; done) | (congr 1; push_cast; omega), Lib.hid (by rw [hrs.out]; unfold OwnI; rw [List.map_append, List.length_append, List.length_map, List.length_range]; exact hown5), Lib.hid (by rw [hye'.out]; exact hbx10), hb10, hz10⟩
            case measure => simp [intOf]; omega
          · have hk1 : (((m : Int) + 1) == 1) = true := by simp; omega
            have hk2 : (((m : Int) + 1) == (l.length : Int)) = false := by simp; omega
            obtain rfl : y = mx := by have h9 := hD'.out.one; rw [show (1 : Nat) = m + 1 by omega, hye'.out] at h9; exact h9
            have hm60 : m + 1 ≤ 60 := by omega
            have h1' := Lib.hid h1
            have h2' := Lib.hid h2
            clear h1 h2
            have hvy := vEq_self_a 1 y ⟨#[]⟩ false 0
            go_upto_region 23 with (fail)
            have hown9 : (((((wc.setCell ⟨bx, 0, none⟩ (.int .i64 1)).setCell ⟨bx, 1, none⟩ (.int .i64 y)).setCell ⟨bx, 2, none⟩ (.string ⟨#[]⟩)).setCell ⟨bx, 3, none⟩ (.bool false)).setCell ⟨bx, 4, none⟩ (.int .i64 0)).ownsRow (bx + 1) 2 1 (.slice A5 m cap5) m (((List.range m).map fun j => f (j + 1)).map (Value.int .i64)) := own_set (own_set (own_set (own_set (own_set hownc _ _ (Nat.lt_succ_self _)) _ _ (Nat.lt_succ_self _)) _ _ (Nat.lt_succ_self _)) _ _ (Nat.lt_succ_self _)) _ _ (Nat.lt_succ_self _)
            have hbx9 : (((((wc.setCell ⟨bx, 0, none⟩ (.int .i64 1)).setCell ⟨bx, 1, none⟩ (.int .i64 y)).setCell ⟨bx, 2, none⟩ (.string ⟨#[]⟩)).setCell ⟨bx, 3, none⟩ (.bool false)).setCell ⟨bx, 4, none⟩ (.int .i64 0)).heap[bx]? = some (.cells #[.int .i64 1, .int .i64 y, .string ⟨#[]⟩, .bool false, .int .i64 0] 26 (0, 0)) := (row_set (row_set (row_set (row_set (row_set hboxc)))))
            have hB9 : Below bx y6 (((((wc.setCell ⟨bx, 0, none⟩ (.int .i64 1)).setCell ⟨bx, 1, none⟩ (.int .i64 y)).setCell ⟨bx, 2, none⟩ (.string ⟨#[]⟩)).setCell ⟨bx, 3, none⟩ (.bool false)).setCell ⟨bx, 4, none⟩ (.int .i64 0)) := (((((hbc.setCell (p := ⟨bx, 0, none⟩) (Nat.le_refl _) _).setCell (p := ⟨bx, 1, none⟩) (Nat.le_refl _) _).setCell (p := ⟨bx, 2, none⟩) (Nat.le_refl _) _).setCell (p := ⟨bx, 3, none⟩) (Nat.le_refl _) _).setCell (p := ⟨bx, 4, none⟩) (Nat.le_refl _) _)
            have hz9 : bx + 1 ≤ (((((wc.setCell ⟨bx, 0, none⟩ (.int .i64 1)).setCell ⟨bx, 1, none⟩ (.int .i64 y)).setCell ⟨bx, 2, none⟩ (.string ⟨#[]⟩)).setCell ⟨bx, 3, none⟩ (.bool false)).setCell ⟨bx, 4, none⟩ (.int .i64 0)).heap.size := size_sc5 (by omega)
            have hp9 : (((((wc.setCell ⟨bx, 0, none⟩ (.int .i64 1)).setCell ⟨bx, 1, none⟩ (.int .i64 y)).setCell ⟨bx, 2, none⟩ (.string ⟨#[]⟩)).setCell ⟨bx, 3, none⟩ (.bool false)).setCell ⟨bx, 4, none⟩ (.int .i64 0)).cell? ⟨P, 1, none⟩ = some (.int .i64 y) := cell_sc5 hPx2 p1
            generalize (((((wc.setCell ⟨bx, 0, none⟩ (.int .i64 1)).setCell ⟨bx, 1, none⟩ (.int .i64 y)).setCell ⟨bx, 2, none⟩ (.string ⟨#[]⟩)).setCell ⟨bx, 3, none⟩ (.bool false)).setCell ⟨bx, 4, none⟩ (.int .i64 0)) = ws at *
            clear hownc hboxc hbc p0 o0 r0 p1 o1 r1 p2 o2 r2 p3 o3 r3 p4 o4 r4 x1_0 x1_1 x1_2 x1_3 x1_4 x2_0 x2_1 x2_2 x2_3 x2_4
            go_wp2_with (at_builtin; go_loud (refine wpList_append_own_at _ rfl _ _ 50 rfl (bx + 1) 2 i0 (.int .i64 0) 1 8 Tryz.underlying50 hi hz0 hz1 hz2 rfl (by decide) _ _ _ rfl (hown9.alloc _) ⟨ws.heap.size, 0, none⟩ 1 1 [.int .i64 y] rfl rfl (cell_one_new _ _ _) (by simp [Value.oneCell']) (by unfold maxLen; omega) (by omega) (by simp; omega) ?_); intro v' w5 hown5 hgrow5 _ _)
            have hb10 : Below bx y6 w5 := (hB9.alloc (by omega) (.cells #[.int .i64 y] 2)).grown hgrow5 (by simp; omega) (fun q hq => by have := (hown9.lt q hq).1; omega)
            have hbx10 : w5.heap[bx]? = some (.cells #[.int .i64 1, .int .i64 y, .string ⟨#[]⟩, .bool false, .int .i64 0] 26 (0, 0)) := (hgrow5.block bx (by simp; omega) (fun e => by have := (hown9.lt _ (by first | exact e | exact e.symm)).1; omega)).trans ((Lib.alloc_old ws (.cells #[.int .i64 y] 2) bx (by omega)).trans hbx9)
            have hz10 : bx < w5.heap.size := (Array.getElem?_eq_some_iff.1 hbx10).1
            go_roundw
            case rel =>
              exact ⟨m + 1, by omega, by first | rfl | (simp; done) | (congr 1; push_cast; omega), Lib.hid (by rw [hrs.out]; unfold OwnI; rw [List.map_append, List.length_append, List.length_map, List.length_range]; exact hown5), Lib.hid (by rw [hye'.out]; exact hbx10), hb10, hz10⟩
            case measure => simp [intOf]; omega
        · by_cases h2 : m + 1 = l.length
          · have hk1 : (((m : Int) + 1) == 1) = false := by simp; omega
            have hk2 : (((m : Int) + 1) == (l.length : Int)) = true := by simp; omega
            obtain rfl : y = mn := by have h9 := hD'.out.last; rw [← (show m + 1 = l.length by omega), hye'.out] at h9; exact h9
            have hm60 : m + 1 ≤ 60 := by omega
            have h1' := Lib.hid h1
            have h2' := Lib.hid h2
            clear h1 h2
            have hvy := vEq_self_a 1 y ⟨#[]⟩ false 0
            go_upto_region 23 with (fail)
            have hown9 : (((((wc.setCell ⟨bx, 0, none⟩ (.int .i64 1)).setCell ⟨bx, 1, none⟩ (.int .i64 y)).setCell ⟨bx, 2, none⟩ (.string ⟨#[]⟩)).setCell ⟨bx, 3, none⟩ (.bool false)).setCell ⟨bx, 4, none⟩ (.int .i64 0)).ownsRow (bx + 1) 2 1 (.slice A5 m cap5) m (((List.range m).map fun j => f (j + 1)).map (Value.int .i64)) := own_set (own_set (own_set (own_set (own_set hownc _ _ (Nat.lt_succ_self _)) _ _ (Nat.lt_succ_self _)) _ _ (Nat.lt_succ_self _)) _ _ (Nat.lt_succ_self _)) _ _ (Nat.lt_succ_self _)
            have hbx9 : (((((wc.setCell ⟨bx, 0, none⟩ (.int .i64 1)).setCell ⟨bx, 1, none⟩ (.int .i64 y)).setCell ⟨bx, 2, none⟩ (.string ⟨#[]⟩)).setCell ⟨bx, 3, none⟩ (.bool false)).setCell ⟨bx, 4, none⟩ (.int .i64 0)).heap[bx]? = some (.cells #[.int .i64 1, .int .i64 y, .string ⟨#[]⟩, .bool false, .int .i64 0] 26 (0, 0)) := (row_set (row_set (row_set (row_set (row_set hboxc)))))
            have hB9 : Below bx y6 (((((wc.setCell ⟨bx, 0, none⟩ (.int .i64 1)).setCell ⟨bx, 1, none⟩ (.int .i64 y)).setCell ⟨bx, 2, none⟩ (.string ⟨#[]⟩)).setCell ⟨bx, 3, none⟩ (.bool false)).setCell ⟨bx, 4, none⟩ (.int .i64 0)) := (((((hbc.setCell (p := ⟨bx, 0, none⟩) (Nat.le_refl _) _).setCell (p := ⟨bx, 1, none⟩) (Nat.le_refl _) _).setCell (p := ⟨bx, 2, none⟩) (Nat.le_refl _) _).setCell (p := ⟨bx, 3, none⟩) (Nat.le_refl _) _).setCell (p := ⟨bx, 4, none⟩) (Nat.le_refl _) _)
            have hz9 : bx + 1 ≤ (((((wc.setCell ⟨bx, 0, none⟩ (.int .i64 1)).setCell ⟨bx, 1, none⟩ (.int .i64 y)).setCell ⟨bx, 2, none⟩ (.string ⟨#[]⟩)).setCell ⟨bx, 3, none⟩ (.bool false)).setCell ⟨bx, 4, none⟩ (.int .i64 0)).heap.size := size_sc5 (by omega)
            have hp9 : (((((wc.setCell ⟨bx, 0, none⟩ (.int .i64 1)).setCell ⟨bx, 1, none⟩ (.int .i64 y)).setCell ⟨bx, 2, none⟩ (.string ⟨#[]⟩)).setCell ⟨bx, 3, none⟩ (.bool false)).setCell ⟨bx, 4, none⟩ (.int .i64 0)).cell? ⟨P, 1, none⟩ = some (.int .i64 y) := cell_sc5 hPx2 p1
            generalize (((((wc.setCell ⟨bx, 0, none⟩ (.int .i64 1)).setCell ⟨bx, 1, none⟩ (.int .i64 y)).setCell ⟨bx, 2, none⟩ (.string ⟨#[]⟩)).setCell ⟨bx, 3, none⟩ (.bool false)).setCell ⟨bx, 4, none⟩ (.int .i64 0)) = ws at *
            clear hownc hboxc hbc p0 o0 r0 p1 o1 r1 p2 o2 r2 p3 o3 r3 p4 o4 r4 x1_0 x1_1 x1_2 x1_3 x1_4 x2_0 x2_1 x2_2 x2_3 x2_4
            go_wp2_with (at_builtin; go_loud (refine wpList_append_own_at _ rfl _ _ 50 rfl (bx + 1) 2 i0 (.int .i64 0) 1 8 Tryz.underlying50 hi hz0 hz1 hz2 rfl (by decide) _ _ _ rfl (hown9.alloc _) ⟨ws.heap.size, 0, none⟩ 1 1 [.int .i64 y] rfl rfl (cell_one_new _ _ _) (by simp [Value.oneCell']) (by unfold maxLen; omega) (by omega) (by simp; omega) ?_); intro v' w5 hown5 hgrow5 _ _)
            have hb10 : Below bx y6 w5 := (hB9.alloc (by omega) (.cells #[.int .i64 y] 2)).grown hgrow5 (by simp; omega) (fun q hq => by have := (hown9.lt q hq).1; omega)
            have hbx10 : w5.heap[bx]? = some (.cells #[.int .i64 1, .int .i64 y, .string ⟨#[]⟩, .bool false, .int .i64 0] 26 (0, 0)) := (hgrow5.block bx (by simp; omega) (fun e => by have := (hown9.lt _ (by first | exact e | exact e.symm)).1; omega)).trans ((Lib.alloc_old ws (.cells #[.int .i64 y] 2) bx (by omega)).trans hbx9)
            have hz10 : bx < w5.heap.size := (Array.getElem?_eq_some_iff.1 hbx10).1
            go_roundw
            case rel =>
              exact ⟨m + 1, by omega, by first | rfl | (simp; done) | (congr 1; push_cast; omega), Lib.hid (by rw [hrs.out]; unfold OwnI; rw [List.map_append, List.length_append, List.length_map, List.length_range]; exact hown5), Lib.hid (by rw [hye'.out]; exact hbx10), hb10, hz10⟩
            case measure => simp [intOf]; omega
          · have hk1 : (((m : Int) + 1) == 1) = false := by simp; omega
            have hk2 : (((m : Int) + 1) == (l.length : Int)) = false := by simp; omega
            have hm60 : m + 1 ≤ 60 := by omega
            have h1' := Lib.hid h1
            have h2' := Lib.hid h2
            clear h1 h2
            have hvy := vEq_self_a 1 y ⟨#[]⟩ false 0
            go_upto_region 23 with (fail)
            have hown9 : (((((wc.setCell ⟨bx, 0, none⟩ (.int .i64 1)).setCell ⟨bx, 1, none⟩ (.int .i64 y)).setCell ⟨bx, 2, none⟩ (.string ⟨#[]⟩)).setCell ⟨bx, 3, none⟩ (.bool false)).setCell ⟨bx, 4, none⟩ (.int .i64 0)).ownsRow (bx + 1) 2 1 (.slice A5 m cap5) m (((List.range m).map fun j => f (j + 1)).map (Value.int .i64)) := own_set (own_set (own_set (own_set (own_set hownc _ _ (Nat.lt_succ_self _)) _ _ (Nat.lt_succ_self _)) _ _ (Nat.lt_succ_self _)) _ _ (Nat.lt_succ_self _)) _ _ (Nat.lt_succ_self _)
            have hbx9 : (((((wc.setCell ⟨bx, 0, none⟩ (.int .i64 1)).setCell ⟨bx, 1, none⟩ (.int .i64 y)).setCell ⟨bx, 2, none⟩ (.string ⟨#[]⟩)).setCell ⟨bx, 3, none⟩ (.bool false)).setCell ⟨bx, 4, none⟩ (.int .i64 0)).heap[bx]? = some (.cells #[.int .i64 1, .int .i64 y, .string ⟨#[]⟩, .bool false, .int .i64 0] 26 (0, 0)) := (row_set (row_set (row_set (row_set (row_set hboxc)))))
            have hB9 : Below bx y6 (((((wc.setCell ⟨bx, 0, none⟩ (.int .i64 1)).setCell ⟨bx, 1, none⟩ (.int .i64 y)).setCell ⟨bx, 2, none⟩ (.string ⟨#[]⟩)).setCell ⟨bx, 3, none⟩ (.bool false)).setCell ⟨bx, 4, none⟩ (.int .i64 0)) := (((((hbc.setCell (p := ⟨bx, 0, none⟩) (Nat.le_refl _) _).setCell (p := ⟨bx, 1, none⟩) (Nat.le_refl _) _).setCell (p := ⟨bx, 2, none⟩) (Nat.le_refl _) _).setCell (p := ⟨bx, 3, none⟩) (Nat.le_refl _) _).setCell (p := ⟨bx, 4, none⟩) (Nat.le_refl _) _)
            have hz9 : bx + 1 ≤ (((((wc.setCell ⟨bx, 0, none⟩ (.int .i64 1)).setCell ⟨bx, 1, none⟩ (.int .i64 y)).setCell ⟨bx, 2, none⟩ (.string ⟨#[]⟩)).setCell ⟨bx, 3, none⟩ (.bool false)).setCell ⟨bx, 4, none⟩ (.int .i64 0)).heap.size := size_sc5 (by omega)
            have hp9 : (((((wc.setCell ⟨bx, 0, none⟩ (.int .i64 1)).setCell ⟨bx, 1, none⟩ (.int .i64 y)).setCell ⟨bx, 2, none⟩ (.string ⟨#[]⟩)).setCell ⟨bx, 3, none⟩ (.bool false)).setCell ⟨bx, 4, none⟩ (.int .i64 0)).cell? ⟨P, 1, none⟩ = some (.int .i64 y) := cell_sc5 hPx2 p1
            generalize (((((wc.setCell ⟨bx, 0, none⟩ (.int .i64 1)).setCell ⟨bx, 1, none⟩ (.int .i64 y)).setCell ⟨bx, 2, none⟩ (.string ⟨#[]⟩)).setCell ⟨bx, 3, none⟩ (.bool false)).setCell ⟨bx, 4, none⟩ (.int .i64 0)) = ws at *
            clear hownc hboxc hbc p0 o0 r0 p1 o1 r1 p2 o2 r2 p3 o3 r3 p4 o4 r4 x1_0 x1_1 x1_2 x1_3 x1_4 x2_0 x2_1 x2_2 x2_3 x2_4
            go_wp2_with (at_builtin; go_loud (refine wpList_append_own_at _ rfl _ _ 50 rfl (bx + 1) 2 i0 (.int .i64 0) 1 8 Tryz.underlying50 hi hz0 hz1 hz2 rfl (by decide) _ _ _ rfl (hown9.alloc _) ⟨ws.heap.size, 0, none⟩ 1 1 [.int .i64 y] rfl rfl (cell_one_new _ _ _) (by simp [Value.oneCell']) (by unfold maxLen; omega) (by omega) (by simp; omega) ?_); intro v' w5 hown5 hgrow5 _ _)
            have hb10 : Below bx y6 w5 := (hB9.alloc (by omega) (.cells #[.int .i64 y] 2)).grown hgrow5 (by simp; omega) (fun q hq => by have := (hown9.lt q hq).1; omega)
            have hbx10 : w5.heap[bx]? = some (.cells #[.int .i64 1, .int .i64 y, .string ⟨#[]⟩, .bool false, .int .i64 0] 26 (0, 0)) := (hgrow5.block bx (by simp; omega) (fun e => by have := (hown9.lt _ (by first | exact e | exact e.symm)).1; omega)).trans ((Lib.alloc_old ws (.cells #[.int .i64 y] 2) bx (by omega)).trans hbx9)
            have hz10 : bx < w5.heap.size := (Array.getElem?_eq_some_iff.1 hbx10).1
            go_roundw
            case rel =>
              exact ⟨m + 1, by omega, by first | rfl | (simp; done) | (congr 1; push_cast; omega), Lib.hid (by rw [hrs.out]; unfold OwnI; rw [List.map_append, List.length_append, List.length_map, List.length_range]; exact hown5), Lib.hid (by rw [hye'.out]; exact hbx10), hb10, hz10⟩
            case measure => simp [intOf]; omega
    · obtain rfl : m = l.length := by omega
      have hml : ¬ (l.length : Int) + 1 ≤ (l.length : Int) := by omega
      obtain ⟨R, hRe⟩ : ∃ R, (fitL (l.map okN).sum) = R := ⟨_, rfl⟩
      have hRe2 : fitL (((List.range l.length).map fun j => f (j + 1)).map okN).sum = R := by rw [down_sum hD'.out]; exact hRe
      have hLl : ((List.range l.length).map fun j => f (j + 1)).length = l.length := by simp
      have hLb : ∀ x ∈ ((List.range l.length).map fun j => f (j + 1)), -9223372036854775808 ≤ x ∧ x ≤ 9223372036854775807 := by
        intro x hx
        obtain ⟨j, hj, rfl⟩ := List.mem_map.1 hx
        have := hD'.out.bd (j + 1) (by have := List.mem_range.1 hj; omega)
        omega
      have hL0 : ((List.range l.length).map fun j => f (j + 1)) ≠ [] := by intro e; rw [e] at hLl; simp at hLl; omega
      generalize ((List.range l.length).map fun j => f (j + 1)) = L at *
      try rw [hLl]
      have hRe' := Lib.hid hRe
      have hRe2' := Lib.hid hRe2
      have hLb' := Lib.hid hLb
      have hL0' := Lib.hid hL0
      have hve := vEq_self_a R.t R.n R.s R.b R.c
      clear hRe hRe2 hLb hL0 hown hbox
      go_wp2_with fail
      refine (kcol_SUM h0'.out (by omega) hRe'.out htr.out hAr0.out).mono ?_
      rintro e z1 ⟨rfl, hb1⟩
      have CL2 := lcolumn_any L (by omega) z1 A5 cap5 (RdB.mono (RdB.below hr5'.out hb1) hb1.size)
      rw [hLl] at CL2
      have CL2' := Lib.hid CL2
      clear CL2
      have q8 : Below w.heap.size w z1 := q7.trans (hb1.mono q7.size)
      have ht8 := Lib.hid (Tab.below htr.out hb1)
      go_wp2_with fail
      refine CL2'.out.mono ?_
      clear CL2'
      rintro e z2 hC
      obtain ⟨v2, rfl, hown2⟩ := hC.out
      have hb2 := hC.bel
      obtain ⟨vA2, vc2, hve2, hrk2⟩ := own_rdk hown2
      subst hve2
      clear hC hown2
      rw [hLl]
      have q9 : Below w.heap.size w z2 := q8.trans (hb2.mono q8.size)
      have ht9 := Tab.below ht8.out hb2
      have bz : Below z2.heap.size z2 (z2.alloc (.cells #[.bool true, .int .i64 0, .int .i64 0, .string ⟨#[]⟩, .bool false, .int .i64 0, .int .i64 1, .int .i64 1, .int .i64 (max 1 (l.length : Int)), .int .i64 1, .slice vA2 l.length vc2] 38)) := (Below.refl _ _).alloc (Nat.le_refl _) _
      have hA9 : Hid (ArgsC (z2.alloc (.cells #[.bool true, .int .i64 0, .int .i64 0, .string ⟨#[]⟩, .bool false, .int .i64 0, .int .i64 1, .int .i64 1, .int .i64 (max 1 (l.length : Int)), .int .i64 1, .slice vA2 l.length vc2] 38)) (.slice (some ⟨z2.heap.size, 0, none⟩) 1 1) [colA L vA2 vc2]) := Lib.hid (args_ofp [colA L vA2 vc2] (by simp [AL.cs, colA, colE_len, v0, hLl]) 1 rfl (fun y hy => by simp at hy; subst hy; exact colA_in hLb'.out (by omega) ((hrk2.below bz).mono bz.size)) (Nat.le_refl _))
      have ht10 := Lib.hid (Tab.below ht9 bz)
      have q10 := q9.trans (bz.mono q9.size)
      clear hrk2 bz ht9
      go_wp2_with fail
      refine (kcol_SUM hL0'.out (by omega) hRe2'.out ht10.out hA9.out).mono ?_
      rintro e z3 ⟨rfl, hb3⟩
      have q11 := q10.trans (hb3.mono q10.size)
      go_wp2
      go_ret
      exact ⟨rfl, q11⟩
theorem walk_AggsBetween (l : List Int) (hl : ∀ x ∈ l, -9223372036854775808 ≤ x ∧ x ≤ 9223372036854775807) (w : World) (ht : Tab w) (A : Option Addr) (cap : Nat) (hR : RdI w A l) : Calls Tryz.prog 12 #[.slice A l.length cap] w fun e w' => e = .returned (.bool true) ∧ Below w.heap.size w w' := by
  by_cases h0 : l = []
  · exact wbet_none l w ht A cap h0
  by_cases h60 : l.length ≤ 60
  · obtain ⟨mn, mx, md, mw, hB⟩ := bet_of h0 hl
    obtain ⟨f, hD⟩ := down_of h0 hl hB
    exact wbet_yes l hl w ht A cap hR h0 h60 mn mx md mw hB f hD
  · exact wbet_big l w ht A cap (by omega)
end Go.Proofs.YtaomlgpakbjegaaGreatDoor
