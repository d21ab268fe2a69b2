/-
  aggs: a function of the numbers of all.
-/
import Derived.Test.YtaomlgpakbjegaaGreatDoorRows
import Derived.Test.YtaomlgpakbjegaaGreatDoorBase
import Derived.Test.YtaomlgpakbjegaaGreatDoorRowB
import Derived.Test.YtaomlgpakbjegaaGreatDoorMg4
import Derived.Test.YtaomlgpakbjegaaGreatDoorValA
import Derived.Test.YtaomlgpakbjegaaGreatDoorValB
import Derived.Test.YtaomlgpakbjegaaGreatDoorValC
import Derived.Test.YtaomlgpakbjegaaGreatDoorAddrC
import Derived.Test.YtaomlgpakbjegaaGreatDoorAddrI
import Derived.Test.YtaomlgpakbjegaaGreatDoorMapK
import Derived.Test.YtaomlgpakbjegaaGreatDoorArgK
import Derived.Test.YtaomlgpakbjegaaGreatDoorDFlo
import Derived.Test.YtaomlgpakbjegaaGreatDoorProg
import Derived.Test.YtaomlgpakbjegaaGreatDoorMg1
import Derived.Test.YtaomlgpakbjegaaGreatDoorMg15
import Derived.Test.YtaomlgpakbjegaaGreatDoorValL
import Derived.Test.YtaomlgpakbjegaaGreatDoorNCallK
import Derived.Test.YtaomlgpakbjegaaGreatDoorAItm
import Derived.Test.YtaomlgpakbjegaaGreatDoorAAmo
import Derived.Test.YtaomlgpakbjegaaGreatDoorASum
import Derived.Test.YtaomlgpakbjegaaGreatDoorAFind
import Derived.Test.YtaomlgpakbjegaaGreatDoorACall
import Derived.Test.YtaomlgpakbjegaaGreatDoorACallB
import Derived.Maps.AppendAt
import Derived.Laws.EntriesVeiled
import Derived.WalkSpells
import Derived.WalkLawsBesides
import Derived.StillTactics
import Derived.Laws.Pointers
import Derived.Deep.RegionHeld3
import Derived.Deep.QuietTactic
import Derived.BigQuiet
import Derived.RowKit3
import Derived.Lib.Hide
import Derived.Lib.OthersKept
import Derived.OwnWalk
import Derived.Lib.IndexLaws
import Derived.Lib.ItoaMem
import Derived.WalkKit
import Derived.ProofKit
import Derived.OpenShut
import Derived.Carry
import Derived.ChangeSame
import Derived.Deep.Draws
import Derived.Maps.OwnSet
import Derived.Laws.BitsAllLaws
import Derived.Shelf.Strings.Builder1
import Derived.Shelf.Strings.Builder2
import Derived.Shelf.Strings.OnBuilder
import Derived.Shelf.Strings.Trim
import Derived.Shelf.Small.Utf8
import Derived.Shelf.Small.Bits
import Derived.Shelf.Small.Strs
import Derived.Shelf.Small.Wraps
import Derived.Shelf.Strings.BuilderF
import Derived.Shelf.Strings.BuilderK
import Derived.Shelf.Strconv.Itoa0
import Derived.Shelf.Strconv.Itoa1
import Derived.Shelf.LaysM
import Derived.Shelf.Strconv.Itoa2
import Derived.Ground.MpProg
import Derived.Shelf.Pu.ParseUintPublic10
import Derived.Shelf.Strings.Search1
import Derived.Shelf.Strings.Search2
import Derived.Shelf.Strings.Search3
import Derived.Shelf.Strings.Cut
import Derived.Shelf.Strings.Shaped
import Derived.Shelf.Strings.Prefix
import Derived.Shelf.Strings.Runes
import Derived.Shelf.Strings.AsciiSet
import Derived.Shelf.Bits.Mul64
import Derived.Shelf.Strings.Repeat
import Derived.Shelf.Unicode.DecodeSlow
import Derived.Ground.SlgmProg
import Derived.Shelf.SortM.Plain
import Derived.Shelf.SortM.SortNone
import Derived.Lib.TrimByte
import Derived.Lib.Bytealg
import Derived.Lib.SlTrimSet
import Derived.Lib.ParseIntB
import Derived.Shelf.Strings.SlTrimAscii
import Derived.Lib.SmallJoins
import Derived.Deep.RegionWith
import Derived.Laws.Externs
import Derived.IntWalk
namespace Go.Proofs.YtaomlgpakbjegaaGreatDoor
open Go.RowKit

/-- the first Fault of some; else r -/
def faultR (vs : List VL) (r : VL) : VL :=
  match vs.find? (fun v => decide (v.t = 4)) with
  | some x => x
  | none => r
theorem own_rdv {w : World} {B : Nat} {v : Value} {l : List VL} (h : OwnV w B v l) : ∃ A cap, v = .slice A l.length cap ∧ RdB w w.heap.size A 5 (l.map VL.cs) :=
  ownsRow_rdk (by omega) (fun c hc => by obtain ⟨y, _, rfl⟩ := List.mem_map.1 hc; rfl) (by simp) h
theorem own_rdi {w : World} {B : Nat} {v : Value} {l : List Int} (h : OwnI w B v l) : ∃ A cap, v = .slice A l.length cap ∧ RdI w A l := by
  obtain ⟨A, cap, e, h2⟩ := ownsRow_rd h
  exact ⟨A, cap, e, by unfold RdI; rw [List.map_map] at h2; exact h2⟩
theorem items_ok {l : List AL} {w : World} {B : Nat} (hin : ∀ x ∈ l, x.In w B) : ∀ v ∈ itemsL l, v.ok := by
  intro v hv
  unfold itemsL at hv
  obtain ⟨L, hL, hvL⟩ := List.mem_flatten.1 hv
  obtain ⟨x, hx, rfl⟩ := List.mem_map.1 hL
  have h := hin x hx
  unfold itemsX at hvL
  rcases List.mem_append.1 hvL with h1 | h1
  · by_cases hm : x.many = true
    · rw [if_pos hm] at h1; cases h1
    · rw [if_neg hm] at h1; simp at h1; subst h1; exact h.1
  · obtain ⟨e, he, rfl⟩ := List.mem_map.1 h1
    exact h.2.2.1 e he
theorem nums_ok {vs : List VL} (h : ∀ v ∈ vs, v.ok) : ∀ x ∈ numsL vs, -9223372036854775808 ≤ x ∧ x ≤ 9223372036854775807 := by
  intro x hx
  unfold numsL at hx
  obtain ⟨v, hv, he⟩ := List.mem_filterMap.1 hx
  by_cases h1 : v.t = 1
  · rw [if_pos h1] at he; cases he; exact h v hv
  · rw [if_neg h1] at he; cases he
set_option maxRecDepth 100000 in
set_option maxHeartbeats 2000000 in
theorem anum_bad (l : List AL) (hlen : l.length ≤ 1649267441664) (hN : (itemsL l).length ≤ 2932031007402) (text : Int) (w : World) (A : Option Addr) (cap : Nat) (hR : RdB w w.heap.size A 11 (l.map AL.cs)) (hin : ∀ x ∈ l, x.In w w.heap.size) (pb : Nat) (x : VL) (h4 : x.t = 4) (hbad : (itemsL l).find? (fun v => decide (v.t = 4)) = some x) : Calls Tryz.prog 185 #[.slice A l.length cap, .int .i64 text, .pointer (some ⟨pb, 0, none⟩)] w fun e w' => e = .returned (.agg #[.int .i64 (x).t, .int .i64 (x).n, .string (x).s, .bool (x).b, .int .i64 (x).c]) ∧ Below w.heap.size w w' := by
  have b0 : Below w.heap.size w (w.alloc (.cells #[.int .i64 0, .int .i64 0, .string ⟨#[]⟩, .bool false, .int .i64 0] 26)) := (Below.refl _ _).alloc (Nat.le_refl _) _
  have C1 := Lib.hid (aitems_any l hlen hN (w.alloc (.cells #[.int .i64 0, .int .i64 0, .string ⟨#[]⟩, .bool false, .int .i64 0] 26)) A cap ((hR.below b0).mono b0.size) (fun x hx => ((hin x hx).below b0).mono b0.size))
  have hbad' := Lib.hid hbad
  clear hR hin hbad
  go_enter Tryz.func185, Tryz.ntmps185
  go_wp2_with fail
  refine C1.out.mono ?_
  clear C1
  rintro e w1 ⟨⟨v1, rfl, hown1⟩, hb1⟩
  obtain ⟨A1, cap1, rfl, hr1⟩ := own_rdv hown1
  have C2 := Lib.hid (aamong_any (itemsL l) hN w1 A1 cap1 hr1)
  clear hr1 hown1
  obtain ⟨hc, hf, hz⟩ := bkeep hb1 (w.heap.size + 1) (by simp)
  go_wp2_with fail
  refine C2.out.mono ?_
  clear C2
  rintro e w2 hA
  obtain rfl := hA.bad x hbad'.out
  have hb2 := hA.bel
  clear hA hbad'
  obtain ⟨hc2, hf2, hz2⟩ := bkeep hb2 (w.heap.size + 1) (by omega)
  have l2 : w.heap.size < w2.heap.size := by omega
  have n2 : w.heap.size ≠ w2.heap.size := by omega
  have h4b : (x.t == 4) = true := by simpa using h4
  go_wp2
  refine bodyPost_ret (v := .agg #[.int .i64 (x).t, .int .i64 (x).n, .string (x).s, .bool (x).b, .int .i64 (x).c]) ?_ rfl ⟨rfl, by (repeat (first | (with_reducible exact Below.refl _ _) | (with_reducible refine Below.alloc ?_ (by first | omega | (dsimp only; omega) | (simp <;> omega)) _) | (with_reducible refine Below.setCell ?_ (by first | omega | (dsimp only; omega) | (simp <;> omega)) _) | (with_reducible refine Below.drew ?_) | (with_reducible refine below_drewN ?_ _) | (with_reducible refine Below.trans ?_ (Below.mono (by assumption) (by first | omega | (dsimp only; omega) | (simp <;> omega))))))⟩
  simp [results, Tryz.results185, go_sem, *]
set_option maxRecDepth 100000 in
set_option maxHeartbeats 2000000 in
theorem anum_good (l : List AL) (hlen : l.length ≤ 1649267441664) (hN : (itemsL l).length ≤ 2932031007402) (text : Int) (w : World) (A : Option Addr) (cap : Nat) (hR : RdB w w.heap.size A 11 (l.map AL.cs)) (hin : ∀ x ∈ l, x.In w w.heap.size) (pb g : Nat) (c : Array Value) (hbox : w.cell? ⟨pb, 0, none⟩ = some (.func (.func g) #[] c)) (hgo : ∀ args w, Sem.run Tryz.prog (callFunc g args) w = .ok (.enter g args) w) (r : VL) (hgood : (itemsL l).find? (fun v => decide (v.t = 4)) = none) (hF : ∀ (w2 : World) (A2 : Option Addr) (cap2 : Nat), Below w.heap.size w w2 → RdI w2 A2 (numsL (itemsL l)) → Calls Tryz.prog g (#[.slice A2 (numsL (itemsL l)).length cap2] ++ c) w2 fun e w' => e = .returned (.agg #[.int .i64 (r).t, .int .i64 (r).n, .string (r).s, .bool (r).b, .int .i64 (r).c]) ∧ Below w2.heap.size w2 w') : Calls Tryz.prog 185 #[.slice A l.length cap, .int .i64 text, .pointer (some ⟨pb, 0, none⟩)] w fun e w' => e = .returned (.agg #[.int .i64 (r).t, .int .i64 (r).n, .string (r).s, .bool (r).b, .int .i64 (r).c]) ∧ Below w.heap.size w w' := by
  have b0 : Below w.heap.size w (w.alloc (.cells #[.int .i64 0, .int .i64 0, .string ⟨#[]⟩, .bool false, .int .i64 0] 26)) := (Below.refl _ _).alloc (Nat.le_refl _) _
  have C1 := Lib.hid (aitems_any l hlen hN (w.alloc (.cells #[.int .i64 0, .int .i64 0, .string ⟨#[]⟩, .bool false, .int .i64 0] 26)) A cap ((hR.below b0).mono b0.size) (fun x hx => ((hin x hx).below b0).mono b0.size))
  have hgood' := Lib.hid hgood
  have hF' := Lib.hid hF
  have hpl : pb < w.heap.size := World.block_lt_of_cell? _ _ hbox
  clear hR hin hgood hF
  go_enter Tryz.func185, Tryz.ntmps185
  go_wp2_with fail
  refine C1.out.mono ?_
  clear C1
  rintro e w1 ⟨⟨v1, rfl, hown1⟩, hb1⟩
  obtain ⟨A1, cap1, rfl, hr1⟩ := own_rdv hown1
  have C2 := Lib.hid (aamong_any (itemsL l) hN w1 A1 cap1 hr1)
  clear hr1 hown1
  obtain ⟨hc, hf, hz⟩ := bkeep hb1 (w.heap.size + 1) (by simp)
  go_wp2_with fail
  refine C2.out.mono ?_
  clear C2
  rintro e w2 hA
  obtain ⟨v2, rfl, hown2⟩ := hA.good hgood'.out
  have hb2 := hA.bel
  clear hA hgood'
  obtain ⟨A2, cap2, rfl, hr2⟩ := own_rdi hown2
  have b2 : Below w.heap.size w w2 := b0.trans ((hb1.mono (by simp)).trans (hb2.mono (by omega)))
  obtain ⟨hc2, hf2, hz2⟩ := bkeep hb2 (w.heap.size + 1) (by omega)
  have l2 : w.heap.size < w2.heap.size := by omega
  have n2 : w.heap.size ≠ w2.heap.size := by omega
  have hbx : w2.cell? ⟨pb, 0, none⟩ = some (.func (.func g) #[] c) := (b2.cell (p := ⟨pb, 0, none⟩) hpl).trans hbox
  have hpn : pb ≠ w2.heap.size := by omega
  have hpl2 : pb < w2.heap.size := by omega
  have CF := Lib.hid (hF'.out (w2.alloc (.cells #[.int .i64 0, .int .i64 0, .string ⟨#[]⟩, .bool false, .int .i64 0] 26)) A2 cap2 (b2.alloc b2.size _) (RdB.mono (RdB.below hr2 ((Below.refl _ _).alloc (Nat.le_refl _) _)) (by simp)))
  clear hr2 hown2 hF'
  go_wp2_with fail
  refine CF.out.mono ?_
  clear CF
  rintro e w3 ⟨rfl, hb3⟩
  obtain ⟨hc3, hf3, hz3⟩ := bkeep hb3 (w.heap.size + 1) (by simp; omega)
  have l3 : w.heap.size < w3.heap.size := by omega
  go_wp2
  refine bodyPost_ret (v := .agg #[.int .i64 (r).t, .int .i64 (r).n, .string (r).s, .bool (r).b, .int .i64 (r).c]) ?_ rfl ⟨rfl, by (repeat (first | (with_reducible exact Below.refl _ _) | (with_reducible refine Below.alloc ?_ (by first | omega | (dsimp only; omega) | (simp <;> omega)) _) | (with_reducible refine Below.setCell ?_ (by first | omega | (dsimp only; omega) | (simp <;> omega)) _) | (with_reducible refine Below.drew ?_) | (with_reducible refine below_drewN ?_ _) | (with_reducible refine Below.trans ?_ (Below.mono (by assumption) (by first | omega | (dsimp only; omega) | (simp <;> omega))))))⟩
  simp [results, Tryz.results185, go_sem, *]
theorem anum_any (l : List AL) (hlen : l.length ≤ 1649267441664) (hN : (itemsL l).length ≤ 2932031007402) (text : Int) (w : World) (A : Option Addr) (cap : Nat) (hR : RdB w w.heap.size A 11 (l.map AL.cs)) (hin : ∀ x ∈ l, x.In w w.heap.size) (pb g : Nat) (c : Array Value) (hbox : w.cell? ⟨pb, 0, none⟩ = some (.func (.func g) #[] c)) (hgo : ∀ args w, Sem.run Tryz.prog (callFunc g args) w = .ok (.enter g args) w) (r : VL) (hF : (itemsL l).find? (fun v => decide (v.t = 4)) = none → ∀ (w2 : World) (A2 : Option Addr) (cap2 : Nat), Below w.heap.size w w2 → RdI w2 A2 (numsL (itemsL l)) → Calls Tryz.prog g (#[.slice A2 (numsL (itemsL l)).length cap2] ++ c) w2 fun e w' => e = .returned (.agg #[.int .i64 (r).t, .int .i64 (r).n, .string (r).s, .bool (r).b, .int .i64 (r).c]) ∧ Below w2.heap.size w2 w') : Calls Tryz.prog 185 #[.slice A l.length cap, .int .i64 text, .pointer (some ⟨pb, 0, none⟩)] w fun e w' => e = .returned (.agg #[.int .i64 (faultR (itemsL l) r).t, .int .i64 (faultR (itemsL l) r).n, .string (faultR (itemsL l) r).s, .bool (faultR (itemsL l) r).b, .int .i64 (faultR (itemsL l) r).c]) ∧ Below w.heap.size w w' := by
  unfold faultR
  cases h : (itemsL l).find? (fun v => decide (v.t = 4)) with
  | none => exact anum_good l hlen hN text w A cap hR hin pb g c hbox hgo r h (hF h)
  | some x => exact anum_bad l hlen hN text w A cap hR hin pb x (by simpa using List.find?_some h) h
end Go.Proofs.YtaomlgpakbjegaaGreatDoor
