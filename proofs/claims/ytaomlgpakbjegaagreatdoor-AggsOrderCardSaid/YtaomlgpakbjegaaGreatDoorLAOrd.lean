/-
  the walk of the law AggsOrder.
-/
import Derived.Test.YtaomlgpakbjegaaGreatDoorProg
import Derived.Test.YtaomlgpakbjegaaGreatDoorMg3
import Derived.Test.YtaomlgpakbjegaaGreatDoorRows
import Derived.Test.YtaomlgpakbjegaaGreatDoorBase
import Derived.Test.YtaomlgpakbjegaaGreatDoorMg4
import Derived.Test.YtaomlgpakbjegaaGreatDoorMg5
import Derived.Test.YtaomlgpakbjegaaGreatDoorValA
import Derived.Test.YtaomlgpakbjegaaGreatDoorValB
import Derived.Test.YtaomlgpakbjegaaGreatDoorValC
import Derived.Test.YtaomlgpakbjegaaGreatDoorAddrC
import Derived.Test.YtaomlgpakbjegaaGreatDoorMg10
import Derived.Test.YtaomlgpakbjegaaGreatDoorMapK
import Derived.Test.YtaomlgpakbjegaaGreatDoorMg12
import Derived.Test.YtaomlgpakbjegaaGreatDoorShelf
import Derived.Test.YtaomlgpakbjegaaGreatDoorMg2
import Derived.Test.YtaomlgpakbjegaaGreatDoorMg13
import Derived.Test.YtaomlgpakbjegaaGreatDoorDPrint
import Derived.Test.YtaomlgpakbjegaaGreatDoorRPr
import Derived.Test.YtaomlgpakbjegaaGreatDoorKnuth
import Derived.Test.YtaomlgpakbjegaaGreatDoorDDiv
import Derived.Test.YtaomlgpakbjegaaGreatDoorDDig
import Derived.Test.YtaomlgpakbjegaaGreatDoorCutW
import Derived.Test.YtaomlgpakbjegaaGreatDoorDParse
import Derived.Test.YtaomlgpakbjegaaGreatDoorDecK
import Derived.Test.YtaomlgpakbjegaaGreatDoorDDivA
import Derived.Test.YtaomlgpakbjegaaGreatDoorMg23
import Derived.Test.YtaomlgpakbjegaaGreatDoorValL
import Derived.Test.YtaomlgpakbjegaaGreatDoorAItm
import Derived.Test.YtaomlgpakbjegaaGreatDoorAAmo
import Derived.Test.YtaomlgpakbjegaaGreatDoorASum
import Derived.Test.YtaomlgpakbjegaaGreatDoorAFind
import Derived.Test.YtaomlgpakbjegaaGreatDoorACall
import Derived.Test.YtaomlgpakbjegaaGreatDoorACallB
import Derived.Test.YtaomlgpakbjegaaGreatDoorANum
import Derived.Test.YtaomlgpakbjegaaGreatDoorAVal
import Derived.Test.YtaomlgpakbjegaaGreatDoorALar
import Derived.Test.YtaomlgpakbjegaaGreatDoorAPlB
import Derived.Test.YtaomlgpakbjegaaGreatDoorAMea
import Derived.Test.YtaomlgpakbjegaaGreatDoorASom
import Derived.Test.YtaomlgpakbjegaaGreatDoorAArg
import Derived.Test.YtaomlgpakbjegaaGreatDoorACol
import Derived.Test.YtaomlgpakbjegaaGreatDoorMg39
import Derived.Test.YtaomlgpakbjegaaGreatDoorACnt
import Derived.Test.YtaomlgpakbjegaaGreatDoorACif
import Derived.Test.YtaomlgpakbjegaaGreatDoorAClo
import Derived.Test.YtaomlgpakbjegaaGreatDoorAKn
import Derived.Test.YtaomlgpakbjegaaGreatDoorAAtB
import Derived.Test.YtaomlgpakbjegaaGreatDoorAOrd
import Derived.Test.YtaomlgpakbjegaaGreatDoorRArgM
import Derived.Test.YtaomlgpakbjegaaGreatDoorR8D
import Derived.WalkSpells
import Derived.WalkLawsBesides
import Derived.StillTactics
import Derived.Laws.Pointers
import Derived.Deep.RegionHeld3
import Derived.Deep.QuietTactic
import Derived.BigQuiet
import Derived.RowKit3
import Derived.Lib.Hide
import Derived.Lib.OthersKept
import Derived.OwnWalk
import Derived.Lib.IndexLaws
import Derived.Lib.ItoaMem
import Derived.Shelf.SlGeneric
import Derived.Shelf.SortM.Plain
import Derived.Shelf.SortM.SortNone
import Derived.Ground.SlgmProg
import Derived.WalkKit
import Derived.ProofKit
import Derived.OpenShut
import Derived.Carry
import Derived.ChangeSame
import Derived.Deep.Draws
import Derived.Maps.OwnSet
import Derived.Maps.AppendAt
import Derived.Laws.EntriesVeiled
import Derived.Laws.BitsAllLaws
import Derived.Shelf.Strings.Builder1
import Derived.Shelf.Strings.Builder2
import Derived.Shelf.Strings.OnBuilder
import Derived.Shelf.Strings.Trim
import Derived.Shelf.Small.Utf8
import Derived.Shelf.Small.Bits
import Derived.Shelf.Small.Strs
import Derived.Shelf.Small.Wraps
import Derived.Shelf.Strings.BuilderF
import Derived.Shelf.Strings.BuilderK
import Derived.Shelf.Strconv.Itoa0
import Derived.Shelf.Strconv.Itoa1
import Derived.Shelf.LaysM
import Derived.Shelf.Strconv.Itoa2
import Derived.Ground.MpProg
import Derived.Shelf.Pu.ParseUintPublic10
import Derived.Shelf.Strings.Search1
import Derived.Shelf.Strings.Search2
import Derived.Shelf.Strings.Search3
import Derived.Shelf.Strings.Cut
import Derived.Shelf.Strings.Shaped
import Derived.Shelf.Strings.Prefix
import Derived.Shelf.Strings.Runes
import Derived.Shelf.Strings.AsciiSet
import Derived.Shelf.Bits.Mul64
import Derived.Shelf.Strings.Repeat
import Derived.Shelf.Unicode.DecodeSlow
import Derived.Lib.TrimByte
import Derived.Lib.Bytealg
import Derived.Lib.SlTrimSet
import Derived.Lib.ParseIntB
import Derived.Shelf.Strings.SlTrimAscii
import Derived.Lib.SmallJoins
import Derived.Deep.RegionWith
import Derived.Laws.Externs
import Derived.IntWalk
import Derived.Sort.OwnSorted
import Derived.Sort.OwnSortedInts
import Derived.RangeFuncBox
import Derived.RangeFuncLeaves
import Derived.Shelf.Abstract
import Derived.OwnWalkIn
import Derived.TacticsInMore
import Derived.LoopNIn
import Derived.LoopIn
import Derived.Lib.Slices
import Derived.Lib.MinMax
import Derived.Deep.AppendLies
import Derived.Deep.RegionLaw
namespace Go.Proofs.YtaomlgpakbjegaaGreatDoor
open Go.RowKit

theorem arg_info : (Tryz.prog.info? 38).map (fun i => (i.zero, i.size, i.bytes)) = some (some (.agg #[.bool false, .int .i64 0, .int .i64 0, .string ⟨#[]⟩, .bool false, .int .i64 0, .int .i64 0, .int .i64 0, .int .i64 0, .int .i64 0, .slice none 0 0]), 11, 112) := by kernel_rfl
def aRow (l : List AL) : List Value := (l.map AL.cs).flatten
theorem aRow_app (a b : List AL) : aRow (a ++ b) = aRow a ++ aRow b := by simp [aRow]
theorem aRow_one (x : AL) : aRow [x] = x.cs := by simp [aRow]
/-- a row of arguments of one's own -/
def OwnA (w : World) (B : Nat) (v : Value) (l : List AL) : Prop := w.ownsRow B 38 11 v l.length (aRow l)
theorem own_rda {w : World} {B : Nat} {v : Value} {l : List AL} (h : OwnA w B v l) : ∃ A cap, v = .slice A l.length cap ∧ l.length ≤ cap ∧ RdB w w.heap.size A 11 (l.map AL.cs) := by
  obtain ⟨A, cap, e, hr⟩ := ownsRow_rdk (by omega) (fun c hc => by obtain ⟨y, _, rfl⟩ := List.mem_map.1 hc; rfl) (by simp) h
  refine ⟨A, cap, e, ?_, hr⟩
  rcases h.2 with ⟨e2, hz⟩ | ⟨g, cap', cur, e2, hbase, hb, h1, _⟩
  · omega
  · rw [e2] at e
    injection e with _ _ e3
    omega
theorem aget {w : World} {g : Nat} {x : AL} {T : TypeId} (h : w.heap[g]? = some (.cells #[.bool x.many, .int .i64 x.v.t, .int .i64 x.v.n, .string x.v.s, .bool x.v.b, .int .i64 x.v.c, .int .i64 x.t, .int .i64 x.l, .int .i64 x.b, .int .i64 x.r, .slice x.A x.es.length x.cap] T (0, 0))) : ∀ (j : Nat) (u : Value), x.cs[j]? = some u → w.cell? ((⟨g, 0, none⟩ : Addr).add j) = some u := fun j u hj => by
  rw [show (⟨g, 0, none⟩ : Addr).add j = ⟨g, j, none⟩ by unfold Addr.add; split <;> simp [*], cell_of_row w g j _ T (0, 0) h, ← Array.getElem?_toList]
  exact hj
set_option maxRecDepth 100000 in
set_option maxHeartbeats 4000000 in
theorem word_may (l : List AL) (hlen : l.length ≤ 1649267441664) (w : World) (ht : Tab w) (A : Option Addr) (cap : Nat) (hR : RdB w w.heap.size A 11 (l.map AL.cs)) (hin : ∀ x ∈ l, x.In w w.heap.size) (hy : l.all argMay = false) : Calls Tryz.prog 11 #[.slice A l.length cap] w fun e w' => e = .returned (.bool true) ∧ Below w.heap.size w w' := by
  have hR' := Lib.hid hR
  have hin' := Lib.hid hin
  have CA : ∀ w1, Below w.heap.size w w1 → Hid (Calls Tryz.prog 34 #[.slice A l.length cap] w1 fun e w' => ∃ u, e = .returned (.tuple #[u, .bool false]) ∧ Below w1.heap.size w1 w') := fun w1 q1 => Lib.hid (by
    refine (rargs_any l hlen w1 A cap ((hR.below q1).mono q1.size) (fun x hx => ((hin x hx).below q1).mono q1.size)).mono ?_
    rintro e w' ⟨u, he, _, hb⟩
    rw [hy] at he
    exact ⟨u, he, hb⟩)
  clear hR hin hy
  go_enter Tryz.func11, Tryz.ntmps11
  go_wp2_with fail
  refine (akn_any _ (Tab.below ht (by (repeat (first | (with_reducible exact Below.refl _ _) | (with_reducible refine Below.alloc ?_ (by first | omega | (dsimp only; omega) | (simp <;> omega)) _) | (with_reducible refine Below.setCell ?_ (by first | omega | (dsimp only; omega) | (simp <;> omega)) _) | (with_reducible refine Below.drew ?_) | (with_reducible refine below_drewN ?_ _) | (with_reducible refine Below.trans ?_ (Below.mono (by assumption) (by first | omega | (dsimp only; omega) | (simp <;> omega))))))))).mono ?_
  rintro e w1 ⟨rfl, hb1⟩
  have q1 : Below w.heap.size w w1 := by (repeat (first | (with_reducible exact Below.refl _ _) | (with_reducible refine Below.alloc ?_ (by first | omega | (dsimp only; omega) | (simp <;> omega)) _) | (with_reducible refine Below.setCell ?_ (by first | omega | (dsimp only; omega) | (simp <;> omega)) _) | (with_reducible refine Below.drew ?_) | (with_reducible refine below_drewN ?_ _) | (with_reducible refine Below.trans ?_ (Below.mono (by assumption) (by first | omega | (dsimp only; omega) | (simp <;> omega))))))
  go_wp2_with fail
  refine (CA _ q1).out.mono ?_
  clear CA
  rintro e w2 ⟨u, rfl, hb2⟩
  have q2 : Below w.heap.size w w2 := q1.trans (hb2.mono q1.size)
  go_wp2
  go_ret
  exact ⟨rfl, q2⟩
set_option maxRecDepth 100000 in
set_option maxHeartbeats 4000000 in
theorem word_flt (l : List AL) (hlen : l.length ≤ 1649267441664) (w : World) (ht : Tab w) (A : Option Addr) (cap : Nat) (hR : RdB w w.heap.size A 11 (l.map AL.cs)) (hin : ∀ x ∈ l, x.In w w.heap.size) (hy : l.all argMay = true) (hf : l.any fltX = true) : Calls Tryz.prog 11 #[.slice A l.length cap] w fun e w' => e = .returned (.bool true) ∧ Below w.heap.size w w' := by
  have hR' := Lib.hid hR
  have hin' := Lib.hid hin
  have CA : ∀ w1, Below w.heap.size w w1 → Hid (Calls Tryz.prog 34 #[.slice A l.length cap] w1 fun e w' => ∃ u, e = .returned (.tuple #[u, .bool true]) ∧ Below w1.heap.size w1 w') := fun w1 q1 => Lib.hid (by
    refine (rargs_any l hlen w1 A cap ((hR.below q1).mono q1.size) (fun x hx => ((hin x hx).below q1).mono q1.size)).mono ?_
    rintro e w' ⟨u, he, _, hb⟩
    rw [hy] at he
    exact ⟨u, he, hb⟩)
  have CF : ∀ w1, Below w.heap.size w w1 → Hid (Calls Tryz.prog 35 #[.slice A l.length cap] w1 fun e w' => e = .returned (.bool true) ∧ w' = w1) := fun w1 q1 => Lib.hid (by
    have h9 := lflt_any l hlen w1 A cap ((hR.below q1).mono q1.size) (fun x hx => ((hin x hx).below q1).mono q1.size)
    rwa [hf] at h9)
  clear hR hin hy hf
  go_enter Tryz.func11, Tryz.ntmps11
  go_wp2_with fail
  refine (akn_any _ (Tab.below ht (by (repeat (first | (with_reducible exact Below.refl _ _) | (with_reducible refine Below.alloc ?_ (by first | omega | (dsimp only; omega) | (simp <;> omega)) _) | (with_reducible refine Below.setCell ?_ (by first | omega | (dsimp only; omega) | (simp <;> omega)) _) | (with_reducible refine Below.drew ?_) | (with_reducible refine below_drewN ?_ _) | (with_reducible refine Below.trans ?_ (Below.mono (by assumption) (by first | omega | (dsimp only; omega) | (simp <;> omega))))))))).mono ?_
  rintro e w1 ⟨rfl, hb1⟩
  have q1 : Below w.heap.size w w1 := by (repeat (first | (with_reducible exact Below.refl _ _) | (with_reducible refine Below.alloc ?_ (by first | omega | (dsimp only; omega) | (simp <;> omega)) _) | (with_reducible refine Below.setCell ?_ (by first | omega | (dsimp only; omega) | (simp <;> omega)) _) | (with_reducible refine Below.drew ?_) | (with_reducible refine below_drewN ?_ _) | (with_reducible refine Below.trans ?_ (Below.mono (by assumption) (by first | omega | (dsimp only; omega) | (simp <;> omega))))))
  go_wp2_with fail
  refine (CA _ q1).out.mono ?_
  clear CA
  rintro e w2 ⟨u, rfl, hb2⟩
  have q2 : Below w.heap.size w w2 := q1.trans (hb2.mono q1.size)
  go_wp2_with fail
  refine (CF _ q2).out.mono ?_
  clear CF
  rintro e w3 ⟨rfl, rfl⟩
  go_wp2
  go_ret
  exact ⟨rfl, q2⟩
set_option maxRecDepth 100000 in
set_option maxHeartbeats 4000000 in
theorem word_len (l : List AL) (hlen : l.length ≤ 1649267441664) (w : World) (ht : Tab w) (A : Option Addr) (cap : Nat) (hR : RdB w w.heap.size A 11 (l.map AL.cs)) (hin : ∀ x ∈ l, x.In w w.heap.size) (hy : l.all argMay = true) (hf : l.any fltX = false) (hn : ¬ l.length ≤ 16) : Calls Tryz.prog 11 #[.slice A l.length cap] w fun e w' => e = .returned (.bool true) ∧ Below w.heap.size w w' := by
  have hR' := Lib.hid hR
  have hin' := Lib.hid hin
  have CA : ∀ w1, Below w.heap.size w w1 → Hid (Calls Tryz.prog 34 #[.slice A l.length cap] w1 fun e w' => ∃ u, e = .returned (.tuple #[u, .bool true]) ∧ Below w1.heap.size w1 w') := fun w1 q1 => Lib.hid (by
    refine (rargs_any l hlen w1 A cap ((hR.below q1).mono q1.size) (fun x hx => ((hin x hx).below q1).mono q1.size)).mono ?_
    rintro e w' ⟨u, he, _, hb⟩
    rw [hy] at he
    exact ⟨u, he, hb⟩)
  have CF : ∀ w1, Below w.heap.size w w1 → Hid (Calls Tryz.prog 35 #[.slice A l.length cap] w1 fun e w' => e = .returned (.bool false) ∧ w' = w1) := fun w1 q1 => Lib.hid (by
    have h9 := lflt_any l hlen w1 A cap ((hR.below q1).mono q1.size) (fun x hx => ((hin x hx).below q1).mono q1.size)
    rwa [hf] at h9)
  clear hR hin hy hf
  go_enter Tryz.func11, Tryz.ntmps11
  go_wp2_with fail
  refine (akn_any _ (Tab.below ht (by (repeat (first | (with_reducible exact Below.refl _ _) | (with_reducible refine Below.alloc ?_ (by first | omega | (dsimp only; omega) | (simp <;> omega)) _) | (with_reducible refine Below.setCell ?_ (by first | omega | (dsimp only; omega) | (simp <;> omega)) _) | (with_reducible refine Below.drew ?_) | (with_reducible refine below_drewN ?_ _) | (with_reducible refine Below.trans ?_ (Below.mono (by assumption) (by first | omega | (dsimp only; omega) | (simp <;> omega))))))))).mono ?_
  rintro e w1 ⟨rfl, hb1⟩
  have q1 : Below w.heap.size w w1 := by (repeat (first | (with_reducible exact Below.refl _ _) | (with_reducible refine Below.alloc ?_ (by first | omega | (dsimp only; omega) | (simp <;> omega)) _) | (with_reducible refine Below.setCell ?_ (by first | omega | (dsimp only; omega) | (simp <;> omega)) _) | (with_reducible refine Below.drew ?_) | (with_reducible refine below_drewN ?_ _) | (with_reducible refine Below.trans ?_ (Below.mono (by assumption) (by first | omega | (dsimp only; omega) | (simp <;> omega))))))
  go_wp2_with fail
  refine (CA _ q1).out.mono ?_
  clear CA
  rintro e w2 ⟨u, rfl, hb2⟩
  have q2 : Below w.heap.size w w2 := q1.trans (hb2.mono q1.size)
  go_wp2_with fail
  refine (CF _ q2).out.mono ?_
  clear CF
  rintro e w3 ⟨rfl, rfl⟩
  have hn1 : (16 : Int) < (l.length : Int) := by omega
  go_wp2
  go_ret
  exact ⟨rfl, q2⟩
set_option maxRecDepth 100000 in
set_option maxHeartbeats 4000000 in
theorem word_yes (l : List AL) (hlen : l.length ≤ 1649267441664) (w : World) (ht : Tab w) (A : Option Addr) (cap : Nat) (hcap : l.length ≤ cap) (hR : RdB w w.heap.size A 11 (l.map AL.cs)) (hin : ∀ x ∈ l, x.In w w.heap.size) (hy : l.all argMay = true) (hf : l.any fltX = false) (hl16 : l.length ≤ 16) : Calls Tryz.prog 11 #[.slice A l.length cap] w fun e w' => e = .returned (.bool true) ∧ Below w.heap.size w w' := by
  have hy' := Lib.hid hy
  have hf' := Lib.hid hf
  have hl16' := hl16
  have hR' := Lib.hid hR
  have hin' := Lib.hid hin
  have CA : ∀ w1, Below w.heap.size w w1 → Hid (Calls Tryz.prog 34 #[.slice A l.length cap] w1 fun e w' => ∃ u, e = .returned (.tuple #[u, .bool true]) ∧ Below w1.heap.size w1 w') := fun w1 q1 => Lib.hid (by
    refine (rargs_any l hlen w1 A cap ((hR.below q1).mono q1.size) (fun x hx => ((hin x hx).below q1).mono q1.size)).mono ?_
    rintro e w' ⟨u, he, _, hb⟩
    rw [hy] at he
    exact ⟨u, he, hb⟩)
  have CF : ∀ w1, Below w.heap.size w w1 → Hid (Calls Tryz.prog 35 #[.slice A l.length cap] w1 fun e w' => e = .returned (.bool false) ∧ w' = w1) := fun w1 q1 => Lib.hid (by
    have h9 := lflt_any l hlen w1 A cap ((hR.below q1).mono q1.size) (fun x hx => ((hin x hx).below q1).mono q1.size)
    rwa [hf] at h9)
  clear hR hin hy hf
  go_enter Tryz.func11, Tryz.ntmps11
  go_wp2_with fail
  refine (akn_any _ (Tab.below ht (by (repeat (first | (with_reducible exact Below.refl _ _) | (with_reducible refine Below.alloc ?_ (by first | omega | (dsimp only; omega) | (simp <;> omega)) _) | (with_reducible refine Below.setCell ?_ (by first | omega | (dsimp only; omega) | (simp <;> omega)) _) | (with_reducible refine Below.drew ?_) | (with_reducible refine below_drewN ?_ _) | (with_reducible refine Below.trans ?_ (Below.mono (by assumption) (by first | omega | (dsimp only; omega) | (simp <;> omega))))))))).mono ?_
  rintro e w1 ⟨rfl, hb1⟩
  have q1 : Below w.heap.size w w1 := by (repeat (first | (with_reducible exact Below.refl _ _) | (with_reducible refine Below.alloc ?_ (by first | omega | (dsimp only; omega) | (simp <;> omega)) _) | (with_reducible refine Below.setCell ?_ (by first | omega | (dsimp only; omega) | (simp <;> omega)) _) | (with_reducible refine Below.drew ?_) | (with_reducible refine below_drewN ?_ _) | (with_reducible refine Below.trans ?_ (Below.mono (by assumption) (by first | omega | (dsimp only; omega) | (simp <;> omega))))))
  go_wp2_with fail
  refine (CA _ q1).out.mono ?_
  clear CA
  rintro e w2 ⟨u, rfl, hb2⟩
  have q2 : Below w.heap.size w w2 := q1.trans (hb2.mono q1.size)
  go_wp2_with fail
  refine (CF _ q2).out.mono ?_
  clear CF
  rintro e w3 ⟨rfl, rfl⟩
  obtain ⟨i0, hi, hz0, hz1, hz2⟩ := info_parts arg_info
  have hn1 : ¬ (16 : Int) < (l.length : Int) := by omega
  have hw1 : IntKind.i64.wrap ((l.length : Int) - 1) = (l.length : Int) - 1 := IntWalk.i64_in _ (by omega)
  go_wp2
  go_loopw [5, 6] (fun v i wr => ∃ (k : Nat) (z : Int), k ≤ l.length ∧ i = .int .i64 z ∧ Hid (z + (k : Int) + 1 = (l.length : Int)) ∧ OwnA wr w.heap.size v (l.reverse.take k) ∧ Below w.heap.size w wr) (fun _ i _ => (intOf i + 1).toNat)
  case atStart => exact ⟨0, _, Nat.zero_le _, rfl, Lib.hid (by omega), World.ownsRow_nil _ _ _ _, q2⟩
  case round =>
    obtain ⟨k, z, hk, rfl, hzk, hown, hbr⟩ := hrel
    have hzr := hbr.size
    by_cases hlt : k < l.length
    · obtain ⟨m, hm⟩ : ∃ m : Nat, z = (m : Int) := ⟨z.toNat, by have := hzk.out; omega⟩
      subst hm
      have hmk : m + k + 1 = l.length := by have := hzk.out; omega
      have hmk' := Lib.hid hmk
      obtain ⟨x, hx⟩ : ∃ x, l[m]? = some x := ⟨_, List.getElem?_eq_getElem (by omega)⟩
      have hts : l.reverse.take (k + 1) = l.reverse.take k ++ [x] := by
        rw [List.take_add_one, List.getElem?_reverse (by omega), show l.length - 1 - k = m by omega, hx]; rfl
      obtain ⟨ab, ao, hA2, hab, hcell⟩ := (hR'.out.below hbr) m x.cs (by rw [List.getElem?_map, hx]; rfl)
      have hc0 : wr.cell? ⟨ab, ao + m * 11, none⟩ = some (.bool x.many) := hcell 0 _ rfl
      have hc1 : wr.cell? ⟨ab, ao + m * 11 + 1, none⟩ = some (.int .i64 x.v.t) := hcell 1 _ rfl
      have hc2 : wr.cell? ⟨ab, ao + m * 11 + 2, none⟩ = some (.int .i64 x.v.n) := hcell 2 _ rfl
      have hc3 : wr.cell? ⟨ab, ao + m * 11 + 3, none⟩ = some (.string x.v.s) := hcell 3 _ rfl
      have hc4 : wr.cell? ⟨ab, ao + m * 11 + 4, none⟩ = some (.bool x.v.b) := hcell 4 _ rfl
      have hc5 : wr.cell? ⟨ab, ao + m * 11 + 5, none⟩ = some (.int .i64 x.v.c) := hcell 5 _ rfl
      have hc6 : wr.cell? ⟨ab, ao + m * 11 + 6, none⟩ = some (.int .i64 x.t) := hcell 6 _ rfl
      have hc7 : wr.cell? ⟨ab, ao + m * 11 + 7, none⟩ = some (.int .i64 x.l) := hcell 7 _ rfl
      have hc8 : wr.cell? ⟨ab, ao + m * 11 + 8, none⟩ = some (.int .i64 x.b) := hcell 8 _ rfl
      have hc9 : wr.cell? ⟨ab, ao + m * 11 + 9, none⟩ = some (.int .i64 x.r) := hcell 9 _ rfl
      have hc10 : wr.cell? ⟨ab, ao + m * 11 + 10, none⟩ = some (.slice x.A x.es.length x.cap) := hcell 10 _ rfl
      have hml : (m : Int) < (l.length : Int) := by omega
      have hm0 : (0 : Int) ≤ (m : Int) := by omega
      have hwm : IntKind.i64.wrap ((m : Int) - 1) = (m : Int) - 1 := IntWalk.i64_in _ (by omega)
      have hll : (l.reverse.take k).length = k := by rw [List.length_take, List.length_reverse]; omega
      have hk16 : k ≤ 15 := by omega
      have hts' := Lib.hid hts
      have hA3 := Lib.hid hA2
      unfold OwnA at hown
      generalize hbs : l.reverse.take k = base at *
      rw [hll] at hown
      clear hx hcell hts hmk hzk hlt hbs
      have hvg := heap_alloc_new wr (.cells #[.bool x.many, .int .i64 x.v.t, .int .i64 x.v.n, .string x.v.s, .bool x.v.b, .int .i64 x.v.c, .int .i64 x.t, .int .i64 x.l, .int .i64 x.b, .int .i64 x.r, .slice x.A x.es.length x.cap] 38)
      rw [hA2]
      clear hA2
      go_wp2_with (at_builtin; go_loud (refine wpList_append_own_at _ rfl _ _ 22 rfl w.heap.size 38 i0 (.agg #[.bool false, .int .i64 0, .int .i64 0, .string ⟨#[]⟩, .bool false, .int .i64 0, .int .i64 0, .int .i64 0, .int .i64 0, .int .i64 0, .slice none 0 0]) 11 112 Tryz.underlying22 hi hz0 hz1 hz2 rfl (by decide) _ _ _ rfl (hown.alloc _) ⟨wr.heap.size, 0, none⟩ 1 1 x.cs rfl rfl (aget hvg) (by simp [AL.cs, Value.oneCell']) (by unfold maxLen; omega) (by omega) (by simp; omega) ?_); intro v' w5 hown5 hgrow5 _ _)
      have hbr5 : Below w.heap.size w w5 := (hbr.alloc hzr (.cells #[.bool x.many, .int .i64 x.v.t, .int .i64 x.v.n, .string x.v.s, .bool x.v.b, .int .i64 x.v.c, .int .i64 x.t, .int .i64 x.l, .int .i64 x.b, .int .i64 x.r, .slice x.A x.es.length x.cap] 38)).grown hgrow5 (by simp; omega) (fun q hq => (hown.lt q hq).1)
      clear hgrow5 hvg
      go_roundw
      case rel => exact ⟨k + 1, _, by have := hmk'.out; omega, rfl, Lib.hid (by have := hmk'.out; omega), by rw [hts'.out]; unfold OwnA; rw [aRow_app, aRow_one, List.length_append, hll]; exact hown5, hbr5⟩
      case measure => simp [intOf]
    · obtain rfl : k = l.length := by omega
      have hz1' : z = -1 := by have := hzk.out; omega
      subst hz1'
      clear hzk
      have hrv : l.reverse.take l.length = l.reverse := List.take_of_length_le (by rw [List.length_reverse]; omega)
      rw [hrv] at hown
      clear hrv
      obtain ⟨A5, cap5, rfl, hc5, hr5⟩ := own_rda hown
      have hA1 : Hid (ArgsC wr (.slice A l.length cap) l) := Lib.hid ⟨A, cap, rfl, hcap, (hR'.out.below hbr).mono hbr.size, fun x hx => ((hin'.out x hx).below hbr).mono hbr.size⟩
      have hA2 : Hid (ArgsC wr (.slice A5 l.length cap5) l.reverse) := Lib.hid ⟨A5, cap5, by rw [List.length_reverse], hc5, hr5, fun x hx => ((hin'.out x (by simpa using hx)).below hbr).mono hbr.size⟩
      have htr := Lib.hid (Tab.below ht hbr)
      have hnew : ∀ (k : Nat) (nm : ByteArray), ordN[k]? = some nm → (wr.alloc (.cells #[.string ⟨#[83, 85, 77]⟩, .string ⟨#[77, 73, 78]⟩, .string ⟨#[77, 65, 88]⟩, .string ⟨#[65, 86, 71]⟩, .string ⟨#[77, 69, 68, 73, 65, 78]⟩, .string ⟨#[67, 79, 85, 78, 84]⟩, .string ⟨#[67, 79, 85, 78, 84, 65]⟩] 9)).cell? ⟨wr.heap.size, k, none⟩ = some (.string nm) := by
        intro k nm hk
        refine c_at rfl ?_
        rcases k with _ | _ | _ | _ | _ | _ | _ | k
        all_goals first | (cases hk; rfl) | (simp [ordN] at hk)
      have b9 : Below wr.heap.size wr (wr.alloc (.cells #[.string ⟨#[83, 85, 77]⟩, .string ⟨#[77, 73, 78]⟩, .string ⟨#[77, 65, 88]⟩, .string ⟨#[65, 86, 71]⟩, .string ⟨#[77, 69, 68, 73, 65, 78]⟩, .string ⟨#[67, 79, 85, 78, 84]⟩, .string ⟨#[67, 79, 85, 78, 84, 65]⟩] 9)) := (Below.refl _ _).alloc (Nat.le_refl _) _
      have hnb : wr.heap.size < (wr.alloc (.cells #[.string ⟨#[83, 85, 77]⟩, .string ⟨#[77, 73, 78]⟩, .string ⟨#[77, 65, 88]⟩, .string ⟨#[65, 86, 71]⟩, .string ⟨#[77, 69, 68, 73, 65, 78]⟩, .string ⟨#[67, 79, 85, 78, 84]⟩, .string ⟨#[67, 79, 85, 78, 84, 65]⟩] 9)).heap.size := by simp
      clear hown hr5 hc5
      rw [List.length_reverse]
      go_wp2_with fail
      generalize wr.alloc (.cells #[.string ⟨#[83, 85, 77]⟩, .string ⟨#[77, 73, 78]⟩, .string ⟨#[77, 65, 88]⟩, .string ⟨#[65, 86, 71]⟩, .string ⟨#[77, 69, 68, 73, 65, 78]⟩, .string ⟨#[67, 79, 85, 78, 84]⟩, .string ⟨#[67, 79, 85, 78, 84, 65]⟩] 9) = wn at *
      obtain ⟨nb, hnbe⟩ : ∃ nb, wr.heap.size = nb := ⟨_, rfl⟩
      rw [hnbe] at hnew hnb ⊢
      have hnew' := Lib.hid hnew
      have hB9 : Hid (Below w.heap.size w wn) := Lib.hid (hbr.trans (b9.mono hbr.size))
      have b9' := Lib.hid b9
      clear hnew b9 hbr hnbe
      go_loopw [8] (fun i wq => ∃ k : Nat, k ≤ 7 ∧ i = .int .i64 (k : Int) ∧ Below wn.heap.size wn wq) (fun i _ => 7 - (intOf i).toNat)
      case atStart => exact ⟨0, Nat.zero_le _, rfl, Below.refl _ _⟩
      case round =>
        obtain ⟨k, hk7, rfl, hbq⟩ := hrel
        by_cases hk : k < 7
        · obtain ⟨nm, hnm⟩ : ∃ nm, ordN[k]? = some nm := ⟨_, List.getElem?_eq_getElem (by show k < 7; exact hk)⟩
          obtain ⟨R, hO⟩ := ord_all hl16' hy'.out hf'.out k hk nm hnm
          have C1 : ∀ w', Below wn.heap.size wn w' → Hid (Calls Tryz.prog 27 #[.string nm, .slice A l.length cap, .int .i64 0] w' fun e w'' => e = .returned (.agg #[.int .i64 (R).t, .int .i64 (R).n, .string (R).s, .bool (R).b, .int .i64 (R).c]) ∧ Below w'.heap.size w' w'') := fun w' hb => Lib.hid (hO.fw w' _ (Tab.below htr.out (b9'.out.trans (hb.mono b9'.out.size))) (hA1.out.below (b9'.out.trans (hb.mono b9'.out.size))))
          have C2 : ∀ w', Below wn.heap.size wn w' → Hid (Calls Tryz.prog 27 #[.string nm, .slice A5 l.length cap5, .int .i64 0] w' fun e w'' => e = .returned (.agg #[.int .i64 (R).t, .int .i64 (R).n, .string (R).s, .bool (R).b, .int .i64 (R).c]) ∧ Below w'.heap.size w' w'') := fun w' hb => Lib.hid (hO.bw w' _ (Tab.below htr.out (b9'.out.trans (hb.mono b9'.out.size))) (hA2.out.below (b9'.out.trans (hb.mono b9'.out.size))))
          have hcn : wr.cell? ⟨nb, k, none⟩ = some (.string nm) := (hbq.cell (p := ⟨nb, k, none⟩) hnb).trans (hnew'.out k nm hnm)
          have hk7' : (k : Int) < 7 := by omega
          have hve := vEq_self_a R.t R.n R.s R.b R.c
          clear hO hnm
          go_wp2_with fail
          go_region_held3 (fun w' => w'.cell? ⟨nb, k, none⟩ = some (.string nm) ∧ Below wn.heap.size wn w' ∧ wn.heap.size ≤ w'.heap.size)
            (first | (go_split_ands; refine ⟨?_, ?_, ?_⟩ <;> first | (rw [hb.cell (by dsimp only; omega)]; assumption) | exact Below.trans (by assumption) (hb.mono (by omega)) | (have := hb.size; omega)) | (refine ⟨?_, ?_, ?_⟩ <;> first | exact hcn | exact Below.drew hbq | exact hbq.size))
            (first | (go_split_ands; go_at_call 27; with_reducible refine (C1 _ (by assumption)).out.mono ?_; rintro e w1 ⟨rfl, hb⟩) | (go_split_ands; go_at_call 27; with_reducible refine (C2 _ (by assumption)).out.mono ?_; rintro e w1 ⟨rfl, hb⟩))
          go_split_ands
          go_wp2
          go_roundw
          case rel => exact ⟨k + 1, by omega, by go_num, by assumption⟩
          case measure => simp [intOf]; omega
        · obtain rfl : k = 7 := by omega
          have q9 := hB9.out.trans (hbq.mono hB9.out.size)
          go_wp2
          go_ret
          exact ⟨rfl, q9⟩
theorem walk_AggsOrder (l : List AL) (hlen : l.length ≤ 1649267441664) (w : World) (ht : Tab w) (A : Option Addr) (cap : Nat) (hcap : l.length ≤ cap) (hR : RdB w w.heap.size A 11 (l.map AL.cs)) (hin : ∀ x ∈ l, x.In w w.heap.size) : Calls Tryz.prog 11 #[.slice A l.length cap] w fun e w' => e = .returned (.bool true) ∧ Below w.heap.size w w' := by
  cases hy : l.all argMay
  · exact word_may l hlen w ht A cap hR hin hy
  · cases hf : l.any fltX
    · by_cases hn : l.length ≤ 16
      · exact word_yes l hlen w ht A cap hcap hR hin hy hf hn
      · exact word_len l hlen w ht A cap hR hin hy hf hn
    · exact word_flt l hlen w ht A cap hR hin hy hf
end Go.Proofs.YtaomlgpakbjegaaGreatDoor
