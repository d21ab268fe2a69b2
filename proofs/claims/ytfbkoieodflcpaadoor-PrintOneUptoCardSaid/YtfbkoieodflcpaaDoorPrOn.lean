/-
  oriellaw07.PrintOne.
-/
import Derived.Test.YtfbkoieodflcpaaDoorMg4
import Derived.Test.YtfbkoieodflcpaaDoorRows
import Derived.Test.YtfbkoieodflcpaaDoorBase
import Derived.Test.YtfbkoieodflcpaaDoorProg
import Derived.Test.YtfbkoieodflcpaaDoorShelf
import Derived.Test.YtfbkoieodflcpaaDoorAddrC
import Derived.Test.YtfbkoieodflcpaaDoorMg6
import Derived.Test.YtfbkoieodflcpaaDoorDecA
import Derived.Test.YtfbkoieodflcpaaDoorValA
import Derived.Test.YtfbkoieodflcpaaDoorValB
import Derived.Test.YtfbkoieodflcpaaDoorMg11
import Derived.Test.YtfbkoieodflcpaaDoorMg10
import Derived.Test.YtfbkoieodflcpaaDoorMapK
import Derived.Test.YtfbkoieodflcpaaDoorRefP
import Derived.Test.YtfbkoieodflcpaaDoorRefQ
import Derived.Test.YtfbkoieodflcpaaDoorShelfC
import Derived.Test.YtfbkoieodflcpaaDoorFmtU
import Derived.Test.YtfbkoieodflcpaaDoorNameX
import Derived.Test.YtfbkoieodflcpaaDoorNameY
import Derived.Test.YtfbkoieodflcpaaDoorDPrint
import Derived.Test.YtfbkoieodflcpaaDoorValL
import Derived.Test.YtfbkoieodflcpaaDoorPrP
import Derived.Test.YtfbkoieodflcpaaDoorPrA
import Derived.Test.YtfbkoieodflcpaaDoorPrS
import Derived.Test.YtfbkoieodflcpaaDoorPrT
import Derived.Test.YtfbkoieodflcpaaDoorPrO1
import Derived.Test.YtfbkoieodflcpaaDoorPrO2
import Derived.Test.YtfbkoieodflcpaaDoorMg26
import Derived.Test.YtfbkoieodflcpaaDoorNumP
import Derived.Test.YtfbkoieodflcpaaDoorPrO5
import Derived.Test.YtfbkoieodflcpaaDoorRefN
import Derived.Test.YtfbkoieodflcpaaDoorRefM
import Derived.Test.YtfbkoieodflcpaaDoorRefY
import Derived.Test.YtfbkoieodflcpaaDoorRefZ
import Derived.Test.YtfbkoieodflcpaaDoorPrO6
import Derived.Test.YtfbkoieodflcpaaDoorPrO7
import Derived.Test.YtfbkoieodflcpaaDoorPrO8
import Derived.Test.YtfbkoieodflcpaaDoorPrO9
import Derived.Test.YtfbkoieodflcpaaDoorPrO10
import Derived.Test.YtfbkoieodflcpaaDoorPrO11
import Derived.Test.YtfbkoieodflcpaaDoorPrSm
import Derived.Test.YtfbkoieodflcpaaDoorPrD
import Derived.Test.YtfbkoieodflcpaaDoorRefD
import Derived.Test.YtfbkoieodflcpaaDoorRefC
import Derived.Test.YtfbkoieodflcpaaDoorBld
import Derived.Test.YtfbkoieodflcpaaDoorPrB
import Derived.Test.YtfbkoieodflcpaaDoorPrL
import Derived.WalkSpells
import Derived.WalkLawsBesides
import Derived.StillTactics
import Derived.Laws.Pointers
import Derived.Deep.RegionHeld3
import Derived.Deep.QuietTactic
import Derived.BigQuiet
import Derived.RowKit3
import Derived.Lib.Hide
import Derived.Lib.OthersKept
import Derived.OwnWalk
import Derived.Lib.IndexLaws
import Derived.Lib.ItoaMem
import Derived.Lib.TrimByte
import Derived.Lib.SlTrimSet
import Derived.Lib.ParseIntB
import Derived.WalkKit
import Derived.ProofKit
import Derived.OpenShut
import Derived.Carry
import Derived.ChangeSame
import Derived.Deep.Draws
import Derived.Shelf.Strings.Builder1
import Derived.Shelf.Strings.Builder2
import Derived.Shelf.Strings.Trim
import Derived.Shelf.Small.Utf8
import Derived.Shelf.Small.Strs
import Derived.Shelf.Strings.BuilderF
import Derived.Shelf.Strings.BuilderK
import Derived.Shelf.Strconv.Itoa0
import Derived.Shelf.Strconv.Itoa1
import Derived.Shelf.LaysM
import Derived.Shelf.Strconv.Itoa2
import Derived.Shelf.Strconv.Itoa3
import Derived.Shelf.Strings.Search1
import Derived.Shelf.Strings.Search2
import Derived.Shelf.Strings.Search3
import Derived.Shelf.Strings.Count
import Derived.Shelf.Strings.Shaped
import Derived.Shelf.Strings.Split
import Derived.Shelf.Strings.Replace
import Derived.Shelf.Strings.Runes
import Derived.Shelf.Strings.AsciiSet
import Derived.Shelf.Unicode.DecodeSlow
import Derived.Lib.ItoaNum
import Derived.Maps.OwnSet
import Derived.Maps.AppendAt
import Derived.Lib.Bytealg
import Derived.Lib.Replace
import Derived.Outline
import Derived.Deep.CutRange
import Derived.Deep.AppendLies
namespace Go.Proofs.YtfbkoieodflcpaaDoor
open Go.RowKit

theorem first_diff : ∀ {l m : List NL}, l.length = m.length → l ≠ m → ∃ d, d < l.length ∧ (∀ j, j < d → l[j]? = m[j]?) ∧ l[d]? ≠ m[d]?
  | [], [], _, h => absurd rfl h
  | [], _ :: _, h, _ => absurd h (by simp)
  | _ :: _, [], h, _ => absurd h (by simp)
  | a :: l, b :: m, h, hn => by
    by_cases hab : a = b
    · subst hab
      obtain ⟨d, h1, h2, h3⟩ := first_diff (by simpa using h) (fun e => hn (by rw [e]))
      refine ⟨d + 1, by simp; omega, fun j hj => ?_, by simpa using h3⟩
      cases j with
      | zero => rfl
      | succ j => simpa using h2 j (by omega)
    · exact ⟨0, by simp, fun j hj => absurd hj (by omega), by simpa using hab⟩
set_option maxHeartbeats 4000000 in
theorem rsame_len (ns ms : List NL) (hne : ns.length ≠ ms.length) (w : World) (A B : Option Addr) (cap cap2 : Nat) : Calls Tryd.prog 8 #[.agg #[.slice A ns.length cap], .agg #[.slice B ms.length cap2]] w fun e w' => e = .returned (.bool false) ∧ Below w.heap.size w w' := by
  have hW : Below w.heap.size w ((w.alloc (.cells #[.slice A ns.length cap] 24)).alloc (.cells #[.slice B ms.length cap2] 24)) := ((Below.refl _ _).alloc (Nat.le_refl _) _).alloc (by simp) _
  have hq : ((ns.length : Int) == (ms.length : Int)) = false := beq_eq_false_iff_ne.2 (by omega)
  go_enter Tryd.func8, Tryd.ntmps8
  go_wp2
  go_ret
  exact ⟨rfl, hW⟩
set_option maxRecDepth 100000 in
set_option maxHeartbeats 4000000 in
theorem pone_nn (ns ms : List NL) (w : World) (ht : Tab w) (A B : Option Addr) (cap cap2 : Nat) (CP : ∀ w0 : World, Below w.heap.size w w0 → Calls Tryd.prog 6 #[.agg #[.slice A ns.length cap]] w0 fun e w' => e = .returned (.tuple #[.string ⟨#[]⟩, .int .i64 20]) ∧ Below w0.heap.size w0 w') (CQ : ∀ w0 : World, Below w.heap.size w w0 → Calls Tryd.prog 6 #[.agg #[.slice B ms.length cap2]] w0 fun e w' => e = .returned (.tuple #[.string ⟨#[]⟩, .int .i64 20]) ∧ Below w0.heap.size w0 w') : Calls Tryd.prog 3 #[.agg #[.slice A ns.length cap], .agg #[.slice B ms.length cap2]] w fun e w' => e = .returned (.bool true) ∧ Below w.heap.size w w' := by
  have htH := Lib.hid ht
  have CPH := Lib.hid CP
  have CQH := Lib.hid CQ
  clear CP CQ ht
  have hW : Below w.heap.size w ((w.alloc (.cells #[.slice A ns.length cap] 24)).alloc (.cells #[.slice B ms.length cap2] 24)) := ((Below.refl _ _).alloc (Nat.le_refl _) _).alloc (by simp) _
  have z0 : ((w.alloc (.cells #[.slice A ns.length cap] 24)).alloc (.cells #[.slice B ms.length cap2] 24)).heap.size = w.heap.size + 2 := by simp
  go_enter Tryd.func3, Tryd.ntmps3
  go_wp2_with fail
  go_at_call 6
  refine (CPH.out _ hW).mono ?_
  rintro e w1 ⟨rfl, hb⟩
  have b1 : Below w.heap.size w w1 := hW.trans (hb.mono hW.size)
  have z1 : w.heap.size + 2 ≤ w1.heap.size := by have := hb.size; simp at this; omega
  have f0 : w1.cell? ⟨w.heap.size, 0, none⟩ = some (.slice A ns.length cap) := (hb.cell (p := ⟨w.heap.size, 0, none⟩) (by show w.heap.size < ((w.alloc (.cells #[.slice A ns.length cap] 24)).alloc (.cells #[.slice B ms.length cap2] 24)).heap.size; rw [z0]; omega)).trans (by simp [go_sem])
  have f1 : w1.cell? ⟨w.heap.size + 1, 0, none⟩ = some (.slice B ms.length cap2) := (hb.cell (p := ⟨w.heap.size + 1, 0, none⟩) (by show w.heap.size + 1 < ((w.alloc (.cells #[.slice A ns.length cap] 24)).alloc (.cells #[.slice B ms.length cap2] 24)).heap.size; rw [z0]; omega)).trans (by simp [go_sem])
  clear hb
  go_wp2_with fail
  go_at_call 6
  refine (CQH.out _ b1).mono ?_
  rintro e w2 ⟨rfl, hb⟩
  have b2 : Below w.heap.size w w2 := b1.trans (hb.mono b1.size)
  have z2 : w.heap.size + 2 ≤ w2.heap.size := by have := hb.size; omega
  have f0 : w2.cell? ⟨w.heap.size, 0, none⟩ = some (.slice A ns.length cap) := (hb.cell (p := ⟨w.heap.size, 0, none⟩) (by show w.heap.size < _; have := z1; omega)).trans f0
  have f1 : w2.cell? ⟨w.heap.size + 1, 0, none⟩ = some (.slice B ms.length cap2) := (hb.cell (p := ⟨w.heap.size + 1, 0, none⟩) (by show w.heap.size + 1 < _; have := z1; omega)).trans f1
  clear hb
  go_wp2_with fail
  go_at_call 7
  refine (plives _ (Tab.below htH.out b2)).mono ?_
  rintro e w4 ⟨rfl, hb⟩
  have b4 := b2.trans (hb.mono b2.size)
  go_wp2
  go_ret
  exact ⟨rfl, b4⟩
set_option maxRecDepth 100000 in
set_option maxHeartbeats 4000000 in
theorem pone_ny (ns ms : List NL) (l : List UInt8) (w : World) (ht : Tab w) (A B : Option Addr) (cap cap2 : Nat) (CP : ∀ w0 : World, Below w.heap.size w w0 → Calls Tryd.prog 6 #[.agg #[.slice A ns.length cap]] w0 fun e w' => e = .returned (.tuple #[.string ⟨#[]⟩, .int .i64 20]) ∧ Below w0.heap.size w0 w') (CQ : ∀ w0 : World, Below w.heap.size w w0 → Calls Tryd.prog 6 #[.agg #[.slice B ms.length cap2]] w0 fun e w' => e = .returned (.tuple #[.string ⟨l.toArray⟩, .int .i64 0]) ∧ Below w0.heap.size w0 w') : Calls Tryd.prog 3 #[.agg #[.slice A ns.length cap], .agg #[.slice B ms.length cap2]] w fun e w' => e = .returned (.bool true) ∧ Below w.heap.size w w' := by
  have htH := Lib.hid ht
  have CPH := Lib.hid CP
  have CQH := Lib.hid CQ
  clear CP CQ ht
  have hW : Below w.heap.size w ((w.alloc (.cells #[.slice A ns.length cap] 24)).alloc (.cells #[.slice B ms.length cap2] 24)) := ((Below.refl _ _).alloc (Nat.le_refl _) _).alloc (by simp) _
  have z0 : ((w.alloc (.cells #[.slice A ns.length cap] 24)).alloc (.cells #[.slice B ms.length cap2] 24)).heap.size = w.heap.size + 2 := by simp
  go_enter Tryd.func3, Tryd.ntmps3
  go_wp2_with fail
  go_at_call 6
  refine (CPH.out _ hW).mono ?_
  rintro e w1 ⟨rfl, hb⟩
  have b1 : Below w.heap.size w w1 := hW.trans (hb.mono hW.size)
  have z1 : w.heap.size + 2 ≤ w1.heap.size := by have := hb.size; simp at this; omega
  have f0 : w1.cell? ⟨w.heap.size, 0, none⟩ = some (.slice A ns.length cap) := (hb.cell (p := ⟨w.heap.size, 0, none⟩) (by show w.heap.size < ((w.alloc (.cells #[.slice A ns.length cap] 24)).alloc (.cells #[.slice B ms.length cap2] 24)).heap.size; rw [z0]; omega)).trans (by simp [go_sem])
  have f1 : w1.cell? ⟨w.heap.size + 1, 0, none⟩ = some (.slice B ms.length cap2) := (hb.cell (p := ⟨w.heap.size + 1, 0, none⟩) (by show w.heap.size + 1 < ((w.alloc (.cells #[.slice A ns.length cap] 24)).alloc (.cells #[.slice B ms.length cap2] 24)).heap.size; rw [z0]; omega)).trans (by simp [go_sem])
  clear hb
  go_wp2_with fail
  go_at_call 6
  refine (CQH.out _ b1).mono ?_
  rintro e w2 ⟨rfl, hb⟩
  have b2 : Below w.heap.size w w2 := b1.trans (hb.mono b1.size)
  have z2 : w.heap.size + 2 ≤ w2.heap.size := by have := hb.size; omega
  have f0 : w2.cell? ⟨w.heap.size, 0, none⟩ = some (.slice A ns.length cap) := (hb.cell (p := ⟨w.heap.size, 0, none⟩) (by show w.heap.size < _; have := z1; omega)).trans f0
  have f1 : w2.cell? ⟨w.heap.size + 1, 0, none⟩ = some (.slice B ms.length cap2) := (hb.cell (p := ⟨w.heap.size + 1, 0, none⟩) (by show w.heap.size + 1 < _; have := z1; omega)).trans f1
  clear hb
  go_wp2_with fail
  go_at_call 7
  refine (plives _ (Tab.below htH.out b2)).mono ?_
  rintro e w4 ⟨rfl, hb⟩
  have b4 := b2.trans (hb.mono b2.size)
  go_wp2
  go_ret
  exact ⟨rfl, b4⟩
set_option maxRecDepth 100000 in
set_option maxHeartbeats 4000000 in
theorem pone_yn (ns ms : List NL) (l : List UInt8) (w : World) (ht : Tab w) (A B : Option Addr) (cap cap2 : Nat) (CP : ∀ w0 : World, Below w.heap.size w w0 → Calls Tryd.prog 6 #[.agg #[.slice A ns.length cap]] w0 fun e w' => e = .returned (.tuple #[.string ⟨l.toArray⟩, .int .i64 0]) ∧ Below w0.heap.size w0 w') (CQ : ∀ w0 : World, Below w.heap.size w w0 → Calls Tryd.prog 6 #[.agg #[.slice B ms.length cap2]] w0 fun e w' => e = .returned (.tuple #[.string ⟨#[]⟩, .int .i64 20]) ∧ Below w0.heap.size w0 w') : Calls Tryd.prog 3 #[.agg #[.slice A ns.length cap], .agg #[.slice B ms.length cap2]] w fun e w' => e = .returned (.bool true) ∧ Below w.heap.size w w' := by
  have htH := Lib.hid ht
  have CPH := Lib.hid CP
  have CQH := Lib.hid CQ
  clear CP CQ ht
  have hW : Below w.heap.size w ((w.alloc (.cells #[.slice A ns.length cap] 24)).alloc (.cells #[.slice B ms.length cap2] 24)) := ((Below.refl _ _).alloc (Nat.le_refl _) _).alloc (by simp) _
  have z0 : ((w.alloc (.cells #[.slice A ns.length cap] 24)).alloc (.cells #[.slice B ms.length cap2] 24)).heap.size = w.heap.size + 2 := by simp
  go_enter Tryd.func3, Tryd.ntmps3
  go_wp2_with fail
  go_at_call 6
  refine (CPH.out _ hW).mono ?_
  rintro e w1 ⟨rfl, hb⟩
  have b1 : Below w.heap.size w w1 := hW.trans (hb.mono hW.size)
  have z1 : w.heap.size + 2 ≤ w1.heap.size := by have := hb.size; simp at this; omega
  have f0 : w1.cell? ⟨w.heap.size, 0, none⟩ = some (.slice A ns.length cap) := (hb.cell (p := ⟨w.heap.size, 0, none⟩) (by show w.heap.size < ((w.alloc (.cells #[.slice A ns.length cap] 24)).alloc (.cells #[.slice B ms.length cap2] 24)).heap.size; rw [z0]; omega)).trans (by simp [go_sem])
  have f1 : w1.cell? ⟨w.heap.size + 1, 0, none⟩ = some (.slice B ms.length cap2) := (hb.cell (p := ⟨w.heap.size + 1, 0, none⟩) (by show w.heap.size + 1 < ((w.alloc (.cells #[.slice A ns.length cap] 24)).alloc (.cells #[.slice B ms.length cap2] 24)).heap.size; rw [z0]; omega)).trans (by simp [go_sem])
  clear hb
  go_wp2_with fail
  go_at_call 6
  refine (CQH.out _ b1).mono ?_
  rintro e w2 ⟨rfl, hb⟩
  have b2 : Below w.heap.size w w2 := b1.trans (hb.mono b1.size)
  have z2 : w.heap.size + 2 ≤ w2.heap.size := by have := hb.size; omega
  have f0 : w2.cell? ⟨w.heap.size, 0, none⟩ = some (.slice A ns.length cap) := (hb.cell (p := ⟨w.heap.size, 0, none⟩) (by show w.heap.size < _; have := z1; omega)).trans f0
  have f1 : w2.cell? ⟨w.heap.size + 1, 0, none⟩ = some (.slice B ms.length cap2) := (hb.cell (p := ⟨w.heap.size + 1, 0, none⟩) (by show w.heap.size + 1 < _; have := z1; omega)).trans f1
  clear hb
  go_wp2_with fail
  go_at_call 7
  refine (plives _ (Tab.below htH.out b2)).mono ?_
  rintro e w4 ⟨rfl, hb⟩
  have b4 := b2.trans (hb.mono b2.size)
  go_wp2
  go_ret
  exact ⟨rfl, b4⟩
set_option maxRecDepth 100000 in
set_option maxHeartbeats 4000000 in
theorem pone_eq (ns ms : List NL) (l : List UInt8) (w : World) (ht : Tab w) (A B : Option Addr) (cap cap2 : Nat) (CP : ∀ w0 : World, Below w.heap.size w w0 → Calls Tryd.prog 6 #[.agg #[.slice A ns.length cap]] w0 fun e w' => e = .returned (.tuple #[.string ⟨l.toArray⟩, .int .i64 0]) ∧ Below w0.heap.size w0 w') (CQ : ∀ w0 : World, Below w.heap.size w w0 → Calls Tryd.prog 6 #[.agg #[.slice B ms.length cap2]] w0 fun e w' => e = .returned (.tuple #[.string ⟨l.toArray⟩, .int .i64 0]) ∧ Below w0.heap.size w0 w') (CS : ∀ w0 : World, Below w.heap.size w w0 → Calls Tryd.prog 8 #[.agg #[.slice A ns.length cap], .agg #[.slice B ms.length cap2]] w0 fun e w' => e = .returned (.bool true) ∧ Below w0.heap.size w0 w') : Calls Tryd.prog 3 #[.agg #[.slice A ns.length cap], .agg #[.slice B ms.length cap2]] w fun e w' => e = .returned (.bool true) ∧ Below w.heap.size w w' := by
  have htH := Lib.hid ht
  have CPH := Lib.hid CP
  have CQH := Lib.hid CQ
  have CSH := Lib.hid CS
  clear CP CQ ht CS
  have hW : Below w.heap.size w ((w.alloc (.cells #[.slice A ns.length cap] 24)).alloc (.cells #[.slice B ms.length cap2] 24)) := ((Below.refl _ _).alloc (Nat.le_refl _) _).alloc (by simp) _
  have z0 : ((w.alloc (.cells #[.slice A ns.length cap] 24)).alloc (.cells #[.slice B ms.length cap2] 24)).heap.size = w.heap.size + 2 := by simp
  go_enter Tryd.func3, Tryd.ntmps3
  go_wp2_with fail
  go_at_call 6
  refine (CPH.out _ hW).mono ?_
  rintro e w1 ⟨rfl, hb⟩
  have b1 : Below w.heap.size w w1 := hW.trans (hb.mono hW.size)
  have z1 : w.heap.size + 2 ≤ w1.heap.size := by have := hb.size; simp at this; omega
  have f0 : w1.cell? ⟨w.heap.size, 0, none⟩ = some (.slice A ns.length cap) := (hb.cell (p := ⟨w.heap.size, 0, none⟩) (by show w.heap.size < ((w.alloc (.cells #[.slice A ns.length cap] 24)).alloc (.cells #[.slice B ms.length cap2] 24)).heap.size; rw [z0]; omega)).trans (by simp [go_sem])
  have f1 : w1.cell? ⟨w.heap.size + 1, 0, none⟩ = some (.slice B ms.length cap2) := (hb.cell (p := ⟨w.heap.size + 1, 0, none⟩) (by show w.heap.size + 1 < ((w.alloc (.cells #[.slice A ns.length cap] 24)).alloc (.cells #[.slice B ms.length cap2] 24)).heap.size; rw [z0]; omega)).trans (by simp [go_sem])
  clear hb
  go_wp2_with fail
  go_at_call 6
  refine (CQH.out _ b1).mono ?_
  rintro e w2 ⟨rfl, hb⟩
  have b2 : Below w.heap.size w w2 := b1.trans (hb.mono b1.size)
  have z2 : w.heap.size + 2 ≤ w2.heap.size := by have := hb.size; omega
  have f0 : w2.cell? ⟨w.heap.size, 0, none⟩ = some (.slice A ns.length cap) := (hb.cell (p := ⟨w.heap.size, 0, none⟩) (by show w.heap.size < _; have := z1; omega)).trans f0
  have f1 : w2.cell? ⟨w.heap.size + 1, 0, none⟩ = some (.slice B ms.length cap2) := (hb.cell (p := ⟨w.heap.size + 1, 0, none⟩) (by show w.heap.size + 1 < _; have := z1; omega)).trans f1
  clear hb
  go_wp2_with fail
  go_at_call 8
  refine (CSH.out _ b2).mono ?_
  rintro e w3 ⟨rfl, hb⟩
  have b3 : Below w.heap.size w w3 := b2.trans (hb.mono b2.size)
  clear hb f0 f1
  go_wp2_with fail
  go_at_call 7
  refine (plives _ (Tab.below htH.out b3)).mono ?_
  rintro e w4 ⟨rfl, hb⟩
  have b4 := b3.trans (hb.mono b3.size)
  go_wp2
  go_ret
  exact ⟨rfl, b4⟩
set_option maxRecDepth 100000 in
set_option maxHeartbeats 4000000 in
theorem pone_ne (ns ms : List NL) (l m : List UInt8) (hlm : l ≠ m) (w : World) (ht : Tab w) (A B : Option Addr) (cap cap2 : Nat) (CP : ∀ w0 : World, Below w.heap.size w w0 → Calls Tryd.prog 6 #[.agg #[.slice A ns.length cap]] w0 fun e w' => e = .returned (.tuple #[.string ⟨l.toArray⟩, .int .i64 0]) ∧ Below w0.heap.size w0 w') (CQ : ∀ w0 : World, Below w.heap.size w w0 → Calls Tryd.prog 6 #[.agg #[.slice B ms.length cap2]] w0 fun e w' => e = .returned (.tuple #[.string ⟨m.toArray⟩, .int .i64 0]) ∧ Below w0.heap.size w0 w') (CS : ∀ w0 : World, Below w.heap.size w w0 → Calls Tryd.prog 8 #[.agg #[.slice A ns.length cap], .agg #[.slice B ms.length cap2]] w0 fun e w' => e = .returned (.bool false) ∧ Below w0.heap.size w0 w') : Calls Tryd.prog 3 #[.agg #[.slice A ns.length cap], .agg #[.slice B ms.length cap2]] w fun e w' => e = .returned (.bool true) ∧ Below w.heap.size w w' := by
  have hbp : (l = m) = False := eq_false hlm
  have htH := Lib.hid ht
  have CPH := Lib.hid CP
  have CQH := Lib.hid CQ
  have CSH := Lib.hid CS
  clear CP CQ ht CS
  have hW : Below w.heap.size w ((w.alloc (.cells #[.slice A ns.length cap] 24)).alloc (.cells #[.slice B ms.length cap2] 24)) := ((Below.refl _ _).alloc (Nat.le_refl _) _).alloc (by simp) _
  have z0 : ((w.alloc (.cells #[.slice A ns.length cap] 24)).alloc (.cells #[.slice B ms.length cap2] 24)).heap.size = w.heap.size + 2 := by simp
  go_enter Tryd.func3, Tryd.ntmps3
  go_wp2_with fail
  go_at_call 6
  refine (CPH.out _ hW).mono ?_
  rintro e w1 ⟨rfl, hb⟩
  have b1 : Below w.heap.size w w1 := hW.trans (hb.mono hW.size)
  have z1 : w.heap.size + 2 ≤ w1.heap.size := by have := hb.size; simp at this; omega
  have f0 : w1.cell? ⟨w.heap.size, 0, none⟩ = some (.slice A ns.length cap) := (hb.cell (p := ⟨w.heap.size, 0, none⟩) (by show w.heap.size < ((w.alloc (.cells #[.slice A ns.length cap] 24)).alloc (.cells #[.slice B ms.length cap2] 24)).heap.size; rw [z0]; omega)).trans (by simp [go_sem])
  have f1 : w1.cell? ⟨w.heap.size + 1, 0, none⟩ = some (.slice B ms.length cap2) := (hb.cell (p := ⟨w.heap.size + 1, 0, none⟩) (by show w.heap.size + 1 < ((w.alloc (.cells #[.slice A ns.length cap] 24)).alloc (.cells #[.slice B ms.length cap2] 24)).heap.size; rw [z0]; omega)).trans (by simp [go_sem])
  clear hb
  go_wp2_with fail
  go_at_call 6
  refine (CQH.out _ b1).mono ?_
  rintro e w2 ⟨rfl, hb⟩
  have b2 : Below w.heap.size w w2 := b1.trans (hb.mono b1.size)
  have z2 : w.heap.size + 2 ≤ w2.heap.size := by have := hb.size; omega
  have f0 : w2.cell? ⟨w.heap.size, 0, none⟩ = some (.slice A ns.length cap) := (hb.cell (p := ⟨w.heap.size, 0, none⟩) (by show w.heap.size < _; have := z1; omega)).trans f0
  have f1 : w2.cell? ⟨w.heap.size + 1, 0, none⟩ = some (.slice B ms.length cap2) := (hb.cell (p := ⟨w.heap.size + 1, 0, none⟩) (by show w.heap.size + 1 < _; have := z1; omega)).trans f1
  clear hb
  go_wp2_with fail
  go_at_call 8
  refine (CSH.out _ b2).mono ?_
  rintro e w3 ⟨rfl, hb⟩
  have b3 : Below w.heap.size w w3 := b2.trans (hb.mono b2.size)
  clear hb f0 f1
  go_wp2_with fail
  go_at_call 7
  refine (plives _ (Tab.below htH.out b3)).mono ?_
  rintro e w4 ⟨rfl, hb⟩
  have b4 := b3.trans (hb.mono b3.size)
  go_wp2
  go_ret
  exact ⟨rfl, b4⟩
theorem walk_PrintOne (ns : List NL) (hlen : ns.length ≤ 1048576) (hok : ∀ n ∈ ns, n.ok) (hsz : ∀ n ∈ ns, n.v.s.size ≤ 1048576) (ms : List NL) (hlen2 : ms.length ≤ 1048576) (hok2 : ∀ n ∈ ms, n.ok) (hsz2 : ∀ n ∈ ms, n.v.s.size ≤ 1048576) (w : World) (ht : Tab w) (A : Option Addr) (cap : Nat) (hR : RdB w w.heap.size A 15 (ns.map NL.cs)) (B : Option Addr) (cap2 : Nat) (hR2 : RdB w w.heap.size B 15 (ms.map NL.cs)) : Calls Tryd.prog 3 #[.agg #[.slice A ns.length cap], .agg #[.slice B ms.length cap2]] w fun e w' => e = .returned (.bool true) ∧ Below w.heap.size w w' := by
  have CN := fun (h : checkP ns = false) (w0 : World) (hb0 : Below w.heap.size w w0) => print_no ns (by omega) hok w0 A cap ((hR.below hb0).mono hb0.size) h
  have CY := fun (h : checkP ns = true) (w0 : World) (hb0 : Below w.heap.size w w0) => print_yes ns (by omega) hok hsz w0 (Tab.below ht hb0) A cap ((hR.below hb0).mono hb0.size) h
  have DN := fun (h : checkP ms = false) (w0 : World) (hb0 : Below w.heap.size w w0) => print_no ms (by omega) hok2 w0 B cap2 ((hR2.below hb0).mono hb0.size) h
  have DY := fun (h : checkP ms = true) (w0 : World) (hb0 : Below w.heap.size w w0) => print_yes ms (by omega) hok2 hsz2 w0 (Tab.below ht hb0) B cap2 ((hR2.below hb0).mono hb0.size) h
  cases h1 : checkP ns
  · cases h2 : checkP ms
    · exact pone_nn ns ms w ht A B cap cap2 (CN h1) (DN h2)
    · exact pone_ny ns ms (formT ms) w ht A B cap cap2 (CN h1) (DY h2)
  · cases h2 : checkP ms
    · exact pone_yn ns ms (formT ns) w ht A B cap cap2 (CY h1) (DN h2)
    · by_cases he : ns = ms
      · subst he
        exact pone_eq ns ns (formT ns) w ht A B cap cap2 (CY h1) (DY h2) fun w0 hb0 => rsame_refl ns (by omega) w0 A B cap cap2 ((hR.below hb0).mono hb0.size) ((hR2.below hb0).mono hb0.size)
      · refine pone_ne ns ms (formT ns) (formT ms) (fun e => he (form_one h1 h2 hok hok2 e)) w ht A B cap cap2 (CY h1) (DY h2) fun w0 hb0 => ?_
        by_cases hl : ns.length = ms.length
        · obtain ⟨d, d1, d2, d3⟩ := first_diff hl he
          rw [← hl]
          exact rsame_diff ns ms (by omega) hl.symm d d1 d2 d3 w0 A B cap cap2 ((hR.below hb0).mono hb0.size) ((hR2.below hb0).mono hb0.size)
        · exact rsame_len ns ms hl w0 A B cap cap2
end Go.Proofs.YtfbkoieodflcpaaDoor
