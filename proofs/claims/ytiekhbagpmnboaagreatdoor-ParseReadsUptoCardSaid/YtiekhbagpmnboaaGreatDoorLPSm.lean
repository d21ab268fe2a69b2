/-
  oriellaw06.same, of a formula and its like.
-/
import Derived.Test.YtiekhbagpmnboaaGreatDoorMg0
import Derived.Test.YtiekhbagpmnboaaGreatDoorRows
import Derived.Test.YtiekhbagpmnboaaGreatDoorProg
import Derived.Test.YtiekhbagpmnboaaGreatDoorAddrC
import Derived.Test.YtiekhbagpmnboaaGreatDoorMg2
import Derived.Test.YtiekhbagpmnboaaGreatDoorMg26
import Derived.Test.YtiekhbagpmnboaaGreatDoorValA
import Derived.Test.YtiekhbagpmnboaaGreatDoorValB
import Derived.Test.YtiekhbagpmnboaaGreatDoorMg5
import Derived.Test.YtiekhbagpmnboaaGreatDoorMg6
import Derived.WalkSpells
import Derived.WalkLawsBesides
import Derived.StillTactics
import Derived.Laws.Pointers
import Derived.Deep.RegionHeld3
import Derived.Deep.QuietTactic
import Derived.BigQuiet
import Derived.RowKit3
import Derived.Lib.Hide
import Derived.Lib.OthersKept
import Derived.OwnWalk
import Derived.Lib.IndexLaws
import Derived.Lib.ItoaMem
import Derived.Lib.TrimByte
import Derived.Lib.SlTrimSet
import Derived.Lib.ParseIntB
import Derived.WalkKit
import Derived.ProofKit
import Derived.OpenShut
import Derived.Carry
import Derived.ChangeSame
import Derived.Deep.Draws
import Derived.Shelf.Strings.Builder1
import Derived.Shelf.Strings.Trim
import Derived.Shelf.Small.Utf8
import Derived.Shelf.Small.Strs
import Derived.Shelf.Small.Wraps
import Derived.Shelf.Strings.BuilderF
import Derived.Shelf.Strings.BuilderK
import Derived.Shelf.Strconv.Itoa0
import Derived.Shelf.Strconv.Itoa1
import Derived.Shelf.LaysM
import Derived.Shelf.Strconv.Itoa2
import Derived.Shelf.Strconv.Itoa3
import Derived.Ground.MpProg
import Derived.Shelf.Pu.ParseUintPublic10
import Derived.Shelf.Strings.Search1
import Derived.Shelf.Strings.Search2
import Derived.Shelf.Strings.Cut
import Derived.Shelf.Strings.Shaped
import Derived.Shelf.Strings.Prefix
import Derived.Shelf.Strings.Runes
import Derived.Shelf.Strings.AsciiSet
import Derived.Shelf.Unicode.DecodeSlow
import Derived.Lib.ItoaNum
import Derived.Maps.OwnSet
import Derived.Maps.AppendAt
namespace Go.Proofs.YtiekhbagpmnboaaGreatDoor
open Go.RowKit

set_option maxRecDepth 100000 in
set_option maxHeartbeats 4000000 in
theorem lsame (ns : List NL) (hlen : ns.length ≤ 9223372036854775807) (w : World) (A B : Option Addr) (cap cap2 : Nat) (hRA : RdB w w.heap.size A 15 (ns.map NL.cs)) (hRB : RdB w w.heap.size B 15 (ns.map NL.cs)) : Calls Tryz.prog 14 #[.agg #[.slice A ns.length cap], .agg #[.slice B ns.length cap2]] w fun e w' => e = .returned (.bool true) ∧ Below w.heap.size w w' := by
  have hRAH := Lib.hid hRA
  have hRBH := Lib.hid hRB
  clear hRA hRB
  have hW : Below w.heap.size w ((w.alloc (.cells #[.slice A ns.length cap] 39)).alloc (.cells #[.slice B ns.length cap2] 39)) := ((Below.refl _ _).alloc (Nat.le_refl _) _).alloc (by simp) _
  go_enter Tryz.func14, Tryz.ntmps14
  go_wp2
  go_loopw [5] (fun i wr => ∃ j : Nat, j ≤ ns.length ∧ i = .int .i64 (j : Int) ∧ Below (w.heap.size + 2) ((w.alloc (.cells #[.slice A ns.length cap] 39)).alloc (.cells #[.slice B ns.length cap2] 39)) wr) (fun i _ => ns.length - (intOf i).toNat)
  case atStart => exact ⟨0, by omega, rfl, Below.refl _ _⟩
  case round =>
    obtain ⟨j, hj, rfl, hbr⟩ := hrel
    have hb0 : Below w.heap.size w wr := hW.trans (hbr.mono (by omega))
    have hzr : w.heap.size + 2 ≤ wr.heap.size := by have := hbr.size; simp at this; omega
    have hf1 : wr.cell? ⟨w.heap.size, 0, none⟩ = some (.slice A ns.length cap) := (hbr.cell (p := ⟨w.heap.size, 0, none⟩) (by show w.heap.size < w.heap.size + 2; omega)).trans (by simp [go_sem])
    have hf2 : wr.cell? ⟨w.heap.size + 1, 0, none⟩ = some (.slice B ns.length cap2) := (hbr.cell (p := ⟨w.heap.size + 1, 0, none⟩) (by show w.heap.size + 1 < w.heap.size + 2; omega)).trans (by simp [go_sem])
    by_cases hlt : j < ns.length
    · obtain ⟨n, hn⟩ : ∃ n, ns[j]? = some n := ⟨_, List.getElem?_eq_getElem hlt⟩
      obtain ⟨ab, ao, hA2, hab, hcA⟩ := (hRAH.out.below hb0) j n.cs (by rw [List.getElem?_map, hn]; rfl)
      obtain rfl : A = some ⟨ab, ao, none⟩ := hA2
      obtain ⟨bb, bo, hB2, hbb, hcB⟩ := (hRBH.out.below hb0) j n.cs (by rw [List.getElem?_map, hn]; rfl)
      obtain rfl : B = some ⟨bb, bo, none⟩ := hB2
      have ha0 : wr.cell? ⟨ab, ao + j * 15, none⟩ = some (.int .i64 n.kind) := hcA 0 _ rfl
      have ha1 : wr.cell? ⟨ab, ao + j * 15 + 1, none⟩ = some (.int .i64 n.v.t) := hcA 1 _ rfl
      have ha2 : wr.cell? ⟨ab, ao + j * 15 + 2, none⟩ = some (.int .i64 n.v.n) := hcA 2 _ rfl
      have ha3 : wr.cell? ⟨ab, ao + j * 15 + 3, none⟩ = some (.string n.v.s) := hcA 3 _ rfl
      have ha4 : wr.cell? ⟨ab, ao + j * 15 + 4, none⟩ = some (.bool n.v.b) := hcA 4 _ rfl
      have ha5 : wr.cell? ⟨ab, ao + j * 15 + 5, none⟩ = some (.int .i64 n.v.c) := hcA 5 _ rfl
      have ha6 : wr.cell? ⟨ab, ao + j * 15 + 6, none⟩ = some (.int .i64 n.r) := hcA 6 _ rfl
      have ha7 : wr.cell? ⟨ab, ao + j * 15 + 7, none⟩ = some (.int .i64 n.c) := hcA 7 _ rfl
      have ha8 : wr.cell? ⟨ab, ao + j * 15 + 8, none⟩ = some (.int .i64 n.t) := hcA 8 _ rfl
      have ha9 : wr.cell? ⟨ab, ao + j * 15 + 9, none⟩ = some (.int .i64 n.l) := hcA 9 _ rfl
      have ha10 : wr.cell? ⟨ab, ao + j * 15 + 10, none⟩ = some (.int .i64 n.b) := hcA 10 _ rfl
      have ha11 : wr.cell? ⟨ab, ao + j * 15 + 11, none⟩ = some (.int .i64 n.q) := hcA 11 _ rfl
      have ha12 : wr.cell? ⟨ab, ao + j * 15 + 12, none⟩ = some (.int .i64 n.op) := hcA 12 _ rfl
      have ha13 : wr.cell? ⟨ab, ao + j * 15 + 13, none⟩ = some (.string n.name) := hcA 13 _ rfl
      have ha14 : wr.cell? ⟨ab, ao + j * 15 + 14, none⟩ = some (.int .i64 n.args) := hcA 14 _ rfl
      have hb0_ : wr.cell? ⟨bb, bo + j * 15, none⟩ = some (.int .i64 n.kind) := hcB 0 _ rfl
      have hb1_ : wr.cell? ⟨bb, bo + j * 15 + 1, none⟩ = some (.int .i64 n.v.t) := hcB 1 _ rfl
      have hb2_ : wr.cell? ⟨bb, bo + j * 15 + 2, none⟩ = some (.int .i64 n.v.n) := hcB 2 _ rfl
      have hb3_ : wr.cell? ⟨bb, bo + j * 15 + 3, none⟩ = some (.string n.v.s) := hcB 3 _ rfl
      have hb4_ : wr.cell? ⟨bb, bo + j * 15 + 4, none⟩ = some (.bool n.v.b) := hcB 4 _ rfl
      have hb5_ : wr.cell? ⟨bb, bo + j * 15 + 5, none⟩ = some (.int .i64 n.v.c) := hcB 5 _ rfl
      have hb6_ : wr.cell? ⟨bb, bo + j * 15 + 6, none⟩ = some (.int .i64 n.r) := hcB 6 _ rfl
      have hb7_ : wr.cell? ⟨bb, bo + j * 15 + 7, none⟩ = some (.int .i64 n.c) := hcB 7 _ rfl
      have hb8_ : wr.cell? ⟨bb, bo + j * 15 + 8, none⟩ = some (.int .i64 n.t) := hcB 8 _ rfl
      have hb9_ : wr.cell? ⟨bb, bo + j * 15 + 9, none⟩ = some (.int .i64 n.l) := hcB 9 _ rfl
      have hb10_ : wr.cell? ⟨bb, bo + j * 15 + 10, none⟩ = some (.int .i64 n.b) := hcB 10 _ rfl
      have hb11_ : wr.cell? ⟨bb, bo + j * 15 + 11, none⟩ = some (.int .i64 n.q) := hcB 11 _ rfl
      have hb12_ : wr.cell? ⟨bb, bo + j * 15 + 12, none⟩ = some (.int .i64 n.op) := hcB 12 _ rfl
      have hb13_ : wr.cell? ⟨bb, bo + j * 15 + 13, none⟩ = some (.string n.name) := hcB 13 _ rfl
      have hb14_ : wr.cell? ⟨bb, bo + j * 15 + 14, none⟩ = some (.int .i64 n.args) := hcB 14 _ rfl
      clear hcA hcB hn hW hb0
      have hkl : (j : Int) < (ns.length : Int) := by omega
      have hk0 : (0 : Int) ≤ (j : Int) := by omega
      go_wp2
      go_quiet (fail)
      go_wp2
      go_roundw
      case rel => exact ⟨j + 1, by omega, by go_num, by (repeat (first | (with_reducible exact Below.refl _ _) | (with_reducible refine Below.alloc ?_ (by first | omega | (dsimp only; omega) | (simp <;> omega)) _) | (with_reducible refine Below.setCell ?_ (by first | omega | (dsimp only; omega) | (simp <;> omega)) _) | (with_reducible refine Below.drew ?_) | (with_reducible refine below_drewN ?_ _) | (with_reducible refine Below.trans ?_ (Below.mono (by assumption) (by first | omega | (dsimp only; omega) | (simp <;> omega))))))⟩
      case measure => simp [intOf]; omega
    · obtain rfl : j = ns.length := by omega
      have hjj : ¬ ((ns.length : Int) < (ns.length : Int)) := by omega
      go_wp2
      go_ret
      exact ⟨rfl, hb0⟩
end Go.Proofs.YtiekhbagpmnboaaGreatDoor
