/-
  oriellaw07.PrintKeeps.
-/
import Derived.Test.YtfbkoieodflcpaaDoorPrintL
import Derived.Test.YtfbkoieodflcpaaDoorNumL
import Derived.Test.YtfbkoieodflcpaaDoorRows
import Derived.Test.YtfbkoieodflcpaaDoorBase
import Derived.Test.YtfbkoieodflcpaaDoorProg
import Derived.Test.YtfbkoieodflcpaaDoorShelf
import Derived.Test.YtfbkoieodflcpaaDoorAddrC
import Derived.Test.YtfbkoieodflcpaaDoorNames
import Derived.Test.YtfbkoieodflcpaaDoorParseW
import Derived.Test.YtfbkoieodflcpaaDoorDecA
import Derived.Test.YtfbkoieodflcpaaDoorValA
import Derived.Test.YtfbkoieodflcpaaDoorValB
import Derived.Test.YtfbkoieodflcpaaDoorDecS
import Derived.Test.YtfbkoieodflcpaaDoorLexP
import Derived.Test.YtfbkoieodflcpaaDoorRowB
import Derived.Test.YtfbkoieodflcpaaDoorMapK
import Derived.Test.YtfbkoieodflcpaaDoorArgK
import Derived.Test.YtfbkoieodflcpaaDoorRefP
import Derived.Test.YtfbkoieodflcpaaDoorRefQ
import Derived.WalkSpells
import Derived.WalkLawsBesides
import Derived.StillTactics
import Derived.Laws.Pointers
import Derived.Deep.RegionHeld3
import Derived.Deep.QuietTactic
import Derived.BigQuiet
import Derived.RowKit3
import Derived.Lib.Hide
import Derived.Lib.OthersKept
import Derived.OwnWalk
import Derived.Lib.IndexLaws
import Derived.Lib.ItoaMem
import Derived.Lib.TrimByte
import Derived.Lib.SlTrimSet
import Derived.Lib.ParseIntB
import Derived.WalkKit
import Derived.ProofKit
import Derived.OpenShut
import Derived.Carry
import Derived.ChangeSame
import Derived.Deep.Draws
import Derived.Shelf.Strings.Builder1
import Derived.Shelf.Strings.Builder2
import Derived.Shelf.Strings.Trim
import Derived.Shelf.Small.Utf8
import Derived.Shelf.Small.Strs
import Derived.Shelf.Strings.BuilderF
import Derived.Shelf.Strings.BuilderK
import Derived.Shelf.Strconv.Itoa0
import Derived.Shelf.Strconv.Itoa1
import Derived.Shelf.LaysM
import Derived.Shelf.Strconv.Itoa2
import Derived.Shelf.Strconv.Itoa3
import Derived.Shelf.Strings.Search1
import Derived.Shelf.Unicode.DecodeSlow
import Derived.Lib.ItoaNum
import Derived.Maps.OwnSet
import Derived.Maps.AppendAt
namespace Go.Proofs.YtfbkoieodflcpaaDoor
open Go.RowKit

theorem row_set {w : World} {b j : Nat} {cs : Array Value} {t : TypeId} {v : Value} (h : w.heap[b]? = some (.cells cs t (0, 0))) : (w.setCell ⟨b, j, none⟩ v).heap[b]? = some (.cells (cs.setIfInBounds j v) t (0, 0)) := by
  simp [World.setCell, Array.getElem?_modify, h]
theorem set_mid (X c Y : List Value) (i : Nat) (hi : i < c.length) (v : Value) : (X ++ (c ++ Y)).set (X.length + i) v = X ++ (c.set i v ++ Y) := by
  rw [List.set_append_right _ _ (Nat.le_add_right _ _), Nat.add_sub_cancel_left, List.set_append_left _ _ hi]
theorem set_mid0 (X c Y : List Value) (hi : 0 < c.length) (v : Value) : (X ++ (c ++ Y)).set X.length v = X ++ (c.set 0 v ++ Y) := set_mid X c Y 0 hi v
theorem store15 {w : World} {b p : Nat} {cs : Array Value} {t : TypeId} {X c Y : List Value} {v0 v1 v2 v3 v4 v5 v6 v7 v8 v9 v10 v11 v12 v13 v14 : Value} (h : w.heap[b]? = some (.cells cs t (0, 0))) (e : cs.toList = X ++ (c ++ Y)) (hp : X.length = p) (hc : c.length = 15) : ∃ cs', (((((((((((((((w.setCell ⟨b, p, none⟩ (v0)).setCell ⟨b, p + 1, none⟩ (v1)).setCell ⟨b, p + 2, none⟩ (v2)).setCell ⟨b, p + 3, none⟩ (v3)).setCell ⟨b, p + 4, none⟩ (v4)).setCell ⟨b, p + 5, none⟩ (v5)).setCell ⟨b, p + 6, none⟩ (v6)).setCell ⟨b, p + 7, none⟩ (v7)).setCell ⟨b, p + 8, none⟩ (v8)).setCell ⟨b, p + 9, none⟩ (v9)).setCell ⟨b, p + 10, none⟩ (v10)).setCell ⟨b, p + 11, none⟩ (v11)).setCell ⟨b, p + 12, none⟩ (v12)).setCell ⟨b, p + 13, none⟩ (v13)).setCell ⟨b, p + 14, none⟩ (v14)).heap[b]? = some (.cells cs' t (0, 0)) ∧ cs'.toList = X ++ ([v0, v1, v2, v3, v4, v5, v6, v7, v8, v9, v10, v11, v12, v13, v14] ++ Y) := by
  refine ⟨_, row_set (row_set (row_set (row_set (row_set (row_set (row_set (row_set (row_set (row_set (row_set (row_set (row_set (row_set (row_set h)))))))))))))), ?_⟩
  simp only [Array.toList_setIfInBounds, e]
  subst hp
  rw [set_mid0 _ _ _ (by omega)]
  rw [set_mid _ _ _ 1 (by simp only [List.length_set]; omega)]
  rw [set_mid _ _ _ 2 (by simp only [List.length_set]; omega)]
  rw [set_mid _ _ _ 3 (by simp only [List.length_set]; omega)]
  rw [set_mid _ _ _ 4 (by simp only [List.length_set]; omega)]
  rw [set_mid _ _ _ 5 (by simp only [List.length_set]; omega)]
  rw [set_mid _ _ _ 6 (by simp only [List.length_set]; omega)]
  rw [set_mid _ _ _ 7 (by simp only [List.length_set]; omega)]
  rw [set_mid _ _ _ 8 (by simp only [List.length_set]; omega)]
  rw [set_mid _ _ _ 9 (by simp only [List.length_set]; omega)]
  rw [set_mid _ _ _ 10 (by simp only [List.length_set]; omega)]
  rw [set_mid _ _ _ 11 (by simp only [List.length_set]; omega)]
  rw [set_mid _ _ _ 12 (by simp only [List.length_set]; omega)]
  rw [set_mid _ _ _ 13 (by simp only [List.length_set]; omega)]
  rw [set_mid _ _ _ 14 (by simp only [List.length_set]; omega)]
  match c, hc with
  | [_, _, _, _, _, _, _, _, _, _, _, _, _, _, _], _ => rfl
def nl0 : NL := ⟨0, ⟨0, 0, ⟨#[]⟩, false, 0⟩, 0, 0, 0, 0, 0, 0, 0, ⟨#[]⟩, 0⟩
theorem node_info : (Tryd.prog.info? 41).map (fun i => (i.zero, i.size, i.bytes)) = some (some (.agg #[.int .i64 0, .int .i64 0, .int .i64 0, .string ⟨#[]⟩, .bool false, .int .i64 0, .int .i64 0, .int .i64 0, .int .i64 0, .int .i64 0, .int .i64 0, .int .i64 0, .int .i64 0, .string ⟨#[]⟩, .int .i64 0]), 15, 136) := by kernel_rfl
end Go.Proofs.YtfbkoieodflcpaaDoor
