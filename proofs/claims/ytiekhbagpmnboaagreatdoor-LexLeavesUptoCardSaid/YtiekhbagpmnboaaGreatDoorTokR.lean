/-
  rows of tokens in memory.
-/
import Derived.Test.YtiekhbagpmnboaaGreatDoorPrintL
import Derived.Test.YtiekhbagpmnboaaGreatDoorNumL
import Derived.Test.YtiekhbagpmnboaaGreatDoorRows
import Derived.Test.YtiekhbagpmnboaaGreatDoorBase
import Derived.Test.YtiekhbagpmnboaaGreatDoorProg
import Derived.Test.YtiekhbagpmnboaaGreatDoorShelf
import Derived.Test.YtiekhbagpmnboaaGreatDoorCutW
import Derived.Test.YtiekhbagpmnboaaGreatDoorAddrC
import Derived.Test.YtiekhbagpmnboaaGreatDoorNames
import Derived.Test.YtiekhbagpmnboaaGreatDoorParseW
import Derived.Test.YtiekhbagpmnboaaGreatDoorPRect
import Derived.Test.YtiekhbagpmnboaaGreatDoorDecA
import Derived.Test.YtiekhbagpmnboaaGreatDoorValA
import Derived.Test.YtiekhbagpmnboaaGreatDoorValB
import Derived.Test.YtiekhbagpmnboaaGreatDoorValD
import Derived.Test.YtiekhbagpmnboaaGreatDoorLexP
import Derived.Test.YtiekhbagpmnboaaGreatDoorRowB
import Derived.Test.YtiekhbagpmnboaaGreatDoorMapK
import Derived.Maps.AppendAt
import Derived.WalkSpells
import Derived.WalkLawsBesides
import Derived.StillTactics
import Derived.Laws.Pointers
import Derived.Deep.RegionHeld3
import Derived.Deep.QuietTactic
import Derived.BigQuiet
import Derived.RowKit3
import Derived.Lib.Hide
import Derived.Lib.OthersKept
import Derived.OwnWalk
import Derived.Lib.IndexLaws
import Derived.Lib.ItoaMem
import Derived.Lib.TrimByte
import Derived.Lib.SlTrimSet
import Derived.Lib.ParseIntB
import Derived.WalkKit
import Derived.ProofKit
import Derived.OpenShut
import Derived.Carry
import Derived.ChangeSame
import Derived.Deep.Draws
import Derived.Shelf.Strings.Builder1
import Derived.Shelf.Strings.Trim
import Derived.Shelf.Small.Utf8
import Derived.Shelf.Small.Strs
import Derived.Shelf.Small.Wraps
import Derived.Shelf.Strings.BuilderF
import Derived.Shelf.Strings.BuilderK
import Derived.Shelf.Strconv.Itoa0
import Derived.Shelf.Strconv.Itoa1
import Derived.Shelf.LaysM
import Derived.Shelf.Strconv.Itoa2
import Derived.Shelf.Strconv.Itoa3
import Derived.Ground.MpProg
import Derived.Shelf.Pu.ParseUintPublic10
import Derived.Shelf.Strings.Search1
import Derived.Shelf.Strings.Search2
import Derived.Shelf.Strings.Cut
import Derived.Shelf.Strings.Shaped
import Derived.Shelf.Strings.Prefix
import Derived.Shelf.Strings.Runes
import Derived.Shelf.Strings.AsciiSet
import Derived.Shelf.Unicode.DecodeSlow
import Derived.Lib.ItoaNum
import Derived.Maps.OwnSet
namespace Go.Proofs.YtiekhbagpmnboaaGreatDoor
open Go.RowKit

theorem tok_info : (Tryz.prog.info? 33).map (fun i => (i.zero, i.size, i.bytes)) = some (some (.agg #[.int .i64 0, .int .i64 0, .int .i64 0, .string ⟨#[]⟩, .int .i64 0, .int .i64 0, .int .i64 0, .int .i64 0, .int .i64 0, .int .i64 0, .int .i64 0]), 11, 96) := by kernel_rfl
def Tok.cs (x : Tok) : List Value := [.int .i64 x.kind, .int .i64 x.place, .int .i64 x.num, .string x.str, .int .i64 x.r, .int .i64 x.c, .int .i64 x.t, .int .i64 x.l, .int .i64 x.b, .int .i64 x.q, .int .i64 x.code]
def tRow (l : List Tok) : List Value := (l.map Tok.cs).flatten
theorem tRow_app (a b : List Tok) : tRow (a ++ b) = tRow a ++ tRow b := by simp [tRow]
theorem tRow_one (x : Tok) : tRow [x] = x.cs := by simp [tRow]
theorem tget {w : World} {g : Nat} {x : Tok} {T : TypeId} (h : w.heap[g]? = some (.cells #[.int .i64 x.kind, .int .i64 x.place, .int .i64 x.num, .string x.str, .int .i64 x.r, .int .i64 x.c, .int .i64 x.t, .int .i64 x.l, .int .i64 x.b, .int .i64 x.q, .int .i64 x.code] T (0, 0))) : ∀ (j : Nat) (u : Value), x.cs[j]? = some u → w.cell? ((⟨g, 0, none⟩ : Addr).add j) = some u := fun j u hj => by
  rw [show (⟨g, 0, none⟩ : Addr).add j = ⟨g, j, none⟩ by unfold Addr.add; split <;> simp [*], cell_of_row w g j _ T (0, 0) h, ← Array.getElem?_toList]
  exact hj
/-- a row of tokens of one's own -/
def OwnT (w : World) (B : Nat) (v : Value) (l : List Tok) : Prop := w.ownsRow B 33 11 v l.length (tRow l)
/-- a row of tokens that can be read -/
def RdT (w : World) (B : Nat) (v : Value) (l : List Tok) : Prop := ∃ A cap, v = .slice A l.length cap ∧ RdB w B A 11 (l.map Tok.cs)
theorem RdT.below {w w' : World} {B : Nat} {v : Value} {l : List Tok} (h : RdT w B v l) (hb : Below B w w') : RdT w' B v l := by
  obtain ⟨A, cap, e, h⟩ := h
  exact ⟨A, cap, e, h.below hb⟩
theorem RdT.mono {w : World} {B B' : Nat} {v : Value} {l : List Tok} (h : RdT w B v l) (hB : B ≤ B') : RdT w B' v l := by
  obtain ⟨A, cap, e, h⟩ := h
  exact ⟨A, cap, e, h.mono hB⟩
theorem own_rdt {w : World} {B : Nat} {v : Value} {l : List Tok} (h : OwnT w B v l) : RdT w w.heap.size v l :=
  ownsRow_rdk (by omega) (fun c hc => by obtain ⟨y, _, rfl⟩ := List.mem_map.1 hc; rfl) (by simp) h
end Go.Proofs.YtiekhbagpmnboaaGreatDoor
