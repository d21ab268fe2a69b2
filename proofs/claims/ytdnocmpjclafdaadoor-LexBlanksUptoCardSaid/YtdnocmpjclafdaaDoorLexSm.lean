/-
  oriellaw04: same.
-/
import Derived.Test.YtdnocmpjclafdaaDoorNumL
import Derived.Test.YtdnocmpjclafdaaDoorRows
import Derived.Test.YtdnocmpjclafdaaDoorBase
import Derived.Test.YtdnocmpjclafdaaDoorProg
import Derived.Test.YtdnocmpjclafdaaDoorShelf
import Derived.Test.YtdnocmpjclafdaaDoorCutW
import Derived.Test.YtdnocmpjclafdaaDoorAddrC
import Derived.Test.YtdnocmpjclafdaaDoorNames
import Derived.Test.YtdnocmpjclafdaaDoorParseW
import Derived.Test.YtdnocmpjclafdaaDoorPRect
import Derived.Test.YtdnocmpjclafdaaDoorDecA
import Derived.Test.YtdnocmpjclafdaaDoorValA
import Derived.Test.YtdnocmpjclafdaaDoorValB
import Derived.Test.YtdnocmpjclafdaaDoorValD
import Derived.Test.YtdnocmpjclafdaaDoorLexP
import Derived.Test.YtdnocmpjclafdaaDoorLexW
import Derived.Test.YtdnocmpjclafdaaDoorRefName
import Derived.Test.YtdnocmpjclafdaaDoorLexR
import Derived.Test.YtdnocmpjclafdaaDoorLexWd
import Derived.Test.YtdnocmpjclafdaaDoorLexSg
import Derived.Test.YtdnocmpjclafdaaDoorBld
import Derived.Test.YtdnocmpjclafdaaDoorLexQt
import Derived.Test.YtdnocmpjclafdaaDoorLexS
import Derived.Test.YtdnocmpjclafdaaDoorDDig
import Derived.Test.YtdnocmpjclafdaaDoorDParse
import Derived.Test.YtdnocmpjclafdaaDoorLexF
import Derived.Test.YtdnocmpjclafdaaDoorRowB
import Derived.Test.YtdnocmpjclafdaaDoorMapK
import Derived.Test.YtdnocmpjclafdaaDoorLexC
import Derived.Test.YtdnocmpjclafdaaDoorLexI
import Derived.Test.YtdnocmpjclafdaaDoorLexL
import Derived.Test.YtdnocmpjclafdaaDoorLexT
import Derived.WalkSpells
import Derived.WalkLawsBesides
import Derived.StillTactics
import Derived.Laws.Pointers
import Derived.Deep.RegionHeld3
import Derived.Deep.QuietTactic
import Derived.BigQuiet
import Derived.RowKit3
import Derived.Lib.Hide
import Derived.Lib.OthersKept
import Derived.OwnWalk
import Derived.Lib.IndexLaws
import Derived.Lib.ItoaMem
import Derived.Lib.TrimByte
import Derived.Lib.SlTrimSet
import Derived.Lib.ParseIntB
import Derived.WalkKit
import Derived.ProofKit
import Derived.OpenShut
import Derived.Carry
import Derived.ChangeSame
import Derived.Deep.Draws
import Derived.Shelf.Strings.Builder1
import Derived.Shelf.Strings.Builder2
import Derived.Shelf.Strings.Trim
import Derived.Shelf.Small.Utf8
import Derived.Shelf.Small.Strs
import Derived.Shelf.Small.Wraps
import Derived.Shelf.Strings.BuilderF
import Derived.Shelf.Strings.BuilderK
import Derived.Shelf.Utf8.RuneCount
import Derived.Shelf.Strconv.Itoa0
import Derived.Shelf.Strconv.Itoa1
import Derived.Shelf.LaysM
import Derived.Shelf.Strconv.Itoa2
import Derived.Shelf.Strconv.Itoa3
import Derived.Ground.MpProg
import Derived.Shelf.Pu.ParseUintPublic10
import Derived.Shelf.Strings.Search1
import Derived.Shelf.Strings.Search2
import Derived.Shelf.Strings.Search3
import Derived.Shelf.Strings.Cut
import Derived.Shelf.Strings.Count
import Derived.Shelf.Strings.Shaped
import Derived.Shelf.Strings.Prefix
import Derived.Shelf.Strings.Split
import Derived.Shelf.Strings.Replace
import Derived.Shelf.Strings.SplitShaped
import Derived.Shelf.Unicode.Decode
import Derived.Shelf.Strings.Runes
import Derived.Shelf.Strings.RuneCount
import Derived.Shelf.Strings.AsciiSet
import Derived.Shelf.Unicode.DecodeSlow
import Derived.Shelf.Unicode.DecodeAny
import Derived.Shelf.Unicode.DecodeLast
import Derived.Lib.ItoaNum
import Derived.Shelf.Strings.SlTrimAscii
import Derived.Lib.SmallJoins
import Derived.Maps.OwnSet
import Derived.Maps.AppendAt
import Derived.RangeFuncBox
import Derived.RangeFuncNested
import Derived.RangeFuncLeaves
import Derived.Shelf.Abstract
import Derived.OwnWalkIn
import Derived.TacticsInMore
import Derived.LoopNIn
import Derived.LoopIn
import Derived.Maps.OwnIn
namespace Go.Proofs.YtdnocmpjclafdaaDoor
open Go.RowKit

set_option maxRecDepth 100000 in
set_option maxHeartbeats 2000000 in
theorem same_yes (ts : List Tok) (hlen : ts.length ≤ 9223372036854775806) (w : World) (v1 v2 : Value) (h1 : RdT w w.heap.size v1 ts) (h2 : RdT w w.heap.size v2 ts) : Calls Tryd.prog 11 #[v1, v2] w fun e w' => e = .returned (.bool true) ∧ Below w.heap.size w w' := by
  rcases Nat.eq_zero_or_pos ts.length with h0 | h0
  · obtain ⟨A1, c1, rfl, _⟩ := h1
    obtain ⟨A2, c2, rfl, _⟩ := h2
    rw [h0]
    go_enter Tryd.func11, Tryd.ntmps11
    go_wp2
    go_loop [5] (fun i => i = .int .i64 0) (fun _ => 0)
    case atStart => rfl
    case round =>
      subst hrel
      go_wp2
      go_ret
      exact ⟨rfl, Below.refl _ _⟩
  · obtain ⟨b1, o1, c1, rfl, hl1, hc1⟩ := h1.at h0
    obtain ⟨b2, o2, c2, rfl, hl2, hc2⟩ := h2.at h0
    have hc1' := Lib.hid hc1
    have hc2' := Lib.hid hc2
    obtain ⟨N, hN⟩ : ∃ N, ts.length = N := ⟨_, rfl⟩
    rw [hN]
    clear hc1 hc2 h1 h2
    go_enter Tryd.func11, Tryd.ntmps11
    go_wp2
    go_loopw [5] (fun i wr => ∃ k : Nat, k ≤ N ∧ i = .int .i64 (k : Int) ∧ Below w.heap.size w wr) (fun i _ => N - (intOf i).toNat)
    case atStart => exact ⟨0, by omega, rfl, Below.refl _ _⟩
    case round =>
      obtain ⟨k, hk, rfl, hbr⟩ := hrel
      by_cases hlt : k < N
      · obtain ⟨x, hx⟩ : ∃ x, ts[k]? = some x := ⟨_, List.getElem?_eq_getElem (by omega)⟩
        have hkl : (k : Int) < (N : Int) := by omega
        have u0 : wr.cell? ⟨b1, o1 + k * 11, none⟩ = some (.int .i64 x.kind) := (hbr.cell (p := ⟨b1, _, none⟩) hl1).trans (hc1'.out k x hx 0 _ rfl)
        have u1 : wr.cell? ⟨b1, o1 + k * 11 + 1, none⟩ = some (.int .i64 x.place) := (hbr.cell (p := ⟨b1, _, none⟩) hl1).trans (hc1'.out k x hx 1 _ rfl)
        have u2 : wr.cell? ⟨b1, o1 + k * 11 + 2, none⟩ = some (.int .i64 x.num) := (hbr.cell (p := ⟨b1, _, none⟩) hl1).trans (hc1'.out k x hx 2 _ rfl)
        have u3 : wr.cell? ⟨b1, o1 + k * 11 + 3, none⟩ = some (.string x.str) := (hbr.cell (p := ⟨b1, _, none⟩) hl1).trans (hc1'.out k x hx 3 _ rfl)
        have u4 : wr.cell? ⟨b1, o1 + k * 11 + 4, none⟩ = some (.int .i64 x.r) := (hbr.cell (p := ⟨b1, _, none⟩) hl1).trans (hc1'.out k x hx 4 _ rfl)
        have u5 : wr.cell? ⟨b1, o1 + k * 11 + 5, none⟩ = some (.int .i64 x.c) := (hbr.cell (p := ⟨b1, _, none⟩) hl1).trans (hc1'.out k x hx 5 _ rfl)
        have u6 : wr.cell? ⟨b1, o1 + k * 11 + 6, none⟩ = some (.int .i64 x.t) := (hbr.cell (p := ⟨b1, _, none⟩) hl1).trans (hc1'.out k x hx 6 _ rfl)
        have u7 : wr.cell? ⟨b1, o1 + k * 11 + 7, none⟩ = some (.int .i64 x.l) := (hbr.cell (p := ⟨b1, _, none⟩) hl1).trans (hc1'.out k x hx 7 _ rfl)
        have u8 : wr.cell? ⟨b1, o1 + k * 11 + 8, none⟩ = some (.int .i64 x.b) := (hbr.cell (p := ⟨b1, _, none⟩) hl1).trans (hc1'.out k x hx 8 _ rfl)
        have u9 : wr.cell? ⟨b1, o1 + k * 11 + 9, none⟩ = some (.int .i64 x.q) := (hbr.cell (p := ⟨b1, _, none⟩) hl1).trans (hc1'.out k x hx 9 _ rfl)
        have u10 : wr.cell? ⟨b1, o1 + k * 11 + 10, none⟩ = some (.int .i64 x.code) := (hbr.cell (p := ⟨b1, _, none⟩) hl1).trans (hc1'.out k x hx 10 _ rfl)
        have y0 : wr.cell? ⟨b2, o2 + k * 11, none⟩ = some (.int .i64 x.kind) := (hbr.cell (p := ⟨b2, _, none⟩) hl2).trans (hc2'.out k x hx 0 _ rfl)
        have y1 : wr.cell? ⟨b2, o2 + k * 11 + 1, none⟩ = some (.int .i64 x.place) := (hbr.cell (p := ⟨b2, _, none⟩) hl2).trans (hc2'.out k x hx 1 _ rfl)
        have y2 : wr.cell? ⟨b2, o2 + k * 11 + 2, none⟩ = some (.int .i64 x.num) := (hbr.cell (p := ⟨b2, _, none⟩) hl2).trans (hc2'.out k x hx 2 _ rfl)
        have y3 : wr.cell? ⟨b2, o2 + k * 11 + 3, none⟩ = some (.string x.str) := (hbr.cell (p := ⟨b2, _, none⟩) hl2).trans (hc2'.out k x hx 3 _ rfl)
        have y4 : wr.cell? ⟨b2, o2 + k * 11 + 4, none⟩ = some (.int .i64 x.r) := (hbr.cell (p := ⟨b2, _, none⟩) hl2).trans (hc2'.out k x hx 4 _ rfl)
        have y5 : wr.cell? ⟨b2, o2 + k * 11 + 5, none⟩ = some (.int .i64 x.c) := (hbr.cell (p := ⟨b2, _, none⟩) hl2).trans (hc2'.out k x hx 5 _ rfl)
        have y6 : wr.cell? ⟨b2, o2 + k * 11 + 6, none⟩ = some (.int .i64 x.t) := (hbr.cell (p := ⟨b2, _, none⟩) hl2).trans (hc2'.out k x hx 6 _ rfl)
        have y7 : wr.cell? ⟨b2, o2 + k * 11 + 7, none⟩ = some (.int .i64 x.l) := (hbr.cell (p := ⟨b2, _, none⟩) hl2).trans (hc2'.out k x hx 7 _ rfl)
        have y8 : wr.cell? ⟨b2, o2 + k * 11 + 8, none⟩ = some (.int .i64 x.b) := (hbr.cell (p := ⟨b2, _, none⟩) hl2).trans (hc2'.out k x hx 8 _ rfl)
        have y9 : wr.cell? ⟨b2, o2 + k * 11 + 9, none⟩ = some (.int .i64 x.q) := (hbr.cell (p := ⟨b2, _, none⟩) hl2).trans (hc2'.out k x hx 9 _ rfl)
        have y10 : wr.cell? ⟨b2, o2 + k * 11 + 10, none⟩ = some (.int .i64 x.code) := (hbr.cell (p := ⟨b2, _, none⟩) hl2).trans (hc2'.out k x hx 10 _ rfl)
        clear hx
        go_wp2
        go_quiet (fail)
        go_wp2
        go_roundw
        case rel => exact ⟨k + 1, by omega, by go_num, below_drewN hbr _⟩
        case measure => simp [intOf]; omega
      · obtain rfl : k = N := by omega
        go_wp2
        go_ret
        exact ⟨rfl, hbr⟩
end Go.Proofs.YtdnocmpjclafdaaDoor
