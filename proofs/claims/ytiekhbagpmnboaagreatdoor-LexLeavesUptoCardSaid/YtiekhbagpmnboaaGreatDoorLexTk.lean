/-
  oriellaw04: LexTokens.
-/
import Derived.Test.YtiekhbagpmnboaaGreatDoorPrintL
import Derived.Test.YtiekhbagpmnboaaGreatDoorNumL
import Derived.Test.YtiekhbagpmnboaaGreatDoorRows
import Derived.Test.YtiekhbagpmnboaaGreatDoorBase
import Derived.Test.YtiekhbagpmnboaaGreatDoorProg
import Derived.Test.YtiekhbagpmnboaaGreatDoorShelf
import Derived.Test.YtiekhbagpmnboaaGreatDoorCutW
import Derived.Test.YtiekhbagpmnboaaGreatDoorAddrC
import Derived.Test.YtiekhbagpmnboaaGreatDoorNames
import Derived.Test.YtiekhbagpmnboaaGreatDoorParseW
import Derived.Test.YtiekhbagpmnboaaGreatDoorPRect
import Derived.Test.YtiekhbagpmnboaaGreatDoorDecA
import Derived.Test.YtiekhbagpmnboaaGreatDoorValA
import Derived.Test.YtiekhbagpmnboaaGreatDoorValB
import Derived.Test.YtiekhbagpmnboaaGreatDoorValD
import Derived.Test.YtiekhbagpmnboaaGreatDoorLexP
import Derived.Test.YtiekhbagpmnboaaGreatDoorLexW
import Derived.Test.YtiekhbagpmnboaaGreatDoorRefName
import Derived.Test.YtiekhbagpmnboaaGreatDoorLexR
import Derived.Test.YtiekhbagpmnboaaGreatDoorLexWd
import Derived.Test.YtiekhbagpmnboaaGreatDoorLexSg
import Derived.Test.YtiekhbagpmnboaaGreatDoorLexQ
import Derived.Test.YtiekhbagpmnboaaGreatDoorMg21
import Derived.Test.YtiekhbagpmnboaaGreatDoorLexQt
import Derived.Test.YtiekhbagpmnboaaGreatDoorLexS
import Derived.Test.YtiekhbagpmnboaaGreatDoorDDig
import Derived.Test.YtiekhbagpmnboaaGreatDoorDParse
import Derived.Test.YtiekhbagpmnboaaGreatDoorLexF
import Derived.Test.YtiekhbagpmnboaaGreatDoorRParse
import Derived.Test.YtiekhbagpmnboaaGreatDoorRPRect
import Derived.Test.YtiekhbagpmnboaaGreatDoorLexN
import Derived.Test.YtiekhbagpmnboaaGreatDoorMg30
import Derived.Test.YtiekhbagpmnboaaGreatDoorMg31
import Derived.Test.YtiekhbagpmnboaaGreatDoorRDPar
import Derived.Test.YtiekhbagpmnboaaGreatDoorRDParB
import Derived.Test.YtiekhbagpmnboaaGreatDoorRDJoin
import Derived.Test.YtiekhbagpmnboaaGreatDoorValK
import Derived.Test.YtiekhbagpmnboaaGreatDoorLexD
import Derived.Test.YtiekhbagpmnboaaGreatDoorLexA
import Derived.Test.YtiekhbagpmnboaaGreatDoorLexB
import Derived.Test.YtiekhbagpmnboaaGreatDoorRowB
import Derived.Test.YtiekhbagpmnboaaGreatDoorMapK
import Derived.Test.YtiekhbagpmnboaaGreatDoorTokR
import Derived.Test.YtiekhbagpmnboaaGreatDoorLexC
import Derived.Test.YtiekhbagpmnboaaGreatDoorLexI
import Derived.Test.YtiekhbagpmnboaaGreatDoorLexL
import Derived.Test.YtiekhbagpmnboaaGreatDoorLexT
import Derived.WalkSpells
import Derived.WalkLawsBesides
import Derived.StillTactics
import Derived.Laws.Pointers
import Derived.Deep.RegionHeld3
import Derived.Deep.QuietTactic
import Derived.BigQuiet
import Derived.RowKit3
import Derived.Lib.Hide
import Derived.Lib.OthersKept
import Derived.OwnWalk
import Derived.Lib.IndexLaws
import Derived.Lib.ItoaMem
import Derived.Lib.TrimByte
import Derived.Lib.SlTrimSet
import Derived.Lib.ParseIntB
import Derived.WalkKit
import Derived.ProofKit
import Derived.OpenShut
import Derived.Carry
import Derived.ChangeSame
import Derived.Deep.Draws
import Derived.Shelf.Strings.Builder1
import Derived.Shelf.Strings.Trim
import Derived.Shelf.Small.Utf8
import Derived.Shelf.Small.Strs
import Derived.Shelf.Small.Wraps
import Derived.Shelf.Strings.BuilderF
import Derived.Shelf.Strings.BuilderK
import Derived.Shelf.Strconv.Itoa0
import Derived.Shelf.Strconv.Itoa1
import Derived.Shelf.LaysM
import Derived.Shelf.Strconv.Itoa2
import Derived.Shelf.Strconv.Itoa3
import Derived.Ground.MpProg
import Derived.Shelf.Pu.ParseUintPublic10
import Derived.Shelf.Strings.Search1
import Derived.Shelf.Strings.Search2
import Derived.Shelf.Strings.Cut
import Derived.Shelf.Strings.Shaped
import Derived.Shelf.Strings.Prefix
import Derived.Shelf.Strings.Runes
import Derived.Shelf.Strings.AsciiSet
import Derived.Shelf.Unicode.DecodeSlow
import Derived.Lib.ItoaNum
import Derived.Shelf.Strings.SlTrimAscii
import Derived.Lib.SmallJoins
import Derived.Maps.OwnSet
import Derived.Maps.AppendAt
import Derived.RangeFuncBox
import Derived.RangeFuncNested
import Derived.RangeFuncLeaves
import Derived.Shelf.Abstract
import Derived.OwnWalkIn
import Derived.TacticsInMore
import Derived.LoopNIn
import Derived.LoopIn
import Derived.Maps.OwnIn
namespace Go.Proofs.YtiekhbagpmnboaaGreatDoor
open Go.RowKit

theorem rdt_new (w : World) (x : Tok) (T : TypeId) : RdT (w.alloc (.cells #[.int .i64 x.kind, .int .i64 x.place, .int .i64 x.num, .string x.str, .int .i64 x.r, .int .i64 x.c, .int .i64 x.t, .int .i64 x.l, .int .i64 x.b, .int .i64 x.q, .int .i64 x.code] T)) (w.heap.size + 1) (.slice (some ⟨w.heap.size, 0, none⟩) 1 1) [x] := by
  refine ⟨some ⟨w.heap.size, 0, none⟩, 1, rfl, fun i c hi => ?_⟩
  cases i with
  | zero =>
    simp at hi; subst hi
    refine ⟨w.heap.size, 0, rfl, by omega, fun j u hu => ?_⟩
    have := tget (heap_alloc_new w (.cells #[.int .i64 x.kind, .int .i64 x.place, .int .i64 x.num, .string x.str, .int .i64 x.r, .int .i64 x.c, .int .i64 x.t, .int .i64 x.l, .int .i64 x.b, .int .i64 x.q, .int .i64 x.code] T)) j u hu
    rw [show (⟨w.heap.size, 0, none⟩ : Addr).add j = ⟨w.heap.size, 0 + 0 * 11 + j, none⟩ by unfold Addr.add; split <;> simp [*]] at this
    exact this
  | succ i => simp at hi
set_option maxHeartbeats 1000000 in
theorem r4lex_no (l : List UInt8) (h61 : ∀ b, l.head? = some b → b.toNat ≠ 61) (w : World) : Calls Tryz.prog 9 #[.string ⟨l.toArray⟩] w fun e w' => (∃ v, e = .returned v ∧ RdT w' w'.heap.size v (lexL l)) ∧ Below w.heap.size w w' := by
  rw [lexL_no h61]
  cases l with
  | nil =>
    go_enter Tryz.func9, Tryz.ntmps9
    go_wp2
    go_ret
    exact ⟨⟨_, rfl, by rw [World.size_alloc]; exact rdt_new w (tokK 8) _⟩, (Below.refl _ w).alloc (Nat.le_refl _) _⟩
  | cons c r =>
    have hc := h61 c rfl
    have hb0 : 0 < (⟨(c :: r).toArray⟩ : ByteArray).size := by show 0 < (c :: r).toArray.size; simp
    have hbe : ((⟨(c :: r).toArray⟩ : ByteArray)[0]'hb0).toNat ≠ 61 := hc
    have hne : ((⟨(c :: r).toArray⟩ : ByteArray) = ⟨#[]⟩) = False := by rw [show (⟨#[]⟩ : ByteArray) = ⟨([] : List UInt8).toArray⟩ from rfl, list_bytes]; exact eq_false (by simp)
    generalize hl : c :: r = l at *
    clear hc h61
    go_enter Tryz.func9, Tryz.ntmps9
    go_wp2
    go_ret
    exact ⟨⟨_, rfl, by rw [World.size_alloc]; exact rdt_new w (tokK 8) _⟩, (Below.refl _ w).alloc (Nat.le_refl _) _⟩
theorem r4lex (l : List UInt8) (hl : l.length ≤ 1400000000000) (w : World) : Calls Tryz.prog 9 #[.string ⟨l.toArray⟩] w fun e w' => (∃ v, e = .returned v ∧ RdT w' w'.heap.size v (lexL l)) ∧ Below w.heap.size w w' := by
  by_cases h61 : ∃ c r, l = c :: r ∧ c.toNat = 61
  · obtain ⟨c, r, hlr, hc⟩ := h61
    refine (r4lex_yes l r c hlr hc hl w).mono ?_
    rintro e w' ⟨⟨v, he, ho⟩, hb⟩
    exact ⟨⟨v, he, own_rdt ho⟩, hb⟩
  · refine r4lex_no l (fun b hb hc => ?_) w
    cases l with
    | nil => simp at hb
    | cons c r => simp at hb; subst hb; exact h61 ⟨_, _, rfl, hc⟩
end Go.Proofs.YtiekhbagpmnboaaGreatDoor
