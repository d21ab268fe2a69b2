/-
  oriellaw04: LexTokens.
-/
import Derived.Test.YtdnocmpjclafdaaGreatDoorPrintL
import Derived.Test.YtdnocmpjclafdaaGreatDoorNumL
import Derived.Test.YtdnocmpjclafdaaGreatDoorRows
import Derived.Test.YtdnocmpjclafdaaGreatDoorBase
import Derived.Test.YtdnocmpjclafdaaGreatDoorProg
import Derived.Test.YtdnocmpjclafdaaGreatDoorShelf
import Derived.Test.YtdnocmpjclafdaaGreatDoorCutW
import Derived.Test.YtdnocmpjclafdaaGreatDoorAddrC
import Derived.Test.YtdnocmpjclafdaaGreatDoorNames
import Derived.Test.YtdnocmpjclafdaaGreatDoorParseW
import Derived.Test.YtdnocmpjclafdaaGreatDoorPRect
import Derived.Test.YtdnocmpjclafdaaGreatDoorDecA
import Derived.Test.YtdnocmpjclafdaaGreatDoorValA
import Derived.Test.YtdnocmpjclafdaaGreatDoorValB
import Derived.Test.YtdnocmpjclafdaaGreatDoorValD
import Derived.Test.YtdnocmpjclafdaaGreatDoorLexP
import Derived.Test.YtdnocmpjclafdaaGreatDoorLexW
import Derived.Test.YtdnocmpjclafdaaGreatDoorRefName
import Derived.Test.YtdnocmpjclafdaaGreatDoorLexR
import Derived.Test.YtdnocmpjclafdaaGreatDoorLexWd
import Derived.Test.YtdnocmpjclafdaaGreatDoorLexSg
import Derived.Test.YtdnocmpjclafdaaGreatDoorLexQ
import Derived.Test.YtdnocmpjclafdaaGreatDoorBld
import Derived.Test.YtdnocmpjclafdaaGreatDoorLexQt
import Derived.Test.YtdnocmpjclafdaaGreatDoorLexS
import Derived.Test.YtdnocmpjclafdaaGreatDoorDDig
import Derived.Test.YtdnocmpjclafdaaGreatDoorDParse
import Derived.Test.YtdnocmpjclafdaaGreatDoorLexF
import Derived.Test.YtdnocmpjclafdaaGreatDoorRParse
import Derived.Test.YtdnocmpjclafdaaGreatDoorRPRect
import Derived.Test.YtdnocmpjclafdaaGreatDoorLexN
import Derived.Test.YtdnocmpjclafdaaGreatDoorMg30
import Derived.Test.YtdnocmpjclafdaaGreatDoorRDig
import Derived.Test.YtdnocmpjclafdaaGreatDoorRDParA
import Derived.Test.YtdnocmpjclafdaaGreatDoorRDPar
import Derived.Test.YtdnocmpjclafdaaGreatDoorRDParB
import Derived.Test.YtdnocmpjclafdaaGreatDoorRDJoin
import Derived.Test.YtdnocmpjclafdaaGreatDoorValK
import Derived.Test.YtdnocmpjclafdaaGreatDoorLexD
import Derived.Test.YtdnocmpjclafdaaGreatDoorLexA
import Derived.Test.YtdnocmpjclafdaaGreatDoorLexB
import Derived.Test.YtdnocmpjclafdaaGreatDoorRowB
import Derived.Test.YtdnocmpjclafdaaGreatDoorMapK
import Derived.Test.YtdnocmpjclafdaaGreatDoorLexC
import Derived.Test.YtdnocmpjclafdaaGreatDoorLexI
import Derived.Test.YtdnocmpjclafdaaGreatDoorLexL
import Derived.Test.YtdnocmpjclafdaaGreatDoorLexT
import Derived.Test.YtdnocmpjclafdaaGreatDoorLexSm
import Derived.WalkSpells
import Derived.WalkLawsBesides
import Derived.StillTactics
import Derived.Laws.Pointers
import Derived.Deep.RegionHeld3
import Derived.Deep.QuietTactic
import Derived.BigQuiet
import Derived.RowKit3
import Derived.Lib.Hide
import Derived.Lib.OthersKept
import Derived.OwnWalk
import Derived.Lib.IndexLaws
import Derived.Lib.ItoaMem
import Derived.Lib.TrimByte
import Derived.Lib.SlTrimSet
import Derived.Lib.ParseIntB
import Derived.WalkKit
import Derived.ProofKit
import Derived.OpenShut
import Derived.Carry
import Derived.ChangeSame
import Derived.Deep.Draws
import Derived.Shelf.Strings.Builder1
import Derived.Shelf.Strings.Builder2
import Derived.Shelf.Strings.Trim
import Derived.Shelf.Small.Utf8
import Derived.Shelf.Small.Strs
import Derived.Shelf.Small.Wraps
import Derived.Shelf.Strings.BuilderF
import Derived.Shelf.Strings.BuilderK
import Derived.Shelf.Strconv.Itoa0
import Derived.Shelf.Strconv.Itoa1
import Derived.Shelf.LaysM
import Derived.Shelf.Strconv.Itoa2
import Derived.Ground.MpProg
import Derived.Shelf.Pu.ParseUintPublic10
import Derived.Shelf.Strings.Search1
import Derived.Shelf.Strings.Search2
import Derived.Shelf.Strings.Search3
import Derived.Shelf.Strings.Cut
import Derived.Shelf.Strings.Count
import Derived.Shelf.Strings.Shaped
import Derived.Shelf.Strings.Prefix
import Derived.Shelf.Strings.Split
import Derived.Shelf.Strings.Replace
import Derived.Shelf.Strings.SplitShaped
import Derived.Shelf.Strings.Runes
import Derived.Shelf.Strings.AsciiSet
import Derived.Shelf.Unicode.DecodeSlow
import Derived.Lib.ItoaNum
import Derived.Shelf.Strings.SlTrimAscii
import Derived.Lib.SmallJoins
import Derived.Maps.OwnSet
import Derived.Maps.AppendAt
import Derived.RangeFuncBox
import Derived.RangeFuncNested
import Derived.RangeFuncLeaves
import Derived.Shelf.Abstract
import Derived.OwnWalkIn
import Derived.TacticsInMore
import Derived.LoopNIn
import Derived.LoopIn
import Derived.Maps.OwnIn
namespace Go.Proofs.YtdnocmpjclafdaaGreatDoor
open Go.RowKit

theorem rdt_new (w : World) (x : Tok) (T : TypeId) : RdT (w.alloc (.cells #[.int .i64 x.kind, .int .i64 x.place, .int .i64 x.num, .string x.str, .int .i64 x.r, .int .i64 x.c, .int .i64 x.t, .int .i64 x.l, .int .i64 x.b, .int .i64 x.q, .int .i64 x.code] T)) (w.heap.size + 1) (.slice (some ⟨w.heap.size, 0, none⟩) 1 1) [x] := by
  refine ⟨some ⟨w.heap.size, 0, none⟩, 1, rfl, fun i c hi => ?_⟩
  cases i with
  | zero =>
    simp at hi; subst hi
    refine ⟨w.heap.size, 0, rfl, by omega, fun j u hu => ?_⟩
    have := tget (heap_alloc_new w (.cells #[.int .i64 x.kind, .int .i64 x.place, .int .i64 x.num, .string x.str, .int .i64 x.r, .int .i64 x.c, .int .i64 x.t, .int .i64 x.l, .int .i64 x.b, .int .i64 x.q, .int .i64 x.code] T)) j u hu
    rw [show (⟨w.heap.size, 0, none⟩ : Addr).add j = ⟨w.heap.size, 0 + 0 * 11 + j, none⟩ by unfold Addr.add; split <;> simp [*]] at this
    exact this
  | succ i => simp at hi
set_option maxHeartbeats 1000000 in
theorem r4lex_no (l : List UInt8) (h61 : ∀ b, l.head? = some b → b.toNat ≠ 61) (w : World) : Calls Tryz.prog 14 #[.string ⟨l.toArray⟩] w fun e w' => (∃ v, e = .returned v ∧ RdT w' w'.heap.size v (lexL l)) ∧ Below w.heap.size w w' := by
  rw [lexL_no h61]
  cases l with
  | nil =>
    go_enter Tryz.func14, Tryz.ntmps14
    go_wp2
    go_ret
    exact ⟨⟨_, rfl, by rw [World.size_alloc]; exact rdt_new w (tokK 8) _⟩, (Below.refl _ w).alloc (Nat.le_refl _) _⟩
  | cons c r =>
    have hc := h61 c rfl
    have hb0 : 0 < (⟨(c :: r).toArray⟩ : ByteArray).size := by show 0 < (c :: r).toArray.size; simp
    have hbe : ((⟨(c :: r).toArray⟩ : ByteArray)[0]'hb0).toNat ≠ 61 := hc
    have hne : ((⟨(c :: r).toArray⟩ : ByteArray) = ⟨#[]⟩) = False := by rw [show (⟨#[]⟩ : ByteArray) = ⟨([] : List UInt8).toArray⟩ from rfl, list_bytes]; exact eq_false (by simp)
    generalize hl : c :: r = l at *
    clear hc h61
    go_enter Tryz.func14, Tryz.ntmps14
    go_wp2
    go_ret
    exact ⟨⟨_, rfl, by rw [World.size_alloc]; exact rdt_new w (tokK 8) _⟩, (Below.refl _ w).alloc (Nat.le_refl _) _⟩
theorem r4lex (l : List UInt8) (hl : l.length ≤ 1400000000000) (w : World) : Calls Tryz.prog 14 #[.string ⟨l.toArray⟩] w fun e w' => (∃ v, e = .returned v ∧ RdT w' w'.heap.size v (lexL l)) ∧ Below w.heap.size w w' := by
  by_cases h61 : ∃ c r, l = c :: r ∧ c.toNat = 61
  · obtain ⟨c, r, hlr, hc⟩ := h61
    refine (r4lex_yes l r c hlr hc hl w).mono ?_
    rintro e w' ⟨⟨v, he, ho⟩, hb⟩
    exact ⟨⟨v, he, own_rdt ho⟩, hb⟩
  · refine r4lex_no l (fun b hb hc => ?_) w
    cases l with
    | nil => simp at hb
    | cons c r => simp at hb; subst hb; exact h61 ⟨_, _, rfl, hc⟩
theorem walk_LexTokens (l : List UInt8) (hl : l.length ≤ 1048576) (w : World) : Calls Tryz.prog 3 #[.string ⟨l.toArray⟩] w fun e w' => e = .returned (.bool true) ∧ Below w.heap.size w w' := by
  have CA := all_any l (by omega) (-1) (.inl (by decide))
  have CR := r4lex l (by omega)
  have hlen := lexL_len l
  generalize lexL l = ts at CA CR hlen
  go_enter Tryz.func3, Tryz.ntmps3
  go_wp2_with fail
  refine (CA _).mono ?_
  rintro e w1 ⟨⟨v1, rfl, hown⟩, hb1⟩
  have h1 := own_rdt hown
  clear hown CA
  go_wp2_with fail
  refine (CR _).mono ?_
  rintro e w2 ⟨⟨v2, rfl, h2⟩, hb2⟩
  have h1' := (h1.below hb2).mono hb2.size
  clear h1 CR
  go_wp2_with fail
  refine (same_yes ts (by omega) w2 v1 v2 h1' h2).mono ?_
  rintro e w3 ⟨rfl, hb3⟩
  clear h1' h2
  go_wp2_with fail
  refine (known_any _).mono ?_
  rintro e w4 ⟨rfl, hb4⟩
  go_wp2
  go_ret
  have hz1 := hb1.size
  have hz2 := hb2.size
  have hz3 := hb3.size
  exact ⟨rfl, ((hb1.trans (hb2.mono hz1)).trans (hb3.mono (by omega))).trans (hb4.mono (by omega))⟩
end Go.Proofs.YtdnocmpjclafdaaGreatDoor
