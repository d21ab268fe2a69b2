/-
  oriellaw04: known.
-/
import Derived.Test.YtiekhbagpmnboaaGreatDoorPrintL
import Derived.Test.YtiekhbagpmnboaaGreatDoorNumL
import Derived.Test.YtiekhbagpmnboaaGreatDoorRows
import Derived.Test.YtiekhbagpmnboaaGreatDoorBase
import Derived.Test.YtiekhbagpmnboaaGreatDoorProg
import Derived.Test.YtiekhbagpmnboaaGreatDoorShelf
import Derived.Test.YtiekhbagpmnboaaGreatDoorCutW
import Derived.Test.YtiekhbagpmnboaaGreatDoorAddrC
import Derived.Test.YtiekhbagpmnboaaGreatDoorNames
import Derived.Test.YtiekhbagpmnboaaGreatDoorParseW
import Derived.Test.YtiekhbagpmnboaaGreatDoorPRect
import Derived.Test.YtiekhbagpmnboaaGreatDoorDecA
import Derived.Test.YtiekhbagpmnboaaGreatDoorValA
import Derived.Test.YtiekhbagpmnboaaGreatDoorValB
import Derived.Test.YtiekhbagpmnboaaGreatDoorValD
import Derived.Test.YtiekhbagpmnboaaGreatDoorLexP
import Derived.Test.YtiekhbagpmnboaaGreatDoorLexW
import Derived.Test.YtiekhbagpmnboaaGreatDoorRefName
import Derived.Test.YtiekhbagpmnboaaGreatDoorLexR
import Derived.Test.YtiekhbagpmnboaaGreatDoorLexWd
import Derived.Test.YtiekhbagpmnboaaGreatDoorLexSg
import Derived.Test.YtiekhbagpmnboaaGreatDoorLexQ
import Derived.Test.YtiekhbagpmnboaaGreatDoorMg21
import Derived.Test.YtiekhbagpmnboaaGreatDoorLexQt
import Derived.Test.YtiekhbagpmnboaaGreatDoorLexS
import Derived.Test.YtiekhbagpmnboaaGreatDoorDDig
import Derived.Test.YtiekhbagpmnboaaGreatDoorDParse
import Derived.Test.YtiekhbagpmnboaaGreatDoorLexF
import Derived.Test.YtiekhbagpmnboaaGreatDoorRParse
import Derived.Test.YtiekhbagpmnboaaGreatDoorRPRect
import Derived.Test.YtiekhbagpmnboaaGreatDoorLexN
import Derived.Test.YtiekhbagpmnboaaGreatDoorMg30
import Derived.Test.YtiekhbagpmnboaaGreatDoorMg31
import Derived.Test.YtiekhbagpmnboaaGreatDoorRDPar
import Derived.Test.YtiekhbagpmnboaaGreatDoorRDParB
import Derived.Test.YtiekhbagpmnboaaGreatDoorRDJoin
import Derived.Test.YtiekhbagpmnboaaGreatDoorValK
import Derived.Test.YtiekhbagpmnboaaGreatDoorLexD
import Derived.Test.YtiekhbagpmnboaaGreatDoorLexA
import Derived.Test.YtiekhbagpmnboaaGreatDoorLexB
import Derived.Test.YtiekhbagpmnboaaGreatDoorRowB
import Derived.Test.YtiekhbagpmnboaaGreatDoorMapK
import Derived.Test.YtiekhbagpmnboaaGreatDoorTokR
import Derived.Test.YtiekhbagpmnboaaGreatDoorLexC
import Derived.Test.YtiekhbagpmnboaaGreatDoorLexI
import Derived.Test.YtiekhbagpmnboaaGreatDoorLexL
import Derived.WalkSpells
import Derived.WalkLawsBesides
import Derived.StillTactics
import Derived.Laws.Pointers
import Derived.Deep.RegionHeld3
import Derived.Deep.QuietTactic
import Derived.BigQuiet
import Derived.RowKit3
import Derived.Lib.Hide
import Derived.Lib.OthersKept
import Derived.OwnWalk
import Derived.Lib.IndexLaws
import Derived.Lib.ItoaMem
import Derived.Lib.TrimByte
import Derived.Lib.SlTrimSet
import Derived.Lib.ParseIntB
import Derived.WalkKit
import Derived.ProofKit
import Derived.OpenShut
import Derived.Carry
import Derived.ChangeSame
import Derived.Deep.Draws
import Derived.Shelf.Strings.Builder1
import Derived.Shelf.Strings.Trim
import Derived.Shelf.Small.Utf8
import Derived.Shelf.Small.Strs
import Derived.Shelf.Small.Wraps
import Derived.Shelf.Strings.BuilderF
import Derived.Shelf.Strings.BuilderK
import Derived.Shelf.Strconv.Itoa0
import Derived.Shelf.Strconv.Itoa1
import Derived.Shelf.LaysM
import Derived.Shelf.Strconv.Itoa2
import Derived.Shelf.Strconv.Itoa3
import Derived.Ground.MpProg
import Derived.Shelf.Pu.ParseUintPublic10
import Derived.Shelf.Strings.Search1
import Derived.Shelf.Strings.Search2
import Derived.Shelf.Strings.Cut
import Derived.Shelf.Strings.Shaped
import Derived.Shelf.Strings.Prefix
import Derived.Shelf.Strings.Runes
import Derived.Shelf.Strings.AsciiSet
import Derived.Shelf.Unicode.DecodeSlow
import Derived.Lib.ItoaNum
import Derived.Shelf.Strings.SlTrimAscii
import Derived.Lib.SmallJoins
import Derived.Maps.OwnSet
import Derived.Maps.AppendAt
import Derived.RangeFuncBox
import Derived.RangeFuncNested
import Derived.RangeFuncLeaves
import Derived.Shelf.Abstract
import Derived.OwnWalkIn
import Derived.TacticsInMore
import Derived.LoopNIn
import Derived.LoopIn
import Derived.Maps.OwnIn
namespace Go.Proofs.YtiekhbagpmnboaaGreatDoor
open Go.RowKit Go.Shelf

theorem known_toks : lexL [61, 65, 49, 43, 50, 46, 53] = [(tokCell 1 1).put 1, (tokS 7 [43]).put 3, (tokNum 25000).put 4, (tokK 0).put 7] := by kernel_rfl
/-- the cells of a row of tokens -/
theorem RdT.at {w : World} {B : Nat} {v : Value} {l : List Tok} (h : RdT w B v l) (h0 : 0 < l.length) : ∃ b o cap, v = .slice (some ⟨b, o, none⟩) l.length cap ∧ b < B ∧ ∀ k x, l[k]? = some x → ∀ j u, x.cs[j]? = some u → w.cell? ⟨b, o + k * 11 + j, none⟩ = some u := by
  obtain ⟨A, cap, rfl, h⟩ := h
  obtain ⟨x, hx⟩ : ∃ x, l[0]? = some x := ⟨_, List.getElem?_eq_getElem h0⟩
  obtain ⟨b, o, e, hb, _⟩ := h 0 x.cs (by rw [List.getElem?_map, hx]; rfl)
  subst e
  refine ⟨b, o, cap, rfl, hb, fun k y hy j u hu => ?_⟩
  obtain ⟨b', o', e', _, hc⟩ := h k y.cs (by rw [List.getElem?_map, hy]; rfl)
  injection e' with e'
  injection e' with e1 e2 _
  subst e1 e2
  exact hc j u hu
set_option maxHeartbeats 1000000 in
theorem known_any (w : World) : Calls Tryz.prog 11 #[] w fun e w' => e = .returned (.bool true) ∧ Below w.heap.size w w' := by
  have CA := all_any [61, 65, 49, 43, 50, 46, 53] (by simp) (-1) (.inl (by decide))
  rw [known_toks] at CA
  go_enter Tryz.func11, Tryz.ntmps11
  go_wp2_with fail
  refine (CA _).mono ?_
  rintro e w1 ⟨⟨v, rfl, hown⟩, hb1⟩
  obtain ⟨b, o, cap, rfl, hlt, hcell⟩ := (own_rdt hown).at (by simp)
  have k0 : w1.cell? ⟨b, o, none⟩ = some (.int .i64 4) := hcell 0 _ rfl 0 _ rfl
  have k1 : w1.cell? ⟨b, o + 4, none⟩ = some (.int .i64 1) := hcell 0 _ rfl 4 _ rfl
  have k2 : w1.cell? ⟨b, o + 5, none⟩ = some (.int .i64 1) := hcell 0 _ rfl 5 _ rfl
  have k3 : w1.cell? ⟨b, o + 14, none⟩ = some (.string ⟨#[43]⟩) := hcell 1 _ rfl 3 _ rfl
  have k4 : w1.cell? ⟨b, o + 24, none⟩ = some (.int .i64 25000) := hcell 2 _ rfl 2 _ rfl
  have k5 : w1.cell? ⟨b, o + 34, none⟩ = some (.int .i64 7) := hcell 3 _ rfl 1 _ rfl
  clear hcell hown CA
  go_wp2
  go_ret
  exact ⟨rfl, hb1⟩
/-- what holds of a text's tokens -/
structure TokLaws (l : List UInt8) (ts : List Tok) : Prop where
  ne : 0 < ts.length
  last : ∀ (k : Nat) (x : Tok), ts[k]? = some x → x.last = decide (k + 1 = ts.length)
  place : ∀ (k : Nat) (x : Tok), ts[k]? = some x → 0 ≤ x.place ∧ x.place ≤ l.length
  rise : ∀ (k : Nat) (x y : Tok), ts[k]? = some x → ts[k + 1]? = some y → x.place < y.place
  fin : ∀ (k : Nat) (x : Tok), ts[k]? = some x → x.kind = 0 → x.place = l.length
theorem laws_one (l : List UInt8) : TokLaws l [tokK 8] := by
  refine ⟨by simp, fun k x hx => ?_, fun k x hx => ?_, fun k x y hx hy => by simp at hy, fun k x hx hk => ?_⟩
  all_goals (cases k with | zero => (simp at hx; subst hx; first | rfl | (simp [tokK]; done) | (simp [tokK] at hk)) | succ k => simp at hx)
theorem lexL_laws (l : List UInt8) : TokLaws l (lexL l) := by
  cases l with
  | nil => exact laws_one _
  | cons b r =>
    by_cases h61 : b.toNat = 61
    · have e : lexL (b :: r) = toks (b :: r).length (r.length + 1) r := by simp [lexL, h61]
      rw [e]
      have hle : r.length ≤ (b :: r).length := by simp
      refine ⟨toks_ne _ _ _ (by omega), toks_last _ _ _ (by omega), fun k x hx => ?_, toks_rise _ _ _ hle, fun k x hx hk => toks_end _ _ _ hle k x hx hk⟩
      have := toks_in _ _ _ hle k x hx
      simp at this ⊢
      omega
    · rw [lexL_no (fun c hc => by simp at hc; subst hc; exact h61)]
      exact laws_one _
end Go.Proofs.YtiekhbagpmnboaaGreatDoor
