/-
  oriellaw04.all: the tokens that a range tells; oriellaw04: known.
-/
import Derived.Test.YtiekhbagpmnboaaGreatDoorMg2
import Derived.Test.YtiekhbagpmnboaaGreatDoorRows
import Derived.Test.YtiekhbagpmnboaaGreatDoorMg0
import Derived.Test.YtiekhbagpmnboaaGreatDoorProg
import Derived.Test.YtiekhbagpmnboaaGreatDoorShelf
import Derived.Test.YtiekhbagpmnboaaGreatDoorCutW
import Derived.Test.YtiekhbagpmnboaaGreatDoorAddrC
import Derived.Test.YtiekhbagpmnboaaGreatDoorNames
import Derived.Test.YtiekhbagpmnboaaGreatDoorParseW
import Derived.Test.YtiekhbagpmnboaaGreatDoorPRect
import Derived.Test.YtiekhbagpmnboaaGreatDoorValA
import Derived.Test.YtiekhbagpmnboaaGreatDoorValB
import Derived.Test.YtiekhbagpmnboaaGreatDoorValD
import Derived.Test.YtiekhbagpmnboaaGreatDoorLexP
import Derived.Test.YtiekhbagpmnboaaGreatDoorLexW
import Derived.Test.YtiekhbagpmnboaaGreatDoorMg28
import Derived.Test.YtiekhbagpmnboaaGreatDoorLexWd
import Derived.Test.YtiekhbagpmnboaaGreatDoorLexSg
import Derived.Test.YtiekhbagpmnboaaGreatDoorMg31
import Derived.Test.YtiekhbagpmnboaaGreatDoorLexQt
import Derived.Test.YtiekhbagpmnboaaGreatDoorLexS
import Derived.Test.YtiekhbagpmnboaaGreatDoorDParse
import Derived.Test.YtiekhbagpmnboaaGreatDoorLexF
import Derived.Test.YtiekhbagpmnboaaGreatDoorMg12
import Derived.Test.YtiekhbagpmnboaaGreatDoorLexI
import Derived.RangeFuncBox
import Derived.RangeFuncNested
import Derived.RangeFuncLeaves
import Derived.Shelf.Abstract
import Derived.WalkKit
import Derived.OwnWalkIn
import Derived.TacticsInMore
import Derived.LoopNIn
import Derived.LoopIn
import Derived.Maps.AppendAt
import Derived.Maps.OwnIn
import Derived.Lib.ItoaMem
import Derived.Lib.TrimByte
import Derived.Lib.IndexLaws
import Derived.Lib.SlTrimSet
import Derived.Lib.ParseIntB
import Derived.ProofKit
import Derived.OpenShut
import Derived.Carry
import Derived.ChangeSame
import Derived.Lib.Hide
import Derived.Deep.Draws
import Derived.Shelf.Strings.Builder1
import Derived.Shelf.Strings.Trim
import Derived.Shelf.Small.Utf8
import Derived.Shelf.Small.Strs
import Derived.Shelf.Small.Wraps
import Derived.Shelf.Strings.BuilderF
import Derived.Shelf.Strings.BuilderK
import Derived.Shelf.Strconv.Itoa0
import Derived.Shelf.Strconv.Itoa1
import Derived.Shelf.LaysM
import Derived.Shelf.Strconv.Itoa2
import Derived.Shelf.Strconv.Itoa3
import Derived.Ground.MpProg
import Derived.Shelf.Pu.ParseUintPublic10
import Derived.Shelf.Strings.Search1
import Derived.Shelf.Strings.Search2
import Derived.Shelf.Strings.Cut
import Derived.Shelf.Strings.Shaped
import Derived.Shelf.Strings.Prefix
import Derived.Shelf.Strings.Runes
import Derived.Shelf.Strings.AsciiSet
import Derived.Shelf.Unicode.DecodeSlow
import Derived.WalkSpells
import Derived.WalkLawsBesides
import Derived.StillTactics
import Derived.Laws.Pointers
import Derived.Deep.RegionHeld3
import Derived.Deep.QuietTactic
import Derived.BigQuiet
import Derived.RowKit3
import Derived.Lib.OthersKept
import Derived.OwnWalk
import Derived.Lib.ItoaNum
import Derived.Shelf.Strings.SlTrimAscii
import Derived.Lib.SmallJoins
import Derived.Maps.OwnSet
namespace Go.Proofs.YtiekhbagpmnboaaGreatDoor
open Go.RowKit Go.Shelf

attribute [local go_sem] Oper.semAt_some

theorem eq_nilf (b : Nat) (W : World) : (binOp BinOp.eql 25 (.func (.func 18) #[] #[.pointer (some ⟨b, 0, none⟩)]) .nilFunc).run Tryz.prog W = .ok (.bool false) W := by kernel_rfl
attribute [local go_sem] eq_nilf
end Go.Proofs.YtiekhbagpmnboaaGreatDoor
namespace Go.Proofs.YtiekhbagpmnboaaGreatDoor
open Go.RowKit Go.Shelf

/-- the cells of a row of tokens -/
theorem RdT.at {w : World} {B : Nat} {v : Value} {l : List Tok} (h : RdT w B v l) (h0 : 0 < l.length) : ∃ b o cap, v = .slice (some ⟨b, o, none⟩) l.length cap ∧ b < B ∧ ∀ k x, l[k]? = some x → ∀ j u, x.cs[j]? = some u → w.cell? ⟨b, o + k * 11 + j, none⟩ = some u := by
  obtain ⟨A, cap, rfl, h⟩ := h
  obtain ⟨x, hx⟩ : ∃ x, l[0]? = some x := ⟨_, List.getElem?_eq_getElem h0⟩
  obtain ⟨b, o, e, hb, _⟩ := h 0 x.cs (by rw [List.getElem?_map, hx]; rfl)
  subst e
  refine ⟨b, o, cap, rfl, hb, fun k y hy j u hu => ?_⟩
  obtain ⟨b', o', e', _, hc⟩ := h k y.cs (by rw [List.getElem?_map, hy]; rfl)
  injection e' with e'
  injection e' with e1 e2 _
  subst e1 e2
  exact hc j u hu
/-- what holds of a text's tokens -/
structure TokLaws (l : List UInt8) (ts : List Tok) : Prop where
  ne : 0 < ts.length
  last : ∀ (k : Nat) (x : Tok), ts[k]? = some x → x.last = decide (k + 1 = ts.length)
  place : ∀ (k : Nat) (x : Tok), ts[k]? = some x → 0 ≤ x.place ∧ x.place ≤ l.length
  rise : ∀ (k : Nat) (x y : Tok), ts[k]? = some x → ts[k + 1]? = some y → x.place < y.place
  fin : ∀ (k : Nat) (x : Tok), ts[k]? = some x → x.kind = 0 → x.place = l.length
theorem laws_one (l : List UInt8) : TokLaws l [tokK 8] := by
  refine ⟨by simp, fun k x hx => ?_, fun k x hx => ?_, fun k x y hx hy => by simp at hy, fun k x hx hk => ?_⟩
  all_goals (cases k with | zero => (simp at hx; subst hx; first | rfl | (simp [tokK]; done) | (simp [tokK] at hk)) | succ k => simp at hx)
theorem lexL_laws (l : List UInt8) : TokLaws l (lexL l) := by
  cases l with
  | nil => exact laws_one _
  | cons b r =>
    by_cases h61 : b.toNat = 61
    · have e : lexL (b :: r) = toks (b :: r).length (r.length + 1) r := by simp [lexL, h61]
      rw [e]
      have hle : r.length ≤ (b :: r).length := by simp
      refine ⟨toks_ne _ _ _ (by omega), toks_last _ _ _ (by omega), fun k x hx => ?_, toks_rise _ _ _ hle, fun k x hx hk => toks_end _ _ _ hle k x hx hk⟩
      have := toks_in _ _ _ hle k x hx
      simp at this ⊢
      omega
    · rw [lexL_no (fun c hc => by simp at hc; subst hc; exact h61)]
      exact laws_one _
end Go.Proofs.YtiekhbagpmnboaaGreatDoor
