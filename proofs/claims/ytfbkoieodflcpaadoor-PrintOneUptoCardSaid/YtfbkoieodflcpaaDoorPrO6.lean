/-
  print: two leaves with what follows, plain.
-/
import Derived.Test.YtfbkoieodflcpaaDoorMg4
import Derived.Test.YtfbkoieodflcpaaDoorRows
import Derived.Test.YtfbkoieodflcpaaDoorBase
import Derived.Test.YtfbkoieodflcpaaDoorProg
import Derived.Test.YtfbkoieodflcpaaDoorShelf
import Derived.Test.YtfbkoieodflcpaaDoorAddrC
import Derived.Test.YtfbkoieodflcpaaDoorMg6
import Derived.Test.YtfbkoieodflcpaaDoorDecA
import Derived.Test.YtfbkoieodflcpaaDoorValA
import Derived.Test.YtfbkoieodflcpaaDoorValB
import Derived.Test.YtfbkoieodflcpaaDoorMg11
import Derived.Test.YtfbkoieodflcpaaDoorMg10
import Derived.Test.YtfbkoieodflcpaaDoorMapK
import Derived.Test.YtfbkoieodflcpaaDoorRefP
import Derived.Test.YtfbkoieodflcpaaDoorRefQ
import Derived.Test.YtfbkoieodflcpaaDoorShelfC
import Derived.Test.YtfbkoieodflcpaaDoorFmtU
import Derived.Test.YtfbkoieodflcpaaDoorNameX
import Derived.Test.YtfbkoieodflcpaaDoorNameY
import Derived.Test.YtfbkoieodflcpaaDoorDPrint
import Derived.Test.YtfbkoieodflcpaaDoorValL
import Derived.Test.YtfbkoieodflcpaaDoorPrP
import Derived.Test.YtfbkoieodflcpaaDoorPrA
import Derived.Test.YtfbkoieodflcpaaDoorPrS
import Derived.Test.YtfbkoieodflcpaaDoorPrT
import Derived.Test.YtfbkoieodflcpaaDoorPrO1
import Derived.Test.YtfbkoieodflcpaaDoorPrO2
import Derived.Test.YtfbkoieodflcpaaDoorMg26
import Derived.Test.YtfbkoieodflcpaaDoorNumP
import Derived.Test.YtfbkoieodflcpaaDoorPrO5
import Derived.Test.YtfbkoieodflcpaaDoorRefN
import Derived.Test.YtfbkoieodflcpaaDoorRefM
import Derived.Test.YtfbkoieodflcpaaDoorRefY
import Derived.Test.YtfbkoieodflcpaaDoorRefZ
import Derived.WalkSpells
import Derived.WalkLawsBesides
import Derived.StillTactics
import Derived.Laws.Pointers
import Derived.Deep.RegionHeld3
import Derived.Deep.QuietTactic
import Derived.BigQuiet
import Derived.RowKit3
import Derived.Lib.Hide
import Derived.Lib.OthersKept
import Derived.OwnWalk
import Derived.Lib.IndexLaws
import Derived.Lib.ItoaMem
import Derived.Lib.TrimByte
import Derived.Lib.SlTrimSet
import Derived.Lib.ParseIntB
import Derived.WalkKit
import Derived.ProofKit
import Derived.OpenShut
import Derived.Carry
import Derived.ChangeSame
import Derived.Deep.Draws
import Derived.Shelf.Strings.Builder1
import Derived.Shelf.Strings.Builder2
import Derived.Shelf.Strings.Trim
import Derived.Shelf.Small.Utf8
import Derived.Shelf.Small.Strs
import Derived.Shelf.Strings.BuilderF
import Derived.Shelf.Strings.BuilderK
import Derived.Shelf.Strconv.Itoa0
import Derived.Shelf.Strconv.Itoa1
import Derived.Shelf.LaysM
import Derived.Shelf.Strconv.Itoa2
import Derived.Shelf.Strconv.Itoa3
import Derived.Shelf.Strings.Search1
import Derived.Shelf.Strings.Search2
import Derived.Shelf.Strings.Search3
import Derived.Shelf.Strings.Count
import Derived.Shelf.Strings.Shaped
import Derived.Shelf.Strings.Split
import Derived.Shelf.Strings.Replace
import Derived.Shelf.Strings.Runes
import Derived.Shelf.Strings.AsciiSet
import Derived.Shelf.Unicode.DecodeSlow
import Derived.Lib.ItoaNum
import Derived.Maps.OwnSet
import Derived.Maps.AppendAt
import Derived.Lib.Bytealg
import Derived.Lib.Replace
namespace Go.Proofs.YtfbkoieodflcpaaDoor
open Go.RowKit

/-- what a leaf is, and its text -/
inductive LeafV (n : NL) : Prop where
  | txt (s : ByteArray) (e : n = ⟨1, ⟨2, 0, s, false, 0⟩, 0, 0, 0, 0, 0, 0, 0, ⟨#[]⟩, 0⟩) (h : leafT n = 34 :: (quotesL s.data.toList ++ [34]))
  | num (x : Int) (h0 : 0 ≤ x) (h1 : x ≤ 9223372036854775807) (e : n = ⟨1, ⟨1, x, ⟨#[]⟩, false, 0⟩, 0, 0, 0, 0, 0, 0, 0, ⟨#[]⟩, 0⟩) (h : leafT n = printL x)
  | bool (b : Bool) (e : n = ⟨1, ⟨3, 0, ⟨#[]⟩, b, 0⟩, 0, 0, 0, 0, 0, 0, 0, ⟨#[]⟩, 0⟩) (h : leafT n = if b then [84, 82, 85, 69] else [70, 65, 76, 83, 69])
  | code (c : Int) (h0 : 1 ≤ c) (h1 : c ≤ 8) (e : n = ⟨1, ⟨4, 0, ⟨#[]⟩, false, c⟩, 0, 0, 0, 0, 0, 0, 0, ⟨#[]⟩, 0⟩) (h : leafT n = (codeName c).data.toList)
  | cell (r c : Int) (h0 : mayB r c = true) (e : n = ⟨2, ⟨0, 0, ⟨#[]⟩, false, 0⟩, r, c, 0, 0, 0, 0, 0, ⟨#[]⟩, 0⟩) (h : leafT n = nameZ r c)
  | rect (t l b q : Int) (h0 : mayRectB t l b q = true) (e : n = ⟨3, ⟨0, 0, ⟨#[]⟩, false, 0⟩, 0, 0, t, l, b, q, 0, ⟨#[]⟩, 0⟩) (h : leafT n = nameRectZ t l b q)
theorem leaf_view {n : NL} (hm : n.may = true) (hok : n.ok) (h4 : n.kind ≠ 4) (h5 : n.kind ≠ 5) : LeafV n := by
  rcases kind_of hm with hk | hk | hk | hk | hk
  · obtain ⟨e1, e2, e3⟩ := may_value hm hk
    have e := may_val hm hk
    have hL : leafT n = litT n.v := by unfold leafT; rw [if_pos hk]
    have hv := hok.1
    obtain ⟨kd, ⟨t, x, s, b, c⟩, r, q1, rt, rl, rb, rq, op, nm, ag⟩ := n
    simp only [NL.mk.injEq] at e
    obtain ⟨rfl, _, rfl, rfl, rfl, rfl, rfl, rfl, rfl, rfl, rfl⟩ := e
    rcases vmay_cases _ e1 e2 with ⟨a1, a2, a3, a4⟩ | ⟨a1, a2, a3, a4⟩ | ⟨a1, a2, a3, a4⟩ | ⟨a1, a2, a3, a4, a5, a6⟩
    · simp only at a1 a2 a3 a4; subst a1 a2 a3 a4
      exact .num x e3 hv.2 rfl (by rw [hL]; rfl)
    · simp only at a1 a2 a3 a4; subst a1 a2 a3 a4
      exact .txt s rfl (by rw [hL]; rfl)
    · simp only at a1 a2 a3 a4; subst a1 a2 a3 a4
      exact .bool b rfl (by rw [hL]; rfl)
    · simp only at a1 a2 a3 a4; subst a1 a2 a3 a4
      exact .code c a5 a6 rfl (by rw [hL]; rfl)
  · obtain ⟨e, hb⟩ := may_cell hm hk
    exact .cell n.r n.c hb e (by unfold leafT; rw [if_neg (by omega), if_pos hk])
  · obtain ⟨e, hb⟩ := may_rct hm hk
    exact .rect n.t n.l n.b n.q hb e (by unfold leafT; rw [if_neg (by omega), if_neg (by omega)])
  · exact absurd hk h4
  · exact absurd hk h5
def codeL (n : NL) : Nat := if n.kind = 1 then (if n.v.t = 1 then 1 else if n.v.t = 3 then 2 else if n.v.t = 4 then 3 else 0) else if n.kind = 2 then 4 else 5
theorem leaf_cls {n : NL} (h : LeafV n) (ht : ¬ (n.kind = 1 ∧ n.v.t = 2)) : clsT (leafT n) = codeL n ∧ (∀ b ∈ leafT n, wordB b = true) ∧ 1 ≤ codeL n := by
  cases h with
  | txt s e h => subst e; exact absurd ⟨rfl, rfl⟩ ht
  | num x h0 h1 e h => rw [h]; refine ⟨?_, word_num h0, ?_⟩ <;> subst e; exact cls_num h0; simp [codeL]
  | bool b e h => rw [h]; subst e; cases b <;> exact ⟨by decide, by decide, by decide⟩
  | code c h0 h1 e h => rw [h]; refine ⟨?_, word_code h0 h1, ?_⟩ <;> subst e; exact cls_code h0 h1; simp [codeL]
  | cell r c h0 e h => rw [h]; refine ⟨?_, word_name r c, ?_⟩ <;> subst e; exact cls_name h0; simp [codeL]
  | rect t l b q h0 e h => rw [h]; refine ⟨?_, word_rect t l b q, ?_⟩ <;> subst e; exact cls_rect h0 (rect_parts h0).1; simp [codeL]
theorem word_inj {n m : NL} (h : LeafV n) (g : LeafV m) (ht : ¬ (n.kind = 1 ∧ n.v.t = 2)) (gt : ¬ (m.kind = 1 ∧ m.v.t = 2)) (e : leafT n = leafT m) : n = m := by
  have hc := (leaf_cls h ht).1
  have gc := (leaf_cls g gt).1
  rw [e, gc] at hc
  cases h with
  | txt s e1 h => subst e1; exact absurd ⟨rfl, rfl⟩ ht
  | num x h0 h1 e1 h =>
    cases g with
    | txt s e2 g => subst e2; exact absurd ⟨rfl, rfl⟩ gt
    | num y g0 g1 e2 g => rw [h, g] at e; rw [e1, e2, num_inj ⟨h0, h1⟩ ⟨g0, g1⟩ e]
    | bool b e2 g => subst e1; subst e2; simp [codeL] at hc
    | code c g0 g1 e2 g => subst e1; subst e2; simp [codeL] at hc
    | cell r c g0 e2 g => subst e1; subst e2; simp [codeL] at hc
    | rect t l b q g0 e2 g => subst e1; subst e2; simp [codeL] at hc
  | bool b e1 h =>
    cases g with
    | txt s e2 g => subst e2; exact absurd ⟨rfl, rfl⟩ gt
    | bool d e2 g => rw [h, g] at e; rw [e1, e2]; cases b <;> cases d <;> first | rfl | (exact absurd e (by decide))
    | num x g0 g1 e2 g => subst e1; subst e2; simp [codeL] at hc
    | code c g0 g1 e2 g => subst e1; subst e2; simp [codeL] at hc
    | cell r c g0 e2 g => subst e1; subst e2; simp [codeL] at hc
    | rect t l b q g0 e2 g => subst e1; subst e2; simp [codeL] at hc
  | code c h0 h1 e1 h =>
    cases g with
    | txt s e2 g => subst e2; exact absurd ⟨rfl, rfl⟩ gt
    | code d g0 g1 e2 g => rw [h, g] at e; rw [e1, e2, code_inj ⟨h0, h1⟩ ⟨g0, g1⟩ e]
    | bool b e2 g => subst e1; subst e2; simp [codeL] at hc
    | num x g0 g1 e2 g => subst e1; subst e2; simp [codeL] at hc
    | cell r c g0 e2 g => subst e1; subst e2; simp [codeL] at hc
    | rect t l b q g0 e2 g => subst e1; subst e2; simp [codeL] at hc
  | cell r c h0 e1 h =>
    cases g with
    | txt s e2 g => subst e2; exact absurd ⟨rfl, rfl⟩ gt
    | cell r' c' g0 e2 g => rw [h, g] at e; obtain ⟨a1, a2⟩ := name_inj h0 g0 e; rw [e1, e2, a1, a2]
    | bool b e2 g => subst e1; subst e2; simp [codeL] at hc
    | code c g0 g1 e2 g => subst e1; subst e2; simp [codeL] at hc
    | num x g0 g1 e2 g => subst e1; subst e2; simp [codeL] at hc
    | rect t l b q g0 e2 g => subst e1; subst e2; simp [codeL] at hc
  | rect t l b q h0 e1 h =>
    cases g with
    | txt s e2 g => subst e2; exact absurd ⟨rfl, rfl⟩ gt
    | rect t' l' b' q' g0 e2 g =>
      rw [h, g] at e
      obtain ⟨a1, a2, a3, a4⟩ := rect_inj h0 g0 (rect_parts h0).1 (rect_parts h0).2 (rect_parts g0).1 (rect_parts g0).2 e
      rw [e1, e2, a1, a2, a3, a4]
    | bool b e2 g => subst e1; subst e2; simp [codeL] at hc
    | code c g0 g1 e2 g => subst e1; subst e2; simp [codeL] at hc
    | num x g0 g1 e2 g => subst e1; subst e2; simp [codeL] at hc
    | cell r c g0 e2 g => subst e1; subst e2; simp [codeL] at hc
end Go.Proofs.YtfbkoieodflcpaaDoor
