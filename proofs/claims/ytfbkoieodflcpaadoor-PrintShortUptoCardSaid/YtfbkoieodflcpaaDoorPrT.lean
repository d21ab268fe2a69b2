/-
  print: what a step makes of the row of texts, plain.
-/
import Derived.Test.YtfbkoieodflcpaaDoorMg4
import Derived.Test.YtfbkoieodflcpaaDoorRows
import Derived.Test.YtfbkoieodflcpaaDoorBase
import Derived.Test.YtfbkoieodflcpaaDoorProg
import Derived.Test.YtfbkoieodflcpaaDoorShelf
import Derived.Test.YtfbkoieodflcpaaDoorAddrC
import Derived.Test.YtfbkoieodflcpaaDoorNames
import Derived.Test.YtfbkoieodflcpaaDoorMg7
import Derived.Test.YtfbkoieodflcpaaDoorDecA
import Derived.Test.YtfbkoieodflcpaaDoorValA
import Derived.Test.YtfbkoieodflcpaaDoorValB
import Derived.Test.YtfbkoieodflcpaaDoorMg11
import Derived.Test.YtfbkoieodflcpaaDoorLexP
import Derived.Test.YtfbkoieodflcpaaDoorRowB
import Derived.Test.YtfbkoieodflcpaaDoorMapK
import Derived.Test.YtfbkoieodflcpaaDoorArgK
import Derived.Test.YtfbkoieodflcpaaDoorRefP
import Derived.Test.YtfbkoieodflcpaaDoorRefQ
import Derived.Test.YtfbkoieodflcpaaDoorShelfC
import Derived.Test.YtfbkoieodflcpaaDoorFmtU
import Derived.Test.YtfbkoieodflcpaaDoorNameX
import Derived.Test.YtfbkoieodflcpaaDoorNameY
import Derived.Test.YtfbkoieodflcpaaDoorDPrint
import Derived.Test.YtfbkoieodflcpaaDoorValL
import Derived.Test.YtfbkoieodflcpaaDoorPrP
import Derived.Test.YtfbkoieodflcpaaDoorPrA
import Derived.Test.YtfbkoieodflcpaaDoorPrS
import Derived.WalkSpells
import Derived.WalkLawsBesides
import Derived.StillTactics
import Derived.Laws.Pointers
import Derived.Deep.RegionHeld3
import Derived.Deep.QuietTactic
import Derived.BigQuiet
import Derived.RowKit3
import Derived.Lib.Hide
import Derived.Lib.OthersKept
import Derived.OwnWalk
import Derived.Lib.IndexLaws
import Derived.Lib.ItoaMem
import Derived.Lib.TrimByte
import Derived.Lib.SlTrimSet
import Derived.Lib.ParseIntB
import Derived.WalkKit
import Derived.ProofKit
import Derived.OpenShut
import Derived.Carry
import Derived.ChangeSame
import Derived.Deep.Draws
import Derived.Shelf.Strings.Builder1
import Derived.Shelf.Strings.Builder2
import Derived.Shelf.Strings.Trim
import Derived.Shelf.Small.Utf8
import Derived.Shelf.Small.Strs
import Derived.Shelf.Strings.BuilderF
import Derived.Shelf.Strings.BuilderK
import Derived.Shelf.Strconv.Itoa0
import Derived.Shelf.Strconv.Itoa1
import Derived.Shelf.LaysM
import Derived.Shelf.Strconv.Itoa2
import Derived.Shelf.Strconv.Itoa3
import Derived.Shelf.Strings.Search1
import Derived.Shelf.Strings.Search2
import Derived.Shelf.Strings.Search3
import Derived.Shelf.Strings.Count
import Derived.Shelf.Strings.Shaped
import Derived.Shelf.Strings.Split
import Derived.Shelf.Strings.Replace
import Derived.Shelf.Strings.Runes
import Derived.Shelf.Strings.AsciiSet
import Derived.Shelf.Unicode.DecodeSlow
import Derived.Lib.ItoaNum
import Derived.Maps.OwnSet
import Derived.Maps.AppendAt
import Derived.Lib.Bytealg
import Derived.Lib.Replace
namespace Go.Proofs.YtfbkoieodflcpaaDoor
open Go.RowKit

theorem need_one {st st' : List PL} {T : List TL} {n : NL} (h : stepP st n = some st') (hr : TRel st T) (hm : n.may = true) (hk : n.kind = 4) : ∃ S x, T = S ++ [x] := by
  rcases T.eq_nil_or_concat with rfl | ⟨S, x, rfl⟩
  · obtain rfl : st = [] := List.eq_nil_of_length_eq_zero hr.len.symm
    by_cases ho : n.op = 1 ∨ n.op = 2
    · rw [step_one_no hm hk] at h; cases h
    · rw [step_two_no0 hm hk ho] at h; cases h
  · exact ⟨S, x, List.concat_eq_append⟩
theorem need_two {st st' : List PL} {T : List TL} {n : NL} (h : stepP st n = some st') (hr : TRel st T) (hm : n.may = true) (hk : n.kind = 4) (ho : ¬ (n.op = 1 ∨ n.op = 2)) : ∃ S x y, T = S ++ [x, y] := by
  rcases two_last st with rfl | ⟨a, rfl⟩ | ⟨s, a, b, rfl⟩
  · rw [step_two_no0 hm hk ho] at h; cases h
  · rw [step_two_no hm hk ho] at h; cases h
  · obtain ⟨S, x, y, rfl, _⟩ := hr.last2
    exact ⟨S, x, y, rfl⟩
theorem need_call {st st' : List PL} {T : List TL} {n : NL} (h : stepP st n = some st') (hr : TRel st T) (hm : n.may = true) (hk : n.kind = 5) : ∃ S U, T = S ++ U ∧ U.length = n.args.toNat := by
  by_cases hl : st.length < n.args.toNat
  · rw [step_call_no hm hk hl] at h; cases h
  · have := hr.len
    exact ⟨T.take (T.length - n.args.toNat), T.drop (T.length - n.args.toNat), (List.take_append_drop _ _).symm, by rw [List.length_drop]; omega⟩
theorem kind_of {n : NL} (h : n.may = true) : n.kind = 1 ∨ n.kind = 2 ∨ n.kind = 3 ∨ n.kind = 4 ∨ n.kind = 5 := by
  by_cases h1 : n.kind = 1
  · exact Or.inl h1
  by_cases h2 : n.kind = 2
  · exact Or.inr (Or.inl h2)
  by_cases h3 : n.kind = 3
  · exact Or.inr (Or.inr (Or.inl h3))
  by_cases h4 : n.kind = 4
  · exact Or.inr (Or.inr (Or.inr (Or.inl h4)))
  by_cases h5 : n.kind = 5
  · exact Or.inr (Or.inr (Or.inr (Or.inr h5)))
  exfalso
  unfold NL.may at h
  rw [if_neg h1, if_neg h2, if_neg h3, if_neg h4, if_neg h5] at h
  cases h
theorem stepT_lit {S : List TL} {n : NL} (hk : n.kind = 1) : stepT S n = S ++ [⟨litT n.v, 7⟩] := by unfold stepT; rw [if_pos hk]
theorem stepT_cell {S : List TL} {n : NL} (hk : n.kind = 2) : stepT S n = S ++ [⟨nameZ n.r n.c, 7⟩] := by unfold stepT; rw [if_neg (by omega), if_pos hk]
theorem stepT_rect {S : List TL} {n : NL} (hk : n.kind = 3) : stepT S n = S ++ [⟨nameRectZ n.t n.l n.b n.q, 7⟩] := by unfold stepT; rw [if_neg (by omega), if_neg (by omega), if_pos hk]
theorem printL_len {x : Int} (h : -9223372036854775808 ≤ x ∧ x ≤ 9223372036854775807) : (printL x).length ≤ 26 := by
  unfold printL
  split
  · simp
  · unfold textOf
    have h1 := dec_len20 (u := x.natAbs / 10000) (by omega)
    have h2 := frac_len (x.natAbs % 10000)
    have h3 : ((if decide (x < 0) = true then [45] else []) : List UInt8).length ≤ 1 := by split <;> simp
    have h4 : ((if x.natAbs % 10000 = 0 then [] else 46 :: frac (x.natAbs % 10000)) : List UInt8).length ≤ 5 := by split <;> simp; omega
    rw [List.length_append, List.length_append]
    omega
theorem code_len {c : Int} (h1 : 1 ≤ c) (h2 : c ≤ 8) : (codeName c).data.toList.length ≤ 16 := by
  have h3 : c = 1 ∨ c = 2 ∨ c = 3 ∨ c = 4 ∨ c = 5 ∨ c = 6 ∨ c = 7 ∨ c = 8 := by omega
  rcases h3 with rfl | rfl | rfl | rfl | rfl | rfl | rfl | rfl <;> decide
theorem lit_len {v : VL} (h : v.may = true) (h0 : v.t ≠ 0) (hok : v.ok) (hs : v.s.size ≤ 1048576) : (litT v).length ≤ 2097154 := by
  unfold litT
  rcases vmay_cases v h h0 with ⟨e, _⟩ | ⟨e, _⟩ | ⟨e, _⟩ | ⟨e, _, _, _, e5, e6⟩
  · rw [if_pos e]; have := printL_len hok; omega
  · rw [if_neg (by omega), if_pos e]
    have h1 := quotes_len v.s.data.toList
    have h2 : v.s.data.toList.length = v.s.size := by rw [Array.length_toList]; rfl
    simp only [List.length_cons, List.length_append, List.length_nil]
    omega
  · rw [if_neg (by omega), if_neg (by omega), if_pos e]
    split <;> decide
  · rw [if_neg (by omega), if_neg (by omega), if_neg (by omega)]; have := code_len e5 e6; omega
theorem rectZ_len (t l b r : Int) : (nameRectZ t l b r).length ≤ 13 := by
  unfold nameRectZ
  split
  · have h1 := nameZ_len t l
    have h2 := nameZ_len b r
    simp only [List.length_append, List.length_cons]; omega
  · simp
theorem two_eq (S : List TL) (a b : TL) : totT (S ++ [a, b]) = totT S + a.text.length + b.text.length := by
  rw [totT_app]; simp [totT]; omega
/-- what a step adds at most -/
theorem step_tot {st st' : List PL} {T : List TL} {n : NL} (h : stepP st n = some st') (hr : TRel st T) (hm : n.may = true) (hok : n.v.ok) (hs : n.v.s.size ≤ 1048576) : totT (stepT T n) ≤ totT T + 2097160 := by
  rcases kind_of hm with hk | hk | hk | hk | hk
  · obtain ⟨e1, e2, _⟩ := may_value hm hk
    rw [stepT_lit hk, totT_app, totT_one]
    have := lit_len e1 e2 hok hs
    show totT T + (litT n.v).length ≤ _
    omega
  · rw [stepT_cell hk, totT_app, totT_one]
    have := nameZ_len n.r n.c
    show totT T + (nameZ n.r n.c).length ≤ _
    omega
  · rw [stepT_rect hk, totT_app, totT_one]
    have := rectZ_len n.t n.l n.b n.q
    show totT T + (nameRectZ n.t n.l n.b n.q).length ≤ _
    omega
  · have hq := sign_len n.op
    by_cases ho : n.op = 1 ∨ n.op = 2
    · obtain ⟨S, x, rfl⟩ := need_one h hr hm hk
      have ha := at_len x (levelI n.op)
      by_cases ho1 : n.op = 1
      · rw [stepT_neg hk ho1, totT_app, totT_app, totT_one, totT_one]
        show totT S + (opT n.op ++ x.at' (levelI n.op)).length ≤ _
        rw [List.length_append]; omega
      · rw [stepT_pct hk (by omega), totT_app, totT_app, totT_one, totT_one]
        show totT S + (x.at' (levelI n.op) ++ opT n.op).length ≤ _
        rw [List.length_append]; omega
    · obtain ⟨S, x, y, rfl⟩ := need_two h hr hm hk ho
      have ha := at_len x (levelI n.op)
      have hb := at_len y (levelI n.op + 1)
      rw [stepT_two hk (by omega) (by omega), two_eq, totT_app, totT_one]
      show totT S + (x.at' (levelI n.op) ++ opT n.op ++ y.at' (levelI n.op + 1)).length ≤ _
      rw [List.length_append, List.length_append]; omega
  · obtain ⟨S, U, rfl, hU⟩ := need_call h hr hm hk
    obtain ⟨a0, a1, a2⟩ := args_of hm hk
    have hn : n.name.data.toList.length ≤ 16 := by
      unfold namedB at a2
      simp only [Bool.and_eq_true, decide_eq_true_eq] at a2
      exact a2.1.1.1.1.2
    have hj := join_len U
    rw [stepT_call hk hU, totT_app, totT_app, totT_one]
    show totT S + (n.name.data.toList ++ 40 :: (joinT U ++ [41])).length ≤ _
    rw [List.length_append, List.length_cons, List.length_append, List.length_singleton]; omega
/-- what a round of the print has to know -/
structure RoundT (ns : List NL) (j : Nat) (n : NL) (T : List TL) : Prop where
  may : n.may = true
  put : putT (ns.take (j + 1)) = stepT T n
  len : (stepT T n).length ≤ j + 1
  tot : totT (stepT T n) ≤ (j + 1) * 2097160
  one : n.kind = 4 → ∃ S x, T = S ++ [x]
  two : n.kind = 4 → ¬ (n.op = 1 ∨ n.op = 2) → ∃ S x y, T = S ++ [x, y]
  call : n.kind = 5 → ∃ S U, T = S ++ U ∧ U.length = n.args.toNat
theorem round_of {ns : List NL} {j : Nat} {n : NL} {T : List TL} (hp : putP ns ≠ none) (hn : ns[j]? = some n) (hok : n.v.ok) (hs : n.v.s.size ≤ 1048576) (hT : putT (ns.take j) = T) (hl : T.length ≤ j) (ht : totT T ≤ j * 2097160) : RoundT ns j n T := by
  obtain ⟨st, h1⟩ : ∃ st, putP (ns.take j) = some st := Option.ne_none_iff_exists'.1 fun e => hp (putP_no ns j e)
  obtain ⟨st', h2⟩ : ∃ st', putP (ns.take (j + 1)) = some st' := Option.ne_none_iff_exists'.1 fun e => hp (putP_no ns (j + 1) e)
  have h3 : stepP st n = some st' := by
    have := putP_take ns j n hn
    rw [h1, h2] at this
    exact this.symm
  have hr : TRel st T := by rw [← hT]; exact put_told _ _ rfl _ h1
  have hm : n.may = true := by
    cases hm : n.may
    · rw [step_bad hm] at h3; cases h3
    · rfl
  have hput : putT (ns.take (j + 1)) = stepT T n := by rw [putT_take ns j n hn, hT]
  have hl2 := (step_told h3 hr).len
  have hl3 := step_len h3
  have hl4 := hr.len
  have hl5 := step_tot h3 hr hm hok hs
  exact ⟨hm, hput, by omega, by omega, need_one h3 hr hm, need_two h3 hr hm, need_call h3 hr hm⟩
theorem check_yes {ns : List NL} (h : checkP ns = true) : 1 ≤ ns.length ∧ ns.length ≤ 1024 ∧ putP ns ≠ none ∧ ∃ x, putT ns = [x] := by
  unfold checkP at h
  cases hd : depthP ns with
  | none => rw [hd] at h; cases h
  | some d =>
    unfold depthP at hd
    split at hd
    · cases hd
    rename_i hl
    cases hp : putP ns with
    | none => rw [hp] at hd; cases hd
    | some st =>
      rw [hp] at hd
      refine ⟨by omega, by omega, by simp, ?_⟩
      have hr := put_told _ ns rfl _ hp
      rcases st with _ | ⟨p, _ | ⟨q, r⟩⟩
      · cases hd
      · match hT : putT ns, hr with
        | [x], _ => exact ⟨x, rfl⟩
      · cases hd
end Go.Proofs.YtfbkoieodflcpaaDoor
