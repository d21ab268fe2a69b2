/-
  print: formulas as trees, plain.
-/
import Derived.Test.YtfbkoieodflcpaaDoorMg4
import Derived.Test.YtfbkoieodflcpaaDoorRows
import Derived.Test.YtfbkoieodflcpaaDoorBase
import Derived.Test.YtfbkoieodflcpaaDoorProg
import Derived.Test.YtfbkoieodflcpaaDoorShelf
import Derived.Test.YtfbkoieodflcpaaDoorAddrC
import Derived.Test.YtfbkoieodflcpaaDoorMg6
import Derived.Test.YtfbkoieodflcpaaDoorDecA
import Derived.Test.YtfbkoieodflcpaaDoorValA
import Derived.Test.YtfbkoieodflcpaaDoorValB
import Derived.Test.YtfbkoieodflcpaaDoorMg11
import Derived.Test.YtfbkoieodflcpaaDoorMg10
import Derived.Test.YtfbkoieodflcpaaDoorMapK
import Derived.Test.YtfbkoieodflcpaaDoorRefP
import Derived.Test.YtfbkoieodflcpaaDoorRefQ
import Derived.Test.YtfbkoieodflcpaaDoorShelfC
import Derived.Test.YtfbkoieodflcpaaDoorFmtU
import Derived.Test.YtfbkoieodflcpaaDoorNameX
import Derived.Test.YtfbkoieodflcpaaDoorNameY
import Derived.Test.YtfbkoieodflcpaaDoorDPrint
import Derived.Test.YtfbkoieodflcpaaDoorValL
import Derived.Test.YtfbkoieodflcpaaDoorPrP
import Derived.Test.YtfbkoieodflcpaaDoorPrA
import Derived.Test.YtfbkoieodflcpaaDoorPrS
import Derived.Test.YtfbkoieodflcpaaDoorPrT
import Derived.WalkSpells
import Derived.WalkLawsBesides
import Derived.StillTactics
import Derived.Laws.Pointers
import Derived.Deep.RegionHeld3
import Derived.Deep.QuietTactic
import Derived.BigQuiet
import Derived.RowKit3
import Derived.Lib.Hide
import Derived.Lib.OthersKept
import Derived.OwnWalk
import Derived.Lib.IndexLaws
import Derived.Lib.ItoaMem
import Derived.Lib.TrimByte
import Derived.Lib.SlTrimSet
import Derived.Lib.ParseIntB
import Derived.WalkKit
import Derived.ProofKit
import Derived.OpenShut
import Derived.Carry
import Derived.ChangeSame
import Derived.Deep.Draws
import Derived.Shelf.Strings.Builder1
import Derived.Shelf.Strings.Builder2
import Derived.Shelf.Strings.Trim
import Derived.Shelf.Small.Utf8
import Derived.Shelf.Small.Strs
import Derived.Shelf.Strings.BuilderF
import Derived.Shelf.Strings.BuilderK
import Derived.Shelf.Strconv.Itoa0
import Derived.Shelf.Strconv.Itoa1
import Derived.Shelf.LaysM
import Derived.Shelf.Strconv.Itoa2
import Derived.Shelf.Strconv.Itoa3
import Derived.Shelf.Strings.Search1
import Derived.Shelf.Strings.Search2
import Derived.Shelf.Strings.Search3
import Derived.Shelf.Strings.Count
import Derived.Shelf.Strings.Shaped
import Derived.Shelf.Strings.Split
import Derived.Shelf.Strings.Replace
import Derived.Shelf.Strings.Runes
import Derived.Shelf.Strings.AsciiSet
import Derived.Shelf.Unicode.DecodeSlow
import Derived.Lib.ItoaNum
import Derived.Maps.OwnSet
import Derived.Maps.AppendAt
import Derived.Lib.Bytealg
import Derived.Lib.Replace
namespace Go.Proofs.YtfbkoieodflcpaaDoor
open Go.RowKit

/-- a formula's tree: what stands at a call's brackets is a chain of trees -/
inductive Tm where
  | leaf (n : NL)
  | un (n : NL) (a : Tm)
  | bin (n : NL) (a b : Tm)
  | call (n : NL) (c : Tm)
  | anil
  | acons (a r : Tm)
def leafT (n : NL) : List UInt8 := if n.kind = 1 then litT n.v else if n.kind = 2 then nameZ n.r n.c else nameRectZ n.t n.l n.b n.q
namespace Tm
def nodes : Tm → List NL
  | leaf n => [n]
  | un n a => a.nodes ++ [n]
  | bin n a b => a.nodes ++ b.nodes ++ [n]
  | call n c => c.nodes ++ [n]
  | anil => []
  | acons a r => a.nodes ++ r.nodes
def binds : Tm → Int
  | un n _ => levelI n.op
  | bin n _ _ => levelI n.op
  | _ => 7
def text : Tm → List UInt8
  | leaf n => leafT n
  | un n a => if n.op = 1 then opT n.op ++ TL.at' ⟨a.text, a.binds⟩ (levelI n.op) else TL.at' ⟨a.text, a.binds⟩ (levelI n.op) ++ opT n.op
  | bin n a b => TL.at' ⟨a.text, a.binds⟩ (levelI n.op) ++ opT n.op ++ TL.at' ⟨b.text, b.binds⟩ (levelI n.op + 1)
  | call n c => n.name.data.toList ++ 40 :: (c.text ++ [41])
  | anil => []
  | acons a anil => a.text
  | acons a r => a.text ++ 44 :: r.text
/-- a chain of trees -/
def chain : List Tm → Tm
  | [] => anil
  | t :: l => acons t (chain l)
def len : Tm → Nat
  | acons _ r => r.len + 1
  | _ => 0
/-- a tree that may be; a chain of such -/
def good : Bool → Tm → Prop
  | false, leaf n => n.may = true ∧ n.kind ≠ 4 ∧ n.kind ≠ 5
  | false, un n a => n.may = true ∧ n.kind = 4 ∧ (n.op = 1 ∨ n.op = 2) ∧ a.good false
  | false, bin n a b => n.may = true ∧ n.kind = 4 ∧ ¬ (n.op = 1 ∨ n.op = 2) ∧ a.good false ∧ b.good false
  | false, call n c => n.may = true ∧ n.kind = 5 ∧ n.args = (c.len : Int) ∧ c.good true
  | true, anil => True
  | true, acons a r => a.good false ∧ r.good true
  | false, anil => False
  | false, acons _ _ => False
  | true, leaf _ => False
  | true, un _ _ => False
  | true, bin _ _ _ => False
  | true, call _ _ => False
def tl (t : Tm) : TL := ⟨t.text, t.binds⟩
theorem text_acons (a r : Tm) (h : r ≠ anil) : (acons a r).text = a.text ++ 44 :: r.text := by
  cases r <;> first | (exact absurd rfl h) | rfl
theorem chain_text : ∀ l : List Tm, (chain l).text = joinT (l.map tl)
  | [] => rfl
  | [t] => by show t.text = _; simp [joinT, tl]
  | t :: u :: l => by
    have ih := chain_text (u :: l)
    rw [show chain (t :: u :: l) = acons t (chain (u :: l)) from rfl, text_acons _ _ (by simp [chain]), ih]
    simp [joinT, tl]
theorem chain_nodes : ∀ l : List Tm, (chain l).nodes = l.flatMap nodes
  | [] => rfl
  | t :: l => by
    show t.nodes ++ (chain l).nodes = _
    rw [chain_nodes l, List.flatMap_cons]
theorem chain_len : ∀ l : List Tm, (chain l).len = l.length
  | [] => rfl
  | t :: l => by show (chain l).len + 1 = _; rw [chain_len l]; rfl
theorem chain_good : ∀ l : List Tm, (∀ t ∈ l, t.good false) → (chain l).good true
  | [], _ => True.intro
  | t :: l, h => ⟨h t (by simp), chain_good l fun u hu => h u (by simp [hu])⟩
end Tm
theorem step_tree {st st' : List PL} {n : NL} {ts : List Tm} (h : stepP st n = some st') (hl : ts.length = st.length) (hg : ∀ t ∈ ts, t.good false) : ∃ us : List Tm, us.length = st'.length ∧ (∀ t ∈ us, t.good false) ∧ us.flatMap Tm.nodes = ts.flatMap Tm.nodes ++ [n] ∧ us.map Tm.tl = stepT (ts.map Tm.tl) n := by
  cases hm : n.may
  · rw [step_bad hm] at h; cases h
  have snoc : ∀ (a : List Tm) (x : Tm), (∀ t ∈ a, t.good false) → x.good false → ∀ t ∈ a ++ [x], t.good false := fun a x ha hx t ht => by
    rcases List.mem_append.1 ht with ht | ht
    · exact ha t ht
    · rw [List.mem_singleton.1 ht]; exact hx
  by_cases h4 : n.kind = 4
  · by_cases ho : n.op = 1 ∨ n.op = 2
    · rcases st.eq_nil_or_concat with rfl | ⟨s, b, rfl⟩
      · rw [step_one_no hm h4] at h; cases h
      rw [List.concat_eq_append] at *
      rw [step_one hm h4 ho] at h
      split at h
      · cases h
      cases h
      rcases ts.eq_nil_or_concat with rfl | ⟨t0, a, rfl⟩
      · simp at hl
      rw [List.concat_eq_append] at *
      refine ⟨t0 ++ [.un n a], by simpa using hl, snoc t0 (.un n a) (fun t ht => hg t (List.mem_append_left _ ht)) ⟨hm, h4, ho, hg a (by simp)⟩, by simp [Tm.nodes], ?_⟩
      rw [List.map_append, List.map_append]
      by_cases ho1 : n.op = 1
      · rw [show [a].map Tm.tl = [Tm.tl a] from rfl, stepT_neg h4 ho1]
        show _ ++ [Tm.tl (.un n a)] = _
        unfold Tm.tl
        rw [show (Tm.un n a).text = opT n.op ++ TL.at' ⟨a.text, a.binds⟩ (levelI n.op) by rw [Tm.text]; rw [if_pos ho1]]
        rfl
      · rw [show [a].map Tm.tl = [Tm.tl a] from rfl, stepT_pct h4 (by omega)]
        show _ ++ [Tm.tl (.un n a)] = _
        unfold Tm.tl
        rw [show (Tm.un n a).text = TL.at' ⟨a.text, a.binds⟩ (levelI n.op) ++ opT n.op by rw [Tm.text]; rw [if_neg ho1]]
        rfl
    · rcases two_last st with rfl | ⟨a, rfl⟩ | ⟨s, a, b, rfl⟩
      · rw [step_two_no0 hm h4 ho] at h; cases h
      · rw [step_two_no hm h4 ho] at h; cases h
      rw [step_two hm h4 ho] at h
      split at h
      · cases h
      cases h
      obtain ⟨t0, x, y, rfl⟩ : ∃ t0 x y, ts = t0 ++ [x, y] := by
        rcases ts.eq_nil_or_concat with rfl | ⟨t1, y, rfl⟩
        · simp at hl
        rcases t1.eq_nil_or_concat with rfl | ⟨t0, x, rfl⟩
        · simp at hl
        exact ⟨t0, x, y, by simp⟩
      refine ⟨t0 ++ [.bin n x y], by simpa using hl, snoc t0 (.bin n x y) (fun t ht => hg t (List.mem_append_left _ ht)) ⟨hm, h4, ho, hg x (by simp), hg y (by simp)⟩, by simp [Tm.nodes], ?_⟩
      rw [List.map_append, List.map_append, show [x, y].map Tm.tl = [Tm.tl x, Tm.tl y] from rfl, stepT_two h4 (by omega) (by omega)]
      rfl
  by_cases h5 : n.kind = 5
  · by_cases hk : st.length < n.args.toNat
    · rw [step_call_no hm h5 hk] at h; cases h
    obtain ⟨a0, a1, _⟩ := args_of hm h5
    obtain ⟨s, t, rfl, ht⟩ : ∃ s t, st = s ++ t ∧ t.length = n.args.toNat := ⟨st.take (st.length - n.args.toNat), st.drop (st.length - n.args.toNat), (List.take_append_drop _ _).symm, by rw [List.length_drop]; omega⟩
    rw [step_call hm h5 ht] at h; cases h
    obtain ⟨t0, us, rfl, hu⟩ : ∃ t0 us, ts = t0 ++ us ∧ us.length = n.args.toNat := ⟨ts.take s.length, ts.drop s.length, (List.take_append_drop _ _).symm, by rw [List.length_drop, hl, List.length_append]; omega⟩
    refine ⟨t0 ++ [.call n (Tm.chain us)], by simp at hl ⊢; omega, snoc t0 (.call n (Tm.chain us)) (fun t ht => hg t (List.mem_append_left _ ht)) ⟨hm, h5, by rw [Tm.chain_len]; omega, Tm.chain_good us fun t ht => hg t (List.mem_append_right _ ht)⟩, by simp [Tm.nodes, Tm.chain_nodes], ?_⟩
    rw [List.map_append, List.map_append, stepT_call h5 (by rw [List.length_map]; exact hu)]
    show _ ++ [Tm.tl (.call n (Tm.chain us))] = _
    unfold Tm.tl
    rw [Tm.text, Tm.chain_text]
    rfl
  have hs : st'.length = st.length + 1 := by
    by_cases h3 : n.kind = 3
    · rw [step_rect hm h3] at h; cases h; simp
    · rw [step_leaf hm h3 h4 h5] at h; cases h; simp
  refine ⟨ts ++ [.leaf n], by rw [List.length_append, hl, hs]; rfl, snoc ts (.leaf n) hg ⟨hm, h4, h5⟩, by simp [Tm.nodes], ?_⟩
  rw [List.map_append]
  show _ ++ [Tm.tl (.leaf n)] = _
  unfold Tm.tl
  rw [Tm.text, leafT]
  rcases kind_of hm with hk | hk | hk | hk | hk
  · rw [stepT_lit hk, if_pos hk]; rfl
  · rw [stepT_cell hk, if_neg (by omega), if_pos hk]; rfl
  · rw [stepT_rect hk, if_neg (by omega), if_neg (by omega)]; rfl
  · exact absurd hk h4
  · exact absurd hk h5
theorem put_tree (k : Nat) : ∀ (l : List NL), l.length = k → ∀ st, putP l = some st → ∃ ts : List Tm, ts.length = st.length ∧ (∀ t ∈ ts, t.good false) ∧ ts.flatMap Tm.nodes = l ∧ ts.map Tm.tl = putT l := by
  induction k with
  | zero =>
    intro l hl st h
    obtain rfl := List.eq_nil_of_length_eq_zero hl
    rw [show putP [] = some [] from rfl] at h
    cases h
    exact ⟨[], rfl, fun t ht => (by cases ht), rfl, rfl⟩
  | succ k ih =>
    intro l hk st h
    rcases l.eq_nil_or_concat with rfl | ⟨a, n, rfl⟩
    · simp at hk
    rw [List.concat_eq_append] at *
    have e : putP (a ++ [n]) = (putP a).bind fun s => stepP s n := by unfold putP; rw [List.foldl_append]; rfl
    have e2 : putT (a ++ [n]) = stepT (putT a) n := by unfold putT; rw [List.foldl_append]; rfl
    rw [e] at h
    rw [e2]
    cases ha : putP a with
    | none => rw [ha] at h; cases h
    | some s =>
      rw [ha] at h
      obtain ⟨ts, t1, t2, t3, t4⟩ := ih a (by simpa using hk) s ha
      obtain ⟨us, u1, u2, u3, u4⟩ := step_tree h t1 t2
      exact ⟨us, u1, u2, by rw [u3, t3], by rw [u4, t4]⟩
/-- a formula that may be is a tree -/
theorem form_tree {l : List NL} (h : checkP l = true) : ∃ t : Tm, t.good false ∧ t.nodes = l ∧ formT l = 61 :: t.text := by
  obtain ⟨_, _, h3, x, hx⟩ := check_yes h
  obtain ⟨st, hst⟩ := Option.ne_none_iff_exists'.1 h3
  obtain ⟨ts, t1, t2, t3, t4⟩ := put_tree _ l rfl st hst
  rw [hx] at t4
  match ts, t4 with
  | [t], t4 =>
    refine ⟨t, t2 t (by simp), by simpa using t3, ?_⟩
    have e : Tm.tl t = x := by simpa using t4
    unfold formT
    rw [hx, ← e]
    rfl
end Go.Proofs.YtfbkoieodflcpaaDoor
