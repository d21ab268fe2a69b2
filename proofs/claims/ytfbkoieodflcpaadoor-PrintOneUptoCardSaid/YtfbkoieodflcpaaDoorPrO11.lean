/-
  print: two formulas of one text are one, plain.
-/
import Derived.Test.YtfbkoieodflcpaaDoorMg4
import Derived.Test.YtfbkoieodflcpaaDoorRows
import Derived.Test.YtfbkoieodflcpaaDoorBase
import Derived.Test.YtfbkoieodflcpaaDoorProg
import Derived.Test.YtfbkoieodflcpaaDoorShelf
import Derived.Test.YtfbkoieodflcpaaDoorAddrC
import Derived.Test.YtfbkoieodflcpaaDoorMg6
import Derived.Test.YtfbkoieodflcpaaDoorDecA
import Derived.Test.YtfbkoieodflcpaaDoorValA
import Derived.Test.YtfbkoieodflcpaaDoorValB
import Derived.Test.YtfbkoieodflcpaaDoorMg11
import Derived.Test.YtfbkoieodflcpaaDoorMg10
import Derived.Test.YtfbkoieodflcpaaDoorMapK
import Derived.Test.YtfbkoieodflcpaaDoorRefP
import Derived.Test.YtfbkoieodflcpaaDoorRefQ
import Derived.Test.YtfbkoieodflcpaaDoorShelfC
import Derived.Test.YtfbkoieodflcpaaDoorFmtU
import Derived.Test.YtfbkoieodflcpaaDoorNameX
import Derived.Test.YtfbkoieodflcpaaDoorNameY
import Derived.Test.YtfbkoieodflcpaaDoorDPrint
import Derived.Test.YtfbkoieodflcpaaDoorValL
import Derived.Test.YtfbkoieodflcpaaDoorPrP
import Derived.Test.YtfbkoieodflcpaaDoorPrA
import Derived.Test.YtfbkoieodflcpaaDoorPrS
import Derived.Test.YtfbkoieodflcpaaDoorPrT
import Derived.Test.YtfbkoieodflcpaaDoorPrO1
import Derived.Test.YtfbkoieodflcpaaDoorPrO2
import Derived.Test.YtfbkoieodflcpaaDoorMg26
import Derived.Test.YtfbkoieodflcpaaDoorNumP
import Derived.Test.YtfbkoieodflcpaaDoorPrO5
import Derived.Test.YtfbkoieodflcpaaDoorRefN
import Derived.Test.YtfbkoieodflcpaaDoorRefM
import Derived.Test.YtfbkoieodflcpaaDoorRefY
import Derived.Test.YtfbkoieodflcpaaDoorRefZ
import Derived.Test.YtfbkoieodflcpaaDoorPrO6
import Derived.Test.YtfbkoieodflcpaaDoorPrO7
import Derived.Test.YtfbkoieodflcpaaDoorPrO8
import Derived.Test.YtfbkoieodflcpaaDoorPrO9
import Derived.Test.YtfbkoieodflcpaaDoorPrO10
import Derived.WalkSpells
import Derived.WalkLawsBesides
import Derived.StillTactics
import Derived.Laws.Pointers
import Derived.Deep.RegionHeld3
import Derived.Deep.QuietTactic
import Derived.BigQuiet
import Derived.RowKit3
import Derived.Lib.Hide
import Derived.Lib.OthersKept
import Derived.OwnWalk
import Derived.Lib.IndexLaws
import Derived.Lib.ItoaMem
import Derived.Lib.TrimByte
import Derived.Lib.SlTrimSet
import Derived.Lib.ParseIntB
import Derived.WalkKit
import Derived.ProofKit
import Derived.OpenShut
import Derived.Carry
import Derived.ChangeSame
import Derived.Deep.Draws
import Derived.Shelf.Strings.Builder1
import Derived.Shelf.Strings.Builder2
import Derived.Shelf.Strings.Trim
import Derived.Shelf.Small.Utf8
import Derived.Shelf.Small.Strs
import Derived.Shelf.Strings.BuilderF
import Derived.Shelf.Strings.BuilderK
import Derived.Shelf.Strconv.Itoa0
import Derived.Shelf.Strconv.Itoa1
import Derived.Shelf.LaysM
import Derived.Shelf.Strconv.Itoa2
import Derived.Shelf.Strconv.Itoa3
import Derived.Shelf.Strings.Search1
import Derived.Shelf.Strings.Search2
import Derived.Shelf.Strings.Search3
import Derived.Shelf.Strings.Count
import Derived.Shelf.Strings.Shaped
import Derived.Shelf.Strings.Split
import Derived.Shelf.Strings.Replace
import Derived.Shelf.Strings.Runes
import Derived.Shelf.Strings.AsciiSet
import Derived.Shelf.Unicode.DecodeSlow
import Derived.Lib.ItoaNum
import Derived.Maps.OwnSet
import Derived.Maps.AppendAt
import Derived.Lib.Bytealg
import Derived.Lib.Replace
namespace Go.Proofs.YtfbkoieodflcpaaDoor
open Go.RowKit

theorem leaf_words {n : NL} (h : LeafV n) : (∃ l, leafT n = 34 :: l) ∨ (∀ b ∈ leafT n, wordB b = true) := by
  by_cases ht : n.kind = 1 ∧ n.v.t = 2
  · cases h with
    | txt s e1 h => exact Or.inl ⟨_, h⟩
    | num x _ _ e1 _ => subst e1; exact absurd ht.2 (by show ¬ (1 : Int) = 2; decide)
    | bool b e1 _ => subst e1; exact absurd ht.2 (by show ¬ (3 : Int) = 2; decide)
    | code c _ _ e1 _ => subst e1; exact absurd ht.2 (by show ¬ (4 : Int) = 2; decide)
    | cell r c _ e1 _ => subst e1; exact absurd ht.1 (by show ¬ (2 : Int) = 1; decide)
    | rect t l b q _ e1 _ => subst e1; exact absurd ht.1 (by show ¬ (3 : Int) = 1; decide)
  · exact Or.inr (leaf_cls h ht).2.1
namespace Tm
/-- a thing at seven: a leaf, a call, or brackets -/
inductive V7 (t : Tm) : Prop where
  | leaf (n : NL) (e : t = .leaf n) (h : LeafV n) (ht : At t 7 = leafT n)
  | call (n : NL) (c : Tm) (e : t = .call n c) (hm : n.may = true) (hk : n.kind = 5) (ha : n.args = (c.len : Int)) (hc : c.good true) (ho : ∀ m ∈ c.nodes, m.ok) (ht : At t 7 = n.name.data.toList ++ 40 :: (c.text ++ [41]))
  | low (ht : At t 7 = 40 :: (At t 1 ++ [41]))
theorem view7 : ∀ {t : Tm}, Fine t → V7 t
  | .leaf n, h => .leaf n rfl h.leaf (at_high (by show (7 : Int) ≤ 7; decide))
  | .call n c, h => .call n c rfl h.1.1 h.1.2.1 h.1.2.2.1 h.1.2.2.2 (fun m hm => h.2 m (by show m ∈ c.nodes ++ [n]; simp [hm])) (at_high (by show (7 : Int) ≤ 7; decide))
  | .un n a, h => .low (by
      rw [at_one h.1]
      refine at_low ?_
      obtain ⟨_, _, ho, _⟩ := h.un
      show levelI n.op < 7
      rcases ho with ho | ho <;> rw [ho] <;> decide)
  | .bin n a b, h => .low (by
      rw [at_one h.1]
      refine at_low ?_
      obtain ⟨_, _, h3, h13, _⟩ := h.bin
      have := level_two h3 h13
      show levelI n.op < 7
      omega)
  | anil, h => h.1.elim
  | acons _ _, h => h.1.elim
/-- what stands behind a chain's first -/
def rest (c : Tm) (r : List UInt8) : List UInt8 := match c with
  | anil => 41 :: r
  | c => 44 :: (c.text ++ 41 :: r)
theorem cons_text (a c : Tm) (r : List UInt8) : (acons a c).text ++ 41 :: r = a.text ++ rest c r := by
  cases c with
  | anil => rfl
  | acons b d => rw [text_acons _ _ (by simp), List.append_assoc]; rfl
  | leaf n => rw [text_acons _ _ (by simp), List.append_assoc]; rfl
  | un n b => rw [text_acons _ _ (by simp), List.append_assoc]; rfl
  | bin n b d => rw [text_acons _ _ (by simp), List.append_assoc]; rfl
  | call n b => rw [text_acons _ _ (by simp), List.append_assoc]; rfl
theorem rest_stop (c : Tm) (r : List UInt8) : StopK 1 (rest c r) := by
  cases c with
  | anil => exact stop_close r
  | acons b d => exact stop_comma _
  | leaf n => exact stop_comma _
  | un n b => exact stop_comma _
  | bin n b d => exact stop_comma _
  | call n b => exact stop_comma _
theorem rest_cons {c : Tm} (h : c.good true) (hc : c ≠ anil) (r : List UInt8) : rest c r = 44 :: (c.text ++ 41 :: r) := by
  cases c <;> first | rfl | (exact absurd rfl hc)
theorem close_head {a : Tm} (h : Fine a) (x y : List UInt8) (e : 41 :: x = a.text ++ y) : False := by
  obtain ⟨b, l, e1, e2⟩ := head_at h 1
  rw [at_one h.1] at e1
  rw [e1] at e
  injection e with e3 _
  rw [← e3] at e2
  revert e2; decide
theorem chain_same {N : Nat} (H : Same 1 N) : ∀ (c d : Tm) (r s : List UInt8), c.good true → d.good true → (∀ n ∈ c.nodes, n.ok) → (∀ n ∈ d.nodes, n.ok) → c.text ++ 41 :: r = d.text ++ 41 :: s → (c.text ++ 41 :: r).length ≤ N → c = d ∧ r = s := by
  intro c
  induction c with
  | leaf n => intro d r s h; exact h.elim
  | un n a _ => intro d r s h; exact h.elim
  | bin n a b _ _ => intro d r s h; exact h.elim
  | call n a _ => intro d r s h; exact h.elim
  | anil =>
    intro d r s _ hd _ od e _
    cases d with
    | anil => injection e with _ e; exact ⟨rfl, e⟩
    | acons b d =>
      rw [cons_text] at e
      exact (close_head ⟨hd.1, fun n hn => od n (by show n ∈ b.nodes ++ d.nodes; simp [hn])⟩ r _ e).elim
    | leaf n => exact hd.elim
    | un n a => exact hd.elim
    | bin n a b => exact hd.elim
    | call n a => exact hd.elim
  | acons a c _ ih =>
    intro d r s hc hd oc od e hN
    have fa : Fine a := ⟨hc.1, fun n hn => oc n (by show n ∈ a.nodes ++ c.nodes; simp [hn])⟩
    rw [cons_text] at e hN
    cases d with
    | anil => exact (close_head fa s _ e.symm).elim
    | acons b d =>
      have fb : Fine b := ⟨hd.1, fun n hn => od n (by show n ∈ b.nodes ++ d.nodes; simp [hn])⟩
      rw [cons_text] at e
      rw [← at_one fa.1, ← at_one fb.1] at e
      rw [← at_one fa.1] at hN
      obtain ⟨e1, e2⟩ := H a b _ _ fa fb (rest_stop c r) (rest_stop d s) e hN
      by_cases nc : c = anil
      · by_cases nd : d = anil
        · rw [nc, nd] at e2
          injection e2 with _ e2
          exact ⟨by rw [e1, nc, nd], e2⟩
        · rw [nc, rest_cons hd.2 nd] at e2
          injection e2 with e2 _
          exact absurd e2 (by decide)
      · by_cases nd : d = anil
        · rw [nd, rest_cons hc.2 nc] at e2
          injection e2 with e2 _
          exact absurd e2 (by decide)
        · rw [rest_cons hc.2 nc, rest_cons hd.2 nd] at e2
          rw [rest_cons hc.2 nc, List.length_append, List.length_cons] at hN
          injection e2 with _ e2
          obtain ⟨e3, e4⟩ := ih d r s hc.2 hd.2 (fun n hn => oc n (by show n ∈ a.nodes ++ c.nodes; simp [hn])) (fun n hn => od n (by show n ∈ b.nodes ++ d.nodes; simp [hn])) e2 (by omega)
          exact ⟨by rw [e1, e3], e4⟩
    | leaf n => exact hd.elim
    | un n a => exact hd.elim
    | bin n a b => exact hd.elim
    | call n a => exact hd.elim
theorem open_leaf {n : NL} (h : LeafV n) (x y : List UInt8) (e : 40 :: x = leafT n ++ y) : False := by
  obtain ⟨b, l, e1, e2⟩ := leaf_head h
  rw [e1] at e
  injection e with e3 _
  rw [← e3] at e2
  revert e2; decide
theorem open_name {n : NL} (h : n.may = true) (k : n.kind = 5) (x y : List UInt8) (e : 40 :: x = n.name.data.toList ++ y) : False := by
  obtain ⟨b, l, e1, e2, _⟩ := name_call h k
  rw [e1] at e
  injection e with e3 _
  rw [← e3] at e2
  revert e2; decide
theorem leaf_name {n m : NL} (h : LeafV n) (g : m.may = true) (k : m.kind = 5) {r x : List UInt8} (hr : Stop r) (e : leafT n ++ r = m.name.data.toList ++ 40 :: x) : False := by
  obtain ⟨b, l, e1, e2, e3⟩ := name_call g k
  rcases leaf_words h with ⟨y, hy⟩ | hw
  · rw [hy, e1] at e
    injection e with e4 _
    rw [← e4] at e2
    revert e2; decide
  · obtain ⟨_, e5⟩ := word_split wordB _ _ r (40 :: x) hw (fun z hz => word_part (e3 z hz)) hr.word (fun b t e => by injection e with e6 _; rw [← e6]; decide) e
    have := hr 40 x e5
    revert this; decide
theorem level_thing {N : Nat} (H : Same 1 N) : Same 7 (N + 1) := by
  intro t u r s ht hu hr hs e hN
  cases view7 ht with
  | leaf n e1 h1 a1 =>
    rw [a1] at e
    cases view7 hu with
    | leaf m e2 h2 a2 =>
      rw [a2] at e
      obtain ⟨e3, e4⟩ := leaf_split h1 h2 r s hr.stop hs.stop e
      exact ⟨by rw [e1, e2, e3], e4⟩
    | call m d e2 m1 m2 m3 m4 m5 a2 =>
      rw [a2, List.append_assoc] at e
      exact (leaf_name h1 m1 m2 hr.stop e).elim
    | low a2 =>
      rw [a2] at e
      exact (open_leaf h1 _ _ e.symm).elim
  | call n c e1 n1 n2 n3 n4 n5 a1 =>
    rw [a1, List.append_assoc] at e hN
    cases view7 hu with
    | leaf m e2 h2 a2 =>
      rw [a2] at e
      exact (leaf_name h2 n1 n2 hs.stop e.symm).elim
    | call m d e2 m1 m2 m3 m4 m5 a2 =>
      rw [a2, List.append_assoc] at e
      obtain ⟨b, l, e5, _, e3⟩ := name_call n1 n2
      obtain ⟨_, _, _, _, e4⟩ := name_call m1 m2
      have hh : ∀ z : List UInt8, NoHead wordB (40 :: z) := fun z b t e => by injection e with e6 _; rw [← e6]; decide
      obtain ⟨e6, e7⟩ := word_split wordB _ _ _ _ (fun z hz => word_part (e3 z hz)) (fun z hz => word_part (e4 z hz)) (hh _) (hh _) e
      injection e7 with _ e7
      have e8 : (c.text ++ [41]) ++ r = (d.text ++ [41]) ++ s := e7
      rw [List.append_assoc, List.append_assoc] at e8
      have hN' : n.name.data.toList.length + ((c.text ++ [41]) ++ r).length + 1 ≤ N + 1 := by
        rw [List.length_append] at hN
        exact hN
      rw [List.append_assoc] at hN'
      obtain ⟨e9, e10⟩ := chain_same H c d r s n4 m4 n5 m5 e8 (by show (c.text ++ ([41] ++ r)).length ≤ N; omega)
      refine ⟨?_, e10⟩
      rw [e1, e2, e9]
      rw [may_call n1 n2, may_call m1 m2, n3, m3, e9, bytes_inj e6]
    | low a2 =>
      rw [a2] at e
      exact (open_name n1 n2 _ _ e.symm).elim
  | low a1 =>
    rw [a1] at e hN
    cases view7 hu with
    | leaf m e2 h2 a2 =>
      rw [a2] at e
      exact (open_leaf h2 _ _ e).elim
    | call m d e2 m1 m2 m3 m4 m5 a2 =>
      rw [a2, List.append_assoc] at e
      exact (open_name m1 m2 _ _ e).elim
    | low a2 =>
      rw [a2] at e
      injection e with _ e
      have e8 : (At t 1 ++ [41]) ++ r = (At u 1 ++ [41]) ++ s := e
      rw [List.append_assoc, List.append_assoc] at e8
      have hN' : ((At t 1 ++ [41]) ++ r).length + 1 ≤ N + 1 := hN
      rw [List.append_assoc] at hN'
      obtain ⟨e9, e10⟩ := H t u ([41] ++ r) ([41] ++ s) ht hu (stop_close r) (stop_close s) e8 (by omega)
      injection e10 with _ e10
      exact ⟨e9, e10⟩
theorem same_all : ∀ N : Nat, Same 1 N ∧ Same 5 N
  | 0 => by
    have H : ∀ k, Same k 0 := fun k t u r s ht _ _ _ _ hN => by
      obtain ⟨b, l, e, _⟩ := head_at ht k
      rw [e] at hN
      simp at hN
    exact ⟨H 1, H 5⟩
  | N + 1 => by
    obtain ⟨h1, h5⟩ := same_all N
    have H7 : Same 7 (N + 1) := level_thing h1
    have H6 : Same 6 (N + 1) := level_pct H7
    have H5 : Same 5 (N + 1) := level_neg H6 h5
    have H4 : Same 4 (N + 1) := level_low (by decide) (by decide) H5
    have H3 : Same 3 (N + 1) := level_low (by decide) (by decide) H4
    have H2 : Same 2 (N + 1) := level_low (by decide) (by decide) H3
    exact ⟨level_low (by decide) (by decide) H2, H5⟩
end Tm
/-- two formulas that may be and have one text are the same -/
theorem form_one {a b : List NL} (ha : checkP a = true) (hb : checkP b = true) (oa : ∀ n ∈ a, n.ok) (ob : ∀ n ∈ b, n.ok) (e : formT a = formT b) : a = b := by
  obtain ⟨t, t1, t2, t3⟩ := form_tree ha
  obtain ⟨u, u1, u2, u3⟩ := form_tree hb
  rw [t3, u3] at e
  injection e with _ e
  have ft : Tm.Fine t := ⟨t1, by rw [t2]; exact oa⟩
  have fu : Tm.Fine u := ⟨u1, by rw [u2]; exact ob⟩
  have h := (Tm.same_all _).1 t u [] [] ft fu (stop_nil 1) (stop_nil 1) (by rw [Tm.at_one t1, Tm.at_one u1, e]) (Nat.le_refl _)
  rw [← t2, ← u2, h.1]
end Go.Proofs.YtfbkoieodflcpaaDoor
