/-
  print: heads of things and what may follow, plain.
-/
import Derived.Test.YtfbkoieodflcpaaDoorMg4
import Derived.Test.YtfbkoieodflcpaaDoorRows
import Derived.Test.YtfbkoieodflcpaaDoorBase
import Derived.Test.YtfbkoieodflcpaaDoorProg
import Derived.Test.YtfbkoieodflcpaaDoorShelf
import Derived.Test.YtfbkoieodflcpaaDoorAddrC
import Derived.Test.YtfbkoieodflcpaaDoorMg6
import Derived.Test.YtfbkoieodflcpaaDoorDecA
import Derived.Test.YtfbkoieodflcpaaDoorValA
import Derived.Test.YtfbkoieodflcpaaDoorValB
import Derived.Test.YtfbkoieodflcpaaDoorMg11
import Derived.Test.YtfbkoieodflcpaaDoorMg10
import Derived.Test.YtfbkoieodflcpaaDoorMapK
import Derived.Test.YtfbkoieodflcpaaDoorRefP
import Derived.Test.YtfbkoieodflcpaaDoorRefQ
import Derived.Test.YtfbkoieodflcpaaDoorShelfC
import Derived.Test.YtfbkoieodflcpaaDoorFmtU
import Derived.Test.YtfbkoieodflcpaaDoorNameX
import Derived.Test.YtfbkoieodflcpaaDoorNameY
import Derived.Test.YtfbkoieodflcpaaDoorDPrint
import Derived.Test.YtfbkoieodflcpaaDoorValL
import Derived.Test.YtfbkoieodflcpaaDoorPrP
import Derived.Test.YtfbkoieodflcpaaDoorPrA
import Derived.Test.YtfbkoieodflcpaaDoorPrS
import Derived.Test.YtfbkoieodflcpaaDoorPrT
import Derived.Test.YtfbkoieodflcpaaDoorPrO1
import Derived.Test.YtfbkoieodflcpaaDoorPrO2
import Derived.Test.YtfbkoieodflcpaaDoorMg26
import Derived.Test.YtfbkoieodflcpaaDoorNumP
import Derived.Test.YtfbkoieodflcpaaDoorPrO5
import Derived.Test.YtfbkoieodflcpaaDoorRefN
import Derived.Test.YtfbkoieodflcpaaDoorRefM
import Derived.Test.YtfbkoieodflcpaaDoorRefY
import Derived.Test.YtfbkoieodflcpaaDoorRefZ
import Derived.Test.YtfbkoieodflcpaaDoorPrO6
import Derived.Test.YtfbkoieodflcpaaDoorPrO7
import Derived.Test.YtfbkoieodflcpaaDoorPrO8
import Derived.WalkSpells
import Derived.WalkLawsBesides
import Derived.StillTactics
import Derived.Laws.Pointers
import Derived.Deep.RegionHeld3
import Derived.Deep.QuietTactic
import Derived.BigQuiet
import Derived.RowKit3
import Derived.Lib.Hide
import Derived.Lib.OthersKept
import Derived.OwnWalk
import Derived.Lib.IndexLaws
import Derived.Lib.ItoaMem
import Derived.Lib.TrimByte
import Derived.Lib.SlTrimSet
import Derived.Lib.ParseIntB
import Derived.WalkKit
import Derived.ProofKit
import Derived.OpenShut
import Derived.Carry
import Derived.ChangeSame
import Derived.Deep.Draws
import Derived.Shelf.Strings.Builder1
import Derived.Shelf.Strings.Builder2
import Derived.Shelf.Strings.Trim
import Derived.Shelf.Small.Utf8
import Derived.Shelf.Small.Strs
import Derived.Shelf.Strings.BuilderF
import Derived.Shelf.Strings.BuilderK
import Derived.Shelf.Strconv.Itoa0
import Derived.Shelf.Strconv.Itoa1
import Derived.Shelf.LaysM
import Derived.Shelf.Strconv.Itoa2
import Derived.Shelf.Strconv.Itoa3
import Derived.Shelf.Strings.Search1
import Derived.Shelf.Strings.Search2
import Derived.Shelf.Strings.Search3
import Derived.Shelf.Strings.Count
import Derived.Shelf.Strings.Shaped
import Derived.Shelf.Strings.Split
import Derived.Shelf.Strings.Replace
import Derived.Shelf.Strings.Runes
import Derived.Shelf.Strings.AsciiSet
import Derived.Shelf.Unicode.DecodeSlow
import Derived.Lib.ItoaNum
import Derived.Maps.OwnSet
import Derived.Maps.AppendAt
import Derived.Lib.Bytealg
import Derived.Lib.Replace
namespace Go.Proofs.YtfbkoieodflcpaaDoor
open Go.RowKit

/-- how closely a sign binds that begins with this byte -/
def lvB (b : UInt8) : Int := if b = 42 then 4 else if b = 47 then 4 else if b = 43 then 3 else if b = 45 then 3 else if b = 38 then 2 else if b = 61 then 1 else if b = 60 then 1 else if b = 62 then 1 else 0
/-- what may not follow a thing at this level -/
def stopB (k : Int) (b : UInt8) : Bool := wordB b || decide (b = 34) || decide (b = 40) || (decide (b = 37) && decide (k ≤ 6)) || decide (k ≤ lvB b)
def StopK (k : Int) (r : List UInt8) : Prop := NoHead (stopB k) r
/-- with what a thing may begin at this level -/
def headB (k : Int) (b : UInt8) : Bool := wordB b || decide (b = 34) || decide (b = 40) || (decide (b = 45) && decide (k ≤ 5))
theorem StopK.stop {k : Int} {r : List UInt8} (h : StopK k r) : Stop r := fun b t e => by
  have := h b t e
  unfold stopB at this
  simp only [Bool.or_eq_false_iff] at this ⊢
  exact this.1.1
theorem StopK.up {k : Int} {r : List UInt8} (h : StopK k r) (hk : k ≤ 6) : StopK (k + 1) r := fun b t e => by
  have := h b t e
  unfold stopB at this ⊢
  simp only [Bool.or_eq_false_iff, Bool.and_eq_false_iff, decide_eq_false_iff_not] at this ⊢
  refine ⟨⟨this.1.1, ?_⟩, by omega⟩
  rcases this.1.2 with h | h
  · exact Or.inl h
  · exact absurd hk h
theorem stop_nil (k : Int) : StopK k [] := fun b t e => by cases e
theorem stop_of {k : Int} {b : UInt8} {t : List UInt8} (h : stopB k b = false) : StopK k (b :: t) := fun c u e => by
  injection e with e1 _
  rw [← e1]; exact h
theorem stop_close (t : List UInt8) : StopK 1 (41 :: t) := stop_of (by decide)
theorem stop_comma (t : List UInt8) : StopK 1 (44 :: t) := stop_of (by decide)
theorem stop_pct {t : List UInt8} : StopK 7 (37 :: t) := stop_of (by decide)
theorem lv_op {a : Int} (h1 : 3 ≤ a) (h2 : a ≤ 13) : ∃ b t, opT a = b :: t ∧ lvB b = levelI a ∧ wordB b = false ∧ b ≠ 34 ∧ b ≠ 40 ∧ b ≠ 37 := by
  rcases op_cases h1 h2 with rfl | rfl | rfl | rfl | rfl | rfl | rfl | rfl | rfl | rfl | rfl <;> exact ⟨_, _, rfl, by decide, by decide, by decide, by decide, by decide⟩
theorem stop_op {a : Int} (h1 : 3 ≤ a) (h2 : a ≤ 13) {k : Int} (hk : levelI a < k) (r : List UInt8) : StopK k (opT a ++ r) := by
  obtain ⟨b, t, e, l, w, q1, q2, q3⟩ := lv_op h1 h2
  rw [e]
  refine stop_of ?_
  unfold stopB
  rw [w, l]
  simp [q1, q2, q3]; omega
theorem not_op {a : Int} (h1 : 3 ≤ a) (h2 : a ≤ 13) {k : Int} (hk : k ≤ levelI a) {r r1 : List UInt8} (e : r1 = opT a ++ r) (h : StopK k r1) : False := by
  obtain ⟨b, t, eo, l, w, q1, q2, q3⟩ := lv_op h1 h2
  rw [eo] at e
  have := h b (t ++ r) e
  unfold stopB at this
  rw [l] at this
  simp at this
  omega
theorem level_two {a : Int} (h1 : 3 ≤ a) (h2 : a ≤ 13) : 1 ≤ levelI a ∧ levelI a ≤ 4 := by
  rcases op_cases h1 h2 with rfl | rfl | rfl | rfl | rfl | rfl | rfl | rfl | rfl | rfl | rfl <;> exact ⟨by decide, by decide⟩
theorem head_mono {k j : Int} {b : UInt8} (h : headB k b = true) (hj : k ≤ 5 → j ≤ 5) : headB j b = true := by
  unfold headB at h ⊢
  simp only [Bool.or_eq_true, Bool.and_eq_true, decide_eq_true_eq] at h ⊢
  rcases h with h | ⟨h1, h2⟩
  · exact Or.inl h
  · exact Or.inr ⟨h1, hj h2⟩
theorem op_range {n : NL} (h : n.may = true) (k : n.kind = 4) : 1 ≤ n.op ∧ n.op ≤ 13 := by
  unfold NL.may at h
  rw [if_neg (by omega), if_neg (by omega), if_neg (by omega), if_pos k] at h
  simp only [Bool.and_eq_true, decide_eq_true_eq] at h
  exact ⟨h.1.1.1.1.1, h.1.1.1.1.2⟩
theorem name_call {n : NL} (h : n.may = true) (k : n.kind = 5) : ∃ b t, n.name.data.toList = b :: t ∧ upB b = true ∧ ∀ x ∈ n.name.data.toList, partB x = true := by
  have hn := (args_of h k).2.2
  unfold namedB at hn
  simp only [Bool.and_eq_true] at hn
  obtain ⟨⟨⟨_, h1⟩, h2⟩, _⟩ := hn
  cases hl : n.name.data.toList with
  | nil => rw [hl] at h1; simp at h1
  | cons b t => rw [hl] at h1 h2; exact ⟨b, t, rfl, h1, fun x hx => List.all_eq_true.1 h2 x hx⟩
theorem up_word {b : UInt8} (h : upB b = true) : wordB b = true := word_part (by unfold partB; rw [h]; rfl)
theorem leaf_head {n : NL} (h : LeafV n) : ∃ b t, leafT n = b :: t ∧ (wordB b = true ∨ b = 34) := by
  by_cases ht : n.kind = 1 ∧ n.v.t = 2
  · cases h with
    | txt s e1 h => exact ⟨_, _, h, Or.inr rfl⟩
    | num x _ _ e1 _ => subst e1; exact absurd ht.2 (by show ¬ (1 : Int) = 2; decide)
    | bool b e1 _ => subst e1; exact absurd ht.2 (by show ¬ (3 : Int) = 2; decide)
    | code c _ _ e1 _ => subst e1; exact absurd ht.2 (by show ¬ (4 : Int) = 2; decide)
    | cell r c _ e1 _ => subst e1; exact absurd ht.1 (by show ¬ (2 : Int) = 1; decide)
    | rect t l b q _ e1 _ => subst e1; exact absurd ht.1 (by show ¬ (3 : Int) = 1; decide)
  · obtain ⟨h1, h2, h3⟩ := leaf_cls h ht
    cases hm : leafT n with
    | nil => rw [hm, cls_nil] at h1; omega
    | cons b t => exact ⟨b, t, rfl, Or.inl (h2 b (by rw [hm]; simp))⟩
namespace Tm
def At (t : Tm) (k : Int) : List UInt8 := TL.at' t.tl k
def Fine (t : Tm) : Prop := t.good false ∧ ∀ n ∈ t.nodes, n.ok
theorem binds_ge : ∀ {t : Tm}, t.good false → 1 ≤ t.binds ∧ t.binds ≤ 7
  | leaf _, _ => ⟨by show (1 : Int) ≤ 7; decide, by show (7 : Int) ≤ 7; decide⟩
  | un n _, h => by
    obtain ⟨_, _, ho, _⟩ := h
    show 1 ≤ levelI n.op ∧ levelI n.op ≤ 7
    rcases ho with ho | ho <;> rw [ho] <;> exact ⟨by decide, by decide⟩
  | bin n _ _, h => by
    obtain ⟨hm, hk, ho, _⟩ := h
    obtain ⟨o1, o2⟩ := op_range hm hk
    have := level_two (a := n.op) (by omega) o2
    show 1 ≤ levelI n.op ∧ levelI n.op ≤ 7
    omega
  | call _ _, _ => ⟨by show (1 : Int) ≤ 7; decide, by show (7 : Int) ≤ 7; decide⟩
  | anil, h => h.elim
  | acons _ _, h => h.elim
theorem at_low {t : Tm} {k : Int} (h : t.binds < k) : At t k = 40 :: (t.text ++ [41]) := if_pos h
theorem at_high {t : Tm} {k : Int} (h : k ≤ t.binds) : At t k = t.text := if_neg (by show ¬ t.binds < k; omega)
theorem at_one {t : Tm} (h : t.good false) : At t 1 = t.text := at_high (binds_ge h).1
theorem at_next {t : Tm} {k : Int} (h : t.binds ≠ k) : At t k = At t (k + 1) := by
  by_cases hk : t.binds < k
  · rw [at_low hk, at_low (by omega)]
  · rw [at_high (by omega), at_high (by omega)]
theorem text_neg {n : NL} {a : Tm} (h : n.op = 1) : (un n a).text = 45 :: At a 5 := by
  show (if n.op = 1 then opT n.op ++ At a (levelI n.op) else _) = _
  rw [if_pos h, h]; rfl
theorem text_pct {n : NL} {a : Tm} (h : n.op = 2) : (un n a).text = At a 6 ++ [37] := by
  show (if n.op = 1 then _ else At a (levelI n.op) ++ opT n.op) = _
  rw [if_neg (by omega), h]; rfl
theorem text_bin {n : NL} {a b : Tm} : (bin n a b).text = At a (levelI n.op) ++ opT n.op ++ At b (levelI n.op + 1) := rfl
theorem Fine.un {n : NL} {a : Tm} (h : Fine (un n a)) : n.may = true ∧ n.kind = 4 ∧ (n.op = 1 ∨ n.op = 2) ∧ Fine a := by
  obtain ⟨⟨h1, h2, h3, h4⟩, h5⟩ := h
  exact ⟨h1, h2, h3, h4, fun m hm => h5 m (by show m ∈ a.nodes ++ [n]; simp [hm])⟩
theorem Fine.bin {n : NL} {a b : Tm} (h : Fine (bin n a b)) : n.may = true ∧ n.kind = 4 ∧ 3 ≤ n.op ∧ n.op ≤ 13 ∧ Fine a ∧ Fine b := by
  obtain ⟨⟨h1, h2, h3, h4, h5⟩, h6⟩ := h
  have := op_range h1 h2
  exact ⟨h1, h2, by omega, this.2, ⟨h4, fun m hm => h6 m (by show m ∈ a.nodes ++ b.nodes ++ [n]; simp [hm])⟩, ⟨h5, fun m hm => h6 m (by show m ∈ a.nodes ++ b.nodes ++ [n]; simp [hm])⟩⟩
theorem Fine.leaf {n : NL} (h : Fine (leaf n)) : LeafV n := by
  obtain ⟨⟨h1, h2, h3⟩, h4⟩ := h
  exact leaf_view h1 (h4 n (by show n ∈ [n]; simp)) h2 h3
theorem head_at : ∀ {t : Tm}, Fine t → ∀ k : Int, ∃ b l, At t k = b :: l ∧ headB k b = true := by
  intro t
  induction t with
  | leaf n =>
    intro h k
    by_cases hk : (leaf n).binds < k
    · exact ⟨_, _, at_low hk, by simp [headB]⟩
    obtain ⟨b, l, e, hb⟩ := leaf_head h.leaf
    refine ⟨b, l, by rw [at_high (by omega)]; exact e, ?_⟩
    unfold headB
    rcases hb with hb | hb <;> simp [hb]
  | un n a ih =>
    intro h k
    by_cases hk : (un n a).binds < k
    · exact ⟨_, _, at_low hk, by simp [headB]⟩
    obtain ⟨_, _, ho, ha⟩ := h.un
    have hb : (un n a).binds = levelI n.op := rfl
    rcases ho with ho | ho
    · refine ⟨_, _, by rw [at_high (by omega), text_neg ho], ?_⟩
      rw [hb, ho, show levelI 1 = 5 from rfl] at hk
      unfold headB
      simp; omega
    · obtain ⟨b, l, e, h6⟩ := ih ha 6
      exact ⟨b, l ++ [37], by rw [at_high (by omega), text_pct ho, e]; rfl, head_mono h6 (by omega)⟩
  | bin n a b iha _ =>
    intro h k
    by_cases hk : (Tm.bin n a b).binds < k
    · exact ⟨_, _, at_low hk, by simp [headB]⟩
    obtain ⟨_, _, h3, h13, ha, _⟩ := h.bin
    have hb : (Tm.bin n a b).binds = levelI n.op := rfl
    have hl := level_two h3 h13
    obtain ⟨c, l, e, hc⟩ := iha ha (levelI n.op)
    exact ⟨c, _, by rw [at_high (by omega), text_bin, e]; rfl, head_mono hc (by omega)⟩
  | call n c _ =>
    intro h k
    by_cases hk : (call n c).binds < k
    · exact ⟨_, _, at_low hk, by simp [headB]⟩
    obtain ⟨⟨h1, h2, _, _⟩, _⟩ := h
    obtain ⟨b, l, e, hb, _⟩ := name_call h1 h2
    refine ⟨b, _, by rw [at_high (by omega)]; show n.name.data.toList ++ _ = _; rw [e]; rfl, ?_⟩
    unfold headB
    simp [up_word hb]
  | anil => intro h; exact h.1.elim
  | acons a r _ _ => intro h; exact h.1.elim
theorem at_noeq {t : Tm} (h : Fine t) (k : Int) (r : List UInt8) : NoEq (At t k ++ r) := by
  obtain ⟨b, l, e, hb⟩ := head_at h k
  rw [e]
  intro c u e2
  injection e2 with e3 _
  rw [← e3]
  by_cases h1 : b = 61
  · subst h1; revert hb; unfold headB; rw [show wordB 61 = false by decide]; simp
  by_cases h2 : b = 62
  · subst h2; revert hb; unfold headB; rw [show wordB 62 = false by decide]; simp
  simp [h1, h2]
end Tm
end Go.Proofs.YtfbkoieodflcpaaDoor
