/-
  print: heads of things and what may follow, plain; print: a thing and what follows are read in one way, plain; print: two formulas of one text are one, plain; Plain: the token that a printed piece is read as.
-/
import Derived.Test.YtfbkoieodflcpaaGreatDoorMg3
import Derived.Test.YtfbkoieodflcpaaGreatDoorRows
import Derived.Test.YtfbkoieodflcpaaGreatDoorMg0
import Derived.Test.YtfbkoieodflcpaaGreatDoorProg
import Derived.Test.YtfbkoieodflcpaaGreatDoorShelf
import Derived.Test.YtfbkoieodflcpaaGreatDoorMg4
import Derived.Test.YtfbkoieodflcpaaGreatDoorAddrC
import Derived.Test.YtfbkoieodflcpaaGreatDoorMg6
import Derived.Test.YtfbkoieodflcpaaGreatDoorValA
import Derived.Test.YtfbkoieodflcpaaGreatDoorValB
import Derived.Test.YtfbkoieodflcpaaGreatDoorMg9
import Derived.Test.YtfbkoieodflcpaaGreatDoorMg10
import Derived.Test.YtfbkoieodflcpaaGreatDoorMg11
import Derived.Test.YtfbkoieodflcpaaGreatDoorMg2
import Derived.Test.YtfbkoieodflcpaaGreatDoorMg12
import Derived.Test.YtfbkoieodflcpaaGreatDoorValL
import Derived.Test.YtfbkoieodflcpaaGreatDoorMg14
import Derived.Test.YtfbkoieodflcpaaGreatDoorMg15
import Derived.Test.YtfbkoieodflcpaaGreatDoorLexS
import Derived.Test.YtfbkoieodflcpaaGreatDoorRefN
import Derived.Test.YtfbkoieodflcpaaGreatDoorRefM
import Derived.Test.YtfbkoieodflcpaaGreatDoorRefY
import Derived.WalkSpells
import Derived.WalkLawsBesides
import Derived.StillTactics
import Derived.Laws.Pointers
import Derived.Deep.RegionHeld3
import Derived.Deep.QuietTactic
import Derived.BigQuiet
import Derived.RowKit3
import Derived.Lib.Hide
import Derived.Lib.OthersKept
import Derived.OwnWalk
import Derived.Lib.IndexLaws
import Derived.Lib.ItoaMem
import Derived.Lib.TrimByte
import Derived.Lib.SlTrimSet
import Derived.Lib.ParseIntB
import Derived.WalkKit
import Derived.ProofKit
import Derived.OpenShut
import Derived.Carry
import Derived.ChangeSame
import Derived.Deep.Draws
import Derived.Shelf.Strings.Builder1
import Derived.Shelf.Strings.Builder2
import Derived.Shelf.Strings.Trim
import Derived.Shelf.Small.Utf8
import Derived.Shelf.Small.Strs
import Derived.Shelf.Small.Wraps
import Derived.Shelf.Strings.BuilderF
import Derived.Shelf.Strings.BuilderK
import Derived.Shelf.Utf8.RuneCount
import Derived.Shelf.Strconv.Itoa0
import Derived.Shelf.Strconv.Itoa1
import Derived.Shelf.LaysM
import Derived.Shelf.Strconv.Itoa2
import Derived.Shelf.Strconv.Itoa3
import Derived.Ground.MpProg
import Derived.Shelf.Pu.ParseUintPublic10
import Derived.Shelf.Strings.Search1
import Derived.Shelf.Strings.Search2
import Derived.Shelf.Strings.Search3
import Derived.Shelf.Strings.Cut
import Derived.Shelf.Strings.Count
import Derived.Shelf.Strings.Shaped
import Derived.Shelf.Strings.Prefix
import Derived.Shelf.Strings.Split
import Derived.Shelf.Strings.Replace
import Derived.Shelf.Strings.SplitShaped
import Derived.Shelf.Unicode.Decode
import Derived.Shelf.Strings.Runes
import Derived.Shelf.Strings.RuneCount
import Derived.Shelf.Strings.AsciiSet
import Derived.Shelf.Unicode.DecodeSlow
import Derived.Shelf.Unicode.DecodeAny
import Derived.Shelf.Unicode.DecodeLast
import Derived.Lib.ItoaNum
import Derived.Maps.OwnSet
import Derived.Maps.AppendAt
import Derived.Lib.Bytealg
import Derived.Lib.Replace
namespace Go.Proofs.YtfbkoieodflcpaaGreatDoor
open Go.RowKit

/-- how closely a sign binds that begins with this byte -/
def lvB (b : UInt8) : Int := if b = 42 then 4 else if b = 47 then 4 else if b = 43 then 3 else if b = 45 then 3 else if b = 38 then 2 else if b = 61 then 1 else if b = 60 then 1 else if b = 62 then 1 else 0
/-- what may not follow a thing at this level -/
def stopB (k : Int) (b : UInt8) : Bool := wordB b || decide (b = 34) || decide (b = 40) || (decide (b = 37) && decide (k ≤ 6)) || decide (k ≤ lvB b)
def StopK (k : Int) (r : List UInt8) : Prop := NoHead (stopB k) r
/-- with what a thing may begin at this level -/
def headB (k : Int) (b : UInt8) : Bool := wordB b || decide (b = 34) || decide (b = 40) || (decide (b = 45) && decide (k ≤ 5))
theorem StopK.stop {k : Int} {r : List UInt8} (h : StopK k r) : Stop r := fun b t e => by
  have := h b t e
  unfold stopB at this
  simp only [Bool.or_eq_false_iff] at this ⊢
  exact this.1.1
theorem StopK.up {k : Int} {r : List UInt8} (h : StopK k r) (hk : k ≤ 6) : StopK (k + 1) r := fun b t e => by
  have := h b t e
  unfold stopB at this ⊢
  simp only [Bool.or_eq_false_iff, Bool.and_eq_false_iff, decide_eq_false_iff_not] at this ⊢
  refine ⟨⟨this.1.1, ?_⟩, by omega⟩
  rcases this.1.2 with h | h
  · exact Or.inl h
  · exact absurd hk h
theorem stop_nil (k : Int) : StopK k [] := fun b t e => by cases e
theorem stop_of {k : Int} {b : UInt8} {t : List UInt8} (h : stopB k b = false) : StopK k (b :: t) := fun c u e => by
  injection e with e1 _
  rw [← e1]; exact h
theorem stop_close (t : List UInt8) : StopK 1 (41 :: t) := stop_of (by decide)
theorem stop_comma (t : List UInt8) : StopK 1 (44 :: t) := stop_of (by decide)
theorem stop_pct {t : List UInt8} : StopK 7 (37 :: t) := stop_of (by decide)
theorem lv_op {a : Int} (h1 : 3 ≤ a) (h2 : a ≤ 13) : ∃ b t, opT a = b :: t ∧ lvB b = levelI a ∧ wordB b = false ∧ b ≠ 34 ∧ b ≠ 40 ∧ b ≠ 37 := by
  rcases op_cases h1 h2 with rfl | rfl | rfl | rfl | rfl | rfl | rfl | rfl | rfl | rfl | rfl <;> exact ⟨_, _, rfl, by decide, by decide, by decide, by decide, by decide⟩
theorem stop_op {a : Int} (h1 : 3 ≤ a) (h2 : a ≤ 13) {k : Int} (hk : levelI a < k) (r : List UInt8) : StopK k (opT a ++ r) := by
  obtain ⟨b, t, e, l, w, q1, q2, q3⟩ := lv_op h1 h2
  rw [e]
  refine stop_of ?_
  unfold stopB
  rw [w, l]
  simp [q1, q2, q3]; omega
theorem level_two {a : Int} (h1 : 3 ≤ a) (h2 : a ≤ 13) : 1 ≤ levelI a ∧ levelI a ≤ 4 := by
  rcases op_cases h1 h2 with rfl | rfl | rfl | rfl | rfl | rfl | rfl | rfl | rfl | rfl | rfl <;> exact ⟨by decide, by decide⟩
theorem head_mono {k j : Int} {b : UInt8} (h : headB k b = true) (hj : k ≤ 5 → j ≤ 5) : headB j b = true := by
  unfold headB at h ⊢
  simp only [Bool.or_eq_true, Bool.and_eq_true, decide_eq_true_eq] at h ⊢
  rcases h with h | ⟨h1, h2⟩
  · exact Or.inl h
  · exact Or.inr ⟨h1, hj h2⟩
theorem op_range {n : NL} (h : n.may = true) (k : n.kind = 4) : 1 ≤ n.op ∧ n.op ≤ 13 := by
  unfold NL.may at h
  rw [if_neg (by omega), if_neg (by omega), if_neg (by omega), if_pos k] at h
  simp only [Bool.and_eq_true, decide_eq_true_eq] at h
  exact ⟨h.1.1.1.1.1, h.1.1.1.1.2⟩
theorem name_call {n : NL} (h : n.may = true) (k : n.kind = 5) : ∃ b t, n.name.data.toList = b :: t ∧ upB b = true ∧ ∀ x ∈ n.name.data.toList, partB x = true := by
  have hn := (args_of h k).2.2
  unfold namedB at hn
  simp only [Bool.and_eq_true] at hn
  obtain ⟨⟨⟨_, h1⟩, h2⟩, _⟩ := hn
  cases hl : n.name.data.toList with
  | nil => rw [hl] at h1; simp at h1
  | cons b t => rw [hl] at h1 h2; exact ⟨b, t, rfl, h1, fun x hx => List.all_eq_true.1 h2 x hx⟩
theorem up_word {b : UInt8} (h : upB b = true) : wordB b = true := word_part (by unfold partB; rw [h]; rfl)
theorem leaf_head {n : NL} (h : LeafV n) : ∃ b t, leafT n = b :: t ∧ (wordB b = true ∨ b = 34) := by
  by_cases ht : n.kind = 1 ∧ n.v.t = 2
  · cases h with
    | txt s e1 h => exact ⟨_, _, h, Or.inr rfl⟩
    | num x _ _ e1 _ => subst e1; exact absurd ht.2 (by show ¬ (1 : Int) = 2; decide)
    | bool b e1 _ => subst e1; exact absurd ht.2 (by show ¬ (3 : Int) = 2; decide)
    | code c _ _ e1 _ => subst e1; exact absurd ht.2 (by show ¬ (4 : Int) = 2; decide)
    | cell r c _ e1 _ => subst e1; exact absurd ht.1 (by show ¬ (2 : Int) = 1; decide)
    | rect t l b q _ e1 _ => subst e1; exact absurd ht.1 (by show ¬ (3 : Int) = 1; decide)
  · obtain ⟨h1, h2, h3⟩ := leaf_cls h ht
    cases hm : leafT n with
    | nil => rw [hm, cls_nil] at h1; omega
    | cons b t => exact ⟨b, t, rfl, Or.inl (h2 b (by rw [hm]; simp))⟩
namespace Tm
def At (t : Tm) (k : Int) : List UInt8 := TL.at' t.tl k
def Fine (t : Tm) : Prop := t.good false ∧ ∀ n ∈ t.nodes, n.ok
theorem binds_ge : ∀ {t : Tm}, t.good false → 1 ≤ t.binds ∧ t.binds ≤ 7
  | leaf _, _ => ⟨by show (1 : Int) ≤ 7; decide, by show (7 : Int) ≤ 7; decide⟩
  | un n _, h => by
    obtain ⟨_, _, ho, _⟩ := h
    show 1 ≤ levelI n.op ∧ levelI n.op ≤ 7
    rcases ho with ho | ho <;> rw [ho] <;> exact ⟨by decide, by decide⟩
  | bin n _ _, h => by
    obtain ⟨hm, hk, ho, _⟩ := h
    obtain ⟨o1, o2⟩ := op_range hm hk
    have := level_two (a := n.op) (by omega) o2
    show 1 ≤ levelI n.op ∧ levelI n.op ≤ 7
    omega
  | call _ _, _ => ⟨by show (1 : Int) ≤ 7; decide, by show (7 : Int) ≤ 7; decide⟩
  | anil, h => h.elim
  | acons _ _, h => h.elim
theorem at_low {t : Tm} {k : Int} (h : t.binds < k) : At t k = 40 :: (t.text ++ [41]) := if_pos h
theorem at_high {t : Tm} {k : Int} (h : k ≤ t.binds) : At t k = t.text := if_neg (by show ¬ t.binds < k; omega)
theorem at_one {t : Tm} (h : t.good false) : At t 1 = t.text := at_high (binds_ge h).1
theorem at_next {t : Tm} {k : Int} (h : t.binds ≠ k) : At t k = At t (k + 1) := by
  by_cases hk : t.binds < k
  · rw [at_low hk, at_low (by omega)]
  · rw [at_high (by omega), at_high (by omega)]
theorem text_neg {n : NL} {a : Tm} (h : n.op = 1) : (un n a).text = 45 :: At a 5 := by
  show (if n.op = 1 then opT n.op ++ At a (levelI n.op) else _) = _
  rw [if_pos h, h]; rfl
theorem text_pct {n : NL} {a : Tm} (h : n.op = 2) : (un n a).text = At a 6 ++ [37] := by
  show (if n.op = 1 then _ else At a (levelI n.op) ++ opT n.op) = _
  rw [if_neg (by omega), h]; rfl
theorem text_bin {n : NL} {a b : Tm} : (bin n a b).text = At a (levelI n.op) ++ opT n.op ++ At b (levelI n.op + 1) := rfl
theorem Fine.un {n : NL} {a : Tm} (h : Fine (un n a)) : n.may = true ∧ n.kind = 4 ∧ (n.op = 1 ∨ n.op = 2) ∧ Fine a := by
  obtain ⟨⟨h1, h2, h3, h4⟩, h5⟩ := h
  exact ⟨h1, h2, h3, h4, fun m hm => h5 m (by show m ∈ a.nodes ++ [n]; simp [hm])⟩
theorem Fine.bin {n : NL} {a b : Tm} (h : Fine (bin n a b)) : n.may = true ∧ n.kind = 4 ∧ 3 ≤ n.op ∧ n.op ≤ 13 ∧ Fine a ∧ Fine b := by
  obtain ⟨⟨h1, h2, h3, h4, h5⟩, h6⟩ := h
  have := op_range h1 h2
  exact ⟨h1, h2, by omega, this.2, ⟨h4, fun m hm => h6 m (by show m ∈ a.nodes ++ b.nodes ++ [n]; simp [hm])⟩, ⟨h5, fun m hm => h6 m (by show m ∈ a.nodes ++ b.nodes ++ [n]; simp [hm])⟩⟩
theorem Fine.leaf {n : NL} (h : Fine (leaf n)) : LeafV n := by
  obtain ⟨⟨h1, h2, h3⟩, h4⟩ := h
  exact leaf_view h1 (h4 n (by show n ∈ [n]; simp)) h2 h3
theorem head_at : ∀ {t : Tm}, Fine t → ∀ k : Int, ∃ b l, At t k = b :: l ∧ headB k b = true := by
  intro t
  induction t with
  | leaf n =>
    intro h k
    by_cases hk : (leaf n).binds < k
    · exact ⟨_, _, at_low hk, by simp [headB]⟩
    obtain ⟨b, l, e, hb⟩ := leaf_head h.leaf
    refine ⟨b, l, by rw [at_high (by omega)]; exact e, ?_⟩
    unfold headB
    rcases hb with hb | hb <;> simp [hb]
  | un n a ih =>
    intro h k
    by_cases hk : (un n a).binds < k
    · exact ⟨_, _, at_low hk, by simp [headB]⟩
    obtain ⟨_, _, ho, ha⟩ := h.un
    have hb : (un n a).binds = levelI n.op := rfl
    rcases ho with ho | ho
    · refine ⟨_, _, by rw [at_high (by omega), text_neg ho], ?_⟩
      rw [hb, ho, show levelI 1 = 5 from rfl] at hk
      unfold headB
      simp; omega
    · obtain ⟨b, l, e, h6⟩ := ih ha 6
      exact ⟨b, l ++ [37], by rw [at_high (by omega), text_pct ho, e]; rfl, head_mono h6 (by omega)⟩
  | bin n a b iha _ =>
    intro h k
    by_cases hk : (Tm.bin n a b).binds < k
    · exact ⟨_, _, at_low hk, by simp [headB]⟩
    obtain ⟨_, _, h3, h13, ha, _⟩ := h.bin
    have hb : (Tm.bin n a b).binds = levelI n.op := rfl
    have hl := level_two h3 h13
    obtain ⟨c, l, e, hc⟩ := iha ha (levelI n.op)
    exact ⟨c, _, by rw [at_high (by omega), text_bin, e]; rfl, head_mono hc (by omega)⟩
  | call n c _ =>
    intro h k
    by_cases hk : (call n c).binds < k
    · exact ⟨_, _, at_low hk, by simp [headB]⟩
    obtain ⟨⟨h1, h2, _, _⟩, _⟩ := h
    obtain ⟨b, l, e, hb, _⟩ := name_call h1 h2
    refine ⟨b, _, by rw [at_high (by omega)]; show n.name.data.toList ++ _ = _; rw [e]; rfl, ?_⟩
    unfold headB
    simp [up_word hb]
  | anil => intro h; exact h.1.elim
  | acons a r _ _ => intro h; exact h.1.elim
theorem at_noeq {t : Tm} (h : Fine t) (k : Int) (r : List UInt8) : NoEq (At t k ++ r) := by
  obtain ⟨b, l, e, hb⟩ := head_at h k
  rw [e]
  intro c u e2
  injection e2 with e3 _
  rw [← e3]
  by_cases h1 : b = 61
  · subst h1; revert hb; unfold headB; rw [show wordB 61 = false by decide]; simp
  by_cases h2 : b = 62
  · subst h2; revert hb; unfold headB; rw [show wordB 62 = false by decide]; simp
  simp [h1, h2]
end Tm
end Go.Proofs.YtfbkoieodflcpaaGreatDoor
namespace Go.Proofs.YtfbkoieodflcpaaGreatDoor
open Go.RowKit

namespace Tm
def Same (k : Int) (N : Nat) : Prop := ∀ t u r s, Fine t → Fine u → StopK k r → StopK k s → At t k ++ r = At u k ++ s → (At t k ++ r).length ≤ N → t = u ∧ r = s
/-- signs of one level, each with what stands behind -/
def rowT (k : Int) : List (NL × Tm) → List UInt8
  | [] => []
  | p :: l => opT p.1.op ++ (At p.2 (k + 1) ++ rowT k l)
def grow (h : Tm) : List (NL × Tm) → Tm
  | [] => h
  | p :: l => grow (bin p.1 h p.2) l
def Sign (k : Int) (p : NL × Tm) : Prop := p.1.may = true ∧ p.1.kind = 4 ∧ 3 ≤ p.1.op ∧ p.1.op ≤ 13 ∧ levelI p.1.op = k ∧ Fine p.2
theorem grow_snoc (n : NL) (b : Tm) : ∀ (l : List (NL × Tm)) (h : Tm), grow h (l ++ [(n, b)]) = bin n (grow h l) b
  | [], _ => rfl
  | p :: l, h => grow_snoc n b l (bin p.1 h p.2)
theorem row_snoc (k : Int) (n : NL) (b : Tm) : ∀ l : List (NL × Tm), rowT k (l ++ [(n, b)]) = rowT k l ++ (opT n.op ++ At b (k + 1))
  | [] => by show opT n.op ++ (At b (k + 1) ++ []) = _; rw [List.append_nil]; rfl
  | p :: l => by
    show opT p.1.op ++ (At p.2 (k + 1) ++ rowT k (l ++ [(n, b)])) = (opT p.1.op ++ (At p.2 (k + 1) ++ rowT k l)) ++ _
    rw [row_snoc k n b l, List.append_assoc, List.append_assoc]
theorem row_stop {k : Int} (h4 : k ≤ 4) {l : List (NL × Tm)} (hl : ∀ p ∈ l, Sign k p) {r : List UInt8} (hr : StopK k r) : StopK (k + 1) (rowT k l ++ r) := by
  cases l with
  | nil => exact hr.up (by omega)
  | cons p l =>
    obtain ⟨_, _, m3, m4, m5, _⟩ := hl p (by simp)
    show StopK (k + 1) ((opT p.1.op ++ (At p.2 (k + 1) ++ rowT k l)) ++ r)
    rw [List.append_assoc]
    exact stop_op m3 m4 (by omega) _
/-- what binds at five is a neg -/
theorem neg_form : ∀ {t : Tm}, Fine t → t.binds = 5 → ∃ n a, t = un n a ∧ n.op = 1
  | leaf _, _, hb => absurd hb (by show ¬ (7 : Int) = 5; decide)
  | call _ _, _, hb => absurd hb (by show ¬ (7 : Int) = 5; decide)
  | bin n _ _, h, hb => by
    obtain ⟨_, _, h3, h13, _⟩ := h.bin
    have := level_two h3 h13
    have hb' : levelI n.op = 5 := hb
    omega
  | un n a, h, hb => by
    obtain ⟨_, _, ho, _⟩ := h.un
    rcases ho with ho | ho
    · exact ⟨n, a, rfl, ho⟩
    · have hb' : levelI n.op = 5 := hb
      rw [ho] at hb'
      exact absurd hb' (by decide)
  | anil, h, _ => h.1.elim
  | acons _ _, h, _ => h.1.elim
theorem pct_form : ∀ {t : Tm}, Fine t → t.binds = 6 → ∃ n a, t = un n a ∧ n.op = 2
  | leaf _, _, hb => absurd hb (by show ¬ (7 : Int) = 6; decide)
  | call _ _, _, hb => absurd hb (by show ¬ (7 : Int) = 6; decide)
  | bin n _ _, h, hb => by
    obtain ⟨_, _, h3, h13, _⟩ := h.bin
    have := level_two h3 h13
    have hb' : levelI n.op = 6 := hb
    omega
  | un n a, h, hb => by
    obtain ⟨_, _, ho, _⟩ := h.un
    rcases ho with ho | ho
    · have hb' : levelI n.op = 6 := hb
      rw [ho] at hb'
      exact absurd hb' (by decide)
    · exact ⟨n, a, rfl, ho⟩
  | anil, h, _ => h.1.elim
  | acons _ _, h, _ => h.1.elim
theorem no_neg {t : Tm} (h : Fine t) (hb : t.binds ≠ 5) (r x : List UInt8) (e : At t 5 ++ r = 45 :: x) : False := by
  obtain ⟨b, l, e1, e2⟩ := head_at h 6
  rw [at_next hb, show (5 : Int) + 1 = 6 from rfl, e1] at e
  injection e with e3 _
  rw [e3] at e2
  revert e2; decide
/-- signs of parts of a hundred behind a thing -/
def growP (n : NL) (h : Tm) : Nat → Tm
  | 0 => h
  | m + 1 => un n (growP n h m)
theorem pct_stop {r : List UInt8} (hr : StopK 6 r) : ∀ m : Nat, StopK 7 (List.replicate m 37 ++ r)
  | 0 => hr.up (by decide)
  | m + 1 => by rw [List.replicate_succ]; exact stop_pct
theorem pct_no {r : List UInt8} (hr : StopK 6 r) : NoHead (fun b => decide (b = 37)) r := fun b t e => by
  have := hr b t e
  unfold stopB at this
  simp only [Bool.or_eq_false_iff, Bool.and_eq_false_iff, decide_eq_false_iff_not] at this
  rcases this.1.2 with h | h
  · simpa using h
  · exact absurd (by decide) h
end Tm
end Go.Proofs.YtfbkoieodflcpaaGreatDoor
namespace Go.Proofs.YtfbkoieodflcpaaGreatDoor
open Go.RowKit

namespace Tm
/-- a thing at seven: a leaf, a call, or brackets -/
inductive V7 (t : Tm) : Prop where
  | leaf (n : NL) (e : t = .leaf n) (h : LeafV n) (ht : At t 7 = leafT n)
  | call (n : NL) (c : Tm) (e : t = .call n c) (hm : n.may = true) (hk : n.kind = 5) (ha : n.args = (c.len : Int)) (hc : c.good true) (ho : ∀ m ∈ c.nodes, m.ok) (ht : At t 7 = n.name.data.toList ++ 40 :: (c.text ++ [41]))
  | low (ht : At t 7 = 40 :: (At t 1 ++ [41]))
theorem view7 : ∀ {t : Tm}, Fine t → V7 t
  | .leaf n, h => .leaf n rfl h.leaf (at_high (by show (7 : Int) ≤ 7; decide))
  | .call n c, h => .call n c rfl h.1.1 h.1.2.1 h.1.2.2.1 h.1.2.2.2 (fun m hm => h.2 m (by show m ∈ c.nodes ++ [n]; simp [hm])) (at_high (by show (7 : Int) ≤ 7; decide))
  | .un n a, h => .low (by
      rw [at_one h.1]
      refine at_low ?_
      obtain ⟨_, _, ho, _⟩ := h.un
      show levelI n.op < 7
      rcases ho with ho | ho <;> rw [ho] <;> decide)
  | .bin n a b, h => .low (by
      rw [at_one h.1]
      refine at_low ?_
      obtain ⟨_, _, h3, h13, _⟩ := h.bin
      have := level_two h3 h13
      show levelI n.op < 7
      omega)
  | anil, h => h.1.elim
  | acons _ _, h => h.1.elim
/-- what stands behind a chain's first -/
def rest (c : Tm) (r : List UInt8) : List UInt8 := match c with
  | anil => 41 :: r
  | c => 44 :: (c.text ++ 41 :: r)
theorem cons_text (a c : Tm) (r : List UInt8) : (acons a c).text ++ 41 :: r = a.text ++ rest c r := by
  cases c with
  | anil => rfl
  | acons b d => rw [text_acons _ _ (by simp), List.append_assoc]; rfl
  | leaf n => rw [text_acons _ _ (by simp), List.append_assoc]; rfl
  | un n b => rw [text_acons _ _ (by simp), List.append_assoc]; rfl
  | bin n b d => rw [text_acons _ _ (by simp), List.append_assoc]; rfl
  | call n b => rw [text_acons _ _ (by simp), List.append_assoc]; rfl
theorem rest_stop (c : Tm) (r : List UInt8) : StopK 1 (rest c r) := by
  cases c with
  | anil => exact stop_close r
  | acons b d => exact stop_comma _
  | leaf n => exact stop_comma _
  | un n b => exact stop_comma _
  | bin n b d => exact stop_comma _
  | call n b => exact stop_comma _
end Tm
end Go.Proofs.YtfbkoieodflcpaaGreatDoor
namespace Go.Proofs.YtfbkoieodflcpaaGreatDoor
open Go.RowKit

theorem tw_app (p : UInt8 → Bool) : ∀ (a r : List UInt8), (∀ b ∈ a, p b = true) → NoHead p r → (a ++ r).takeWhile p = a
  | [], r, _, hr => by
    cases r with
    | nil => rfl
    | cons b t => simp [hr b t rfl]
  | b :: a, r, ha, hr => by
    rw [List.cons_append, List.takeWhile_cons, if_pos (ha b (by simp)), tw_app p a r (fun x hx => ha x (by simp [hx])) hr]
theorem dw_app (p : UInt8 → Bool) : ∀ (a r : List UInt8), (∀ b ∈ a, p b = true) → NoHead p r → (a ++ r).dropWhile p = r
  | [], r, _, hr => by
    cases r with
    | nil => rfl
    | cons b t => simp [hr b t rfl]
  | b :: a, r, ha, hr => by
    rw [List.cons_append, List.dropWhile_cons, if_pos (ha b (by simp)), dw_app p a r (fun x hx => ha x (by simp [hx])) hr]
theorem NoHead.imp {p q : UInt8 → Bool} {r : List UInt8} (h : NoHead p r) (hi : ∀ b, q b = true → p b = true) : NoHead q r := fun b t e => by
  cases hq : q b with
  | false => rfl
  | true => have := hi b hq; rw [h b t e] at this; cases this
theorem num_word {b : UInt8} (h : numB b = true) : wordB b = true := by
  unfold numB isDig at h
  unfold wordB
  simp only [Bool.or_eq_true, Bool.and_eq_true, decide_eq_true_eq] at h ⊢
  rcases h with h | h
  · exact .inl (.inl (.inl (.inl (.inl ⟨by omega, by omega⟩))))
  · simp [h]
theorem num_bytes {x : Int} (h : 0 ≤ x) : ∀ b ∈ printL x, numB b = true := fun b hb => by
  have hdig : ∀ n, ∀ b ∈ Lib.decDigits n, numB b = true := fun n b hb => by
    have := List.all_eq_true.1 (dec_val n n (Nat.le_refl _)).2.1 b hb
    unfold numB; rw [this]; rfl
  unfold printL at hb
  rw [if_neg (by omega), show decide (x < 0) = false by simp; omega] at hb
  unfold textOf at hb
  simp only [Bool.false_eq_true, if_false, List.nil_append, List.mem_append] at hb
  rcases hb with hb | hb
  · exact hdig _ b hb
  · split at hb
    · simp at hb
    · rcases List.mem_cons.1 hb with rfl | hb
      · decide
      · have h4 := four_all (r := x.natAbs % 10000) (Nat.mod_lt _ (by decide))
        unfold frac Lib.trimRightB at hb
        rw [List.mem_reverse] at hb
        have := List.all_eq_true.1 h4 b (List.mem_reverse.1 ((List.dropWhile_sublist _).mem hb))
        unfold numB; rw [this]; rfl
theorem num_headD {x : Int} (h : 0 ≤ x) : ∃ d t, printL x = d :: t ∧ isDig d = true := by
  unfold printL
  rw [if_neg (by omega), show decide (x < 0) = false by simp; omega]
  unfold textOf
  obtain ⟨_, h2, h3⟩ := dec_val (x.natAbs / 10000) (x.natAbs / 10000) (Nat.le_refl _)
  cases hD : Lib.decDigits (x.natAbs / 10000) with
  | nil => rw [hD] at h3; simp at h3
  | cons d t =>
    rw [hD] at h2
    refine ⟨d, _, rfl, ?_⟩
    simp at h2
    exact h2.1
theorem bk_num {x : Int} (h0 : 0 ≤ x) (h1 : x ≤ 9223372036854775807) (r : List UInt8) (hr : Stop r) : firstT (printL x ++ r) = (tokNum x, (printL x).length) := by
  obtain ⟨d, t, e, hd⟩ := num_headD h0
  have hw := tw_app numB (printL x) r (num_bytes h0) (hr.word.imp fun b hb => num_word hb)
  obtain ⟨p1, p2⟩ := print_read (x := x) (by omega) (by omega)
  have e2 : firstT (printL x ++ r) = nuT (printL x ++ r) := by
    rw [e, List.cons_append, firstT, if_pos hd]
  rw [e2, nuT, hw, if_pos p2, p1]
theorem bk_quote : ∀ (s r : List UInt8), NoHead (fun x => decide (x = 34)) r → quoteG (quotesL s ++ 34 :: r) = some (s, (quotesL s).length + 1)
  | [], r, hr => by
    cases r with
    | nil => rfl
    | cons c r =>
      have hc : c.toNat ≠ 34 := fun e => by
        have := hr c r rfl
        simp only [decide_eq_false_iff_not] at this
        exact this (by rw [← UInt8.toNat_inj]; exact e)
      show quoteG (34 :: c :: r) = _
      rw [quoteG, if_pos (by decide), if_neg hc]
      rfl
  | b :: s, r, hr => by
    have ih := bk_quote s r hr
    have eq : quotesL (b :: s) = (if b = 34 then [34, 34] else [b]) ++ quotesL s := by simp [quotesL]
    rw [eq]
    by_cases hb : b = 34
    · rw [if_pos hb]
      show quoteG (34 :: 34 :: (quotesL s ++ 34 :: r)) = _
      rw [quoteG, if_pos (by decide), if_pos (by decide), ih]
      simp [hb]
    · rw [if_neg hb]
      have hn : b.toNat ≠ 34 := fun e => hb (by rw [← UInt8.toNat_inj]; exact e)
      obtain ⟨c, u, hu⟩ : ∃ c u, quotesL s ++ 34 :: r = c :: u := by
        cases quotesL s with
        | nil => exact ⟨_, _, rfl⟩
        | cons c u => exact ⟨_, _, rfl⟩
      show quoteG (b :: (quotesL s ++ 34 :: r)) = _
      rw [hu] at ih ⊢
      rw [quoteG, if_neg hn, ih]
      simp
theorem bk_text (s r : List UInt8) (hr : Stop r) : firstT (34 :: (quotesL s ++ [34]) ++ r) = (tokS 2 s, (34 :: (quotesL s ++ [34])).length) := by
  have hq := bk_quote s r hr.quote
  have e : firstT (34 :: (quotesL s ++ [34]) ++ r) = textT (34 :: (quotesL s ++ [34]) ++ r) := by
    rw [List.cons_append, firstT, if_neg (by decide), if_pos (by decide)]
  rw [e, textT]
  have e2 : (34 :: (quotesL s ++ [34]) ++ r).drop 1 = quotesL s ++ 34 :: r := by simp
  rw [e2, hq]
  simp
theorem up_not {c : UInt8} (h : upB c = true) : isDig c = false ∧ c.toNat ≠ 34 ∧ c.toNat ≠ 35 := by
  unfold upB at h
  simp only [Bool.and_eq_true, decide_eq_true_eq] at h
  refine ⟨?_, by omega, by omega⟩
  unfold isDig
  simp; omega
theorem first_up {c : UInt8} {t : List UInt8} (h : upB c = true) : firstT (c :: t) = wordT (c :: t) := by
  obtain ⟨h1, h2, h3⟩ := up_not h
  rw [firstT, if_neg (by rw [h1]; decide), if_neg h2, if_neg h3, if_pos h]
theorem bk_word (w r : List UInt8) (hu : ∃ b t, w = b :: t ∧ upB b = true) (hp : ∀ b ∈ w, partB b = true) (hm : meantB w = false) (hr : NoHead partB r) : firstT (w ++ r) = (tokS 3 w, w.length) := by
  have hw := tw_app partB w r hp hr
  obtain ⟨b, t, e, hb⟩ := hu
  have e1 : firstT (w ++ r) = wordT (w ++ r) := by rw [e, List.cons_append, first_up hb]
  rw [e1, wordT, hw, hm]
  rfl
theorem Stop.part {r : List UInt8} (h : Stop r) : NoHead partB r := h.word.imp fun _ hb => word_part hb
theorem name_split {r c : Int} (h : mayB r c = true) : ∃ a d : List UInt8, nameZ r c = a ++ d ∧ (∀ b ∈ a, upB b = true) ∧ (∀ b ∈ d, isDig b = true) ∧ a ≠ [] ∧ d ≠ [] := by
  obtain ⟨r', c', rfl, rfl, hm⟩ := mayB_ints h
  obtain ⟨m1, m2, m3, m4⟩ := mayN_of hm
  refine ⟨colL c', Lib.decDigits r', by rw [nameZ_nat hm]; rfl, fun b hb => ?_, fun b hb => List.all_eq_true.1 (dec_val r' r' (Nat.le_refl _)).2.1 b hb, ?_, ?_⟩
  · unfold upB
    simp only [Bool.and_eq_true, decide_eq_true_eq]
    unfold colL at hb
    split at hb
    · rcases List.mem_singleton.1 hb with rfl
      rw [UInt8.toNat_ofNat_of_lt' (by show _ < 256; omega)]; omega
    · rcases List.mem_cons.1 hb with rfl | hb
      · rw [UInt8.toNat_ofNat_of_lt' (by show _ < 256; omega)]; omega
      · rcases List.mem_singleton.1 hb with rfl
        rw [UInt8.toNat_ofNat_of_lt' (by show _ < 256; omega)]; omega
  · unfold colL; split <;> simp
  · intro e
    have := (dec_val r' r' (Nat.le_refl _)).2.2
    rw [e] at this; simp at this
theorem name_meant {r c : Int} (h : mayB r c = true) : meantB (nameZ r c) = true ∧ (∀ b ∈ nameZ r c, partB b = true) ∧ ∃ b t, nameZ r c = b :: t ∧ upB b = true := by
  obtain ⟨a, d, e, ha, hd, h1, h2⟩ := name_split h
  rw [e]
  have hdu : NoHead upB d := fun b t e => by
    have hb := hd b (by rw [e]; simp)
    unfold isDig at hb
    unfold upB
    simp at hb ⊢; omega
  refine ⟨?_, fun b hb => ?_, ?_⟩
  · unfold meantB
    rw [dw_app upB a d ha hdu]
    have : d.all isDig = true := List.all_eq_true.2 hd
    rw [this]
    cases d with
    | nil => exact absurd rfl h2
    | cons _ _ => rfl
  · unfold partB
    rcases List.mem_append.1 hb with hb | hb
    · rw [ha b hb]; rfl
    · rw [hd b hb]; simp
  · cases a with
    | nil => exact absurd rfl h1
    | cons b t => exact ⟨b, t ++ d, rfl, ha b (by simp)⟩
theorem bk_back {r c : Int} (h : mayB r c = true) : pOk (nameZ r c) = true ∧ pRow (nameZ r c) = r ∧ pCol (nameZ r c) = c := by
  obtain ⟨r', c', rfl, rfl, hm⟩ := mayB_ints h
  rw [nameZ_nat hm]
  simp [pOk, pRow, pCol, parse_name hm]
theorem colon_no {l r : List UInt8} (hw : (l ++ r).takeWhile partB = l) (hr : ∀ b t, r = b :: t → b ≠ 58) : colonB (l ++ r) = false := by
  unfold colonB
  rw [hw, List.drop_left]
  cases r with
  | nil => rfl
  | cons b t =>
    have := hr b t rfl
    simp
    intro e
    exact this (by rw [← UInt8.toNat_inj]; exact e)
theorem bk_cell {r c : Int} (h : mayB r c = true) (R : List UInt8) (hr : Stop R) : firstT (nameZ r c ++ R) = (tokCell r c, (nameZ r c).length) := by
  obtain ⟨hm, hp, b, t, e, hb⟩ := name_meant h
  have hw := tw_app partB (nameZ r c) R hp hr.part
  obtain ⟨p1, p2, p3⟩ := bk_back h
  have hc := colon_no hw (fun b t e he => by
    have := hr.word b t e
    subst he
    revert this; decide)
  have e1 : firstT (nameZ r c ++ R) = wordT (nameZ r c ++ R) := by rw [e, List.cons_append, first_up hb]
  rw [e1, wordT, hw, if_pos hm, hc, if_neg (by decide), if_pos p1, p2, p3]
theorem idx_colon {a b : List UInt8} (h : ∀ x ∈ a, x ≠ 58) : Lib.indexByte (a ++ 58 :: b) 58 = (a.length : Int) := by
  refine idx_of (by simp) (fun k hk => ?_)
  rw [List.getElem?_append_left hk, List.getElem?_eq_getElem hk]
  intro he
  exact h _ (List.getElem_mem hk) (Option.some.inj he)
theorem bk_backR {t l b q : Int} (h : mayRectB t l b q = true) : parseRect (nameZ t l ++ 58 :: nameZ b q) = some (t, l, b, q) := by
  obtain ⟨h1, h2⟩ := rect_parts h
  obtain ⟨a1, a2, a3⟩ := bk_back h1
  obtain ⟨b1, b2, b3⟩ := bk_back h2
  rw [prect_at (a := nameZ t l) (b := nameZ b q) (idx_colon fun x hx => by have := name_no58 x hx; simpa using this) (by simp) (by simp), a1, a2, a3, b1, b2, b3, h]
  rfl
theorem bk_rect {t l b q : Int} (h : mayRectB t l b q = true) (R : List UInt8) (hr : Stop R) : firstT (nameRectZ t l b q ++ R) = (tokRect t l b q, (nameRectZ t l b q).length) := by
  obtain ⟨h1, h2⟩ := rect_parts h
  obtain ⟨hm, hp, c, u, e, hc⟩ := name_meant h1
  obtain ⟨hm2, hp2, c2, u2, e2, hc2⟩ := name_meant h2
  rw [rect_form h]
  have e0 : (nameZ t l ++ 58 :: nameZ b q) ++ R = nameZ t l ++ (58 :: (nameZ b q ++ R)) := by simp
  have hw : ((nameZ t l ++ 58 :: nameZ b q) ++ R).takeWhile partB = nameZ t l := by
    rw [e0]
    exact tw_app partB _ _ hp (fun b t e => by injection e with e _; subst e; decide)
  have hn : rectN ((nameZ t l ++ 58 :: nameZ b q) ++ R) = (nameZ t l ++ 58 :: nameZ b q).length := by
    unfold rectN
    rw [hw, e0]
    have : (nameZ t l ++ (58 :: (nameZ b q ++ R))).drop ((nameZ t l).length + 1) = nameZ b q ++ R := by
      rw [← List.drop_drop, List.drop_left]; rfl
    rw [this, tw_app partB _ _ hp2 hr.part]
    simp; omega
  have hcol : colonB ((nameZ t l ++ 58 :: nameZ b q) ++ R) = true := by
    unfold colonB
    rw [hw, e0, List.drop_left]
    rfl
  have hpr := bk_backR h
  have e1 : firstT ((nameZ t l ++ 58 :: nameZ b q) ++ R) = wordT ((nameZ t l ++ 58 :: nameZ b q) ++ R) := by
    rw [e]
    exact first_up hc
  rw [e1, wordT, hw, if_pos hm, if_pos hcol, hn, List.take_left]
  unfold qOk qT qL qB qR
  rw [hpr]
  rfl
theorem bk_code {c : Int} (h1 : 2 ≤ c) (h2 : c ≤ 8) (R : List UInt8) : firstT ((codeName c).data.toList ++ R) = (tokCode c, (codeName c).data.toList.length) := by
  have h3 : c = 2 ∨ c = 3 ∨ c = 4 ∨ c = 5 ∨ c = 6 ∨ c = 7 ∨ c = 8 := by omega
  have go : ∀ (w : List UInt8) (c : Int), (w.all bangB) = true → w.head? = some 35 → codeOf ⟨(w ++ [33]).toArray⟩ = c → c ≠ 0 → c ≠ 1 → firstT ((w ++ [33]) ++ R) = (tokCode c, (w ++ [33]).length) := by
    intro w c hw hh hc h0 h1
    have htw : ((w ++ [33]) ++ R).takeWhile bangB = w := by
      rw [List.append_assoc]
      exact tw_app bangB w _ (fun b hb => List.all_eq_true.1 hw b hb) (fun b t e => by injection e with e _; subst e; decide)
    have e1 : firstT ((w ++ [33]) ++ R) = codeT ((w ++ [33]) ++ R) := by
      cases w with
      | nil => simp at hh
      | cons b t =>
        simp at hh
        subst hh
        show firstT (35 :: ((t ++ [33]) ++ R)) = _
        rw [firstT, if_neg (by decide), if_neg (by decide), if_pos (by decide)]
        rfl
    rw [e1, codeT, htw, hc, if_pos ⟨h0, h1, by simp⟩]
    simp
  rcases h3 with rfl | rfl | rfl | rfl | rfl | rfl | rfl
  · exact go [35, 78, 85, 77] 2 (by decide) rfl (by decide +kernel) (by decide) (by decide)
  · exact go [35, 68, 73, 86] 3 (by decide) rfl (by decide +kernel) (by decide) (by decide)
  · exact go [35, 84, 89, 80, 69] 4 (by decide) rfl (by decide +kernel) (by decide) (by decide)
  · exact go [35, 82, 65, 78, 71, 69] 5 (by decide) rfl (by decide +kernel) (by decide) (by decide)
  · exact go [35, 77, 73, 83, 83] 6 (by decide) rfl (by decide +kernel) (by decide) (by decide)
  · exact go [35, 76, 79, 78, 71] 7 (by decide) rfl (by decide +kernel) (by decide) (by decide)
  · exact go [35, 65, 82, 71] 8 (by decide) rfl (by decide +kernel) (by decide) (by decide)
theorem bk_sign {c : UInt8} (hc : signs.contains c = true) (r : List UInt8) (h : (c ≠ 60 ∧ c ≠ 62) ∨ NoEq r) : firstT (c :: r) = (tokS 7 [c], 1) := by
  have hm : c ∈ signs := List.contains_iff_mem.1 hc
  have hn : isDig c = false ∧ c.toNat ≠ 34 ∧ c.toNat ≠ 35 ∧ upB c = false := by
    unfold signs at hm
    simp only [List.mem_cons, List.not_mem_nil, or_false] at hm
    rcases hm with rfl | rfl | rfl | rfl | rfl | rfl | rfl | rfl | rfl | rfl | rfl | rfl <;> decide
  have h2 : twoB (c :: r) = false := by
    unfold twoB
    cases r with
    | nil => simp
    | cons b t =>
      simp only [List.take_succ_cons, List.take_zero, List.cons.injEq, and_true, Bool.or_eq_false_iff, decide_eq_false_iff_not]
      rcases h with h | h
      · exact ⟨⟨fun e => h.1 e.1, fun e => h.1 e.1⟩, fun e => h.2 e.1⟩
      · have := h b t rfl
        simp only [Bool.or_eq_false_iff, decide_eq_false_iff_not] at this
        exact ⟨⟨fun e => this.2 e.2, fun e => this.1 e.2⟩, fun e => this.1 e.2⟩
  rw [firstT, if_neg (by rw [hn.1]; decide), if_neg hn.2.1, if_neg hn.2.2.1, if_neg (by rw [hn.2.2.2]; decide), signT, h2, if_neg (by decide)]
  simp [hm]
theorem bk_op {a : Int} (h1 : 3 ≤ a) (h2 : a ≤ 13) (r : List UInt8) (hr : NoEq r) : firstT (opT a ++ r) = (tokS 7 (opT a), (opT a).length) := by
  by_cases h3 : a = 9 ∨ a = 11 ∨ a = 13
  · rcases h3 with rfl | rfl | rfl <;> rfl
  · have e := op_one h1 h2 (fun e => h3 (.inl e)) (fun e => h3 (.inr (.inl e))) (fun e => h3 (.inr (.inr e)))
    rw [e]
    refine bk_sign ?_ r (.inr hr)
    rcases op_cases h1 h2 with rfl | rfl | rfl | rfl | rfl | rfl | rfl | rfl | rfl | rfl | rfl <;> decide
end Go.Proofs.YtfbkoieodflcpaaGreatDoor
