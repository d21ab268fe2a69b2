/-
  print: a thing and what follows are read in one way, plain.
-/
import Derived.Test.YtfbkoieodflcpaaDoorMg4
import Derived.Test.YtfbkoieodflcpaaDoorRows
import Derived.Test.YtfbkoieodflcpaaDoorBase
import Derived.Test.YtfbkoieodflcpaaDoorProg
import Derived.Test.YtfbkoieodflcpaaDoorShelf
import Derived.Test.YtfbkoieodflcpaaDoorAddrC
import Derived.Test.YtfbkoieodflcpaaDoorMg6
import Derived.Test.YtfbkoieodflcpaaDoorDecA
import Derived.Test.YtfbkoieodflcpaaDoorValA
import Derived.Test.YtfbkoieodflcpaaDoorValB
import Derived.Test.YtfbkoieodflcpaaDoorMg11
import Derived.Test.YtfbkoieodflcpaaDoorMg10
import Derived.Test.YtfbkoieodflcpaaDoorMapK
import Derived.Test.YtfbkoieodflcpaaDoorRefP
import Derived.Test.YtfbkoieodflcpaaDoorRefQ
import Derived.Test.YtfbkoieodflcpaaDoorShelfC
import Derived.Test.YtfbkoieodflcpaaDoorFmtU
import Derived.Test.YtfbkoieodflcpaaDoorNameX
import Derived.Test.YtfbkoieodflcpaaDoorNameY
import Derived.Test.YtfbkoieodflcpaaDoorDPrint
import Derived.Test.YtfbkoieodflcpaaDoorValL
import Derived.Test.YtfbkoieodflcpaaDoorPrP
import Derived.Test.YtfbkoieodflcpaaDoorPrA
import Derived.Test.YtfbkoieodflcpaaDoorPrS
import Derived.Test.YtfbkoieodflcpaaDoorPrT
import Derived.Test.YtfbkoieodflcpaaDoorPrO1
import Derived.Test.YtfbkoieodflcpaaDoorPrO2
import Derived.Test.YtfbkoieodflcpaaDoorMg26
import Derived.Test.YtfbkoieodflcpaaDoorNumP
import Derived.Test.YtfbkoieodflcpaaDoorPrO5
import Derived.Test.YtfbkoieodflcpaaDoorRefN
import Derived.Test.YtfbkoieodflcpaaDoorRefM
import Derived.Test.YtfbkoieodflcpaaDoorRefY
import Derived.Test.YtfbkoieodflcpaaDoorRefZ
import Derived.Test.YtfbkoieodflcpaaDoorPrO6
import Derived.Test.YtfbkoieodflcpaaDoorPrO7
import Derived.Test.YtfbkoieodflcpaaDoorPrO8
import Derived.Test.YtfbkoieodflcpaaDoorPrO9
import Derived.WalkSpells
import Derived.WalkLawsBesides
import Derived.StillTactics
import Derived.Laws.Pointers
import Derived.Deep.RegionHeld3
import Derived.Deep.QuietTactic
import Derived.BigQuiet
import Derived.RowKit3
import Derived.Lib.Hide
import Derived.Lib.OthersKept
import Derived.OwnWalk
import Derived.Lib.IndexLaws
import Derived.Lib.ItoaMem
import Derived.Lib.TrimByte
import Derived.Lib.SlTrimSet
import Derived.Lib.ParseIntB
import Derived.WalkKit
import Derived.ProofKit
import Derived.OpenShut
import Derived.Carry
import Derived.ChangeSame
import Derived.Deep.Draws
import Derived.Shelf.Strings.Builder1
import Derived.Shelf.Strings.Builder2
import Derived.Shelf.Strings.Trim
import Derived.Shelf.Small.Utf8
import Derived.Shelf.Small.Strs
import Derived.Shelf.Strings.BuilderF
import Derived.Shelf.Strings.BuilderK
import Derived.Shelf.Strconv.Itoa0
import Derived.Shelf.Strconv.Itoa1
import Derived.Shelf.LaysM
import Derived.Shelf.Strconv.Itoa2
import Derived.Shelf.Strconv.Itoa3
import Derived.Shelf.Strings.Search1
import Derived.Shelf.Strings.Search2
import Derived.Shelf.Strings.Search3
import Derived.Shelf.Strings.Count
import Derived.Shelf.Strings.Shaped
import Derived.Shelf.Strings.Split
import Derived.Shelf.Strings.Replace
import Derived.Shelf.Strings.Runes
import Derived.Shelf.Strings.AsciiSet
import Derived.Shelf.Unicode.DecodeSlow
import Derived.Lib.ItoaNum
import Derived.Maps.OwnSet
import Derived.Maps.AppendAt
import Derived.Lib.Bytealg
import Derived.Lib.Replace
namespace Go.Proofs.YtfbkoieodflcpaaDoor
open Go.RowKit

theorem op_same {n m : NL} (h : n.may = true) (g : m.may = true) (hk : n.kind = 4) (gk : m.kind = 4) (e : n.op = m.op) : n = m := by
  have h1 := may_op h hk
  have h2 := may_op g gk
  rw [h1, h2, e]
namespace Tm
def Same (k : Int) (N : Nat) : Prop := ∀ t u r s, Fine t → Fine u → StopK k r → StopK k s → At t k ++ r = At u k ++ s → (At t k ++ r).length ≤ N → t = u ∧ r = s
/-- signs of one level, each with what stands behind -/
def rowT (k : Int) : List (NL × Tm) → List UInt8
  | [] => []
  | p :: l => opT p.1.op ++ (At p.2 (k + 1) ++ rowT k l)
def grow (h : Tm) : List (NL × Tm) → Tm
  | [] => h
  | p :: l => grow (bin p.1 h p.2) l
def Sign (k : Int) (p : NL × Tm) : Prop := p.1.may = true ∧ p.1.kind = 4 ∧ 3 ≤ p.1.op ∧ p.1.op ≤ 13 ∧ levelI p.1.op = k ∧ Fine p.2
theorem grow_snoc (n : NL) (b : Tm) : ∀ (l : List (NL × Tm)) (h : Tm), grow h (l ++ [(n, b)]) = bin n (grow h l) b
  | [], _ => rfl
  | p :: l, h => grow_snoc n b l (bin p.1 h p.2)
theorem row_snoc (k : Int) (n : NL) (b : Tm) : ∀ l : List (NL × Tm), rowT k (l ++ [(n, b)]) = rowT k l ++ (opT n.op ++ At b (k + 1))
  | [] => by show opT n.op ++ (At b (k + 1) ++ []) = _; rw [List.append_nil]; rfl
  | p :: l => by
    show opT p.1.op ++ (At p.2 (k + 1) ++ rowT k (l ++ [(n, b)])) = (opT p.1.op ++ (At p.2 (k + 1) ++ rowT k l)) ++ _
    rw [row_snoc k n b l, List.append_assoc, List.append_assoc]
theorem spine {k : Int} (h1 : 1 ≤ k) (h4 : k ≤ 4) : ∀ {t : Tm}, Fine t → ∃ h l, t = grow h l ∧ Fine h ∧ (∀ p ∈ l, Sign k p) ∧ At t k = At h (k + 1) ++ rowT k l := by
  intro t
  induction t with
  | bin n a b iha _ =>
    intro h
    by_cases hb : (bin n a b).binds = k
    · obtain ⟨m1, m2, m3, m4, ha, hb'⟩ := h.bin
      have hl : levelI n.op = k := hb
      obtain ⟨g, l, e1, e2, e3, e4⟩ := iha ha
      refine ⟨g, l ++ [(n, b)], by rw [grow_snoc, ← e1], e2, fun p hp => ?_, ?_⟩
      · rcases List.mem_append.1 hp with hp | hp
        · exact e3 p hp
        · rw [List.mem_singleton.1 hp]; exact ⟨m1, m2, m3, m4, hl, hb'⟩
      · rw [at_high (by omega), text_bin, hl, e4, row_snoc]
        simp only [List.append_assoc]
    · exact ⟨_, [], rfl, h, fun p hp => (by cases hp), by rw [at_next hb]; exact (List.append_nil _).symm⟩
  | un n a _ =>
    intro h
    have hb : (un n a).binds ≠ k := by
      obtain ⟨_, _, ho, _⟩ := h.un
      show levelI n.op ≠ k
      rcases ho with ho | ho <;> rw [ho]
      · show (5 : Int) ≠ k; omega
      · show (6 : Int) ≠ k; omega
    exact ⟨_, [], rfl, h, fun p hp => (by cases hp), by rw [at_next hb]; exact (List.append_nil _).symm⟩
  | leaf n => intro h; exact ⟨_, [], rfl, h, fun p hp => (by cases hp), by rw [at_next (by show (7 : Int) ≠ k; omega)]; exact (List.append_nil _).symm⟩
  | call n c _ => intro h; exact ⟨_, [], rfl, h, fun p hp => (by cases hp), by rw [at_next (by show (7 : Int) ≠ k; omega)]; exact (List.append_nil _).symm⟩
  | anil => intro h; exact h.1.elim
  | acons a r _ _ => intro h; exact h.1.elim
theorem row_stop {k : Int} (h4 : k ≤ 4) {l : List (NL × Tm)} (hl : ∀ p ∈ l, Sign k p) {r : List UInt8} (hr : StopK k r) : StopK (k + 1) (rowT k l ++ r) := by
  cases l with
  | nil => exact hr.up (by omega)
  | cons p l =>
    obtain ⟨_, _, m3, m4, m5, _⟩ := hl p (by simp)
    show StopK (k + 1) ((opT p.1.op ++ (At p.2 (k + 1) ++ rowT k l)) ++ r)
    rw [List.append_assoc]
    exact stop_op m3 m4 (by omega) _
theorem rows_same {k : Int} {N : Nat} (h4 : k ≤ 4) (H : Same (k + 1) N) : ∀ (l m : List (NL × Tm)) (r s : List UInt8), (∀ p ∈ l, Sign k p) → (∀ p ∈ m, Sign k p) → StopK k r → StopK k s → rowT k l ++ r = rowT k m ++ s → (rowT k l ++ r).length ≤ N → l = m ∧ r = s
  | [], [], _, _, _, _, _, _, e, _ => ⟨rfl, e⟩
  | [], q :: m, r, s, _, hm, hr, _, e, _ => by
    obtain ⟨_, _, m3, m4, m5, _⟩ := hm q (by simp)
    have e' : r = (opT q.1.op ++ (At q.2 (k + 1) ++ rowT k m)) ++ s := e
    rw [List.append_assoc] at e'
    exact (not_op m3 m4 (by omega) e' hr).elim
  | p :: l, [], r, s, hl, _, _, hs, e, _ => by
    obtain ⟨_, _, m3, m4, m5, _⟩ := hl p (by simp)
    have e' : (opT p.1.op ++ (At p.2 (k + 1) ++ rowT k l)) ++ r = s := e
    rw [List.append_assoc] at e'
    exact (not_op m3 m4 (by omega) e'.symm hs).elim
  | p :: l, q :: m, r, s, hl, hm, hr, hs, e, hN => by
    obtain ⟨a1, a2, a3, a4, a5, a6⟩ := hl p (by simp)
    obtain ⟨b1, b2, b3, b4, b5, b6⟩ := hm q (by simp)
    have e' : (opT p.1.op ++ (At p.2 (k + 1) ++ rowT k l)) ++ r = (opT q.1.op ++ (At q.2 (k + 1) ++ rowT k m)) ++ s := e
    have hN' : ((opT p.1.op ++ (At p.2 (k + 1) ++ rowT k l)) ++ r).length ≤ N := hN
    rw [List.append_assoc, List.append_assoc, List.append_assoc, List.append_assoc] at e'
    rw [List.append_assoc, List.append_assoc, List.length_append] at hN'
    obtain ⟨e1, e2⟩ := sign_split a3 a4 b3 b4 _ _ (at_noeq a6 _ _) (at_noeq b6 _ _) e'
    have hl' : ∀ x ∈ l, Sign k x := fun x hx => hl x (by simp [hx])
    have hm' : ∀ x ∈ m, Sign k x := fun x hx => hm x (by simp [hx])
    obtain ⟨e3, e4⟩ := H p.2 q.2 _ _ a6 b6 (row_stop h4 hl' hr) (row_stop h4 hm' hs) e2 (by omega)
    rw [List.length_append] at hN'
    obtain ⟨e5, e6⟩ := rows_same h4 H l m r s hl' hm' hr hs e4 (by omega)
    exact ⟨by rw [e5, show p = q from Prod.ext (op_same a1 b1 a2 b2 e1) e3], e6⟩
theorem level_low {k : Int} {N : Nat} (h1 : 1 ≤ k) (h4 : k ≤ 4) (H : Same (k + 1) N) : Same k N := by
  intro t u r s ht hu hr hs e hN
  obtain ⟨g, l, t1, t2, t3, t4⟩ := spine h1 h4 ht
  obtain ⟨f, m, u1, u2, u3, u4⟩ := spine h1 h4 hu
  rw [t4, u4, List.append_assoc, List.append_assoc] at e
  rw [t4, List.append_assoc] at hN
  obtain ⟨e1, e2⟩ := H g f _ _ t2 u2 (row_stop h4 t3 hr) (row_stop h4 u3 hs) e hN
  rw [List.length_append] at hN
  obtain ⟨e3, e4⟩ := rows_same h4 H l m r s t3 u3 hr hs e2 (by omega)
  exact ⟨by rw [t1, u1, e1, e3], e4⟩
/-- what binds at five is a neg -/
theorem neg_form : ∀ {t : Tm}, Fine t → t.binds = 5 → ∃ n a, t = un n a ∧ n.op = 1
  | leaf _, _, hb => absurd hb (by show ¬ (7 : Int) = 5; decide)
  | call _ _, _, hb => absurd hb (by show ¬ (7 : Int) = 5; decide)
  | bin n _ _, h, hb => by
    obtain ⟨_, _, h3, h13, _⟩ := h.bin
    have := level_two h3 h13
    have hb' : levelI n.op = 5 := hb
    omega
  | un n a, h, hb => by
    obtain ⟨_, _, ho, _⟩ := h.un
    rcases ho with ho | ho
    · exact ⟨n, a, rfl, ho⟩
    · have hb' : levelI n.op = 5 := hb
      rw [ho] at hb'
      exact absurd hb' (by decide)
  | anil, h, _ => h.1.elim
  | acons _ _, h, _ => h.1.elim
theorem pct_form : ∀ {t : Tm}, Fine t → t.binds = 6 → ∃ n a, t = un n a ∧ n.op = 2
  | leaf _, _, hb => absurd hb (by show ¬ (7 : Int) = 6; decide)
  | call _ _, _, hb => absurd hb (by show ¬ (7 : Int) = 6; decide)
  | bin n _ _, h, hb => by
    obtain ⟨_, _, h3, h13, _⟩ := h.bin
    have := level_two h3 h13
    have hb' : levelI n.op = 6 := hb
    omega
  | un n a, h, hb => by
    obtain ⟨_, _, ho, _⟩ := h.un
    rcases ho with ho | ho
    · have hb' : levelI n.op = 6 := hb
      rw [ho] at hb'
      exact absurd hb' (by decide)
    · exact ⟨n, a, rfl, ho⟩
  | anil, h, _ => h.1.elim
  | acons _ _, h, _ => h.1.elim
theorem no_neg {t : Tm} (h : Fine t) (hb : t.binds ≠ 5) (r x : List UInt8) (e : At t 5 ++ r = 45 :: x) : False := by
  obtain ⟨b, l, e1, e2⟩ := head_at h 6
  rw [at_next hb, show (5 : Int) + 1 = 6 from rfl, e1] at e
  injection e with e3 _
  rw [e3] at e2
  revert e2; decide
theorem level_neg {N : Nat} (H6 : Same 6 (N + 1)) (H : Same 5 N) : Same 5 (N + 1) := by
  intro t u r s ht hu hr hs e hN
  by_cases bt : t.binds = 5
  · obtain ⟨n, a, rfl, ho⟩ := neg_form ht bt
    rw [at_high (by omega), text_neg ho] at e hN
    by_cases bu : u.binds = 5
    · obtain ⟨m, b, rfl, go⟩ := neg_form hu bu
      rw [at_high (t := un m b) (by omega), text_neg go] at e
      injection e with _ e
      obtain ⟨m1, m2, _, ha⟩ := ht.un
      obtain ⟨k1, k2, _, hb⟩ := hu.un
      obtain ⟨e1, e2⟩ := H a b r s ha hb hr hs e (by simp at hN ⊢; omega)
      exact ⟨by rw [e1, op_same m1 k1 m2 k2 (by rw [ho, go])], e2⟩
    · exact (no_neg hu bu s _ e.symm).elim
  · by_cases bu : u.binds = 5
    · obtain ⟨m, b, rfl, go⟩ := neg_form hu bu
      rw [at_high (t := un m b) (by omega), text_neg go] at e
      exact (no_neg ht bt r _ e).elim
    · rw [at_next bt, at_next bu] at e
      rw [at_next bt] at hN
      exact H6 t u r s ht hu (hr.up (by decide)) (hs.up (by decide)) e hN
/-- signs of parts of a hundred behind a thing -/
def growP (n : NL) (h : Tm) : Nat → Tm
  | 0 => h
  | m + 1 => un n (growP n h m)
theorem spine_pct : ∀ {t : Tm}, Fine t → ∃ h m, t = growP ⟨4, ⟨0, 0, ⟨#[]⟩, false, 0⟩, 0, 0, 0, 0, 0, 0, 2, ⟨#[]⟩, 0⟩ h m ∧ Fine h ∧ At t 6 = At h 7 ++ List.replicate m 37 := by
  intro t
  induction t with
  | un n a ih =>
    intro h
    by_cases hb : (un n a).binds = 6
    · obtain ⟨m, b, e, ho⟩ := pct_form h hb
      injection e with en ea
      rw [← en] at ho
      obtain ⟨m1, m2, _, ha⟩ := h.un
      obtain ⟨g, j, e1, e2, e3⟩ := ih ha
      refine ⟨g, j + 1, ?_, e2, ?_⟩
      · have hn := may_op m1 m2
        rw [ho] at hn
        show _ = un _ (growP _ g j)
        rw [← e1, ← hn]
      · rw [at_high (by omega), text_pct ho, e3, List.replicate_succ', List.append_assoc]
    · exact ⟨_, 0, rfl, h, by rw [at_next hb]; exact (List.append_nil _).symm⟩
  | bin n a b _ _ =>
    intro h
    have hb : (bin n a b).binds ≠ 6 := fun hb => by
      obtain ⟨m, c, e, _⟩ := pct_form h hb
      cases e
    exact ⟨_, 0, rfl, h, by rw [at_next hb]; exact (List.append_nil _).symm⟩
  | leaf n => intro h; exact ⟨_, 0, rfl, h, by rw [at_next (by show (7 : Int) ≠ 6; decide)]; exact (List.append_nil _).symm⟩
  | call n c _ => intro h; exact ⟨_, 0, rfl, h, by rw [at_next (by show (7 : Int) ≠ 6; decide)]; exact (List.append_nil _).symm⟩
  | anil => intro h; exact h.1.elim
  | acons a r _ _ => intro h; exact h.1.elim
theorem pct_stop {r : List UInt8} (hr : StopK 6 r) : ∀ m : Nat, StopK 7 (List.replicate m 37 ++ r)
  | 0 => hr.up (by decide)
  | m + 1 => by rw [List.replicate_succ]; exact stop_pct
theorem pct_no {r : List UInt8} (hr : StopK 6 r) : NoHead (fun b => decide (b = 37)) r := fun b t e => by
  have := hr b t e
  unfold stopB at this
  simp only [Bool.or_eq_false_iff, Bool.and_eq_false_iff, decide_eq_false_iff_not] at this
  rcases this.1.2 with h | h
  · simpa using h
  · exact absurd (by decide) h
theorem level_pct {N : Nat} (H : Same 7 N) : Same 6 N := by
  intro t u r s ht hu hr hs e hN
  obtain ⟨g, l, t1, t2, t3⟩ := spine_pct ht
  obtain ⟨f, m, u1, u2, u3⟩ := spine_pct hu
  rw [t3, u3, List.append_assoc, List.append_assoc] at e
  rw [t3, List.append_assoc] at hN
  obtain ⟨e1, e2⟩ := H g f _ _ t2 u2 (pct_stop hr l) (pct_stop hs m) e hN
  obtain ⟨e3, e4⟩ := word_split (fun b => decide (b = 37)) _ _ r s (fun x hx => by simp [List.eq_of_mem_replicate hx]) (fun x hx => by simp [List.eq_of_mem_replicate hx]) (pct_no hr) (pct_no hs) e2
  have e5 : l = m := by have := congrArg List.length e3; simpa using this
  exact ⟨by rw [t1, u1, e1, e5], e4⟩
end Tm
end Go.Proofs.YtfbkoieodflcpaaDoor
