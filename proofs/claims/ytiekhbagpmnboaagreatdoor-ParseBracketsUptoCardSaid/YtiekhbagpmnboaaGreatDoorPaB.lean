/-
  Plain: brackets around the whole.
-/
import Derived.Test.YtiekhbagpmnboaaGreatDoorMg1
import Derived.Test.YtiekhbagpmnboaaGreatDoorRows
import Derived.Test.YtiekhbagpmnboaaGreatDoorMg0
import Derived.Test.YtiekhbagpmnboaaGreatDoorProg
import Derived.Test.YtiekhbagpmnboaaGreatDoorAddrC
import Derived.Test.YtiekhbagpmnboaaGreatDoorMg3
import Derived.Test.YtiekhbagpmnboaaGreatDoorMg4
import Derived.Test.YtiekhbagpmnboaaGreatDoorValA
import Derived.Test.YtiekhbagpmnboaaGreatDoorValB
import Derived.Test.YtiekhbagpmnboaaGreatDoorMg7
import Derived.Test.YtiekhbagpmnboaaGreatDoorLexP
import Derived.Test.YtiekhbagpmnboaaGreatDoorMg9
import Derived.Test.YtiekhbagpmnboaaGreatDoorPaP
import Derived.Test.YtiekhbagpmnboaaGreatDoorMg15
import Derived.Lib.ItoaMem
import Derived.Lib.TrimByte
import Derived.Lib.IndexLaws
import Derived.Lib.SlTrimSet
import Derived.Lib.ParseIntB
import Derived.WalkKit
import Derived.ProofKit
import Derived.OpenShut
import Derived.Carry
import Derived.ChangeSame
import Derived.Lib.Hide
import Derived.Deep.Draws
import Derived.Shelf.Strings.Builder1
import Derived.Shelf.Strings.Trim
import Derived.Shelf.Small.Utf8
import Derived.Shelf.Small.Strs
import Derived.Shelf.Small.Wraps
import Derived.Shelf.Strings.BuilderF
import Derived.Shelf.Strings.BuilderK
import Derived.Shelf.Strconv.Itoa0
import Derived.Shelf.Strconv.Itoa1
import Derived.Shelf.LaysM
import Derived.Shelf.Strconv.Itoa2
import Derived.Shelf.Strconv.Itoa3
import Derived.Ground.MpProg
import Derived.Shelf.Pu.ParseUintPublic10
import Derived.Shelf.Strings.Search1
import Derived.Shelf.Strings.Search2
import Derived.Shelf.Strings.Cut
import Derived.Shelf.Strings.Shaped
import Derived.Shelf.Strings.Prefix
import Derived.Shelf.Strings.Runes
import Derived.Shelf.Strings.AsciiSet
import Derived.Shelf.Unicode.DecodeSlow
import Derived.WalkSpells
import Derived.WalkLawsBesides
import Derived.StillTactics
import Derived.Laws.Pointers
import Derived.Deep.RegionHeld3
import Derived.Deep.QuietTactic
import Derived.BigQuiet
import Derived.RowKit3
import Derived.Lib.OthersKept
import Derived.OwnWalk
import Derived.Lib.ItoaNum
import Derived.Maps.OwnSet
import Derived.Maps.AppendAt
namespace Go.Proofs.YtiekhbagpmnboaaGreatDoor
open Go.RowKit

/-- the same tokens, the last one a closing bracket and one more behind it; one bracket more is open -/
structure BR (cl e1 e2 : Tok) (s t : PS) : Prop where
  toks : ∃ l, s.now :: s.rest = l ++ [e1] ∧ t.now :: t.rest = l ++ [cl, e2] ∧ ∀ x ∈ l, x.last = false
  opn : t.opn = s.opn + 1
  nodes : t.nodes = s.nodes
structure Ends (cl e1 e2 : Tok) : Prop where
  k1 : e1.kind = 0
  k2 : e2.kind = 0
  kc : cl.kind = 7
  sc : cl.str = ⟨#[41]⟩
theorem BR.cases {cl e1 e2 : Tok} {s t : PS} (h : BR cl e1 e2 s t) : (s.now = e1 ∧ s.rest = [] ∧ t.now = cl ∧ t.rest = [e2]) ∨ (s.now = t.now ∧ s.now.last = false ∧ BR cl e1 e2 s.step t.step) := by
  obtain ⟨⟨l, h1, h2, h3⟩, ho, hn⟩ := h
  cases l with
  | nil =>
    simp at h1 h2
    exact .inl ⟨h1.1, h1.2, h2.1, h2.2⟩
  | cons x l =>
    simp only [List.cons_append, List.cons.injEq] at h1 h2
    refine .inr ⟨by rw [h1.1, h2.1], by rw [h1.1]; exact h3 x (by simp), ?_, by rw [PS.step_opn, PS.step_opn]; exact ho, by rw [PS.step_nodes, PS.step_nodes]; exact hn⟩
    refine ⟨l, ?_, ?_, fun y hy => h3 y (by simp [hy])⟩
    · unfold PS.step
      rw [h1.2]
      cases l <;> rfl
    · unfold PS.step
      rw [h2.2]
      cases l <;> rfl
theorem BR.set {cl e1 e2 : Tok} {s t : PS} (h : BR cl e1 e2 s t) (o : Int) (n : List NL) : BR cl e1 e2 { s with opn := s.opn + o, nodes := n } { t with opn := t.opn + o, nodes := n } :=
  ⟨h.toks, by have := h.opn; show t.opn + o = s.opn + o + 1; omega, rfl⟩
theorem BR.wf {cl e1 e2 : Tok} {s t : PS} (E : Ends cl e1 e2) (h : BR cl e1 e2 s t) : s.wf := by
  obtain ⟨⟨l, h1, _, _⟩, _, _⟩ := h
  exact ⟨l, e1, h1, by simp [Tok.last, E.k1]⟩
/-- what may come of it: the same, or too deep a nesting, where as many brackets are opened -/
inductive BW (cl e1 e2 : Tok) (s t : PS) (m : Md) (s' : PS) : Option PR → Prop where
  | ok (t' : PS) (h : BR cl e1 e2 s' t') : BW cl e1 e2 s t m s' (some (.ok t'))
  | deep (a : Int) (h : 32 ≤ s.opn + s.cnt) (ha : ∃ x ∈ t.now :: t.rest, x.place = a) : BW cl e1 e2 s t m s' (some (.bad 7 a))
theorem BW.up {cl e1 e2 : Tok} {s t s1 t1 : PS} {m m1 : Md} {s' : PS} {x : Option PR} (h : BW cl e1 e2 s1 t1 m1 s' x) (hk : s1.opn + s1.cnt ≤ s.opn + s.cnt) (hs : (t1.now :: t1.rest) <:+ (t.now :: t.rest)) : BW cl e1 e2 s t m s' x := by
  cases h with
  | ok t' h => exact .ok t' h
  | deep a h ha =>
    obtain ⟨y, hy, e⟩ := ha
    exact .deep a (by omega) ⟨y, hs.subset hy, e⟩
theorem BW.bind {cl e1 e2 : Tok} {s t s1 : PS} {m m1 : Md} {s' : PS} {x : Option PR} {f : PS → Option PR} (h : BW cl e1 e2 s t m1 s1 x) (hf : ∀ t1, x = some (.ok t1) → BR cl e1 e2 s1 t1 → BW cl e1 e2 s t m s' (f t1)) : BW cl e1 e2 s t m s' (bindR x f) := by
  cases h with
  | ok t1 h => exact hf t1 rfl h
  | deep a h ha => exact .deep a h ha
theorem br_add {cl e1 e2 : Tok} {s t s1 : PS} {n : NL} {a : Int} (b : Int) (h : BR cl e1 e2 s t) (ha : s.add n a = .ok s1) : ∃ t1, t.add n b = .ok t1 ∧ BR cl e1 e2 s1 t1 ∧ t1 = { t with nodes := t.nodes ++ [n] } := by
  obtain ⟨rfl, hn⟩ := add_some ha
  refine ⟨_, ?_, ?_, rfl⟩
  · unfold PS.add; rw [h.nodes, if_neg hn]
  · have := h.set 0 (s.nodes ++ [n])
    rw [h.nodes]; simpa using this
theorem br_negs {cl e1 e2 : Tok} : ∀ {l : List Int} {s t s' : PS}, BR cl e1 e2 s t → negs l s = .ok s' → ∃ t', negs l t = .ok t' ∧ BR cl e1 e2 s' t'
  | [], s, t, s', h, hs => by simp only [negs] at hs ⊢; injection hs with hs; subst hs; exact ⟨t, rfl, h⟩
  | a :: l, s, t, s', h, hs => by
    simp only [negs] at hs ⊢
    split at hs
    · cases hs
    · rename_i s1 h1
      obtain ⟨t1, e1, h2, _⟩ := br_add a h h1
      rw [e1]
      exact br_negs h2 hs
theorem br_is {s t : PS} (c : List UInt8) (h : s.now = t.now) : t.is c = s.is c := by unfold PS.is; rw [h]
theorem br_opens {cl e1 e2 : Tok} (E : Ends cl e1 e2) {s t s1 : PS} (h : BR cl e1 e2 s t) (hs : s.opens = .ok s1) : BW cl e1 e2 s t .prim s1 (some t.opens) := by
  obtain ⟨rfl, h40, h32⟩ := opens_some hs
  rcases h.cases with ⟨e, _, _, _⟩ | ⟨e, hl, hst⟩
  · have := PS.is_kind h40
    rw [e, E.k1] at this
    omega
  · have ht : t.is [40] = true := (br_is [40] e).trans h40
    unfold PS.opens
    rw [if_neg (by simp [ht])]
    by_cases h5 : t.opn = 32
    · rw [if_pos h5]
      refine .deep _ ?_ ⟨t.now, by simp, rfl⟩
      have ho := h.opn
      have : 1 ≤ s.cnt := by
        unfold PS.cnt
        rw [List.countP_cons, if_pos (show (decide (s.now.kind = 7) && decide (s.now.str = ⟨#[40]⟩)) = true from h40)]
        omega
      omega
    · rw [if_neg h5]
      refine .ok _ ?_
      rcases (h.set 1 s.nodes).cases with ⟨e', _⟩ | ⟨_, _, h6⟩
      · have := PS.is_kind h40
        rw [show s.now = e1 from e', E.k1] at this
        omega
      · have h7 := h.nodes
        obtain ⟨a, b, c, d⟩ := t
        simp only at h7
        subst h7
        exact h6
theorem br_closes {cl e1 e2 : Tok} (E : Ends cl e1 e2) {s t s1 : PS} (h : BR cl e1 e2 s t) (hs : s.closes = .ok s1) : ∃ t1, t.closes = .ok t1 ∧ BR cl e1 e2 s1 t1 := by
  obtain ⟨rfl, h41⟩ := closes_some hs
  rcases h.cases with ⟨e, _, _, _⟩ | ⟨e, hl, hst⟩
  · have := PS.is_kind h41
    rw [e, E.k1] at this
    omega
  · have ht : t.is [41] = true := (br_is [41] e).trans h41
    unfold PS.closes
    rw [if_neg (by simp [ht])]
    refine ⟨_, rfl, ?_⟩
    rcases (h.set (-1) s.nodes).cases with ⟨e', _⟩ | ⟨_, _, h6⟩
    · have := PS.is_kind h41
      rw [show s.now = e1 from e', E.k1] at this
      omega
    · have h7 := h.nodes
      obtain ⟨a, b, c, d⟩ := t
      simp only at h7
      subst h7
      exact h6
theorem br_sig {s t : PS} (l : List (List UInt8 × Int)) (h : s.now = t.now) : t.sig l = s.sig l := by
  unfold PS.sig PS.is
  rw [h]
theorem sgn_41 (k : Nat) : ∀ x ∈ sgn k, x.1 ≠ [41] := by
  intro x hx
  unfold sgn at hx
  split at hx <;> simp at hx <;> (rcases hx with rfl | rfl | rfl | rfl | rfl | rfl) <;> simp
theorem sig_cl {cl : Tok} (hc : cl.kind = 7) (hs : cl.str = ⟨#[41]⟩) (k : Nat) {t : PS} (ht : t.now = cl) : t.sig (sgn k) = none := by
  unfold PS.sig
  rw [Option.map_eq_none_iff, List.find?_eq_none]
  intro x hx
  have := sgn_41 k x hx
  unfold PS.is
  rw [ht, hc, hs]
  simp
  intro h
  exact this h.symm
theorem px_br {cl e1 e2 : Tok} (E : Ends cl e1 e2) (tb : Tb) : ∀ (f : Nat) (m : Md) (s t s' : PS), m.ok → BR cl e1 e2 s t → px tb f m s = some (.ok s') → BW cl e1 e2 s t m s' (px tb f m t) := by
  intro f
  induction f with
  | zero => intro m s t s' _ _ h; cases h
  | succ f ih =>
    intro m s t s' hm hb h
    have hk : ∀ {m1 : Md} {g : Nat} {a b : PS}, a.wf → px tb g m1 a = some (.ok b) → b.wf ∧ b.opn + b.cnt ≤ a.opn + a.cnt := fun hw h => opens_inv.px tb _ _ _ _ h hw
    have hst : ∀ {a : PS}, a.step.opn + a.step.cnt ≤ a.opn + a.cnt := fun {a} => by have := cnt_step a; rw [PS.step_opn]; omega
    have hend : s.now = e1 → s.rest = [] → m.strict = 1 → False := fun h1 h2 h3 => by
      have := (px_after tb (hb.wf E) hm h).len
      rw [h2, h3] at this
      simp at this
    have hsf : ∀ {m1 : Md} {g : Nat} {a b : PS}, px tb g m1 a = some (.ok b) → (b.now :: b.rest) <:+ (a.now :: a.rest) := fun h => suffix_inv.px tb _ _ _ _ h
    cases m with
    | lev k =>
      rw [px] at h ⊢
      simp only [Md.ok] at hm
      split
      · rename_i hk4
        rw [if_pos hk4] at h
        exact (ih (.neg []) s t s' trivial hb h).up (Int.le_refl _) (List.suffix_refl _)
      · rename_i hk4
        rw [if_neg hk4] at h
        obtain ⟨s1, h1, h2⟩ := bindR_ok h
        have hk5 : k + 1 ≤ 4 := by omega
        refine (ih (.lev (k + 1)) s t s1 hk5 hb h1).bind (m1 := .lev (k + 1)) fun t1 e1' b1 => ?_
        exact (ih (.loop k) s1 t1 s' (by simp only [Md.ok]; omega) b1 h2).up (hk (hb.wf E) h1).2 (hsf e1')
    | loop k =>
      rw [px] at h ⊢
      simp only [Md.ok] at hm
      rcases hb.cases with ⟨c1, c2, c3, c4⟩ | ⟨c1, c2, c3⟩
      · rw [sig_cl E.kc E.sc k c3]
        have hn : s.sig (sgn k) = none := by
          unfold PS.sig
          rw [Option.map_eq_none_iff, List.find?_eq_none]
          intro x _
          unfold PS.is
          rw [c1, E.k1]
          simp
        rw [hn] at h
        injection h with h; injection h with h; subst h
        exact .ok t hb
      · rw [br_sig _ c1]
        split
        · rename_i hs
          rw [hs] at h
          injection h with h; injection h with h; subst h
          exact .ok t hb
        · rename_i o hs
          rw [hs] at h
          obtain ⟨s1, h1, h2⟩ := bindR_ok h
          obtain ⟨s2, h3, h4⟩ := bindR_ok h2
          injection h3 with h3
          have hk5 : k + 1 ≤ 4 := by omega
          have B1 := (ih (.lev (k + 1)) s.step t.step s1 hk5 c3 h1).up (s := s) (t := t) (m := .lev (k + 1)) hst (step_suffix t)
          refine B1.bind fun t1 e1' b1 => ?_
          obtain ⟨t2, e2', b2, e3'⟩ := br_add t.now.place b1 h3
          rw [e2']
          refine (ih (.loop k) s2 t2 s' (by simp only [Md.ok]; omega) b2 h4).up ?_ ?_
          · have a1 := (hk (c3.wf E) h1).2
            have a2 := hst (a := s)
            obtain ⟨rfl, _⟩ := add_some h3
            exact Int.le_trans a1 a2
          · subst e3'
            exact (hsf e1').trans (step_suffix t)
    | neg ats =>
      rcases hb.cases with ⟨c1, c2, c3, c4⟩ | ⟨c1, c2, c3⟩
      · exact (hend c1 c2 rfl).elim
      · rw [px] at h ⊢
        rw [br_is [45] c1]
        split
        · rename_i hs
          rw [if_pos hs, c1] at h
          exact (ih (.neg _) s.step t.step s' trivial c3 h).up hst (step_suffix t)
        · rename_i hs
          rw [if_neg hs] at h
          obtain ⟨s1, h1, h2⟩ := bindR_ok h
          obtain ⟨s2, h3, h4⟩ := bindR_ok h2
          injection h4 with h4
          refine (ih .prim s t s1 trivial hb h1).bind (m1 := .prim) fun t1 e1' b1 => ?_
          have B2 := (ih .pct s1 t1 s2 trivial b1 h3).up (s := s) (t := t) (m := .pct) (hk (hb.wf E) h1).2 (hsf e1')
          refine B2.bind fun t2 e2' b2 => ?_
          obtain ⟨t3, e3', b3⟩ := br_negs b2 h4
          rw [e3']
          exact .ok t3 b3
    | pct =>
      rw [px] at h ⊢
      rcases hb.cases with ⟨c1, c2, c3, c4⟩ | ⟨c1, c2, c3⟩
      · have hn : s.is [37] = false := by unfold PS.is; rw [c1, E.k1]; simp
        have hn2 : t.is [37] = false := by unfold PS.is; rw [c3, E.sc]; simp
        rw [if_neg (by simp [hn])] at h
        rw [if_neg (by simp [hn2])]
        injection h with h; injection h with h; subst h
        exact .ok t hb
      · rw [br_is [37] c1]
        split
        · rename_i hs
          rw [if_pos hs] at h
          obtain ⟨s1, h1, h2⟩ := bindR_ok h
          injection h1 with h1
          obtain ⟨t1, e1', b1, e2'⟩ := br_add t.now.place hb h1
          rw [e1']
          rcases b1.cases with ⟨d1, _⟩ | ⟨d1, d2, d3⟩
          · obtain ⟨rfl, _⟩ := add_some h1
            rw [show s.now = e1 from d1] at c2
            simp [Tok.last, E.k1] at c2
          · subst e2'
            refine (ih .pct s1.step _ s' trivial d3 h2).up ?_ (step_suffix { t with nodes := t.nodes ++ [opN 2] })
            obtain ⟨rfl, _⟩ := add_some h1
            exact hst (a := { s with nodes := s.nodes ++ [opN 2] })
        · rename_i hs
          rw [if_neg hs] at h
          injection h with h; injection h with h; subst h
          exact .ok t hb
    | prim =>
      rcases hb.cases with ⟨c1, c2, c3, c4⟩ | ⟨c1, c2, c3⟩
      · exact (hend c1 c2 rfl).elim
      · rw [px] at h ⊢
        rw [← c1]
        split
        · rename_i n hn
          rw [hn] at h
          obtain ⟨s1, h1, h2⟩ := bindR_ok h
          injection h1 with h1
          injection h2 with h2; injection h2 with h2; subst h2
          obtain ⟨t1, e1', b1, e2'⟩ := br_add s.now.place hb h1
          rw [e1']
          rcases b1.cases with ⟨d1, _⟩ | ⟨d1, d2, d3⟩
          · obtain ⟨rfl, _⟩ := add_some h1
            rw [show s.now = e1 from d1] at c2
            simp [Tok.last, E.k1] at c2
          · exact .ok _ d3
        · rename_i hn
          rw [hn] at h
          dsimp only at h
          split
          · rename_i h3
            rw [if_pos h3] at h
            split
            · rename_i h4
              rw [if_pos h4] at h
              injection h with h; cases h
            · rename_i h4
              rw [if_neg h4] at h
              obtain ⟨s1, h1, h2⟩ := bindR_ok h
              injection h1 with h1
              have B1 := (br_opens E c3 h1).up (s := s) (t := t) (m := .prim) hst (step_suffix t)
              refine B1.bind fun t1 e1' b1 => ?_
              injection e1' with e1'
              obtain ⟨e3', f1, _⟩ := opens_some e1'
              obtain ⟨e4', f2, _⟩ := opens_some h1
              refine (ih (.args _ _ _) s1 t1 s' trivial b1 h2).up ?_ ?_
              · have := (opens_inv.opens s.step f2 (c3.wf E)).2
                rw [← e4'] at this
                exact Int.le_trans this hst
              · rw [e3']; exact (step_suffix { t.step with opn := t.step.opn + 1 }).trans (step_suffix t)
          · rename_i h3
            rw [if_neg h3] at h
            obtain ⟨s1, h1, h2⟩ := bindR_ok h
            injection h1 with h1
            obtain ⟨s2, h3', h4⟩ := bindR_ok h2
            injection h4 with h4
            refine (br_opens E hb h1).bind fun t1 e1' b1 => ?_
            injection e1' with e1'
            obtain ⟨e3', f1, _⟩ := opens_some e1'
            obtain ⟨e4', f2, _⟩ := opens_some h1
            have hk0 : (0 : Nat) ≤ 4 := by omega
            have B2 := (ih (.lev 0) s1 t1 s2 hk0 b1 h3').up (s := s) (t := t) (m := .lev 0) (by
              have := (opens_inv.opens s f2 (hb.wf E)).2
              rw [← e4'] at this
              exact this) (by rw [e3']; exact step_suffix { t with opn := t.opn + 1 })
            refine B2.bind fun t2 e2' b2 => ?_
            obtain ⟨t3, e5', b3⟩ := br_closes E b2 h4
            rw [e5']
            exact .ok t3 b3
    | args nm p rects =>
      rcases hb.cases with ⟨c1, c2, c3, c4⟩ | ⟨c1, c2, c3⟩
      · exact (hend c1 c2 rfl).elim
      · rw [px] at h ⊢
        rw [br_is [41] c1, br_is [44] c1]
        split
        · rename_i h1
          rw [if_pos h1] at h
          split
          · rename_i h2
            rw [if_pos h2] at h
            obtain ⟨s1, h3, h4⟩ := bindR_ok h
            injection h3 with h3
            injection h4 with h4
            obtain ⟨t1, e1', b1, e2'⟩ := br_add p hb h3
            rw [e1']
            obtain ⟨t3, e5', b3⟩ := br_closes E b1 h4
            show BW cl e1 e2 s t _ s' (some t1.closes)
            rw [e5']
            exact .ok t3 b3
          · rename_i h2
            rw [if_neg h2] at h
            injection h with h; cases h
        · rename_i h1
          rw [if_neg h1] at h
          split
          · rename_i h2
            rw [if_pos h2] at h
            injection h with h; cases h
          · rename_i h2
            rw [if_neg h2] at h
            obtain ⟨s1, h3, h4⟩ := bindR_ok h
            have hb1 : BR cl e1 e2 s1 (if rects = [] then t else t.step) := by
              injection h3 with h3; injection h3 with h3; subst h3
              split
              · exact hb
              · exact c3
            have hk1 : s1.opn + s1.cnt ≤ s.opn + s.cnt := by
              injection h3 with h3; injection h3 with h3; subst h3
              split
              · exact Int.le_refl _
              · exact hst
            have hs1 : ((if rects = [] then t else t.step).now :: (if rects = [] then t else t.step).rest) <:+ (t.now :: t.rest) := by
              split
              · exact List.suffix_refl _
              · exact step_suffix t
            show BW cl e1 e2 s t _ s' (if (if rects = [] then t else t.step).now.kind = 5 then _ else _)
            generalize (if rects = [] then t else t.step) = t1 at hb1 hs1
            rcases hb1.cases with ⟨d1, d2, d3, d4⟩ | ⟨d1, d2, d3⟩
            · exfalso
              rw [if_neg (by rw [d1, E.k1]; omega)] at h4
              obtain ⟨s2, h5, h6⟩ := bindR_ok h4
              have := (px_after tb (hb1.wf E) (show Md.ok (.lev 0) from by simp [Md.ok]) h5).len
              rw [d2] at this
              simp [Md.strict] at this
            · rw [← d1]
              split
              · rename_i h5
                rw [if_pos h5] at h4
                obtain ⟨s2, h6, h7⟩ := bindR_ok h4
                injection h6 with h6
                obtain ⟨t2, e1', b1, e2'⟩ := br_add s1.now.place hb1 h6
                rw [e1']
                rcases b1.cases with ⟨g1, _⟩ | ⟨g1, g2, g3⟩
                · obtain ⟨rfl, _⟩ := add_some h6
                  rw [show s1.now = e1 from g1] at d2
                  simp [Tok.last, E.k1] at d2
                · refine (ih (.args _ _ _) s2.step t2.step s' trivial g3 h7).up ?_ ?_
                  · obtain ⟨rfl, _⟩ := add_some h6
                    exact Int.le_trans (hst (a := { s1 with nodes := _ })) hk1
                  · subst e2'
                    exact (step_suffix { t1 with nodes := _ }).trans hs1
              · rename_i h5
                rw [if_neg h5] at h4
                obtain ⟨s2, h6, h7⟩ := bindR_ok h4
                have hk0 : (0 : Nat) ≤ 4 := by omega
                have B2 := (ih (.lev 0) s1 t1 s2 hk0 hb1 h6).up (s := s) (t := t) (m := .lev 0) hk1 hs1
                refine B2.bind fun t2 e2' b2 => ?_
                exact (ih (.args _ _ _) s2 t2 s' trivial b2 h7).up (Int.le_trans (hk (hb1.wf E) h6).2 hk1) ((hsf e2').trans hs1)
end Go.Proofs.YtiekhbagpmnboaaGreatDoor
