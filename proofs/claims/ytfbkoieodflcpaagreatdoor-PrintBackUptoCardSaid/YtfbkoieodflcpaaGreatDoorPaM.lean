/-
  Plain: what is read out of tokens that may be is a formula that may be.
-/
import Derived.Test.YtfbkoieodflcpaaGreatDoorMg3
import Derived.Test.YtfbkoieodflcpaaGreatDoorRows
import Derived.Test.YtfbkoieodflcpaaGreatDoorMg0
import Derived.Test.YtfbkoieodflcpaaGreatDoorProg
import Derived.Test.YtfbkoieodflcpaaGreatDoorShelf
import Derived.Test.YtfbkoieodflcpaaGreatDoorMg4
import Derived.Test.YtfbkoieodflcpaaGreatDoorAddrC
import Derived.Test.YtfbkoieodflcpaaGreatDoorMg6
import Derived.Test.YtfbkoieodflcpaaGreatDoorValA
import Derived.Test.YtfbkoieodflcpaaGreatDoorValB
import Derived.Test.YtfbkoieodflcpaaGreatDoorMg9
import Derived.Test.YtfbkoieodflcpaaGreatDoorMg10
import Derived.Test.YtfbkoieodflcpaaGreatDoorPaP
import Derived.Test.YtfbkoieodflcpaaGreatDoorMg22
import Derived.Lib.ItoaMem
import Derived.Lib.TrimByte
import Derived.Lib.IndexLaws
import Derived.Lib.SlTrimSet
import Derived.Lib.ParseIntB
import Derived.WalkKit
import Derived.ProofKit
import Derived.OpenShut
import Derived.Carry
import Derived.ChangeSame
import Derived.Lib.Hide
import Derived.Deep.Draws
import Derived.Shelf.Strings.Builder1
import Derived.Shelf.Strings.Builder2
import Derived.Shelf.Strings.Trim
import Derived.Shelf.Small.Utf8
import Derived.Shelf.Small.Strs
import Derived.Shelf.Small.Wraps
import Derived.Shelf.Strings.BuilderF
import Derived.Shelf.Strings.BuilderK
import Derived.Shelf.Utf8.RuneCount
import Derived.Shelf.Strconv.Itoa0
import Derived.Shelf.Strconv.Itoa1
import Derived.Shelf.LaysM
import Derived.Shelf.Strconv.Itoa2
import Derived.Shelf.Strconv.Itoa3
import Derived.Ground.MpProg
import Derived.Shelf.Pu.ParseUintPublic10
import Derived.Shelf.Strings.Search1
import Derived.Shelf.Strings.Search2
import Derived.Shelf.Strings.Search3
import Derived.Shelf.Strings.Cut
import Derived.Shelf.Strings.Count
import Derived.Shelf.Strings.Shaped
import Derived.Shelf.Strings.Prefix
import Derived.Shelf.Strings.Split
import Derived.Shelf.Strings.Replace
import Derived.Shelf.Strings.SplitShaped
import Derived.Shelf.Unicode.Decode
import Derived.Shelf.Strings.Runes
import Derived.Shelf.Strings.RuneCount
import Derived.Shelf.Strings.AsciiSet
import Derived.Shelf.Unicode.DecodeSlow
import Derived.Shelf.Unicode.DecodeAny
import Derived.Shelf.Unicode.DecodeLast
import Derived.WalkSpells
import Derived.WalkLawsBesides
import Derived.StillTactics
import Derived.Laws.Pointers
import Derived.Deep.RegionHeld3
import Derived.Deep.QuietTactic
import Derived.BigQuiet
import Derived.RowKit3
import Derived.Lib.OthersKept
import Derived.OwnWalk
import Derived.Lib.ItoaNum
import Derived.Maps.OwnSet
import Derived.Maps.AppendAt
namespace Go.Proofs.YtfbkoieodflcpaaGreatDoor
open Go.RowKit

/-- a token out of which nodes come that may be -/
structure TokOk (x : Tok) : Prop where
  leaf : ∀ n, leafN x = some n → n.may = true
  rect : x.kind = 5 → (rectN' x.t x.l x.b x.q).may = true
  word : x.kind = 3 → leafN x = none → x.str.size ≤ 16 → namedB x.str.data.toList = true
def RP (st : List PL) (ns : List NL) (st' : List PL) : Prop := ns.foldl (fun st n => st.bind fun s => stepP s n) (some st) = some st'
theorem RP.nil (st : List PL) : RP st [] st := rfl
theorem RP.app {a b c : List PL} {n m : List NL} (h : RP a n b) (k : RP b m c) : RP a (n ++ m) c := by
  unfold RP at *
  rw [List.foldl_append, h, k]
theorem RP.one {st st' : List PL} {n : NL} (h : stepP st n = some st') : RP st [n] st' := h
/-- a part that binds so closely, or whose brackets have room -/
structure Fits (k d : Int) (p : PL) : Prop where
  many : p.many = false
  low : 0 ≤ p.depth
  room : p.inside k ≤ d
theorem Fits.depth {k d : Int} {p : PL} (h : Fits k d p) : p.depth ≤ d := by
  have := h.room
  unfold PL.inside at this
  split at this <;> omega
theorem Fits.mono {k k' d : Int} {p : PL} (h : Fits k d p) (hk : k' ≤ k) : Fits k' d p := by
  refine ⟨h.many, h.low, ?_⟩
  have h1 := h.room
  unfold PL.inside at *
  split at h1 <;> split <;> omega
theorem Fits.own {k d : Int} {p : PL} (hm : p.many = false) (h0 : 0 ≤ p.depth) (hb : k ≤ p.binds) (hd : p.depth ≤ d) : Fits k d p :=
  ⟨hm, h0, by unfold PL.inside; rw [if_neg (by omega)]; exact hd⟩
theorem leaf_kind {x : Tok} {n : NL} (h : leafN x = some n) : n.kind ≠ 3 ∧ n.kind ≠ 4 ∧ n.kind ≠ 5 := by
  unfold leafN at h
  repeat' split at h
  all_goals first | (injection h with h; subst h; simp [valN, cellN]) | cases h
theorem op_may (o : Int) (h1 : 1 ≤ o) (h2 : o ≤ 13) : (opN o).may = true := by
  simp [NL.may, opN, vl0, NL.noV, NL.noC, NL.noR, NL.noN, vEq, h1, h2]
theorem call_may (nm : ByteArray) (n : Nat) (hn : namedB nm.data.toList = true) (h : n ≤ 16) : (callN nm n).may = true := by
  have : (n : Int) ≤ 16 := by omega
  simp [NL.may, callN, vl0, NL.noV, NL.noC, NL.noR, NL.noO, vEq, hn, this]
theorem sgn_op (k : Nat) (hk : k ≤ 3) : ∀ x ∈ sgn k, levelI x.2 = k + 1 ∧ 3 ≤ x.2 ∧ x.2 ≤ 13 := by
  intro x hx
  match k, hk with
  | 0, _ | 1, _ | 2, _ | 3, _ => (simp [sgn] at hx; rcases hx with rfl | rfl | rfl | rfl | rfl | rfl) <;> simp [levelI]
theorem sig_op {s : PS} {k : Nat} {o : Int} (hk : k ≤ 3) (h : s.sig (sgn k) = some o) : levelI o = k + 1 ∧ 3 ≤ o ∧ o ≤ 13 := by
  unfold PS.sig at h
  obtain ⟨x, hx, rfl⟩ := Option.map_eq_some_iff.1 h
  exact sgn_op k hk x (List.mem_of_find?_eq_some hx)
theorem fits_two {k : Nat} {d o : Int} {a b : PL} (hl : levelI o = k + 1) (h3 : 3 ≤ o) (h13 : o ≤ 13) (ha : Fits (k + 1) d a) (hb : Fits (k + 2) d b) : ∃ p, Fits (k + 1) d p ∧ ∀ st, RP (st ++ [a] ++ [b]) [opN o] (st ++ [p]) := by
  refine ⟨⟨max (a.inside (levelI o)) (b.inside (levelI o + 1)), levelI o, false⟩, ?_, fun st => RP.one ?_⟩
  rotate_left
  · rw [List.append_assoc]
    refine (step_two (n := opN o) (op_may o (by omega) h13) rfl (by simp [opN]; omega)).trans ?_
    rw [ha.many, hb.many]
    rfl
  · refine Fits.own rfl ?_ (by simp [hl]) ?_
    · have h1 := ha.low; have h2 := hb.low
      have : a.depth ≤ a.inside (levelI o) := by unfold PL.inside; split <;> omega
      simp only; omega
    · have h1 := ha.room; have h2 := hb.room
      simp only [hl]
      rw [show ((k : Int) + 1 + 1) = k + 2 by omega]
      omega
theorem fits_one {k d o : Int} {a : PL} (ho : o = 1 ∧ k = 5 ∨ o = 2 ∧ k = 6) (ha : Fits k d a) : ∃ p, Fits k d p ∧ ∀ st, RP (st ++ [a]) [opN o] (st ++ [p]) := by
  have hl : levelI o = k := by rcases ho with ⟨rfl, rfl⟩ | ⟨rfl, rfl⟩ <;> rfl
  refine ⟨⟨a.inside (levelI o), levelI o, false⟩, ?_, fun st => RP.one ?_⟩
  rotate_left
  · refine (step_one (n := opN o) (op_may o (by omega) (by omega)) rfl (by simp only [opN]; omega)).trans ?_
    rw [ha.many]
    rfl
  · refine Fits.own rfl ?_ (by simp [hl]) ?_
    · have h1 := ha.low
      have : a.depth ≤ a.inside (levelI o) := by unfold PL.inside; split <;> omega
      simp only; omega
    · simp only [hl]; exact ha.room
/-- what is put behind -/
def Puts (s s' : PS) (ns : List NL) : Prop := s'.nodes = s.nodes ++ ns
theorem Puts.trans {a b c : PS} {n m : List NL} (h : Puts a b n) (k : Puts b c m) : Puts a c (n ++ m) := by unfold Puts at *; rw [k, h, List.append_assoc]
theorem Puts.add {s s' : PS} {n : NL} {a : Int} (h : s.add n a = .ok s') : Puts s s' [n] := by obtain ⟨rfl, _⟩ := add_some h; rfl
/-- one part more -/
def OneP (k d : Int) (s s' : PS) : Prop := ∃ ns, Puts s s' ns ∧ ∃ p, Fits k d p ∧ ∀ st, RP st ns (st ++ [p])
/-- a part in the place of one -/
def NextP (k d : Int) (s s' : PS) : Prop := ∃ ns, Puts s s' ns ∧ ∀ p, Fits k d p → ∃ p', Fits k d p' ∧ ∀ st, RP (st ++ [p]) ns (st ++ [p'])
theorem OneP.next {k d : Int} {a b c : PS} (h : OneP k d a b) (h' : NextP k d b c) : OneP k d a c := by
  obtain ⟨n, h1, p, h2, h3⟩ := h
  obtain ⟨m, h4, h5⟩ := h'
  obtain ⟨p', h6, h7⟩ := h5 p h2
  exact ⟨n ++ m, h1.trans h4, p', h6, fun st => (h3 st).app (h7 st)⟩
theorem OneP.mono {k k' d : Int} {a b : PS} (h : OneP k d a b) (hk : k' ≤ k) : OneP k' d a b := by
  obtain ⟨n, h1, p, h2, h3⟩ := h
  exact ⟨n, h1, p, h2.mono hk, h3⟩
theorem NextP.refl (k d : Int) (s : PS) : NextP k d s s := ⟨[], by simp [Puts], fun p hp => ⟨p, hp, fun st => RP.nil _⟩⟩
theorem NextP.trans {k d : Int} {a b c : PS} (h : NextP k d a b) (h' : NextP k d b c) : NextP k d a c := by
  obtain ⟨n, h1, h2⟩ := h
  obtain ⟨m, h3, h4⟩ := h'
  refine ⟨n ++ m, h1.trans h3, fun p hp => ?_⟩
  obtain ⟨p1, h5, h6⟩ := h2 p hp
  obtain ⟨p2, h7, h8⟩ := h4 p1 h5
  exact ⟨p2, h7, fun st => (h6 st).app (h8 st)⟩
theorem next_negs (d : Int) : ∀ {l : List Int} {s s' : PS}, negs l s = .ok s' → NextP 5 d s s'
  | [], s, s', h => by simp only [negs] at h; injection h with h; subst h; exact NextP.refl _ _ _
  | a :: l, s, s', h => by
    simp only [negs] at h
    split at h
    · cases h
    · rename_i s1 h1
      exact NextP.trans ⟨[opN 1], Puts.add h1, fun p hp => fits_one (.inl ⟨rfl, rfl⟩) hp⟩ (next_negs d h)
def MdPut (m : Md) (s s' : PS) : Prop := match m with
  | .lev k => OneP (k + 1) (32 - s.opn) s s'
  | .loop k => NextP (k + 1) (32 - s.opn) s s'
  | .neg _ => OneP 5 (32 - s.opn) s s'
  | .pct => NextP 6 (32 - s.opn) s s'
  | .prim => OneP 7 (32 - s.opn) s s'
  | .args nm _ rects => namedB nm.data.toList = true → rects.length ≤ 16 → ∃ ns, Puts s s' ns ∧ ∀ qs : List PL, qs.length = rects.length → (∀ q ∈ qs, 0 ≤ q.depth ∧ q.depth ≤ 32 - s.opn) → ∃ p, Fits 7 (33 - s.opn) p ∧ ∀ st, RP (st ++ qs) ns (st ++ [p])
theorem one_opn {k d : Int} {s s1 s' : PS} (h : OneP k d s1 s') (hn : s1.nodes = s.nodes) : OneP k d s s' := by
  obtain ⟨n, h1, h2⟩ := h
  exact ⟨n, by unfold Puts at *; rw [h1, hn], h2⟩
theorem next_opn {k d : Int} {s s1 s' : PS} (h : NextP k d s1 s') (hn : s1.nodes = s.nodes) : NextP k d s s' := by
  obtain ⟨n, h1, h2⟩ := h
  exact ⟨n, by unfold Puts at *; rw [h1, hn], h2⟩
theorem px_put (tb : Tb) : ∀ (f : Nat) (m : Md) (s s' : PS), m.ok → s.wf → 0 ≤ s.opn → s.opn ≤ 32 → (∀ x ∈ s.now :: s.rest, TokOk x) → px tb f m s = some (.ok s') → MdPut m s s' := by
  intro f
  induction f with
  | zero => intro m s s' _ _ _ _ _ h; cases h
  | succ f ih =>
    intro m s s' hm hw h0 h32 ht h
    have hx : ∀ {g : Nat} {m1 : Md} {a b : PS}, px tb g m1 a = some (.ok b) → (∀ x ∈ a.now :: a.rest, TokOk x) → ∀ x ∈ b.now :: b.rest, TokOk x := fun h ha x hx => ha x ((suffix_inv.px tb _ _ _ _ h).subset hx)
    have hst : ∀ {a : PS}, (∀ x ∈ a.now :: a.rest, TokOk x) → ∀ x ∈ a.step.now :: a.step.rest, TokOk x := fun ha x hx => ha x ((step_suffix _).subset hx)
    cases m with
    | lev k =>
      rw [px] at h
      simp only [Md.ok] at hm
      split at h
      · rename_i hk
        subst hk
        exact ih (.neg []) s s' trivial hw h0 h32 ht h
      · obtain ⟨s1, h1, h2⟩ := bindR_ok h
        have hk5 : Md.ok (.lev (k + 1)) := show k + 1 ≤ 4 by omega
        have a1 := px_after tb hw hk5 h1
        have o1 := a1.opn
        simp only [Md.opn] at o1
        have P1 : OneP ((k + 1 : Nat) + 1) (32 - s.opn) s s1 := ih (.lev (k + 1)) s s1 hk5 hw h0 h32 ht h1
        have P2 : NextP (k + 1) (32 - s1.opn) s1 s' := ih (.loop k) s1 s' (show k ≤ 3 by omega) a1.wf (by omega) (by omega) (hx h1 ht) h2
        rw [show s1.opn = s.opn by omega] at P2
        exact (P1.mono (by omega)).next P2
    | loop k =>
      rw [px] at h
      simp only [Md.ok] at hm
      split at h
      · injection h with h; injection h with h; subst h; exact NextP.refl _ _ _
      · rename_i o ho
        obtain ⟨hl, h3, h13⟩ := sig_op hm ho
        obtain ⟨s1, h1, h2⟩ := bindR_ok h
        obtain ⟨s2, h3', h4⟩ := bindR_ok h2
        injection h3' with h3'
        have hk5 : Md.ok (.lev (k + 1)) := show k + 1 ≤ 4 by omega
        have hw1 := PS.wf_step hw
        have a1 := px_after tb hw1 hk5 h1
        have o1 := a1.opn
        rw [PS.step_opn] at o1
        simp only [Md.opn] at o1
        have P1 : OneP ((k + 1 : Nat) + 1) (32 - s.step.opn) s.step s1 := ih (.lev (k + 1)) s.step s1 hk5 hw1 (by rw [PS.step_opn]; exact h0) (by rw [PS.step_opn]; exact h32) (hst ht) h1
        rw [PS.step_opn] at P1
        have P1' := one_opn P1 (PS.step_nodes s).symm.symm
        obtain ⟨n1, q1, b, q2, q3⟩ := one_opn (s := s) P1 (PS.step_nodes s)
        have hP := Puts.add h3'
        obtain ⟨e2, _⟩ := add_some h3'
        have P2 : NextP (k + 1) (32 - s2.opn) s2 s' := ih (.loop k) s2 s' hm (by rw [e2]; exact a1.wf) (by rw [e2]; show 0 ≤ s1.opn; omega) (by rw [e2]; show s1.opn ≤ 32; omega) (by rw [e2]; exact hx (b := s1) h1 (hst ht)) h4
        rw [show s2.opn = s.opn by rw [e2]; show s1.opn = s.opn; omega] at P2
        refine NextP.trans ⟨n1 ++ [opN o], q1.trans hP, fun p hp => ?_⟩ P2
        obtain ⟨p', g1, g2⟩ := fits_two hl h3 h13 hp (q2.mono (by omega))
        exact ⟨p', g1, fun st => (q3 (st ++ [p])).app (g2 st)⟩
    | neg ats =>
      rw [px] at h
      split at h
      · have := ih (.neg (s.now.place :: ats)) s.step s' trivial (PS.wf_step hw) (by rw [PS.step_opn]; exact h0) (by rw [PS.step_opn]; exact h32) (hst ht) h
        simp only [MdPut] at this ⊢
        rw [PS.step_opn] at this
        exact one_opn this (PS.step_nodes s)
      · obtain ⟨s1, h1, h2⟩ := bindR_ok h
        obtain ⟨s2, h3, h4⟩ := bindR_ok h2
        injection h4 with h4
        have a1 := px_after tb hw (m := .prim) trivial h1
        have o1 := a1.opn
        simp only [Md.opn] at o1
        have P1 : OneP 7 (32 - s.opn) s s1 := ih .prim s s1 trivial hw h0 h32 ht h1
        have P2 : NextP 6 (32 - s1.opn) s1 s2 := ih .pct s1 s2 trivial a1.wf (by omega) (by omega) (hx h1 ht) h3
        rw [show s1.opn = s.opn by omega] at P2
        exact (((P1.mono (by omega)).next P2).mono (by omega)).next (next_negs _ h4)
    | pct =>
      rw [px] at h
      split at h
      · obtain ⟨s1, h1, h2⟩ := bindR_ok h
        injection h1 with h1
        have hP := Puts.add h1
        obtain ⟨e2, _⟩ := add_some h1
        have hw1 : s1.wf := by rw [e2]; exact hw
        have ho : s1.opn = s.opn := by rw [e2]
        have ht1 : ∀ x ∈ s1.now :: s1.rest, TokOk x := by rw [e2]; exact ht
        have P2 : NextP 6 (32 - s1.step.opn) s1.step s' := ih .pct s1.step s' trivial (PS.wf_step hw1) (by rw [PS.step_opn, ho]; exact h0) (by rw [PS.step_opn, ho]; exact h32) (hst ht1) h2
        rw [PS.step_opn, ho] at P2
        exact NextP.trans ⟨[opN 2], hP, fun p hp => fits_one (.inr ⟨rfl, rfl⟩) hp⟩ (next_opn P2 (PS.step_nodes s1))
      · injection h with h; injection h with h; subst h; exact NextP.refl _ _ _
    | prim =>
      rw [px] at h
      split at h
      · rename_i n hn
        obtain ⟨s1, h1, h2⟩ := bindR_ok h
        injection h1 with h1
        injection h2 with h2; injection h2 with h2; subst h2
        have hk := leaf_kind hn
        refine ⟨[n], ?_, ⟨0, 7, false⟩, Fits.own rfl (by simp) (by simp) (by simp; omega), fun st => RP.one (step_leaf ((ht s.now (by simp)).leaf n hn) hk.1 hk.2.1 hk.2.2)⟩
        have := Puts.add h1
        unfold Puts at *
        rw [PS.step_nodes, this]
      · rename_i hn
        split at h
        · rename_i h3
          split at h
          · injection h with h; cases h
          · rename_i h4
            obtain ⟨s1, h1, h2⟩ := bindR_ok h
            injection h1 with h1
            obtain ⟨e1, f1, f2⟩ := opens_some h1
            rw [PS.step_opn] at f2
            have hw1 : s1.wf := by rw [e1]; exact PS.wf_step (s := { s.step with opn := s.step.opn + 1 }) (PS.wf_step hw)
            have ho : s1.opn = s.opn + 1 := by rw [e1, PS.step_opn, PS.step_opn]
            have hn1 : s1.nodes = s.nodes := by rw [e1, PS.step_nodes, PS.step_nodes]
            have ht1 : ∀ x ∈ s1.now :: s1.rest, TokOk x := by rw [e1]; exact hst (a := { s.step with opn := s.step.opn + 1 }) (hst ht)
            have hnm := (ht s.now (by simp)).word h3 hn (by omega)
            have P := ih (.args s.now.str s.now.place []) s1 s' trivial hw1 (by omega) (by omega) ht1 h2 hnm (by simp)
            obtain ⟨ns, q1, q2⟩ := P
            obtain ⟨p, q3, q4⟩ := q2 [] rfl (by simp)
            refine ⟨ns, by unfold Puts at *; rw [q1, hn1], p, ?_, fun st => by simpa using q4 st⟩
            rwa [ho, show (33 : Int) - (s.opn + 1) = 32 - s.opn by omega] at q3
        · obtain ⟨s1, h1, h2⟩ := bindR_ok h
          injection h1 with h1
          obtain ⟨e1, f1, f2⟩ := opens_some h1
          obtain ⟨s2, h3', h4⟩ := bindR_ok h2
          injection h4 with h4
          obtain ⟨e4, _⟩ := closes_some h4
          have hw1 : s1.wf := by rw [e1]; exact PS.wf_step (s := { s with opn := s.opn + 1 }) hw
          have ho : s1.opn = s.opn + 1 := by rw [e1, PS.step_opn]
          have hn1 : s1.nodes = s.nodes := by rw [e1, PS.step_nodes]
          have ht1 : ∀ x ∈ s1.now :: s1.rest, TokOk x := by rw [e1]; exact hst (a := { s with opn := s.opn + 1 }) ht
          have P : OneP ((0 : Nat) + 1) (32 - s1.opn) s1 s2 := ih (.lev 0) s1 s2 (show 0 ≤ 4 by omega) hw1 (by omega) (by omega) ht1 h3'
          obtain ⟨ns, q1, p, q2, q3⟩ := P
          refine ⟨ns, by unfold Puts at *; rw [e4, PS.step_nodes]; show s2.nodes = _; rw [q1, hn1], p, ⟨q2.many, q2.low, ?_⟩, q3⟩
          have := q2.depth
          unfold PL.inside
          split <;> omega
    | args nm pl rects =>
      intro hnm h16
      rw [px] at h
      split at h
      · split at h
        · obtain ⟨s1, h1, h2⟩ := bindR_ok h
          injection h1 with h1
          injection h2 with h2
          obtain ⟨e2, _⟩ := closes_some h2
          refine ⟨[callN nm rects.length], ?_, fun qs hq hd => ⟨⟨deepL qs + 1, 7, false⟩, ?_, fun st => RP.one ?_⟩⟩
          · have := Puts.add h1
            unfold Puts at *
            rw [e2, PS.step_nodes]; exact this
          · have hdl := deep_le (k := 32 - s.opn) (l := qs) hd (by omega)
            exact Fits.own rfl (by simp only; omega) (by simp) (by simp only; omega)
          · exact step_call (call_may nm _ hnm h16) rfl (by rw [hq]; simp [callN])
        · injection h with h; cases h
      · split at h
        · injection h with h; cases h
        · rename_i hc
          obtain ⟨s1, h1, h2⟩ := bindR_ok h
          injection h1 with h1; injection h1 with h1
          have hw1 : s1.wf := by subst h1; split; exact hw; exact PS.wf_step hw
          have ho : s1.opn = s.opn := by subst h1; split; rfl; exact PS.step_opn s
          have hn1 : s1.nodes = s.nodes := by subst h1; split; rfl; exact PS.step_nodes s
          have ht1 : ∀ x ∈ s1.now :: s1.rest, TokOk x := by subst h1; split; exact ht; exact hst ht
          have hr : rects.length + 1 ≤ 16 := by
            by_cases hr0 : rects = []
            · subst hr0; simp
            · have : ¬ rects.length = 16 := fun e => hc ⟨hr0, .inr e⟩
              omega
          split at h2
          · rename_i h5
            obtain ⟨s2, h3, h4⟩ := bindR_ok h2
            injection h3 with h3
            have hP := Puts.add h3
            obtain ⟨e2, _⟩ := add_some h3
            have hw2 : s2.wf := by rw [e2]; exact hw1
            have ho2 : s2.opn = s.opn := by rw [e2]; exact ho
            have ht2 : ∀ x ∈ s2.now :: s2.rest, TokOk x := by rw [e2]; exact ht1
            obtain ⟨ns, q1, q2⟩ := ih (.args nm pl (rects ++ [true])) s2.step s' trivial (PS.wf_step hw2) (by rw [PS.step_opn]; omega) (by rw [PS.step_opn]; omega) (hst ht2) h4 hnm (by simp; omega)
            refine ⟨[rectN' s1.now.t s1.now.l s1.now.b s1.now.q] ++ ns, ?_, fun qs hq hd => ?_⟩
            · unfold Puts at *
              rw [q1, PS.step_nodes, hP, hn1]; simp
            · obtain ⟨p, q3, q4⟩ := q2 (qs ++ [⟨0, 7, true⟩]) (by simp [hq]) (by
                intro q hq2
                rw [PS.step_opn, ho2]
                rcases List.mem_append.1 hq2 with hq2 | hq2
                · exact hd q hq2
                · rw [List.mem_singleton.1 hq2]; simp; omega)
              rw [PS.step_opn, ho2] at q3
              refine ⟨p, q3, fun st => ?_⟩
              refine RP.app (RP.one (step_rect ((ht1 s1.now (by simp)).rect h5) rfl)) ?_
              have := q4 st
              rwa [← List.append_assoc] at this
          · obtain ⟨s2, h3, h4⟩ := bindR_ok h2
            have hk0 : Md.ok (.lev 0) := show 0 ≤ 4 by omega
            have a1 := px_after tb hw1 hk0 h3
            have o1 := a1.opn
            simp only [Md.opn] at o1
            have P : OneP ((0 : Nat) + 1) (32 - s1.opn) s1 s2 := ih (.lev 0) s1 s2 hk0 hw1 (by omega) (by omega) ht1 h3
            obtain ⟨n1, g1, pp, g2, g3⟩ := P
            obtain ⟨ns, q1, q2⟩ := ih (.args nm pl (rects ++ [false])) s2 s' trivial a1.wf (by omega) (by omega) (hx h3 ht1) h4 hnm (by simp; omega)
            refine ⟨n1 ++ ns, ?_, fun qs hq hd => ?_⟩
            · unfold Puts at *
              rw [q1, g1, hn1]; simp
            · have hdp := g2.depth
              have hlo := g2.low
              obtain ⟨p, q3, q4⟩ := q2 (qs ++ [pp]) (by simp [hq]) (by
                intro q hq2
                rcases List.mem_append.1 hq2 with hq2 | hq2
                · have := hd q hq2; omega
                · rw [List.mem_singleton.1 hq2]; omega)
              rw [show s2.opn = s.opn by omega] at q3
              refine ⟨p, q3, fun st => (g3 (st ++ qs)).app ?_⟩
              have := q4 st
              rwa [← List.append_assoc] at this
theorem parse_check {tb : Tb} {ts : List Tok} {s : PS} (ht : ∀ x ∈ ts, TokOk x) (hw : ∃ l x, ts = l ++ [x] ∧ x.last = true) (h : parseT tb ts = .ok s) : checkP s.nodes = true := by
  cases ts with
  | nil => cases h
  | cons x r =>
    simp only [parseT] at h
    split at h
    · cases h
    · cases h
    · rename_i s1 h1
      split at h
      · injection h with h
        subst h
        have hw' : (⟨x, r, 0, []⟩ : PS).wf := hw
        have hk0 : Md.ok (.lev 0) := show 0 ≤ 4 by omega
        obtain ⟨ns, q1, p, q2, q3⟩ := px_put tb _ (.lev 0) ⟨x, r, 0, []⟩ s1 hk0 hw' (by simp) (by simp) ht h1
        have hm := (px_after tb hw' hk0 h1).most (by simp)
        have e : s1.nodes = ns := q1
        have hp : putP ns = some [p] := q3 []
        have hn : ns ≠ [] := fun e => by rw [e] at hp; simp [putP] at hp
        have hl : 1 ≤ ns.length := by cases ns with | nil => exact absurd rfl hn | cons _ _ => simp
        have hd := q2.depth
        unfold checkP depthP
        rw [e] at hm ⊢
        rw [if_neg (by omega), hp]
        simp [q2.many]
        simpa using hd
      · cases h
end Go.Proofs.YtfbkoieodflcpaaGreatDoor
