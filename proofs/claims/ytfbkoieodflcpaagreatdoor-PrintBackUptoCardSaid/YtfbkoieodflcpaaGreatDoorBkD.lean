/-
  Plain: what is printed is read again: leaves, calls, brackets; the whole.
-/
import Derived.Test.YtfbkoieodflcpaaGreatDoorMg3
import Derived.Test.YtfbkoieodflcpaaGreatDoorRows
import Derived.Test.YtfbkoieodflcpaaGreatDoorMg0
import Derived.Test.YtfbkoieodflcpaaGreatDoorProg
import Derived.Test.YtfbkoieodflcpaaGreatDoorShelf
import Derived.Test.YtfbkoieodflcpaaGreatDoorMg4
import Derived.Test.YtfbkoieodflcpaaGreatDoorAddrC
import Derived.Test.YtfbkoieodflcpaaGreatDoorMg6
import Derived.Test.YtfbkoieodflcpaaGreatDoorValA
import Derived.Test.YtfbkoieodflcpaaGreatDoorValB
import Derived.Test.YtfbkoieodflcpaaGreatDoorMg9
import Derived.Test.YtfbkoieodflcpaaGreatDoorMg10
import Derived.Test.YtfbkoieodflcpaaGreatDoorMg11
import Derived.Test.YtfbkoieodflcpaaGreatDoorMg2
import Derived.Test.YtfbkoieodflcpaaGreatDoorMg12
import Derived.Test.YtfbkoieodflcpaaGreatDoorValL
import Derived.Test.YtfbkoieodflcpaaGreatDoorMg14
import Derived.Test.YtfbkoieodflcpaaGreatDoorMg15
import Derived.Test.YtfbkoieodflcpaaGreatDoorLexS
import Derived.Test.YtfbkoieodflcpaaGreatDoorRefN
import Derived.Test.YtfbkoieodflcpaaGreatDoorRefM
import Derived.Test.YtfbkoieodflcpaaGreatDoorRefY
import Derived.Test.YtfbkoieodflcpaaGreatDoorMg20
import Derived.Test.YtfbkoieodflcpaaGreatDoorPaP
import Derived.Test.YtfbkoieodflcpaaGreatDoorMg22
import Derived.Lib.ItoaMem
import Derived.Lib.TrimByte
import Derived.Lib.IndexLaws
import Derived.Lib.SlTrimSet
import Derived.Lib.ParseIntB
import Derived.WalkKit
import Derived.ProofKit
import Derived.OpenShut
import Derived.Carry
import Derived.ChangeSame
import Derived.Lib.Hide
import Derived.Deep.Draws
import Derived.Shelf.Strings.Builder1
import Derived.Shelf.Strings.Builder2
import Derived.Shelf.Strings.Trim
import Derived.Shelf.Small.Utf8
import Derived.Shelf.Small.Strs
import Derived.Shelf.Small.Wraps
import Derived.Shelf.Strings.BuilderF
import Derived.Shelf.Strings.BuilderK
import Derived.Shelf.Utf8.RuneCount
import Derived.Shelf.Strconv.Itoa0
import Derived.Shelf.Strconv.Itoa1
import Derived.Shelf.LaysM
import Derived.Shelf.Strconv.Itoa2
import Derived.Shelf.Strconv.Itoa3
import Derived.Ground.MpProg
import Derived.Shelf.Pu.ParseUintPublic10
import Derived.Shelf.Strings.Search1
import Derived.Shelf.Strings.Search2
import Derived.Shelf.Strings.Search3
import Derived.Shelf.Strings.Cut
import Derived.Shelf.Strings.Count
import Derived.Shelf.Strings.Shaped
import Derived.Shelf.Strings.Prefix
import Derived.Shelf.Strings.Split
import Derived.Shelf.Strings.Replace
import Derived.Shelf.Strings.SplitShaped
import Derived.Shelf.Unicode.Decode
import Derived.Shelf.Strings.Runes
import Derived.Shelf.Strings.RuneCount
import Derived.Shelf.Strings.AsciiSet
import Derived.Shelf.Unicode.DecodeSlow
import Derived.Shelf.Unicode.DecodeAny
import Derived.Shelf.Unicode.DecodeLast
import Derived.WalkSpells
import Derived.WalkLawsBesides
import Derived.StillTactics
import Derived.Laws.Pointers
import Derived.Deep.RegionHeld3
import Derived.Deep.QuietTactic
import Derived.BigQuiet
import Derived.RowKit3
import Derived.Lib.OthersKept
import Derived.OwnWalk
import Derived.Lib.ItoaNum
import Derived.Maps.OwnSet
import Derived.Maps.AppendAt
import Derived.Lib.Bytealg
import Derived.Lib.Replace
namespace Go.Proofs.YtfbkoieodflcpaaGreatDoor
open Go.RowKit

theorem put_leaf (x : Tok) (p : Int) : leafN (x.put p) = leafN x := rfl
theorem bytes_self (s : ByteArray) : (⟨s.data.toList.toArray⟩ : ByteArray) = s := by rw [Array.toArray_toList]
theorem first_leaf {n : NL} (h : LeafV n) (hm : n.may = true) {r : List UInt8} (hr : Stop r) : ∃ x, firstT (leafT n ++ r) = (x, (leafT n).length) ∧ x.last = false ∧ (n.kind ≠ 3 → leafN x = some n) ∧ (n.kind = 3 → x.kind = 5 ∧ rectN' x.t x.l x.b x.q = n) := by
  cases h with
  | txt s e ht =>
    rw [ht]
    refine ⟨_, bk_text _ r hr, rfl, fun _ => ?_, fun hk => by rw [e] at hk; simp at hk⟩
    rw [e]
    show some (valN ⟨2, 0, ⟨s.data.toList.toArray⟩, false, 0⟩) = _
    rw [bytes_self]; rfl
  | num x h0 h1 e ht =>
    rw [ht]
    exact ⟨_, bk_num h0 h1 r hr, rfl, fun _ => by rw [e]; rfl, fun hk => by rw [e] at hk; simp at hk⟩
  | bool b e ht =>
    have hw : ∀ w : List UInt8, (w = [84, 82, 85, 69] ∨ w = [70, 65, 76, 83, 69]) → firstT (w ++ r) = (tokS 3 w, w.length) := by
      intro w hw
      rcases hw with rfl | rfl
      · exact bk_word _ r ⟨_, _, rfl, by decide⟩ (by decide) (by decide) hr.part
      · exact bk_word _ r ⟨_, _, rfl, by decide⟩ (by decide) (by decide) hr.part
    rw [ht]
    cases b with
    | true => exact ⟨_, hw _ (.inl rfl), rfl, fun _ => by rw [e]; rfl, fun hk => by rw [e] at hk; simp at hk⟩
    | false => exact ⟨_, hw _ (.inr rfl), rfl, fun _ => by rw [e]; rfl, fun hk => by rw [e] at hk; simp at hk⟩
  | code c h0 h1 e ht =>
    have hc : c ≠ 1 := by
      intro hc
      rw [e, hc] at hm
      unfold NL.may at hm
      simp at hm
    rw [ht]
    exact ⟨_, bk_code (by omega) h1 r, rfl, fun _ => by rw [e]; rfl, fun hk => by rw [e] at hk; simp at hk⟩
  | cell r' c h0 e ht =>
    rw [ht]
    exact ⟨_, bk_cell h0 r hr, rfl, fun _ => by rw [e]; rfl, fun hk => by rw [e] at hk; simp at hk⟩
  | rect t l b q h0 e ht =>
    rw [ht]
    refine ⟨_, bk_rect h0 r hr, rfl, fun hk => absurd (by rw [e]) hk, fun _ => ⟨rfl, by rw [e]; rfl⟩⟩
theorem named_parts {l : List UInt8} (h : namedB l = true) : l.length ≤ 16 ∧ l ≠ [84, 82, 85, 69] ∧ l ≠ [70, 65, 76, 83, 69] ∧ (∃ b t, l = b :: t ∧ upB b = true) ∧ (∀ b ∈ l, partB b = true) ∧ meantB l = false := by
  unfold namedB at h
  simp only [Bool.and_eq_true, decide_eq_true_eq, Bool.not_eq_true', Bool.or_eq_false_iff, decide_eq_false_iff_not] at h
  obtain ⟨⟨⟨⟨⟨h1, h2⟩, h3, h4⟩, h5⟩, h6⟩, h7⟩ := h
  refine ⟨h2, h3, h4, ?_, fun b hb => List.all_eq_true.1 h6 b hb, h7⟩
  cases l with
  | nil => simp at h1
  | cons b t => exact ⟨b, t, rfl, h5⟩
theorem may_named {n : NL} (h : n.may = true) (k : n.kind = 5) : namedB n.name.data.toList = true := by
  unfold NL.may at h
  rw [if_neg (by omega), if_neg (by omega), if_neg (by omega), if_neg (by omega), if_pos k] at h
  simp only [Bool.and_eq_true] at h
  exact h.1.1.1.1.1.1
namespace Tm
theorem px5 (tb : Tb) {s : PS} (h : s.now.kind = 5) : ∀ (f k : Nat) (s' : PS), px tb f (.lev k) s ≠ some (.ok s') := by
  have hno : ∀ c, s.is c = false := fun c => is_nosign (by rw [h]; decide) c
  have hprim : ∀ f s', px tb f .prim s ≠ some (.ok s') := by
    intro f s' e
    cases f with
    | zero => cases e
    | succ f =>
      have hl : leafN s.now = none := by
        unfold leafN
        rw [if_neg (by rw [h]; decide), if_neg (by rw [h]; decide), if_neg (by rw [h]; decide), if_neg (by rw [h]; decide), if_neg (by rw [h]; decide)]
      rw [px, hl] at e
      simp only at e
      rw [if_neg (by rw [h]; decide)] at e
      have : s.opens = s.fail := by unfold PS.opens; rw [if_pos (hno _)]
      rw [this] at e
      simp [PS.fail, bindR] at e
  intro f
  induction f with
  | zero => intro k s' e; cases e
  | succ f ih =>
    intro k s' e
    rw [px] at e
    split at e
    · cases f with
      | zero => cases e
      | succ f =>
        rw [px, hno, if_neg (by decide)] at e
        rcases bindR_some e with ⟨_, _, _, h2⟩ | ⟨s1, h1, _⟩
        · cases h2
        · exact hprim _ _ h1
    · rcases bindR_some e with ⟨_, _, _, h2⟩ | ⟨s1, h1, _⟩
      · cases h2
      · exact ih _ _ h1
/-- what is left when a call's arguments are read -/
structure Cd (n : Nat) (r : List UInt8) (s s' : PS) (m : List NL) : Prop where
  at' : AtL n r s'
  opn : s'.opn = s.opn - 1
  nodes : s'.nodes = s.nodes ++ m
theorem rest_nb (c : Tm) (r : List UInt8) : NB (rest c r) := by
  cases c with
  | anil => exact nb_cons (by decide) r
  | acons b d => exact nb_cons (by decide) _
  | leaf n => exact nb_cons (by decide) _
  | un n b => exact nb_cons (by decide) _
  | bin n b d => exact nb_cons (by decide) _
  | call n b => exact nb_cons (by decide) _
/-- where the arguments end -/
theorem read_close {tb : Tb} {n : Nat} (nm : ByteArray) (p : Int) (rs : List Bool) (r : List UInt8) (s : PS) (ht : tb.takes nm rs = true) (ha : AtL n (41 :: r) s) (hf : s.nodes.length + 1 ≤ 1024) : ∃ f s', px tb f (.args nm p rs) s = some (.ok s') ∧ Cd n r s s' [callN nm rs.length] := by
  have hx : firstT ([41] ++ r) = (tokS 7 [41], [(41 : UInt8)].length) := bk_sign (c := 41) (by decide) _ (.inl (by decide))
  obtain ⟨⟨q, hq⟩, ha1⟩ := at_step (c := [41]) (r := r) ha (nb_cons (b := 41) (by decide) _) hx rfl
  have hi : s.is [41] = true := by rw [is_tok hq]; rfl
  have hadd := add_ok (s := s) (n := callN nm rs.length) (a := p) (by omega)
  have hcl : ({ s with nodes := s.nodes ++ [callN nm rs.length] } : PS).closes = .ok { s.step with opn := s.opn - 1, nodes := s.nodes ++ [callN nm rs.length] } := by
    have h2 : ({ s with nodes := s.nodes ++ [callN nm rs.length] } : PS).is [41] = true := hi
    unfold PS.closes
    rw [if_neg (by rw [h2]; decide)]
    congr 1
    obtain ⟨a, b, c, d⟩ := s
    cases b <;> rfl
  refine ⟨1, { s.step with opn := s.opn - 1, nodes := s.nodes ++ [callN nm rs.length] }, ?_, ha1, rfl, rfl⟩
  rw [px, if_pos hi, if_pos ht, hadd]
  simp only [bindR]
  rw [hcl]
/-- one argument, and what stands behind it -/
theorem read_arg {tb : Tb} {n M : Nat} (H : ReadL tb n 0 M) (nm : ByteArray) (p : Int) (rs : List Bool) {a c : Tm} (r : List UInt8) (m : List NL) (hf : Fine a) (hc : Came tb a) (hM : a.text.length ≤ M) (s : PS) (ha : AtL n (a.text ++ rest c r) s) (ho : s.opn + (a.nest : Int) ≤ 32) (hn : s.nodes.length + a.nodes.length ≤ 1024)
    (IH : ∀ s2, AtL n (rest c r) s2 → s2.opn = s.opn → s2.nodes = s.nodes ++ a.nodes → ∃ f s', px tb f (.args nm p (rs ++ [a.isRect])) s2 = some (.ok s') ∧ Cd n r s2 s' m) :
    ∃ f s', (if s.now.kind = 5 then bindR (some (s.add (rectN' s.now.t s.now.l s.now.b s.now.q) s.now.place)) (fun s2 => px tb f (.args nm p (rs ++ [true])) s2.step) else bindR (px tb f (.lev 0) s) (px tb f (.args nm p (rs ++ [false])))) = some (.ok s') ∧ Cd n r s s' (a.nodes ++ m) := by
  cases hr : a.isRect with
  | true =>
    obtain ⟨nn, e, hk⟩ : ∃ nn, a = leaf nn ∧ nn.kind = 3 := by
      cases a with
      | leaf nn => exact ⟨nn, rfl, by simpa [isRect] using hr⟩
      | _ => simp [isRect] at hr
    subst e
    have hst : Stop (rest c r) := (rest_stop c r).stop
    obtain ⟨x, hx, hl, _, hx5⟩ := first_leaf hf.leaf hf.1.1 hst
    obtain ⟨h5, hrn⟩ := hx5 hk
    have hnb := nb_at hf 7 (rest c r)
    rw [at_high (by show (7 : Int) ≤ 7; decide)] at hnb
    obtain ⟨⟨q, hq⟩, ha1⟩ := at_step (c := leafT nn) ha hnb hx hl
    have hk5 : s.now.kind = 5 := by rw [hq]; exact h5
    have hnode : rectN' s.now.t s.now.l s.now.b s.now.q = nn := by rw [hq]; exact hrn
    have hadd := add_ok (s := s) (n := nn) (a := s.now.place) (by have : (leaf nn).nodes.length = 1 := rfl; omega)
    obtain ⟨f, s', h1, h2⟩ := IH ({ s with nodes := s.nodes ++ [nn] } : PS).step (by rw [step_put]; exact ha1) (by rw [PS.step_opn]) (by rw [PS.step_nodes]; rfl)
    rw [hr] at h1
    refine ⟨f, s', ?_, h2.at', by rw [h2.opn, PS.step_opn], by rw [h2.nodes, PS.step_nodes]; show (s.nodes ++ [nn]) ++ m = _; rw [List.append_assoc]; rfl⟩
    rw [if_pos hk5, hnode, hadd]
    exact h1
  | false =>
    have e1 : At a 1 = a.text := at_one hf.1
    have e2 : nestAt a 1 = a.nest := nest_high (binds_ge hf.1).1
    obtain ⟨f1, s1, hp1, r1⟩ := H a (rest c r) s ⟨hf, hc, hr, rest_stop c r, rest_nb c r, by show (At a 1).length ≤ M; rw [e1]; exact hM, by show AtL n (At a 1 ++ _) s; rw [e1]; exact ha, by show s.opn + (nestAt a 1 : Int) ≤ 32; rw [e2]; exact ho, hn⟩
    have hk5 : ¬ s.now.kind = 5 := fun h => px5 tb h _ _ _ hp1
    obtain ⟨f2, s', h1, h2⟩ := IH s1 r1.at' r1.opn r1.nodes
    rw [hr] at h1
    refine ⟨max f1 f2, s', ?_, h2.at', by rw [h2.opn, r1.opn], by rw [h2.nodes, r1.nodes, List.append_assoc]⟩
    rw [if_neg hk5, px_le tb hp1 (Nat.le_max_left _ _)]
    exact px_le tb h1 (Nat.le_max_right _ _)
theorem text_split (a c : Tm) : ∃ z, (acons a c).text = a.text ++ z ∧ (c ≠ anil → z = 44 :: c.text) := by
  by_cases hc : c = anil
  · subst hc; exact ⟨[], (List.append_nil _).symm, fun h => absurd rfl h⟩
  · exact ⟨44 :: c.text, text_acons a c hc, fun _ => rfl⟩
/-- the arguments behind the first -/
theorem read_args {tb : Tb} {n M : Nat} (H : ReadL tb n 0 M) (nm : ByteArray) (p : Int) (r : List UInt8) : ∀ (c : Tm) (rs : List Bool) (s : PS), c.good true → (∀ m ∈ c.nodes, m.ok) → Came tb c → c.text.length ≤ M → rs ≠ [] → rs.length + c.len ≤ 16 → tb.takes nm (rs ++ c.rects) = true → AtL n (rest c r) s → s.opn + (c.nest : Int) ≤ 32 → s.nodes.length + c.nodes.length + 1 ≤ 1024 →
    ∃ f s', px tb f (.args nm p rs) s = some (.ok s') ∧ Cd n r s s' (c.nodes ++ [callN nm ((rs.length + c.len : Nat) : Int)]) := by
  intro c
  induction c with
  | anil =>
    intro rs s _ _ _ _ _ _ ht ha _ hf
    obtain ⟨f, s', h1, h2⟩ := read_close nm p rs r s (by simpa [rects] using ht) ha (by have : (anil).nodes.length = 0 := rfl; omega)
    exact ⟨f, s', h1, h2⟩
  | acons a c _ ih =>
    intro rs s hg hok hc hM hrs hlen ht ha ho hf
    have hx : firstT ([44] ++ ((acons a c).text ++ 41 :: r)) = (tokS 7 [44], [(44 : UInt8)].length) := bk_sign (c := 44) (by decide) _ (.inl (by decide))
    have e : rest (acons a c) r = [44] ++ ((acons a c).text ++ 41 :: r) := rfl
    rw [e] at ha
    obtain ⟨⟨q, hq⟩, ha1⟩ := at_step ha (nb_cons (b := 44) (by decide) _) hx rfl
    rw [cons_text] at ha1
    have i41 : s.is [41] = false := by rw [is_tok hq]; rfl
    have i44 : s.is [44] = true := by rw [is_tok hq]; rfl
    have hn : (acons a c).nodes = a.nodes ++ c.nodes := rfl
    have hl : (acons a c).len = c.len + 1 := rfl
    have hnest : (acons a c).nest = max a.nest c.nest := rfl
    have hrects : (acons a c).rects = a.isRect :: c.rects := rfl
    rw [hn, List.length_append] at hf
    rw [hl] at hlen
    rw [hnest] at ho
    rw [hrects] at ht
    obtain ⟨z, hz, hz2⟩ := text_split a c
    rw [hz, List.length_append] at hM
    have hokc : ∀ m ∈ c.nodes, m.ok := fun m hm => hok m (by rw [hn]; simp [hm])
    have hMc : c.text.length ≤ M := by
      by_cases hcn : c = anil
      · subst hcn; exact Nat.zero_le _
      · have := hz2 hcn
        rw [this] at hM
        simp at hM; omega
    obtain ⟨f, s', h1, h2⟩ := read_arg (c := c) H nm p rs r (c.nodes ++ [callN nm ((rs.length + (c.len + 1) : Nat) : Int)]) ⟨hg.1, fun m hm => hok m (by rw [hn]; simp [hm])⟩ hc.1 (by omega) s.step ha1 (by rw [PS.step_opn]; omega) (by rw [PS.step_nodes]; omega) (fun s2 g1 g2 g3 => by
      have := ih (rs ++ [a.isRect]) s2 hg.2 hokc hc.2 hMc (by simp) (by simp; omega) (by rw [List.append_assoc]; exact ht) g1 (by rw [g2, PS.step_opn]; omega) (by rw [g3, PS.step_nodes, List.length_append]; omega)
      rw [show (rs ++ [a.isRect]).length + c.len = rs.length + (c.len + 1) by simp; omega] at this
      exact this)
    refine ⟨f + 1, s', ?_, h2.at', by rw [h2.opn, PS.step_opn], by rw [h2.nodes, PS.step_nodes, hn, hl, List.append_assoc]⟩
    rw [px, i41, if_neg (by decide), if_neg (by rw [i44]; intro h; rcases h.2 with h | h; exact absurd h (by decide); omega), if_neg hrs]
    exact h1
  | leaf n => intro rs s hg; exact hg.elim
  | un n a _ => intro rs s hg; exact hg.elim
  | bin n a b _ _ => intro rs s hg; exact hg.elim
  | call n c _ => intro rs s hg; exact hg.elim
/-- all arguments -/
theorem read_call {tb : Tb} {n M : Nat} (H : ReadL tb n 0 M) (nm : ByteArray) (p : Int) (r : List UInt8) (c : Tm) (s : PS) (hg : c.good true) (hok : ∀ m ∈ c.nodes, m.ok) (hc : Came tb c) (hM : c.text.length ≤ M) (hlen : c.len ≤ 16) (ht : tb.takes nm c.rects = true) (ha : AtL n (c.text ++ 41 :: r) s) (ho : s.opn + (c.nest : Int) ≤ 32) (hf : s.nodes.length + c.nodes.length + 1 ≤ 1024) :
    ∃ f s', px tb f (.args nm p []) s = some (.ok s') ∧ Cd n r s s' (c.nodes ++ [callN nm (c.len : Int)]) := by
  cases c with
  | anil => exact read_close nm p [] r s ht ha (by have : (anil).nodes.length = 0 := rfl; omega)
  | acons a c =>
    rw [cons_text] at ha
    have hn : (acons a c).nodes = a.nodes ++ c.nodes := rfl
    have hl : (acons a c).len = c.len + 1 := rfl
    have hnest : (acons a c).nest = max a.nest c.nest := rfl
    have hrects : (acons a c).rects = a.isRect :: c.rects := rfl
    rw [hn, List.length_append] at hf
    rw [hl] at hlen
    rw [hnest] at ho
    rw [hrects] at ht
    obtain ⟨z, hz, hz2⟩ := text_split a c
    rw [hz, List.length_append] at hM
    have hokc : ∀ m ∈ c.nodes, m.ok := fun m hm => hok m (by rw [hn]; simp [hm])
    have hMc : c.text.length ≤ M := by
      by_cases hcn : c = anil
      · subst hcn; exact Nat.zero_le _
      · have := hz2 hcn
        rw [this] at hM
        simp at hM; omega
    have hfa : Fine a := ⟨hg.1, fun m hm => hok m (by rw [hn]; simp [hm])⟩
    have i41 : s.is [41] = false := by
      cases hi : s.is [41] with
      | false => rfl
      | true =>
        obtain ⟨b, l, e1, e2⟩ := head_at hfa 1
        rw [at_one hfa.1] at e1
        have hnb := nb_at hfa 1 (rest c r)
        rw [at_one hfa.1] at hnb
        rw [e1] at ha hnb
        obtain ⟨w, hw⟩ := is_head ha hnb hi
        injection hw with hw _
        rw [← hw] at e2
        revert e2; decide
    obtain ⟨f, s', h1, h2⟩ := read_arg (c := c) H nm p [] r (c.nodes ++ [callN nm ((c.len + 1 : Nat) : Int)]) hfa hc.1 (by omega) s ha (by omega) (by omega) (fun s2 g1 g2 g3 => by
      have := read_args H nm p r c [a.isRect] s2 hg.2 hokc hc.2 hMc (by simp) (by simp; omega) ht g1 (by rw [g2]; omega) (by rw [g3, List.length_append]; omega)
      rw [show [a.isRect].length + c.len = c.len + 1 by simp; omega] at this
      exact this)
    refine ⟨f + 1, s', ?_, h2.at', h2.opn, by rw [h2.nodes, hn, hl, List.append_assoc]⟩
    rw [px, i41, if_neg (by decide), if_neg (by intro h; exact h.1 rfl), if_pos rfl]
    exact h1
  | leaf n => exact hg.elim
  | un n a => exact hg.elim
  | bin n a b => exact hg.elim
  | call n c => exact hg.elim
theorem opens_ok {n : Nat} {l : List UInt8} {s : PS} (ha : AtL n (40 :: l) s) (ho : s.opn + 1 ≤ 32) : ∃ s1, s.opens = .ok s1 ∧ AtL n l s1 ∧ s1.opn = s.opn + 1 ∧ s1.nodes = s.nodes := by
  have hx : firstT ([40] ++ l) = (tokS 7 [40], [(40 : UInt8)].length) := bk_sign (c := 40) (by decide) _ (.inl (by decide))
  obtain ⟨⟨q, hq⟩, ha1⟩ := at_step (c := [40]) (r := l) ha (nb_cons (b := 40) (by decide) _) hx rfl
  have hi : s.is [40] = true := by rw [is_tok hq]; rfl
  refine ⟨{ s.step with opn := s.opn + 1 }, ?_, ha1, rfl, PS.step_nodes s⟩
  unfold PS.opens
  rw [if_neg (by rw [hi]; decide), if_neg (by omega)]
  congr 1
  obtain ⟨a, b, c, d⟩ := s
  cases b <;> rfl
theorem closes_ok {n : Nat} {l : List UInt8} {s : PS} (ha : AtL n (41 :: l) s) : ∃ s1, s.closes = .ok s1 ∧ AtL n l s1 ∧ s1.opn = s.opn - 1 ∧ s1.nodes = s.nodes := by
  have hx : firstT ([41] ++ l) = (tokS 7 [41], [(41 : UInt8)].length) := bk_sign (c := 41) (by decide) _ (.inl (by decide))
  obtain ⟨⟨q, hq⟩, ha1⟩ := at_step (c := [41]) (r := l) ha (nb_cons (b := 41) (by decide) _) hx rfl
  have hi : s.is [41] = true := by rw [is_tok hq]; rfl
  refine ⟨{ s.step with opn := s.opn - 1 }, ?_, ha1, rfl, PS.step_nodes s⟩
  unfold PS.closes
  rw [if_neg (by rw [hi]; decide)]
  congr 1
  obtain ⟨a, b, c, d⟩ := s
  cases b <;> rfl
/-- a leaf, a call, brackets -/
theorem read_thing {tb : Tb} {n M : Nat} (H : ReadL tb n 0 M) : Read7 tb n (M + 1) := by
  intro t r s a
  have ha := a.at'
  have hM := a.len
  have hfew := a.few
  have ho := a.opn
  rcases view7 a.fine with ⟨nn, e, hv, ht⟩ | ⟨nn, c, e, hm, hk, hargs, hg, hok, ht⟩ | ht
  · subst e
    obtain ⟨x, hx, hl, hleaf, _⟩ := first_leaf hv a.fine.1.1 a.stop.stop
    have hnb := nb_at a.fine 7 r
    rw [ht] at ha hnb
    obtain ⟨⟨q, hq⟩, ha1⟩ := at_step ha hnb hx hl
    have hk3 : nn.kind ≠ 3 := by have := a.rect; simpa [isRect] using this
    have hlf : leafN s.now = some nn := by rw [hq, put_leaf]; exact hleaf hk3
    have hadd := add_ok (s := s) (n := nn) (a := s.now.place) (by have : (leaf nn).nodes.length = 1 := rfl; omega)
    refine ⟨1, ({ s with nodes := s.nodes ++ [nn] } : PS).step, ?_, by rw [step_put]; exact ha1, by rw [PS.step_opn], by rw [PS.step_nodes]; rfl⟩
    rw [px, hlf]
    simp only
    rw [hadd]
    rfl
  · subst e
    obtain ⟨p1, p2, p3, p4, p5, p6⟩ := named_parts (may_named hm hk)
    obtain ⟨c1, c2, c3, c4, c5⟩ := a.came
    have hno : (call nn c).nodes = c.nodes ++ [nn] := rfl
    rw [hno, List.length_append] at hfew
    rw [ht] at ha hM
    have e1 : (nn.name.data.toList ++ 40 :: (c.text ++ [41])) ++ r = nn.name.data.toList ++ (40 :: (c.text ++ 41 :: r)) := by simp
    rw [e1] at ha
    have hw := bk_word nn.name.data.toList (40 :: (c.text ++ 41 :: r)) p4 p5 p6 (fun b t e => by injection e with e _; subst e; decide)
    have hnb : NB (nn.name.data.toList ++ (40 :: (c.text ++ 41 :: r))) := by
      obtain ⟨b, t, e, hb⟩ := p4
      rw [e]
      refine nb_cons ?_ _
      intro h32
      unfold upB at hb
      simp at hb
      omega
    obtain ⟨⟨q, hq⟩, ha1⟩ := at_step ha hnb hw rfl
    have hnest : nestAt (call nn c) 7 = c.nest + 1 := nest_high (by show (7 : Int) ≤ 7; decide)
    rw [hnest] at ho
    obtain ⟨s1, hop, ha2, ho2, hn2⟩ := opens_ok ha1 (by rw [PS.step_opn]; omega)
    have hstr : s.now.str = nn.name := by rw [hq]; exact bytes_self nn.name
    have hkind : s.now.kind = 3 := by rw [hq]; rfl
    obtain ⟨f, s2, h1, h2⟩ := read_call H nn.name s.now.place r c s1 hg hok c5 (by simp at hM; omega) c4 c3 ha2 (by rw [ho2, PS.step_opn]; omega) (by rw [hn2, PS.step_nodes]; simp at hfew; omega)
    have hleaf : leafN s.now = none := by
      unfold leafN
      rw [if_neg (by rw [hkind]; decide), if_neg (by rw [hkind]; decide), if_neg (by rw [hkind]; decide), if_neg (by rw [hkind]; decide), if_pos hkind, hstr]
      rw [if_neg (fun e => p2 (by rw [e]; rfl)), if_neg (fun e => p3 (by rw [e]; rfl))]
    have hcn : nn = callN nn.name (c.len : Int) := by
      have := may_call hm hk
      rw [hargs] at this
      exact this
    refine ⟨f + 1, s2, ?_, h2.at', by rw [h2.opn, ho2, PS.step_opn]; omega, by rw [h2.nodes, hn2, PS.step_nodes, hno, ← hcn]⟩
    rw [px, hleaf]
    simp only
    have hsz : ¬ 16 < nn.name.size := by
      have : nn.name.size = nn.name.data.toList.length := by rw [Array.length_toList]; rfl
      omega
    rw [if_pos hkind, hstr, if_neg (by rintro (h | h); exact hsz h; rw [c1] at h; cases h), hop]
    exact h1
  · rw [ht] at ha hM
    have e1 : 40 :: (At t 1 ++ [41]) ++ r = 40 :: (At t 1 ++ 41 :: r) := by simp
    rw [e1] at ha
    have hlow : t.binds < 7 := by
      by_cases h : t.binds < 7
      · exact h
      · exfalso
        have h7 : At t 7 = t.text := at_high (by omega)
        have h1 : At t 1 = t.text := at_one a.fine.1
        rw [h7, h1] at ht
        have := congrArg List.length ht
        simp at this
    have hnest : nestAt t 7 = t.nest + 1 := nest_low hlow
    have hnest1 : nestAt t 1 = t.nest := nest_high (binds_ge a.fine.1).1
    rw [hnest] at ho
    have i40 : s.is [40] = true := by
      have hx : firstT ([40] ++ (At t 1 ++ 41 :: r)) = (tokS 7 [40], [(40 : UInt8)].length) := bk_sign (c := 40) (by decide) _ (.inl (by decide))
      obtain ⟨⟨q, hq⟩, _⟩ := at_step (c := [40]) (r := At t 1 ++ 41 :: r) ha (nb_cons (b := 40) (by decide) _) hx rfl
      rw [is_tok hq]; rfl
    have hk7 := PS.is_kind i40
    obtain ⟨s1, hop, ha2, ho2, hn2⟩ := opens_ok ha (by omega)
    obtain ⟨f, s2, hp2, r2⟩ := H t (41 :: r) s1 ⟨a.fine, a.came, a.rect, stop_close r, nb_cons (by decide) r, by show (At t 1).length ≤ M; simp at hM; omega, ha2, by show s1.opn + (nestAt t 1 : Int) ≤ 32; rw [ho2, hnest1]; omega, by rw [hn2]; exact hfew⟩
    obtain ⟨s3, hcl, ha3, ho3, hn3⟩ := closes_ok r2.at'
    have hleaf : leafN s.now = none := by
      unfold leafN
      rw [if_neg (by rw [hk7]; decide), if_neg (by rw [hk7]; decide), if_neg (by rw [hk7]; decide), if_neg (by rw [hk7]; decide), if_neg (by rw [hk7]; decide)]
    refine ⟨f + 1, s3, ?_, ha3, by rw [ho3, r2.opn, ho2]; omega, by rw [hn3, r2.nodes, hn2]⟩
    rw [px, hleaf]
    simp only
    rw [if_neg (by rw [hk7]; decide), hop]
    simp only [bindR]
    rw [hp2]
    simp only
    rw [hcl]
theorem read_four {tb : Tb} {n M : Nat} (H : Read5 tb n M) : ReadL tb n 4 M := by
  intro t r s a
  obtain ⟨f, s', h, hr⟩ := H t r s a []
  exact ⟨f + 1, s', by rw [px, if_pos rfl, h]; rfl, hr⟩
theorem read_all (tb : Tb) (n : Nat) : ∀ M : Nat, ReadL tb n 0 M ∧ Read5 tb n M := by
  intro M
  induction M with
  | zero =>
    have h0 : ∀ (K : Int) t r s, ¬ Ask tb n K 0 t r s := by
      intro K t r s a
      obtain ⟨b, l, e, _⟩ := head_at a.fine K
      have := a.len
      rw [e] at this
      simp at this
    exact ⟨fun t r s a => (h0 _ t r s a).elim, fun t r s a => (h0 _ t r s a).elim⟩
  | succ M ih =>
    have h7 := read_thing ih.1
    have h6 := read_pct h7
    have h5 := read_neg h6 ih.2
    have h4 := read_four h5
    exact ⟨read_low (by omega) (read_low (by omega) (read_low (by omega) (read_low (by omega) h4))), h5⟩
end Tm
end Go.Proofs.YtfbkoieodflcpaaGreatDoor
