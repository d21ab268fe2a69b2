/-
  Plain: what is read out of tokens is a tree; Plain: a formula that was read is read again out of its one text.
-/
import Derived.Test.YtfbkoieodflcpaaGreatDoorMg3
import Derived.Test.YtfbkoieodflcpaaGreatDoorRows
import Derived.Test.YtfbkoieodflcpaaGreatDoorMg0
import Derived.Test.YtfbkoieodflcpaaGreatDoorProg
import Derived.Test.YtfbkoieodflcpaaGreatDoorShelf
import Derived.Test.YtfbkoieodflcpaaGreatDoorMg4
import Derived.Test.YtfbkoieodflcpaaGreatDoorAddrC
import Derived.Test.YtfbkoieodflcpaaGreatDoorMg6
import Derived.Test.YtfbkoieodflcpaaGreatDoorValA
import Derived.Test.YtfbkoieodflcpaaGreatDoorValB
import Derived.Test.YtfbkoieodflcpaaGreatDoorMg9
import Derived.Test.YtfbkoieodflcpaaGreatDoorMg10
import Derived.Test.YtfbkoieodflcpaaGreatDoorMg11
import Derived.Test.YtfbkoieodflcpaaGreatDoorMg2
import Derived.Test.YtfbkoieodflcpaaGreatDoorMg12
import Derived.Test.YtfbkoieodflcpaaGreatDoorValL
import Derived.Test.YtfbkoieodflcpaaGreatDoorMg14
import Derived.Test.YtfbkoieodflcpaaGreatDoorMg15
import Derived.Test.YtfbkoieodflcpaaGreatDoorLexS
import Derived.Test.YtfbkoieodflcpaaGreatDoorRefN
import Derived.Test.YtfbkoieodflcpaaGreatDoorRefM
import Derived.Test.YtfbkoieodflcpaaGreatDoorRefY
import Derived.Test.YtfbkoieodflcpaaGreatDoorMg20
import Derived.Test.YtfbkoieodflcpaaGreatDoorPaP
import Derived.Test.YtfbkoieodflcpaaGreatDoorMg22
import Derived.Test.YtfbkoieodflcpaaGreatDoorBkD
import Derived.Test.YtfbkoieodflcpaaGreatDoorPaM
import Derived.Test.YtfbkoieodflcpaaGreatDoorMg26
import Derived.Test.YtfbkoieodflcpaaGreatDoorLexWd
import Derived.Test.YtfbkoieodflcpaaGreatDoorDParse
import Derived.Test.YtfbkoieodflcpaaGreatDoorLexF
import Derived.Test.YtfbkoieodflcpaaGreatDoorLexI
import Derived.Test.YtfbkoieodflcpaaGreatDoorMg31
import Derived.Lib.ItoaMem
import Derived.Lib.TrimByte
import Derived.Lib.IndexLaws
import Derived.Lib.SlTrimSet
import Derived.Lib.ParseIntB
import Derived.WalkKit
import Derived.ProofKit
import Derived.OpenShut
import Derived.Carry
import Derived.ChangeSame
import Derived.Lib.Hide
import Derived.Deep.Draws
import Derived.Shelf.Strings.Builder1
import Derived.Shelf.Strings.Builder2
import Derived.Shelf.Strings.Trim
import Derived.Shelf.Small.Utf8
import Derived.Shelf.Small.Strs
import Derived.Shelf.Small.Wraps
import Derived.Shelf.Strings.BuilderF
import Derived.Shelf.Strings.BuilderK
import Derived.Shelf.Utf8.RuneCount
import Derived.Shelf.Strconv.Itoa0
import Derived.Shelf.Strconv.Itoa1
import Derived.Shelf.LaysM
import Derived.Shelf.Strconv.Itoa2
import Derived.Shelf.Strconv.Itoa3
import Derived.Ground.MpProg
import Derived.Shelf.Pu.ParseUintPublic10
import Derived.Shelf.Strings.Search1
import Derived.Shelf.Strings.Search2
import Derived.Shelf.Strings.Search3
import Derived.Shelf.Strings.Cut
import Derived.Shelf.Strings.Count
import Derived.Shelf.Strings.Shaped
import Derived.Shelf.Strings.Prefix
import Derived.Shelf.Strings.Split
import Derived.Shelf.Strings.Replace
import Derived.Shelf.Strings.SplitShaped
import Derived.Shelf.Unicode.Decode
import Derived.Shelf.Strings.Runes
import Derived.Shelf.Strings.RuneCount
import Derived.Shelf.Strings.AsciiSet
import Derived.Shelf.Unicode.DecodeSlow
import Derived.Shelf.Unicode.DecodeAny
import Derived.Shelf.Unicode.DecodeLast
import Derived.WalkSpells
import Derived.WalkLawsBesides
import Derived.StillTactics
import Derived.Laws.Pointers
import Derived.Deep.RegionHeld3
import Derived.Deep.QuietTactic
import Derived.BigQuiet
import Derived.RowKit3
import Derived.Lib.OthersKept
import Derived.OwnWalk
import Derived.Lib.ItoaNum
import Derived.Maps.OwnSet
import Derived.Maps.AppendAt
import Derived.Lib.Bytealg
import Derived.Lib.Replace
import Derived.Shelf.Strings.SlTrimAscii
import Derived.Lib.SmallJoins
import Derived.RangeFuncBox
import Derived.RangeFuncNested
import Derived.RangeFuncLeaves
import Derived.Shelf.Abstract
import Derived.OwnWalkIn
import Derived.TacticsInMore
import Derived.LoopNIn
import Derived.LoopIn
import Derived.Maps.OwnIn
namespace Go.Proofs.YtfbkoieodflcpaaGreatDoor
open Go.RowKit

namespace Tm
/-- good, but for what the nodes themselves may be -/
def shape : Bool → Tm → Prop
  | false, leaf n => n.kind ≠ 4 ∧ n.kind ≠ 5
  | false, un n a => n.kind = 4 ∧ (n.op = 1 ∨ n.op = 2) ∧ a.shape false
  | false, bin n a b => n.kind = 4 ∧ ¬ (n.op = 1 ∨ n.op = 2) ∧ a.shape false ∧ b.shape false
  | false, call n c => n.kind = 5 ∧ n.args = (c.len : Int) ∧ c.shape true
  | true, anil => True
  | true, acons a r => a.shape false ∧ r.shape true
  | false, anil => False
  | false, acons _ _ => False
  | true, leaf _ => False
  | true, un _ _ => False
  | true, bin _ _ _ => False
  | true, call _ _ => False
theorem good_of : ∀ {t : Tm} {b : Bool}, t.shape b → (∀ n ∈ t.nodes, n.may = true) → t.good b := by
  intro t
  induction t with
  | leaf n => intro b h hm; cases b; exact ⟨hm n (by show n ∈ [n]; simp), h.1, h.2⟩; exact h.elim
  | un n a ih => intro b h hm; cases b; exact ⟨hm n (by show n ∈ a.nodes ++ [n]; simp), h.1, h.2.1, ih h.2.2 fun m hn => hm m (by show m ∈ a.nodes ++ [n]; simp [hn])⟩; exact h.elim
  | bin n a c iha ihc => intro b h hm; cases b; exact ⟨hm n (by show n ∈ a.nodes ++ c.nodes ++ [n]; simp), h.1, h.2.1, iha h.2.2.1 fun m hn => hm m (by show m ∈ a.nodes ++ c.nodes ++ [n]; simp [hn]), ihc h.2.2.2 fun m hn => hm m (by show m ∈ a.nodes ++ c.nodes ++ [n]; simp [hn])⟩; exact h.elim
  | call n c ih => intro b h hm; cases b; exact ⟨hm n (by show n ∈ c.nodes ++ [n]; simp), h.1, h.2.1, ih h.2.2 fun m hn => hm m (by show m ∈ c.nodes ++ [n]; simp [hn])⟩; exact h.elim
  | anil => intro b h _; cases b; exact h.elim; exact True.intro
  | acons a r iha ihr => intro b h hm; cases b; exact h.elim; exact ⟨iha h.1 fun m hn => hm m (by show m ∈ a.nodes ++ r.nodes; simp [hn]), ihr h.2 fun m hn => hm m (by show m ∈ a.nodes ++ r.nodes; simp [hn])⟩
def Q (tb : Tb) (t : Tm) : Prop := t.shape false ∧ Came tb t ∧ t.isRect = false
theorem chain_rects : ∀ l : List Tm, (chain l).rects = l.map isRect
  | [] => rfl
  | t :: l => by show t.isRect :: (chain l).rects = _; rw [chain_rects l]; rfl
theorem chain_shape : ∀ {l : List Tm}, (∀ t ∈ l, t.shape false) → (chain l).shape true
  | [], _ => True.intro
  | t :: l, h => ⟨h t (by simp), chain_shape fun u hu => h u (by simp [hu])⟩
theorem chain_came {tb : Tb} : ∀ {l : List Tm}, (∀ t ∈ l, Came tb t) → Came tb (chain l)
  | [], _ => True.intro
  | t :: l, h => ⟨h t (by simp), chain_came fun u hu => h u (by simp [hu])⟩
def Treed (tb : Tb) (m : Md) (s s' : PS) : Prop := match m with
  | .lev _ => ∃ t, Q tb t ∧ s'.nodes = s.nodes ++ t.nodes
  | .prim => ∃ t, Q tb t ∧ s'.nodes = s.nodes ++ t.nodes
  | .neg _ => ∃ t, Q tb t ∧ s'.nodes = s.nodes ++ t.nodes
  | .loop _ => ∀ t0, Q tb t0 → ∃ t m, Q tb t ∧ s'.nodes = s.nodes ++ m ∧ t.nodes = t0.nodes ++ m
  | .pct => ∀ t0, Q tb t0 → ∃ t m, Q tb t ∧ s'.nodes = s.nodes ++ m ∧ t.nodes = t0.nodes ++ m
  | .args nm _ rects => ∀ cs : List Tm, rects = cs.map isRect → (∀ c ∈ cs, c.shape false ∧ Came tb c) → tb.known nm = true → nm.data.toList.length ≤ 16 → rects.length ≤ 16 → ∃ t m, Q tb t ∧ s'.nodes = s.nodes ++ m ∧ t.nodes = cs.flatMap nodes ++ m
theorem sig_op {s : PS} {k : Nat} {o : Int} (h : s.sig (sgn k) = some o) : 3 ≤ o := by
  unfold PS.sig at h
  obtain ⟨y, hy, rfl⟩ := Option.map_eq_some_iff.1 h
  have hm := List.mem_of_find?_eq_some hy
  unfold sgn at hm
  split at hm <;> simp only [List.mem_cons, List.not_mem_nil, or_false] at hm
  · rcases hm with rfl | rfl | rfl | rfl | rfl | rfl <;> decide
  · subst hm; decide
  · rcases hm with rfl | rfl <;> decide
  · rcases hm with rfl | rfl <;> decide
theorem leaf_kind {x : Tok} {n : NL} (h : leafN x = some n) : n.kind = 1 ∨ n.kind = 2 := by
  unfold leafN at h
  repeat' split at h
  all_goals first
    | (injection h with h; subst h; first | exact .inl rfl | exact .inr rfl)
    | cases h
theorem negs_tree {tb : Tb} : ∀ (l : List Int) (s s' : PS) (b : List NL) (t : Tm), negs l s = .ok s' → Q tb t → s.nodes = b ++ t.nodes → ∃ t', Q tb t' ∧ s'.nodes = b ++ t'.nodes
  | [], s, s', b, t, h, hq, hn => by simp only [negs] at h; injection h with h; subst h; exact ⟨t, hq, hn⟩
  | a :: l, s, s', b, t, h, hq, hn => by
    simp only [negs] at h
    split at h
    · cases h
    · rename_i s1 h1
      obtain ⟨rfl, _⟩ := add_some h1
      exact negs_tree l _ s' b (un (opN 1) t) h ⟨⟨rfl, .inl rfl, hq.1⟩, ⟨hq.2.1, hq.2.2⟩, rfl⟩ (by show s.nodes ++ [opN 1] = b ++ (t.nodes ++ [opN 1]); rw [hn, List.append_assoc])
theorem px_tree (tb : Tb) : ∀ (f : Nat) (m : Md) (s s' : PS), px tb f m s = some (.ok s') → Treed tb m s s' := by
  intro f
  induction f with
  | zero => intro m s s' h; cases h
  | succ f ih =>
    intro m s s' h
    cases m with
    | lev k =>
      rw [px] at h
      split at h
      · exact ih (.neg []) s s' h
      · rcases bindR_some h with ⟨_, _, _, h2⟩ | ⟨s1, h1, h2⟩
        · cases h2
        · obtain ⟨t0, q0, n0⟩ := ih _ _ _ h1
          obtain ⟨t, m, q, n1, n2⟩ := ih _ _ _ h2 t0 q0
          exact ⟨t, q, by rw [n1, n0, n2, List.append_assoc]⟩
    | loop k =>
      rw [px] at h
      split at h
      · injection h with h; injection h with h; subst h
        exact fun t0 q0 => ⟨t0, [], q0, by simp, by simp⟩
      · rename_i o ho
        rcases bindR_some h with ⟨_, _, _, h2⟩ | ⟨s1, h1, h2⟩
        · cases h2
        rcases bindR_some h2 with ⟨_, _, _, h4⟩ | ⟨s2, h3, h4⟩
        · cases h4
        injection h3 with h3
        obtain ⟨rfl, _⟩ := add_some h3
        intro t0 q0
        obtain ⟨b, qb, nb⟩ := ih _ _ _ h1
        rw [PS.step_nodes] at nb
        have h3' := sig_op ho
        obtain ⟨t, m, q, n1, n2⟩ := ih _ _ _ h4 (bin (opN o) t0 b) ⟨⟨rfl, by show ¬ (o = 1 ∨ o = 2); omega, q0.1, qb.1⟩, ⟨q0.2.1, qb.2.1, q0.2.2, qb.2.2⟩, rfl⟩
        refine ⟨t, b.nodes ++ [opN o] ++ m, q, ?_, ?_⟩
        · rw [n1]
          show (s1.nodes ++ [opN o]) ++ m = _
          rw [nb]
          simp only [List.append_assoc]
        · rw [n2]
          show (t0.nodes ++ b.nodes ++ [opN o]) ++ m = _
          simp only [List.append_assoc]
    | neg ats =>
      rw [px] at h
      split at h
      · obtain ⟨t, q, n⟩ := ih _ _ _ h
        rw [PS.step_nodes] at n
        exact ⟨t, q, n⟩
      · rcases bindR_some h with ⟨_, _, _, h2⟩ | ⟨s1, h1, h2⟩
        · cases h2
        rcases bindR_some h2 with ⟨_, _, _, h4⟩ | ⟨s2, h3, h4⟩
        · cases h4
        injection h4 with h4
        obtain ⟨t0, q0, n0⟩ := ih _ _ _ h1
        obtain ⟨t, m, q, n1, n2⟩ := ih _ _ _ h3 t0 q0
        exact negs_tree ats s2 s' s.nodes t h4 q (by rw [n1, n0, n2, List.append_assoc])
    | pct =>
      rw [px] at h
      split at h
      · rcases bindR_some h with ⟨_, _, _, h2⟩ | ⟨s1, h1, h2⟩
        · cases h2
        injection h1 with h1
        obtain ⟨rfl, _⟩ := add_some h1
        intro t0 q0
        obtain ⟨t, m, q, n1, n2⟩ := ih _ _ _ h2 (un (opN 2) t0) ⟨⟨rfl, .inr rfl, q0.1⟩, ⟨q0.2.1, q0.2.2⟩, rfl⟩
        rw [PS.step_nodes] at n1
        refine ⟨t, [opN 2] ++ m, q, ?_, ?_⟩
        · rw [n1]
          show (s.nodes ++ [opN 2]) ++ m = _
          simp only [List.append_assoc]
        · rw [n2]
          show (t0.nodes ++ [opN 2]) ++ m = _
          simp only [List.append_assoc]
      · injection h with h; injection h with h; subst h
        exact fun t0 q0 => ⟨t0, [], q0, by simp, by simp⟩
    | prim =>
      rw [px] at h
      split at h
      · rename_i n hn
        rcases bindR_some h with ⟨_, _, _, h2⟩ | ⟨s1, h1, h2⟩
        · cases h2
        injection h1 with h1
        injection h2 with h2
        injection h2 with h2
        obtain ⟨rfl, _⟩ := add_some h1
        subst h2
        have hk := leaf_kind hn
        refine ⟨leaf n, ⟨⟨by omega, by omega⟩, True.intro, ?_⟩, by rw [PS.step_nodes]; rfl⟩
        show decide (n.kind = 3) = false
        simp; omega
      · split at h
        · split at h
          · simp [PS.fail] at h
          · rename_i hgood
            rcases bindR_some h with ⟨_, _, _, h2⟩ | ⟨s1, h1, h2⟩
            · cases h2
            injection h1 with h1
            obtain ⟨e1, _, _⟩ := opens_some h1
            have hn1 : s1.nodes = s.nodes := by
              rw [e1, PS.step_nodes]
              show s.step.nodes = _
              rw [PS.step_nodes]
            have hkn : tb.known s.now.str = true := by
              cases hk : tb.known s.now.str with
              | true => rfl
              | false => exact absurd (.inr hk) hgood
            have hsz : s.now.str.data.toList.length ≤ 16 := by
              have : ¬ 16 < s.now.str.size := fun e => hgood (.inl e)
              rw [Array.length_toList]
              exact Nat.le_of_not_lt this
            obtain ⟨t, m, q, n1, n2⟩ := ih _ _ _ h2 [] rfl (fun c hc => by cases hc) hkn hsz (by simp)
            exact ⟨t, q, by rw [n1, hn1, n2]; rfl⟩
        · rcases bindR_some h with ⟨_, _, _, h2⟩ | ⟨s1, h1, h2⟩
          · cases h2
          rcases bindR_some h2 with ⟨_, _, _, h4⟩ | ⟨s2, h3, h4⟩
          · cases h4
          injection h1 with h1
          injection h4 with h4
          obtain ⟨e1, _, _⟩ := opens_some h1
          obtain ⟨e2, _⟩ := closes_some h4
          obtain ⟨t, q, n1⟩ := ih _ _ _ h3
          have hn1 : s1.nodes = s.nodes := by
            rw [e1, PS.step_nodes]
          refine ⟨t, q, ?_⟩
          rw [e2, PS.step_nodes]
          show s2.nodes = _
          rw [n1, hn1]
    | args nm p rects =>
      intro cs hrs hcs hkn hnm hlen
      rw [px] at h
      split at h
      · split at h
        · rename_i h41 htk
          rcases bindR_some h with ⟨_, _, _, h2⟩ | ⟨s1, h1, h2⟩
          · cases h2
          injection h1 with h1
          injection h2 with h2
          obtain ⟨rfl, _⟩ := add_some h1
          obtain ⟨e2, _⟩ := closes_some h2
          have hl : rects.length = cs.length := by rw [hrs]; simp
          refine ⟨call (callN nm rects.length) (chain cs), [callN nm rects.length], ⟨⟨rfl, by show (rects.length : Int) = _; rw [chain_len, hl], chain_shape fun t ht => (hcs t ht).1⟩, ⟨hkn, hnm, by rw [chain_rects, ← hrs]; exact htk, by rw [chain_len]; omega, chain_came fun t ht => (hcs t ht).2⟩, rfl⟩, ?_, ?_⟩
          · rw [e2, PS.step_nodes]
          · show (chain cs).nodes ++ _ = _
            rw [chain_nodes]
        · simp at h
      · split at h
        · simp [PS.fail] at h
        · rename_i h41 hno
          have hl16 : rects.length + 1 ≤ 16 := by
            by_cases hr : rects = []
            · rw [hr]; decide
            · have : rects.length ≠ 16 := fun e => hno ⟨hr, .inr e⟩
              omega
          rcases bindR_some h with ⟨_, _, h0, h2⟩ | ⟨s1, h0, h2⟩
          · cases h2
          injection h0 with h0
          injection h0 with h0
          have hn0 : s1.nodes = s.nodes := by
            rw [← h0]
            split
            · rfl
            · exact PS.step_nodes s
          clear h0
          split at h2
          · rcases bindR_some h2 with ⟨_, _, _, h4⟩ | ⟨s2, h3, h4⟩
            · cases h4
            injection h3 with h3
            obtain ⟨rfl, _⟩ := add_some h3
            obtain ⟨t, m, q, n1, n2⟩ := ih _ _ _ h4 (cs ++ [leaf (rectN' s1.now.t s1.now.l s1.now.b s1.now.q)]) (by rw [List.map_append, ← hrs]; rfl) (fun c hc => by
              rcases List.mem_append.1 hc with hc | hc
              · exact hcs c hc
              · rw [List.mem_singleton.1 hc]; exact ⟨⟨by show (3 : Int) ≠ 4; decide, by show (3 : Int) ≠ 5; decide⟩, True.intro⟩) hkn hnm (by simp; omega)
            rw [PS.step_nodes] at n1
            refine ⟨t, [rectN' s1.now.t s1.now.l s1.now.b s1.now.q] ++ m, q, ?_, ?_⟩
            · rw [n1]
              show (s1.nodes ++ _) ++ m = _
              rw [hn0, List.append_assoc]
            · rw [n2]; simp [nodes]
          · rcases bindR_some h2 with ⟨_, _, _, h4⟩ | ⟨s2, h3, h4⟩
            · cases h4
            obtain ⟨b, qb, nb⟩ := ih _ _ _ h3
            obtain ⟨t, m, q, n1, n2⟩ := ih _ _ _ h4 (cs ++ [b]) (by rw [List.map_append, ← hrs]; show rects ++ [false] = rects ++ [b.isRect]; rw [qb.2.2]) (fun c hc => by
              rcases List.mem_append.1 hc with hc | hc
              · exact hcs c hc
              · rw [List.mem_singleton.1 hc]; exact ⟨qb.1, qb.2.1⟩) hkn hnm (by simp; omega)
            refine ⟨t, b.nodes ++ m, q, ?_, ?_⟩
            · rw [n1, nb, hn0, List.append_assoc]
            · rw [n2]; simp
end Tm
end Go.Proofs.YtfbkoieodflcpaaGreatDoor
namespace Go.Proofs.YtfbkoieodflcpaaGreatDoor
open Go.RowKit

namespace Tm
def plT (t : Tm) : PL := ⟨(t.nest : Int), t.binds, t.isRect⟩
def plC : Tm → List PL | acons a r => plT a :: plC r | _ => []
def tlC : Tm → List TL | acons a r => a.tl :: tlC r | _ => []
theorem plC_len : ∀ {c : Tm}, c.good true → (plC c).length = c.len
  | anil, _ => rfl
  | acons a r, h => by show (plC r).length + 1 = r.len + 1; rw [plC_len h.2]
  | leaf _, h => h.elim
  | un _ _, h => h.elim
  | bin _ _ _, h => h.elim
  | call _ _, h => h.elim
theorem tlC_len : ∀ {c : Tm}, c.good true → (tlC c).length = c.len
  | anil, _ => rfl
  | acons a r, h => by show (tlC r).length + 1 = r.len + 1; rw [tlC_len h.2]
  | leaf _, h => h.elim
  | un _ _, h => h.elim
  | bin _ _ _, h => h.elim
  | call _ _, h => h.elim
theorem tlC_text : ∀ {c : Tm}, c.good true → joinT (tlC c) = c.text
  | anil, _ => rfl
  | acons a anil, _ => by show a.text ++ [] = a.text; rw [List.append_nil]
  | acons a (acons b r), h => by
    have ih := tlC_text (c := acons b r) h.2
    rw [text_acons _ _ (by simp), ← ih]
    show a.text ++ ([b.tl] ++ tlC r).flatMap _ = _
    simp [joinT, tlC, tl]
  | acons a (leaf _), h => h.2.elim
  | acons a (un _ _), h => h.2.elim
  | acons a (bin _ _ _), h => h.2.elim
  | acons a (call _ _), h => h.2.elim
  | leaf _, h => h.elim
  | un _ _, h => h.elim
  | bin _ _ _, h => h.elim
  | call _ _, h => h.elim
theorem deep_plC : ∀ (c : Tm) (d : Int), c.good true → (plC c).foldl (fun d p => max d p.depth) d = max d (c.nest : Int) ∨ (c.nest = 0 ∧ (plC c).foldl (fun d p => max d p.depth) d = d ∧ plC c = []) := by
  intro c
  induction c with
  | anil => intro d _; exact .inr ⟨rfl, rfl, rfl⟩
  | acons a r _ ih =>
    intro d h
    left
    show (plC r).foldl (fun d p => max d p.depth) (max d (a.nest : Int)) = max d ((max a.nest r.nest : Nat) : Int)
    rcases ih (max d (a.nest : Int)) h.2 with e | ⟨e1, e2, _⟩
    · rw [e]; omega
    · rw [e2, e1]; omega
  | leaf n => intro d h; exact h.elim
  | un n a _ => intro d h; exact h.elim
  | bin n a b _ _ => intro d h; exact h.elim
  | call n c _ => intro d h; exact h.elim
theorem deep_c {c : Tm} (h : c.good true) : deepL (plC c) = (c.nest : Int) := by
  unfold deepL
  rcases deep_plC c 0 h with e | ⟨e1, e2, _⟩
  · rw [e]; omega
  · rw [e2, e1]; rfl
theorem inside_eq (t : Tm) (k : Int) : (plT t).inside k = (nestAt t k : Int) := by
  unfold PL.inside nestAt plT
  simp only
  split <;> simp
abbrev stp (st : Option (List PL)) (n : NL) : Option (List PL) := st.bind fun s => stepP s n
theorem fold_p (tb : Tb) : ∀ t : Tm, (t.good false → Came tb t → ∀ st, t.nodes.foldl stp (some st) = some (st ++ [plT t])) ∧ (t.good true → Came tb t → ∀ st, t.nodes.foldl stp (some st) = some (st ++ plC t)) := by
  intro t
  induction t with
  | leaf n =>
    refine ⟨fun h _ st => ?_, fun h => h.elim⟩
    show stepP st n = _
    by_cases hk : n.kind = 3
    · rw [step_rect h.1 hk]
      show _ = some (st ++ [⟨0, 7, decide (n.kind = 3)⟩])
      rw [decide_eq_true hk]
    · rw [step_leaf h.1 hk h.2.1 h.2.2]
      show _ = some (st ++ [⟨0, 7, decide (n.kind = 3)⟩])
      rw [decide_eq_false hk]
  | un n a ih =>
    refine ⟨fun h hc st => ?_, fun h => h.elim⟩
    show (a.nodes ++ [n]).foldl stp (some st) = _
    rw [List.foldl_append, ih.1 h.2.2.2 hc.1 st]
    show stepP (st ++ [plT a]) n = _
    rw [step_one h.1 h.2.1 h.2.2.1, if_neg (by show ¬ a.isRect = true; rw [hc.2]; decide), inside_eq]
    rfl
  | bin n a b iha ihb =>
    refine ⟨fun h hc st => ?_, fun h => h.elim⟩
    show (a.nodes ++ b.nodes ++ [n]).foldl stp (some st) = _
    rw [List.foldl_append, List.foldl_append, iha.1 h.2.2.2.1 hc.1 st, ihb.1 h.2.2.2.2 hc.2.1 _]
    show stepP ((st ++ [plT a]) ++ [plT b]) n = _
    rw [List.append_assoc]
    show stepP (st ++ [plT a, plT b]) n = _
    rw [step_two h.1 h.2.1 h.2.2.1, if_neg (by show ¬ (a.isRect || b.isRect) = true; rw [hc.2.2.1, hc.2.2.2]; decide), inside_eq, inside_eq]
    congr 4
    rw [nest_bin]; omega
  | call n c ih =>
    refine ⟨fun h hc st => ?_, fun h => h.elim⟩
    show (c.nodes ++ [n]).foldl stp (some st) = _
    rw [List.foldl_append, ih.2 h.2.2.2 hc.2.2.2.2 st]
    show stepP (st ++ plC c) n = _
    rw [step_call h.1 h.2.1 (by rw [plC_len h.2.2.2, h.2.2.1]; simp), deep_c h.2.2.2]
    rfl
  | anil => exact ⟨fun h => h.elim, fun _ _ st => by show some st = some (st ++ []); rw [List.append_nil]⟩
  | acons a r iha ihr =>
    refine ⟨fun h => h.elim, fun h hc st => ?_⟩
    show (a.nodes ++ r.nodes).foldl stp (some st) = _
    rw [List.foldl_append, iha.1 h.1 hc.1 st, ihr.2 h.2 hc.2 _, List.append_assoc]
    rfl
theorem fold_t : ∀ t : Tm, (t.good false → ∀ st, t.nodes.foldl stepT st = st ++ [t.tl]) ∧ (t.good true → ∀ st, t.nodes.foldl stepT st = st ++ tlC t) := by
  intro t
  induction t with
  | leaf n =>
    refine ⟨fun h st => ?_, fun h => h.elim⟩
    show stepT st n = _
    have hb : (leaf n).tl = ⟨leafT n, 7⟩ := rfl
    rw [hb]
    unfold stepT leafT
    by_cases h1 : n.kind = 1
    · rw [if_pos h1, if_pos h1]
    · rw [if_neg h1, if_neg h1]
      by_cases h2 : n.kind = 2
      · rw [if_pos h2, if_pos h2]
      · rw [if_neg h2, if_neg h2]
        have h3 : n.kind = 3 := by
          rcases kind_of h.1 with hk | hk | hk | hk | hk
          · exact absurd hk h1
          · exact absurd hk h2
          · exact hk
          · exact absurd hk h.2.1
          · exact absurd hk h.2.2
        rw [if_pos h3]
  | un n a ih =>
    refine ⟨fun h st => ?_, fun h => h.elim⟩
    show (a.nodes ++ [n]).foldl stepT st = _
    rw [List.foldl_append, ih.1 h.2.2.2 st]
    show stepT (st ++ [a.tl]) n = _
    rcases h.2.2.1 with ho | ho
    · rw [stepT_neg h.2.1 ho]
      congr 2
      show _ = (⟨(un n a).text, (un n a).binds⟩ : TL)
      show _ = (⟨(if n.op = 1 then opT n.op ++ TL.at' ⟨a.text, a.binds⟩ (levelI n.op) else TL.at' ⟨a.text, a.binds⟩ (levelI n.op) ++ opT n.op), levelI n.op⟩ : TL)
      rw [if_pos ho]; rfl
    · rw [stepT_pct h.2.1 ho]
      congr 2
      show _ = (⟨(if n.op = 1 then opT n.op ++ TL.at' ⟨a.text, a.binds⟩ (levelI n.op) else TL.at' ⟨a.text, a.binds⟩ (levelI n.op) ++ opT n.op), levelI n.op⟩ : TL)
      rw [if_neg (by omega)]; rfl
  | bin n a b iha ihb =>
    refine ⟨fun h st => ?_, fun h => h.elim⟩
    show (a.nodes ++ b.nodes ++ [n]).foldl stepT st = _
    rw [List.foldl_append, List.foldl_append, iha.1 h.2.2.2.1 st, ihb.1 h.2.2.2.2 _]
    show stepT ((st ++ [a.tl]) ++ [b.tl]) n = _
    rw [List.append_assoc]
    show stepT (st ++ [a.tl, b.tl]) n = _
    rw [stepT_two h.2.1 (fun e => h.2.2.1 (.inl e)) (fun e => h.2.2.1 (.inr e))]
    rfl
  | call n c ih =>
    refine ⟨fun h st => ?_, fun h => h.elim⟩
    show (c.nodes ++ [n]).foldl stepT st = _
    rw [List.foldl_append, ih.2 h.2.2.2 st]
    show stepT (st ++ tlC c) n = _
    rw [stepT_call h.2.1 (by rw [tlC_len h.2.2.2, h.2.2.1]; simp), tlC_text h.2.2.2]
    rfl
  | anil => exact ⟨fun h => h.elim, fun _ st => by show st = st ++ []; rw [List.append_nil]⟩
  | acons a r iha ihr =>
    refine ⟨fun h => h.elim, fun h st => ?_⟩
    show (a.nodes ++ r.nodes).foldl stepT st = _
    rw [List.foldl_append, iha.1 h.1 st, ihr.2 h.2 _, List.append_assoc]
    rfl
theorem good_may : ∀ {t : Tm} {b : Bool}, t.good b → ∀ n ∈ t.nodes, n.may = true := by
  intro t
  induction t with
  | leaf n => intro b h m hm; cases b; rw [show m = n from List.mem_singleton.1 hm]; exact h.1; exact h.elim
  | un n a ih => intro b h m hm; cases b; rcases List.mem_append.1 (show m ∈ a.nodes ++ [n] from hm) with hm | hm; exact ih h.2.2.2 m hm; rw [List.mem_singleton.1 hm]; exact h.1; exact h.elim
  | bin n a c iha ihc => intro b h m hm; cases b; rcases List.mem_append.1 (show m ∈ a.nodes ++ c.nodes ++ [n] from hm) with hm | hm; rcases List.mem_append.1 hm with hm | hm; exact iha h.2.2.2.1 m hm; exact ihc h.2.2.2.2 m hm; rw [List.mem_singleton.1 hm]; exact h.1; exact h.elim
  | call n c ih => intro b h m hm; cases b; rcases List.mem_append.1 (show m ∈ c.nodes ++ [n] from hm) with hm | hm; exact ih h.2.2.2 m hm; rw [List.mem_singleton.1 hm]; exact h.1; exact h.elim
  | anil => intro b h m hm; cases hm
  | acons a r iha ihr => intro b h m hm; cases b; exact h.elim; rcases List.mem_append.1 (show m ∈ a.nodes ++ r.nodes from hm) with hm | hm; exact iha h.1 m hm; exact ihr h.2 m hm
end Tm
open Tm in
theorem back_tree {tb : Tb} {ts : List Tok} {s : PS} (h : parseT tb ts = .ok s) (hc : checkP s.nodes = true) (hok : ∀ n ∈ s.nodes, n.ok) : ∃ t, Fine t ∧ Came tb t ∧ t.isRect = false ∧ t.nodes = s.nodes ∧ t.nest ≤ 32 ∧ formT s.nodes = 61 :: t.text := by
  obtain ⟨t, q, hn⟩ : ∃ t, Q tb t ∧ s.nodes = t.nodes := by
    unfold parseT at h
    cases ts with
    | nil => cases h
    | cons x r =>
      simp only at h
      cases hq : px tb (8 * r.length + 16) (.lev 0) ⟨x, r, 0, []⟩ with
      | none => rw [hq] at h; cases h
      | some p =>
        rw [hq] at h
        cases p with
        | bad e a => cases h
        | ok s1 =>
          simp only at h
          split at h
          · injection h with h
            subst h
            obtain ⟨t, q, hn⟩ := px_tree tb _ (.lev 0) _ _ hq
            exact ⟨t, q, by rw [hn]; rfl⟩
          · cases h
  obtain ⟨t', g', e', _⟩ := form_tree hc
  have hmay : ∀ n ∈ t.nodes, n.may = true := by
    rw [← hn, ← e']
    exact good_may g'
  have hg := good_of q.1 hmay
  have hp : putP s.nodes = some [plT t] := by
    rw [hn]
    exact (fold_p tb t).1 hg q.2.1 []
  have ht : putT s.nodes = [t.tl] := by
    rw [hn]
    exact (fold_t t).1 hg []
  refine ⟨t, ⟨hg, by rw [← hn]; exact hok⟩, q.2.1, q.2.2, hn.symm, ?_, ?_⟩
  · unfold checkP depthP at hc
    split at hc
    · rename_i d hd
      split at hd
      · cases hd
      · rw [hp] at hd
        simp only at hd
        rw [show (plT t).many = t.isRect from rfl, q.2.2] at hd
        simp only [Bool.false_eq_true, if_false] at hd
        injection hd with hd
        have : (t.nest : Int) = d := hd
        simp only [decide_eq_true_eq] at hc
        omega
    · cases hc
  · unfold formT
    rw [ht]
    rfl
open Tm in
/-- a formula that was read is read again out of its one text -/
theorem back_law {tb : Tb} {l : List UInt8} {s : PS} (h : parseT tb (lexL l) = .ok s) (hc : checkP s.nodes = true) : ∃ s', parseT tb (lexL (formT s.nodes)) = .ok s' ∧ s'.nodes = s.nodes := by
  obtain ⟨t, hf, hcm, hr, hn, h32, hform⟩ := back_tree h hc (parse_okn tb l h)
  have hlen : s.nodes.length ≤ 1024 := by
    unfold checkP depthP at hc
    split at hc
    · rename_i d hd
      split at hd
      · cases hd
      · omega
    · cases hc
  rw [hform]
  have hts : lexL (61 :: t.text) = toks (t.text.length + 1) (t.text.length + 1) t.text := rfl
  have hlaw := lexL_laws (61 :: t.text)
  obtain ⟨x, r, hxr⟩ : ∃ x r, lexL (61 :: t.text) = x :: r := by
    cases hl : lexL (61 :: t.text) with
    | nil => have := hlaw.ne; rw [hl] at this; simp at this
    | cons x r => exact ⟨x, r, rfl⟩
  have hlast := hlaw.last
  rw [hxr] at hlast
  have hwf : (⟨x, r, 0, []⟩ : PS).wf := by
    rcases List.eq_nil_or_concat (x :: r) with h | ⟨l', y, h⟩
    · cases h
    · have hx : (x :: r)[l'.length]? = some y := by rw [h]; simp
      have hd := hlast l'.length y hx
      refine ⟨l', y, by simpa using h, ?_⟩
      rw [hd, h]; simp
  have hat : AtL (t.text.length + 1) (t.text ++ []) ⟨x, r, 0, []⟩ := by
    unfold AtL
    rw [List.append_nil, ← hts, hxr]
  have e1 : At t 1 = t.text := at_one hf.1
  have e2 : nestAt t 1 = t.nest := nest_high (binds_ge hf.1).1
  obtain ⟨f, s', hp, hrd⟩ := (read_all tb (t.text.length + 1) t.text.length).1 t [] ⟨x, r, 0, []⟩ ⟨hf, hcm, hr, stop_nil _, (fun b u e => by cases e), by show (At t 1).length ≤ _; rw [e1]; exact Nat.le_refl _, by show AtL _ (At t 1 ++ []) _; rw [e1]; exact hat, by show (0 : Int) + (nestAt t 1 : Int) ≤ 32; rw [e2]; omega, by show 0 + t.nodes.length ≤ 1024; rw [hn]; omega⟩
  obtain ⟨q, hq, _⟩ := px_total tb (8 * r.length + 16) (.lev 0) ⟨x, r, 0, []⟩ hwf (Nat.zero_le 4) (by simp [Md.rank])
  have hqs : q = .ok s' := by
    have a1 := px_le tb hp (Nat.le_max_left f (8 * r.length + 16))
    have a2 := px_le tb hq (Nat.le_max_right f (8 * r.length + 16))
    rw [a1] at a2
    injection a2 with a2
    exact a2.symm
  refine ⟨s', ?_, by rw [hrd.nodes, hn]; rfl⟩
  rw [hxr]
  simp only [parseT, hq, hqs]
  rw [if_pos (at_end hrd.at')]
end Go.Proofs.YtfbkoieodflcpaaGreatDoor
