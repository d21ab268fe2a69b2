/-
  The parser, as a plain function: what it makes of tokens.
-/
import Derived.Test.YtfbkoieodflcpaaGreatDoorMg3
import Derived.Test.YtfbkoieodflcpaaGreatDoorRows
import Derived.Test.YtfbkoieodflcpaaGreatDoorMg0
import Derived.Test.YtfbkoieodflcpaaGreatDoorProg
import Derived.Test.YtfbkoieodflcpaaGreatDoorShelf
import Derived.Test.YtfbkoieodflcpaaGreatDoorMg4
import Derived.Test.YtfbkoieodflcpaaGreatDoorAddrC
import Derived.Test.YtfbkoieodflcpaaGreatDoorMg6
import Derived.Test.YtfbkoieodflcpaaGreatDoorValA
import Derived.Test.YtfbkoieodflcpaaGreatDoorValB
import Derived.Test.YtfbkoieodflcpaaGreatDoorMg9
import Derived.Test.YtfbkoieodflcpaaGreatDoorMg10
import Derived.Lib.ItoaMem
import Derived.Lib.TrimByte
import Derived.Lib.IndexLaws
import Derived.Lib.SlTrimSet
import Derived.Lib.ParseIntB
import Derived.WalkKit
import Derived.ProofKit
import Derived.OpenShut
import Derived.Carry
import Derived.ChangeSame
import Derived.Lib.Hide
import Derived.Deep.Draws
import Derived.Shelf.Strings.Builder1
import Derived.Shelf.Strings.Builder2
import Derived.Shelf.Strings.Trim
import Derived.Shelf.Small.Utf8
import Derived.Shelf.Small.Strs
import Derived.Shelf.Small.Wraps
import Derived.Shelf.Strings.BuilderF
import Derived.Shelf.Strings.BuilderK
import Derived.Shelf.Utf8.RuneCount
import Derived.Shelf.Strconv.Itoa0
import Derived.Shelf.Strconv.Itoa1
import Derived.Shelf.LaysM
import Derived.Shelf.Strconv.Itoa2
import Derived.Shelf.Strconv.Itoa3
import Derived.Ground.MpProg
import Derived.Shelf.Pu.ParseUintPublic10
import Derived.Shelf.Strings.Search1
import Derived.Shelf.Strings.Search2
import Derived.Shelf.Strings.Search3
import Derived.Shelf.Strings.Cut
import Derived.Shelf.Strings.Count
import Derived.Shelf.Strings.Shaped
import Derived.Shelf.Strings.Prefix
import Derived.Shelf.Strings.Split
import Derived.Shelf.Strings.Replace
import Derived.Shelf.Strings.SplitShaped
import Derived.Shelf.Unicode.Decode
import Derived.Shelf.Strings.Runes
import Derived.Shelf.Strings.RuneCount
import Derived.Shelf.Strings.AsciiSet
import Derived.Shelf.Unicode.DecodeSlow
import Derived.Shelf.Unicode.DecodeAny
import Derived.Shelf.Unicode.DecodeLast
import Derived.WalkSpells
import Derived.WalkLawsBesides
import Derived.StillTactics
import Derived.Laws.Pointers
import Derived.Deep.RegionHeld3
import Derived.Deep.QuietTactic
import Derived.BigQuiet
import Derived.RowKit3
import Derived.Lib.OthersKept
import Derived.OwnWalk
import Derived.Lib.ItoaNum
import Derived.Maps.OwnSet
import Derived.Maps.AppendAt
namespace Go.Proofs.YtfbkoieodflcpaaGreatDoor
open Go.RowKit

/-- where a reader stands -/
structure PS where
  now : Tok
  rest : List Tok
  opn : Int
  nodes : List NL
/-- which functions there are -/
structure Tb where
  known : ByteArray → Bool
  takes : ByteArray → List Bool → Bool
/-- what comes of reading: on from there, or an error and its place -/
inductive PR where
  | ok (s : PS)
  | bad (err at' : Int)
def PS.step (s : PS) : PS := match s.rest with | [] => s | x :: r => { s with now := x, rest := r }
def PS.is (s : PS) (c : List UInt8) : Bool := decide (s.now.kind = 7) && decide (s.now.str = ⟨c.toArray⟩)
def PS.fail (s : PS) : PR := .bad 8 s.now.place
def PS.add (s : PS) (n : NL) (at' : Int) : PR := if s.nodes.length = 1024 then .bad 8 at' else .ok { s with nodes := s.nodes ++ [n] }
def vl0 : VL := ⟨0, 0, ⟨#[]⟩, false, 0⟩
def opN (o : Int) : NL := ⟨4, vl0, 0, 0, 0, 0, 0, 0, o, ⟨#[]⟩, 0⟩
def valN (v : VL) : NL := ⟨1, v, 0, 0, 0, 0, 0, 0, 0, ⟨#[]⟩, 0⟩
def cellN (r c : Int) : NL := ⟨2, vl0, r, c, 0, 0, 0, 0, 0, ⟨#[]⟩, 0⟩
def rectN' (t l b q : Int) : NL := ⟨3, vl0, 0, 0, t, l, b, q, 0, ⟨#[]⟩, 0⟩
def callN (s : ByteArray) (n : Int) : NL := ⟨5, vl0, 0, 0, 0, 0, 0, 0, 0, s, n⟩
def PS.opens (s : PS) : PR := if s.is [40] = false then s.fail else if s.opn = 32 then .bad 7 s.now.place else .ok { s with opn := s.opn + 1 }.step
def PS.closes (s : PS) : PR := if s.is [41] = false then s.fail else .ok { s with opn := s.opn - 1 }.step
def trueS : ByteArray := ⟨#[84, 82, 85, 69]⟩
def falseS : ByteArray := ⟨#[70, 65, 76, 83, 69]⟩
/-- the node that a token is by itself -/
def leafN (x : Tok) : Option NL :=
  if x.kind = 1 then some (valN ⟨1, x.num, ⟨#[]⟩, false, 0⟩)
  else if x.kind = 2 then some (valN ⟨2, 0, x.str, false, 0⟩)
  else if x.kind = 6 then some (valN ⟨4, 0, ⟨#[]⟩, false, x.code⟩)
  else if x.kind = 4 then some (cellN x.r x.c)
  else if x.kind = 3 then (if x.str = trueS then some (valN ⟨3, 0, ⟨#[]⟩, true, 0⟩) else if x.str = falseS then some (valN ⟨3, 0, ⟨#[]⟩, false, 0⟩) else none)
  else none
/-- the signs of a level, and their operations -/
def sgn : Nat → List (List UInt8 × Int)
  | 0 => [([61], 8), ([60, 62], 9), ([60], 10), ([60, 61], 11), ([62], 12), ([62, 61], 13)]
  | 1 => [([38], 7)]
  | 2 => [([43], 5), ([45], 6)]
  | _ => [([42], 3), ([47], 4)]
def PS.sig (s : PS) (l : List (List UInt8 × Int)) : Option Int := (l.find? fun x => s.is x.1).map (·.2)
/-- then, if nothing is wrong -/
def bindR (x : Option PR) (f : PS → Option PR) : Option PR := match x with | none => none | some (.bad e a) => some (.bad e a) | some (.ok s) => f s
/-- the signs ahead, the last one first -/
def negs : List Int → PS → PR
  | [], s => .ok s
  | a :: l, s => match s.add (opN 1) a with | .bad e b => .bad e b | .ok s' => negs l s'
inductive Md where
  | lev (k : Nat)
  | loop (k : Nat)
  | neg (ats : List Int)
  | pct
  | prim
  | args (name : ByteArray) (at' : Int) (rects : List Bool)
def px (tb : Tb) : Nat → Md → PS → Option PR
  | 0, _, _ => none
  | f + 1, .lev k, s => if k = 4 then px tb f (.neg []) s else bindR (px tb f (.lev (k + 1)) s) (px tb f (.loop k))
  | f + 1, .loop k, s => match s.sig (sgn k) with
    | none => some (.ok s)
    | some o => bindR (px tb f (.lev (k + 1)) s.step) fun s' => bindR (some (s'.add (opN o) s.now.place)) (px tb f (.loop k))
  | f + 1, .neg ats, s => if s.is [45] then px tb f (.neg (s.now.place :: ats)) s.step
    else bindR (px tb f .prim s) fun s' => bindR (px tb f .pct s') fun s'' => some (negs ats s'')
  | f + 1, .pct, s => if s.is [37] then bindR (some (s.add (opN 2) s.now.place)) fun s' => px tb f .pct s'.step else some (.ok s)
  | f + 1, .prim, s => match leafN s.now with
    | some n => bindR (some (s.add n s.now.place)) fun s' => some (.ok s'.step)
    | none =>
      if s.now.kind = 3 then
        if 16 < s.now.str.size ∨ tb.known s.now.str = false then some s.fail
        else bindR (some s.step.opens) (px tb f (.args s.now.str s.now.place []))
      else bindR (some s.opens) fun s' => bindR (px tb f (.lev 0) s') fun s'' => some s''.closes
  | f + 1, .args nm p rects, s =>
    if s.is [41] then
      if tb.takes nm rects then bindR (some (s.add (callN nm rects.length) p)) fun s' => some s'.closes else some (.bad 8 p)
    else if rects ≠ [] ∧ (s.is [44] = false ∨ rects.length = 16) then some s.fail
    else bindR (some (.ok (if rects = [] then s else s.step))) fun s1 =>
      if s1.now.kind = 5 then bindR (some (s1.add (rectN' s1.now.t s1.now.l s1.now.b s1.now.q) s1.now.place)) fun s2 => px tb f (.args nm p (rects ++ [true])) s2.step
      else bindR (px tb f (.lev 0) s1) (px tb f (.args nm p (rects ++ [false])))
/-- what is read out of tokens -/
def parseT (tb : Tb) (ts : List Tok) : PR := match ts with
  | [] => .bad 8 0
  | x :: r => match px tb (8 * r.length + 16) (.lev 0) ⟨x, r, 0, []⟩ with
    | none => .bad 8 0
    | some (.bad e a) => .bad e a
    | some (.ok s) => if s.now.kind = 0 then .ok s else s.fail
/-- the last token is one behind which nothing stands -/
def PS.wf (s : PS) : Prop := ∃ l x, s.now :: s.rest = l ++ [x] ∧ x.last = true
theorem PS.wf_rest {s : PS} (h : s.wf) (hn : s.now.last = false) : ∃ x r, s.rest = x :: r := by
  obtain ⟨l, x, e, hx⟩ := h
  cases hr : s.rest with
  | cons y r => exact ⟨y, r, rfl⟩
  | nil =>
    rw [hr] at e
    cases l with
    | nil => simp at e; rw [e, hx] at hn; cases hn
    | cons b l => simp at e
theorem PS.wf_step {s : PS} (h : s.wf) : s.step.wf := by
  obtain ⟨l, x, e, hx⟩ := h
  unfold PS.step
  cases hr : s.rest with
  | nil => exact ⟨l, x, e, hx⟩
  | cons y r =>
    rw [hr] at e
    cases l with
    | nil => simp at e
    | cons b l =>
      simp only [List.cons_append, List.cons.injEq] at e
      exact ⟨l, x, e.2, hx⟩
theorem PS.step_len {s : PS} (h : s.wf) (hn : s.now.last = false) : s.step.rest.length + 1 = s.rest.length := by
  obtain ⟨x, r, e⟩ := PS.wf_rest h hn
  unfold PS.step
  rw [e]; simp
theorem PS.step_le (s : PS) : s.step.rest.length ≤ s.rest.length := by
  unfold PS.step
  split
  · exact Nat.le_refl _
  · rename_i h; rw [h]; simp
theorem PS.step_opn (s : PS) : s.step.opn = s.opn := by unfold PS.step; split <;> rfl
theorem PS.step_nodes (s : PS) : s.step.nodes = s.nodes := by unfold PS.step; split <;> rfl
theorem PS.is_kind {s : PS} {c : List UInt8} (h : s.is c = true) : s.now.kind = 7 := by simp [PS.is] at h; exact h.1
theorem kind_last {x : Tok} (h0 : x.kind ≠ 0) (h8 : x.kind ≠ 8) : x.last = false := by simp [Tok.last, h0, h8]
theorem PS.is_last {s : PS} {c : List UInt8} (h : s.is c = true) : s.now.last = false := by
  have := PS.is_kind h
  exact kind_last (by omega) (by omega)
theorem PS.sig_last {s : PS} {l : List (List UInt8 × Int)} {o : Int} (h : s.sig l = some o) : s.now.last = false := by
  unfold PS.sig at h
  obtain ⟨x, hx, _⟩ := Option.map_eq_some_iff.1 h
  exact PS.is_last (s := s) (c := x.1) (List.find?_some (p := fun x : List UInt8 × Int => s.is x.1) hx)
theorem leaf_last {x : Tok} {n : NL} (h : leafN x = some n) : x.last = false := by
  unfold leafN at h
  split at h; · exact kind_last (by omega) (by omega)
  split at h; · exact kind_last (by omega) (by omega)
  split at h; · exact kind_last (by omega) (by omega)
  split at h; · exact kind_last (by omega) (by omega)
  split at h; · exact kind_last (by omega) (by omega)
  cases h
theorem bindR_some {x : Option PR} {f : PS → Option PR} {r : PR} (h : bindR x f = some r) : (∃ e a, x = some (.bad e a) ∧ r = .bad e a) ∨ ∃ s, x = some (.ok s) ∧ f s = some r := by
  unfold bindR at h
  split at h
  · cases h
  · injection h with h; subst h; exact .inl ⟨_, _, rfl, rfl⟩
  · exact .inr ⟨_, rfl, h⟩
theorem add_some {s : PS} {n : NL} {a : Int} {s' : PS} (h : s.add n a = .ok s') : s' = { s with nodes := s.nodes ++ [n] } ∧ s.nodes.length ≠ 1024 := by
  unfold PS.add at h
  split at h
  · cases h
  · rename_i hn; injection h with h; exact ⟨h.symm, hn⟩
theorem opens_some {s s' : PS} (h : s.opens = .ok s') : s' = { s with opn := s.opn + 1 }.step ∧ s.is [40] = true ∧ s.opn ≠ 32 := by
  unfold PS.opens at h
  split at h
  · cases h
  · rename_i h1
    split at h
    · cases h
    · rename_i h2; injection h with h; exact ⟨h.symm, by simpa using h1, h2⟩
theorem closes_some {s s' : PS} (h : s.closes = .ok s') : s' = { s with opn := s.opn - 1 }.step ∧ s.is [41] = true := by
  unfold PS.closes at h
  split at h
  · cases h
  · rename_i h1; injection h with h; exact ⟨h.symm, by simpa using h1⟩
theorem negs_some : ∀ {l : List Int} {s s' : PS}, negs l s = .ok s' → s'.now = s.now ∧ s'.rest = s.rest ∧ s'.opn = s.opn ∧ ∃ m, s'.nodes = s.nodes ++ m
  | [], s, s', h => by simp only [negs] at h; injection h with h; subst h; exact ⟨rfl, rfl, rfl, [], by simp⟩
  | a :: l, s, s', h => by
    simp only [negs] at h
    split at h
    · cases h
    · rename_i s1 h1
      obtain ⟨rfl, _⟩ := add_some h1
      obtain ⟨e1, e2, e3, m, e4⟩ := negs_some h
      exact ⟨e1, e2, e3, [opN 1] ++ m, by rw [e4]; simp⟩
/-- how open brackets count at the end of a part -/
def Md.opn : Md → Int | .args .. => 1 | _ => 0
def Md.strict : Md → Nat | .lev _ => 1 | .neg _ => 1 | .prim => 1 | .args .. => 1 | _ => 0
def Md.rank : Md → Nat | .lev k => 8 - k | .loop _ => 1 | .neg _ => 3 | .pct => 1 | .prim => 2 | .args .. => 9
def Md.ok : Md → Prop | .lev k => k ≤ 4 | .loop k => k ≤ 3 | _ => True
/-- what a part that is read leaves -/
structure PS.After (m : Md) (s s' : PS) : Prop where
  wf : s'.wf
  len : s'.rest.length + m.strict ≤ s.rest.length
  opn : s'.opn + m.opn = s.opn
  nodes : ∃ n, s'.nodes = s.nodes ++ n
  most : s.nodes.length ≤ 1024 → s'.nodes.length ≤ 1024
def Good (m : Md) (s : PS) (x : Option PR) : Prop := ∃ r, x = some r ∧ ∀ s', r = .ok s' → PS.After m s s'
theorem good_bad (m : Md) (s : PS) (e a : Int) : Good m s (some (.bad e a)) := ⟨_, rfl, fun s' h => by cases h⟩
theorem good_bind {m : Md} {s : PS} {x : Option PR} {f : PS → Option PR} {Q : PS → Prop} (h : ∃ r, x = some r ∧ ∀ s', r = .ok s' → Q s') (hf : ∀ s1, x = some (.ok s1) → Q s1 → Good m s (f s1)) : Good m s (bindR x f) := by
  obtain ⟨r, rfl, hr⟩ := h
  cases r with
  | bad e a => exact good_bad _ _ _ _
  | ok s1 => exact hf s1 rfl (hr s1 rfl)
theorem add_after (s : PS) (n : NL) (a : Int) : ∃ r, some (s.add n a) = some r ∧ ∀ s', r = .ok s' → (s'.now = s.now ∧ s'.rest = s.rest ∧ s'.opn = s.opn ∧ s'.nodes = s.nodes ++ [n] ∧ (s.nodes.length ≤ 1024 → s'.nodes.length ≤ 1024)) := by
  refine ⟨_, rfl, fun s' h => ?_⟩
  obtain ⟨rfl, h1⟩ := add_some h
  exact ⟨rfl, rfl, rfl, rfl, fun h2 => by simp; omega⟩
theorem PS.wf_of {s s' : PS} (h : s.wf) (h1 : s'.now = s.now) (h2 : s'.rest = s.rest) : s'.wf := by unfold PS.wf; rw [h1, h2]; exact h
theorem negs_most : ∀ {l : List Int} {s s' : PS}, negs l s = .ok s' → s.nodes.length ≤ 1024 → s'.nodes.length ≤ 1024
  | [], s, s', h, hm => by simp only [negs] at h; injection h with h; subst h; exact hm
  | a :: l, s, s', h, hm => by
    simp only [negs] at h
    split at h
    · cases h
    · rename_i s1 h1
      obtain ⟨rfl, h2⟩ := add_some h1
      exact negs_most h (by simp; omega)
theorem px_total (tb : Tb) : ∀ (f : Nat) (m : Md) (s : PS), s.wf → m.ok → 8 * s.rest.length + m.rank ≤ f → Good m s (px tb f m s) := by
  intro f
  induction f with
  | zero =>
    intro m s _ _ hf
    cases m <;> simp only [Md.rank, Md.ok] at * <;> omega
  | succ f ih =>
    intro m s hw hm hf
    cases m with
    | lev k =>
      simp only [Md.rank, Md.ok] at hm hf
      simp only [px]
      split
      · obtain ⟨r, e, h⟩ := ih (.neg []) s hw trivial (by simp only [Md.rank]; omega)
        exact ⟨r, e, fun s' hs => ⟨(h s' hs).wf, (h s' hs).len, (h s' hs).opn, (h s' hs).nodes, (h s' hs).most⟩⟩
      · refine good_bind (ih (.lev (k + 1)) s hw (by simp only [Md.ok]; omega) (by simp only [Md.rank]; omega)) fun s1 _ h1 => ?_
        have hl := h1.len
        simp only [Md.strict] at hl
        obtain ⟨r, e, h⟩ := ih (.loop k) s1 h1.wf (by simp only [Md.ok]; omega) (by simp only [Md.rank]; omega)
        refine ⟨r, e, fun s' hs => ⟨(h s' hs).wf, ?_, ?_, ?_, fun hm => (h s' hs).most (h1.most hm)⟩⟩
        · have := (h s' hs).len; simp only [Md.strict] at this ⊢; omega
        · have a := (h s' hs).opn; have b := h1.opn; simp only [Md.opn] at a b ⊢; omega
        · obtain ⟨x, hx⟩ := h1.nodes; obtain ⟨y, hy⟩ := (h s' hs).nodes; exact ⟨x ++ y, by rw [hy, hx]; simp⟩
    | loop k =>
      simp only [Md.rank, Md.ok] at hm hf
      simp only [px]
      split
      · exact ⟨_, rfl, fun s' hs => by injection hs with hs; subst hs; exact ⟨hw, by simp [Md.strict], by simp [Md.opn], ⟨[], by simp⟩, id⟩⟩
      · rename_i o ho
        have hsl := PS.step_len hw (PS.sig_last ho)
        refine good_bind (ih (.lev (k + 1)) s.step (PS.wf_step hw) (by simp only [Md.ok]; omega) (by simp only [Md.rank]; omega)) fun s1 _ h1 => ?_
        refine good_bind (add_after s1 _ _) fun s2 _ h2 => ?_
        obtain ⟨a1, a2, a3, a4, a5⟩ := h2
        have hl := h1.len
        simp only [Md.strict] at hl
        obtain ⟨r, e, h⟩ := ih (.loop k) s2 (PS.wf_of h1.wf a1 a2) (by simp only [Md.ok]; omega) (by rw [a2]; simp only [Md.rank]; omega)
        refine ⟨r, e, fun s' hs => ⟨(h s' hs).wf, ?_, ?_, ?_, fun hm => (h s' hs).most (a5 (h1.most (by rw [PS.step_nodes]; exact hm)))⟩⟩
        · have := (h s' hs).len; rw [a2] at this; simp only [Md.strict] at this ⊢; omega
        · have a := (h s' hs).opn; have b := h1.opn; rw [PS.step_opn] at b; simp only [Md.opn] at a b ⊢; omega
        · obtain ⟨x, hx⟩ := h1.nodes; obtain ⟨y, hy⟩ := (h s' hs).nodes; rw [PS.step_nodes] at hx; exact ⟨x ++ [opN o] ++ y, by rw [hy, a4, hx]; simp⟩
    | neg ats =>
      simp only [Md.rank, Md.ok] at hm hf
      simp only [px]
      split
      · rename_i h45
        have hsl := PS.step_len hw (PS.is_last h45)
        obtain ⟨r, e, h⟩ := ih (.neg (s.now.place :: ats)) s.step (PS.wf_step hw) trivial (by simp only [Md.rank]; omega)
        refine ⟨r, e, fun s' hs => ⟨(h s' hs).wf, ?_, ?_, ?_, fun hm => (h s' hs).most (by rw [PS.step_nodes]; exact hm)⟩⟩
        · have := (h s' hs).len; simp only [Md.strict] at this ⊢; omega
        · have := (h s' hs).opn; rw [PS.step_opn] at this; exact this
        · have := (h s' hs).nodes; rw [PS.step_nodes] at this; exact this
      · refine good_bind (ih .prim s hw trivial (by simp only [Md.rank]; omega)) fun s1 _ h1 => ?_
        have hl := h1.len
        simp only [Md.strict] at hl
        refine good_bind (ih .pct s1 h1.wf trivial (by simp only [Md.rank]; omega)) fun s2 _ h2 => ?_
        refine ⟨_, rfl, fun s' hs => ?_⟩
        obtain ⟨e1, e2, e3, n, e4⟩ := negs_some hs
        refine ⟨PS.wf_of h2.wf e1 e2, ?_, ?_, ?_, fun hm => negs_most hs (h2.most (h1.most hm))⟩
        · have := h2.len; simp only [Md.strict] at this ⊢; rw [e2]; omega
        · have a := h1.opn; have b := h2.opn; simp only [Md.opn] at a b ⊢; omega
        · obtain ⟨x, hx⟩ := h1.nodes; obtain ⟨y, hy⟩ := h2.nodes; exact ⟨x ++ y ++ n, by rw [e4, hy, hx]; simp⟩
    | pct =>
      simp only [Md.rank, Md.ok] at hm hf
      simp only [px]
      split
      · rename_i h37
        have hsl := PS.step_len hw (PS.is_last h37)
        refine good_bind (add_after s _ _) fun s1 _ h1 => ?_
        obtain ⟨a1, a2, a3, a4, a5⟩ := h1
        have hw1 := PS.wf_of hw a1 a2
        have hsl1 := PS.step_len hw1 (by rw [a1]; exact PS.is_last h37)
        rw [a2] at hsl1
        obtain ⟨r, e, h⟩ := ih .pct s1.step (PS.wf_step hw1) trivial (by simp only [Md.rank]; omega)
        refine ⟨r, e, fun s' hs => ⟨(h s' hs).wf, ?_, ?_, ?_, fun hm => (h s' hs).most (by rw [PS.step_nodes]; exact a5 hm)⟩⟩
        · have := (h s' hs).len; simp only [Md.strict] at this ⊢; omega
        · have := (h s' hs).opn; rw [PS.step_opn, a3] at this; exact this
        · obtain ⟨y, hy⟩ := (h s' hs).nodes; rw [PS.step_nodes, a4] at hy; exact ⟨[opN 2] ++ y, by rw [hy]; simp⟩
      · exact ⟨_, rfl, fun s' hs => by injection hs with hs; subst hs; exact ⟨hw, by simp [Md.strict], by simp [Md.opn], ⟨[], by simp⟩, id⟩⟩
    | prim =>
      simp only [Md.rank, Md.ok] at hm hf
      simp only [px]
      split
      · rename_i n hn
        refine good_bind (add_after s _ _) fun s1 _ h1 => ?_
        obtain ⟨a1, a2, a3, a4, a5⟩ := h1
        have hw1 := PS.wf_of hw a1 a2
        have hsl1 := PS.step_len hw1 (by rw [a1]; exact leaf_last hn)
        rw [a2] at hsl1
        refine ⟨_, rfl, fun s' hs => ?_⟩
        injection hs with hs
        subst hs
        refine ⟨(PS.wf_step hw1), ?_, ?_, ?_, fun hm => by rw [PS.step_nodes]; exact a5 hm⟩
        · simp only [Md.strict]; omega
        · rw [PS.step_opn, a3]; simp [Md.opn]
        · exact ⟨[n], by rw [PS.step_nodes, a4]⟩
      · split
        · rename_i h3
          have hsl := PS.step_len hw (kind_last (x := s.now) (by omega) (by omega))
          split
          · exact good_bad _ _ _ _
          · refine good_bind (Q := fun s1 => s1.wf ∧ s1.rest.length + 1 = s.step.rest.length ∧ s1.opn = s.opn + 1 ∧ s1.nodes = s.nodes) ⟨_, rfl, fun s' hs => ?_⟩ fun s1 _ h1 => ?_
            · obtain ⟨rfl, h40, _⟩ := opens_some hs
              have hw2 : ({ s.step with opn := s.step.opn + 1 } : PS).wf := PS.wf_of (PS.wf_step hw) rfl rfl
              have := PS.step_len hw2 (PS.is_last (s := { s.step with opn := s.step.opn + 1 }) h40)
              exact ⟨(PS.wf_step hw2), this, by rw [PS.step_opn, PS.step_opn], by rw [PS.step_nodes, PS.step_nodes]⟩
            · obtain ⟨b1, b2, b3, b4⟩ := h1
              obtain ⟨r, e, h⟩ := ih (.args s.now.str s.now.place []) s1 b1 trivial (by simp only [Md.rank]; omega)
              refine ⟨r, e, fun s' hs => ⟨(h s' hs).wf, ?_, ?_, ?_, fun hm => (h s' hs).most (by rw [b4]; exact hm)⟩⟩
              · have := (h s' hs).len; simp only [Md.strict] at this ⊢; omega
              · have := (h s' hs).opn; simp only [Md.opn] at this ⊢; omega
              · have := (h s' hs).nodes; rw [b4] at this; exact this
        · refine good_bind (Q := fun s1 => s1.wf ∧ s1.rest.length + 1 = s.rest.length ∧ s1.opn = s.opn + 1 ∧ s1.nodes = s.nodes) ⟨_, rfl, fun s' hs => ?_⟩ fun s1 _ h1 => ?_
          · obtain ⟨rfl, h40, _⟩ := opens_some hs
            have hw2 : ({ s with opn := s.opn + 1 } : PS).wf := PS.wf_of hw rfl rfl
            have := PS.step_len hw2 (PS.is_last (s := { s with opn := s.opn + 1 }) h40)
            exact ⟨(PS.wf_step hw2), this, by rw [PS.step_opn], by rw [PS.step_nodes]⟩
          · obtain ⟨b1, b2, b3, b4⟩ := h1
            refine good_bind (ih (.lev 0) s1 b1 (by simp only [Md.ok]; omega) (by simp only [Md.rank]; omega)) fun s2 _ h2 => ?_
            have hl := h2.len
            simp only [Md.strict] at hl
            refine ⟨_, rfl, fun s' hs => ?_⟩
            obtain ⟨rfl, h41⟩ := closes_some hs
            have hw2 : ({ s2 with opn := s2.opn - 1 } : PS).wf := PS.wf_of h2.wf rfl rfl
            have := PS.step_len hw2 (PS.is_last (s := { s2 with opn := s2.opn - 1 }) h41)
            refine ⟨(PS.wf_step hw2), ?_, ?_, ?_, fun hm => ?_⟩
            · simp only [Md.strict] at this ⊢; omega
            · have := h2.opn; rw [PS.step_opn]; simp only [Md.opn] at this ⊢; omega
            · have := h2.nodes; rw [b4] at this; rw [PS.step_nodes]; exact this
            · rw [PS.step_nodes]; exact h2.most (by rw [b4]; exact hm)
    | args nm p rects =>
      simp only [Md.rank, Md.ok] at hm hf
      simp only [px]
      split
      · rename_i h41
        have hsl := PS.step_len hw (PS.is_last h41)
        split
        · refine good_bind (add_after s _ _) fun s1 _ h1 => ?_
          obtain ⟨a1, a2, a3, a4, a5⟩ := h1
          refine ⟨_, rfl, fun s' hs => ?_⟩
          obtain ⟨rfl, h41'⟩ := closes_some hs
          have hw2 : ({ s1 with opn := s1.opn - 1 } : PS).wf := PS.wf_of hw a1 a2
          have := PS.step_len hw2 (PS.is_last (s := { s1 with opn := s1.opn - 1 }) h41')
          refine ⟨(PS.wf_step hw2), ?_, ?_, ?_, fun hm => ?_⟩
          · have e2 := congrArg List.length a2; dsimp only at this; simp only [Md.strict] at this ⊢; omega
          · rw [PS.step_opn]; simp only [Md.opn]; omega
          · exact ⟨_, by rw [PS.step_nodes]; exact a4⟩
          · rw [PS.step_nodes]; exact a5 hm
        · exact good_bad _ _ _ _
      · split
        · exact good_bad _ _ _ _
        · refine good_bind (Q := fun s1 => s1.wf ∧ s1.rest.length ≤ s.rest.length ∧ s1.opn = s.opn ∧ s1.nodes = s.nodes) ⟨_, rfl, fun s' hs => ?_⟩ fun s1 _ h1 => ?_
          · injection hs with hs
            subst hs
            split
            · exact ⟨hw, Nat.le_refl _, rfl, rfl⟩
            · exact ⟨(PS.wf_step hw), PS.step_le s, PS.step_opn s, PS.step_nodes s⟩
          · obtain ⟨b1, b2, b3, b4⟩ := h1
            split
            · rename_i h5
              refine good_bind (add_after s1 _ _) fun s2 _ h2 => ?_
              obtain ⟨a1, a2, a3, a4, a5⟩ := h2
              have hw1 := PS.wf_of b1 a1 a2
              have hsl1 := PS.step_len hw1 (by rw [a1]; exact kind_last (by omega) (by omega))
              rw [a2] at hsl1
              obtain ⟨r, e, h⟩ := ih (.args nm p (rects ++ [true])) s2.step (PS.wf_step hw1) trivial (by simp only [Md.rank]; omega)
              refine ⟨r, e, fun s' hs => ⟨(h s' hs).wf, ?_, ?_, ?_, fun hm => (h s' hs).most (by rw [PS.step_nodes]; exact a5 (by rw [b4]; exact hm))⟩⟩
              · have := (h s' hs).len; simp only [Md.strict] at this ⊢; omega
              · have := (h s' hs).opn; rw [PS.step_opn, a3, b3] at this; exact this
              · obtain ⟨y, hy⟩ := (h s' hs).nodes; rw [PS.step_nodes, a4, b4] at hy; exact ⟨[rectN' s1.now.t s1.now.l s1.now.b s1.now.q] ++ y, by rw [hy, List.append_assoc]⟩
            · refine good_bind (ih (.lev 0) s1 b1 (by simp only [Md.ok]; omega) (by simp only [Md.rank]; omega)) fun s2 _ h2 => ?_
              have hl := h2.len
              simp only [Md.strict] at hl
              obtain ⟨r, e, h⟩ := ih (.args nm p (rects ++ [false])) s2 h2.wf trivial (by simp only [Md.rank]; omega)
              refine ⟨r, e, fun s' hs => ⟨(h s' hs).wf, ?_, ?_, ?_, fun hm => (h s' hs).most (h2.most (by rw [b4]; exact hm))⟩⟩
              · have := (h s' hs).len; simp only [Md.strict] at this ⊢; omega
              · have a := (h s' hs).opn; have b := h2.opn; simp only [Md.opn] at a b ⊢; omega
              · obtain ⟨x, hx⟩ := h2.nodes; obtain ⟨y, hy⟩ := (h s' hs).nodes; rw [b4] at hx; exact ⟨x ++ y, by rw [hy, hx]; simp⟩
end Go.Proofs.YtfbkoieodflcpaaGreatDoor
