/-
  Rows of cells in memory; A map by texts that a literal makes, in the call's own memory: filled, looked into; Arguments of functions: how they lie in memory; refs, as plain functions; rows of tokens in memory; orielref04: Lex; refs: the row of parts, plain; refs: may whole; Slices of things of several cells that came in: their lists.
-/
import Derived.Test.YtiekhbagpmnboaaGreatDoorRows
import Derived.Test.YtiekhbagpmnboaaGreatDoorMg0
import Derived.Test.YtiekhbagpmnboaaGreatDoorProg
import Derived.Test.YtiekhbagpmnboaaGreatDoorAddrC
import Derived.Test.YtiekhbagpmnboaaGreatDoorMg2
import Derived.Test.YtiekhbagpmnboaaGreatDoorMg26
import Derived.Test.YtiekhbagpmnboaaGreatDoorValA
import Derived.Test.YtiekhbagpmnboaaGreatDoorValB
import Derived.Test.YtiekhbagpmnboaaGreatDoorMg5
import Derived.Test.YtiekhbagpmnboaaGreatDoorMg27
import Derived.Test.YtiekhbagpmnboaaGreatDoorLexS
import Derived.Test.YtiekhbagpmnboaaGreatDoorMg29
import Derived.Test.YtiekhbagpmnboaaGreatDoorLexN
import Derived.Test.YtiekhbagpmnboaaGreatDoorRDPar
import Derived.Test.YtiekhbagpmnboaaGreatDoorRDParB
import Derived.Test.YtiekhbagpmnboaaGreatDoorDDig
import Derived.Test.YtiekhbagpmnboaaGreatDoorDParse
import Derived.Test.YtiekhbagpmnboaaGreatDoorRDJoin
import Derived.Test.YtiekhbagpmnboaaGreatDoorLexD
import Derived.Test.YtiekhbagpmnboaaGreatDoorLexB
import Derived.WalkSpells
import Derived.WalkLawsBesides
import Derived.StillTactics
import Derived.Laws.Pointers
import Derived.Deep.RegionHeld3
import Derived.Deep.QuietTactic
import Derived.BigQuiet
import Derived.RowKit3
import Derived.Lib.Hide
import Derived.Lib.OthersKept
import Derived.OwnWalk
import Derived.Lib.IndexLaws
import Derived.Lib.ItoaMem
import Derived.WalkKit
import Derived.ProofKit
import Derived.OpenShut
import Derived.Carry
import Derived.ChangeSame
import Derived.Deep.Draws
import Derived.Deep.Slices
import Derived.ChangeSlices
import Derived.Maps.OwnSet
import Derived.Maps.AppendAt
import Derived.Lib.TrimByte
import Derived.Lib.SlTrimSet
import Derived.Lib.ParseIntB
import Derived.Shelf.Strings.Builder1
import Derived.Shelf.Strings.Trim
import Derived.Shelf.Small.Utf8
import Derived.Shelf.Small.Strs
import Derived.Shelf.Small.Wraps
import Derived.Shelf.Strings.BuilderF
import Derived.Shelf.Strings.BuilderK
import Derived.Shelf.Strconv.Itoa0
import Derived.Shelf.Strconv.Itoa1
import Derived.Shelf.LaysM
import Derived.Shelf.Strconv.Itoa2
import Derived.Shelf.Strconv.Itoa3
import Derived.Ground.MpProg
import Derived.Shelf.Pu.ParseUintPublic10
import Derived.Shelf.Strings.Search1
import Derived.Shelf.Strings.Search2
import Derived.Shelf.Strings.Cut
import Derived.Shelf.Strings.Shaped
import Derived.Shelf.Strings.Prefix
import Derived.Shelf.Strings.Runes
import Derived.Shelf.Strings.AsciiSet
import Derived.Shelf.Unicode.DecodeSlow
import Derived.Lib.ItoaNum
import Derived.Shelf.Strings.SlTrimAscii
import Derived.Lib.SmallJoins
namespace Go.Proofs.YtiekhbagpmnboaaGreatDoor
open Go.RowKit

/-- rows of cells, k a row -/
def RdS (w : World) (A : Option Addr) (k : Nat) (l : List (List Value)) : Prop :=
  ∀ i c, l[i]? = some c → ∃ b o, A = some ⟨b, o, none⟩ ∧ b < w.heap.size ∧ ∀ j u, c[j]? = some u → w.cell? ⟨b, o + i * k + j, none⟩ = some u
theorem RdS.below {w w' : World} {A : Option Addr} {k : Nat} {l : List (List Value)} (h : RdS w A k l) {B : Nat} (hb : Below B w w') (hB : w.heap.size ≤ B) : RdS w' A k l := fun i c hi => by
  obtain ⟨b, o, e, hlt, hc⟩ := h i c hi
  exact ⟨b, o, e, Nat.lt_of_lt_of_le hlt hb.size, fun j u hu => (hb.cell (p := ⟨b, _, none⟩) (Nat.lt_of_lt_of_le hlt hB)).trans (hc j u hu)⟩
/-- rows below a block number: kept while nothing below it is turned -/
def RdB (w : World) (B : Nat) (A : Option Addr) (k : Nat) (l : List (List Value)) : Prop :=
  ∀ i c, l[i]? = some c → ∃ b o, A = some ⟨b, o, none⟩ ∧ b < B ∧ ∀ j u, c[j]? = some u → w.cell? ⟨b, o + i * k + j, none⟩ = some u
theorem RdB.below {w w' : World} {B : Nat} {A : Option Addr} {k : Nat} {l : List (List Value)} (h : RdB w B A k l) (hb : Below B w w') : RdB w' B A k l := fun i c hi => by
  obtain ⟨b, o, e, hlt, hc⟩ := h i c hi
  exact ⟨b, o, e, hlt, fun j u hu => (hb.cell (p := ⟨b, _, none⟩) hlt).trans (hc j u hu)⟩
theorem RdB.mono {w : World} {B B' : Nat} {A : Option Addr} {k : Nat} {l : List (List Value)} (h : RdB w B A k l) (hB : B ≤ B') : RdB w B' A k l := fun i c hi => by
  obtain ⟨b, o, e, hlt, hc⟩ := h i c hi
  exact ⟨b, o, e, by omega, hc⟩
theorem ownsRow_below {w w' : World} {B size n : Nat} {e : TypeId} {v : Value} {xs : List Value} (h : w.ownsRow B e size v n xs) (hb : Below w.heap.size w w') : w'.ownsRow B e size v n xs := by
  obtain ⟨h1, h2⟩ := h
  rcases h2 with ⟨h2, h3⟩ | ⟨g, cap, cur, hv, hB, hh, hr⟩
  · exact ⟨h1, .inl ⟨h2, h3⟩⟩
  · exact ⟨h1, .inr ⟨g, cap, cur, hv, hB, by rw [hb.block g (by exact (Array.getElem?_eq_some_iff.1 hh).1)]; exact hh, hr⟩⟩
theorem ownsRow_base {w : World} {base base' size n : Nat} {e : TypeId} {v : Value} {xs : List Value} (h : w.ownsRow base e size v n xs) (hb : base' ≤ base) : w.ownsRow base' e size v n xs := by
  obtain ⟨h1, h2⟩ := h
  rcases h2 with h2 | ⟨g, cap, cur, hv, hB, hr⟩
  · exact ⟨h1, .inl h2⟩
  · exact ⟨h1, .inr ⟨g, cap, cur, hv, Nat.le_trans hb hB, hr⟩⟩
theorem flat_at {k : Nat} : ∀ (l : List (List Value)), (∀ c ∈ l, c.length = k) → ∀ (i : Nat) (c : List Value), l[i]? = some c → ∀ (j : Nat) (u : Value), c[j]? = some u → l.flatten[i * k + j]? = some u
  | [], _, i, c, h, _, _, _ => by simp at h
  | d :: l, hl, i, c, h, j, u, hu => by
    have hd := hl d (by simp)
    rw [List.flatten_cons]
    cases i with
    | zero =>
      simp at h; subst h
      have : j < d.length := (List.getElem?_eq_some_iff.1 hu).1
      rw [Nat.zero_mul, Nat.zero_add, List.getElem?_append_left this]; exact hu
    | succ i =>
      have h2 : l[i]? = some c := by simpa using h
      have := flat_at l (fun c hc => hl c (by simp [hc])) i c h2 j u hu
      rw [List.getElem?_append_right (by rw [hd, Nat.succ_mul]; omega), hd]
      rw [show (i + 1) * k + j - k = i * k + j by rw [Nat.succ_mul]; omega]
      exact this
theorem ownsRow_rdk {w : World} {B k : Nat} {e : TypeId} {v : Value} {n : Nat} {l : List (List Value)} (_hk : 0 < k) (hl : ∀ c ∈ l, c.length = k) (hn : l.length = n) (h : w.ownsRow B e k v n l.flatten) : ∃ A cap, v = .slice A n cap ∧ RdB w w.heap.size A k l := by
  obtain ⟨h1, h2⟩ := h
  rcases h2 with ⟨rfl, rfl⟩ | ⟨g, cap, cur, rfl, hB, hh, hnc, hm, hs, ht⟩
  · exact ⟨none, 0, rfl, fun i c hi => by
      have : i < l.length := (List.getElem?_eq_some_iff.1 hi).1
      omega⟩
  · refine ⟨_, cap, rfl, fun i c hi => ⟨g, 0, rfl, (Array.getElem?_eq_some_iff.1 hh).1, fun j u hu => ?_⟩⟩
    have hf := flat_at l hl i c hi j u hu
    have hlt : i * k + j < l.flatten.length := (List.getElem?_eq_some_iff.1 hf).1
    rw [cell_of_row w g _ cur _ (0, 0) hh, ← Array.getElem?_toList, Nat.zero_add]
    rw [← ht, List.getElem?_take] at hf
    rw [h1] at hlt
    rw [if_pos hlt] at hf
    exact hf
end Go.Proofs.YtiekhbagpmnboaaGreatDoor
namespace Go.Proofs.YtiekhbagpmnboaaGreatDoor
open Go.RowKit

open Go.Maps (Keyed)

/-- block R is a row of k cells that may be written -/
def ResAt (w : World) (R k : Nat) : Prop := ∃ cs t, w.heap[R]? = some (.cells cs t (0, 0)) ∧ cs.size = k
theorem ResAt.new (w : World) (cs : Array Value) (t : TypeId) : ResAt (w.alloc (.cells cs t)) w.heap.size cs.size := ⟨cs, t, heap_alloc_new w _, rfl⟩
theorem ResAt.lt {w : World} {R k : Nat} (h : ResAt w R k) : R < w.heap.size := by
  obtain ⟨cs, t, h, _⟩ := h
  exact (Array.getElem?_eq_some_iff.1 h).1
theorem ResAt.alloc {w : World} {R k : Nat} (h : ResAt w R k) (o : Obj) : ResAt (w.alloc o) R k := by
  obtain ⟨cs, t, h, hs⟩ := h
  exact ⟨cs, t, (Below.heap_alloc w o R (Array.getElem?_eq_some_iff.1 h).1).trans h, hs⟩
theorem ResAt.drew {w : World} {R k : Nat} (h : ResAt w R k) : ResAt w.drew R k := h
theorem ResAt.below {w w' : World} {B R k : Nat} (h : ResAt w R k) (hb : Below B w w') (hR : R < B) : ResAt w' R k := by
  obtain ⟨cs, t, h, hs⟩ := h
  exact ⟨cs, t, (hb.block R hR).trans h, hs⟩
theorem ResAt.grown {w w' : World} {r : Option Nat} {R k : Nat} (h : ResAt w R k) (hg : w.grownBy w' r) (hr : some R ≠ r) : ResAt w' R k := by
  obtain ⟨cs, t, h, hs⟩ := h
  exact ⟨cs, t, (hg.block R (Array.getElem?_eq_some_iff.1 h).1 hr).trans h, hs⟩
theorem ResAt.setCell {w : World} {R k : Nat} (h : ResAt w R k) (p : Addr) (v : Value) : ResAt (w.setCell p v) R k := by
  obtain ⟨cs, t, h, hs⟩ := h
  by_cases e : R = p.block
  · subst e
    by_cases hp : p.spot.isSome = true
    · exact ⟨cs, t, by simp [World.setCell, Array.getElem?_modify, h, hp], hs⟩
    · exact ⟨cs.setIfInBounds p.off v, t, by simp [World.setCell, Array.getElem?_modify, h, hp], by simpa using hs⟩
  · exact ⟨cs, t, (Below.heap_setCell w p v R e).trans h, hs⟩
theorem ResAt.of_setCell {w : World} {R k : Nat} {p : Addr} {v : Value} (h : ResAt (w.setCell p v) R k) : ResAt w R k := by
  obtain ⟨cs, t, h, hs⟩ := h
  by_cases e : R = p.block
  · subst e
    simp only [World.setCell, Array.getElem?_modify, if_true] at h
    cases hw : w.heap[p.block]? with
    | none => rw [hw] at h; simp at h
    | some o =>
      rw [hw] at h
      cases o with
      | cells c e f =>
        simp at h
        obtain ⟨rfl, rfl, rfl⟩ := h
        exact ⟨c, e, by rw [hw], by split at hs <;> simpa using hs⟩
      | _ => simp at h
  · exact ⟨cs, t, (Below.heap_setCell w p v R e).symm.trans h, hs⟩
@[go_sem] theorem resAt_setCell {w : World} {R k : Nat} (p : Addr) (v : Value) : ResAt (w.setCell p v) R k = ResAt w R k := propext ⟨ResAt.of_setCell, fun h => h.setCell p v⟩
@[go_sem high] theorem cell_res {w : World} {R j : Nat} {v : Value} (h : ResAt w R 5) (hj : j < 5) : (w.setCell ⟨R, j, none⟩ v).cell? ⟨R, j, none⟩ = some v := by
  obtain ⟨cs, t, hh, hs⟩ := h
  exact World.cell?_setCell_same' _ _ _ (by rw [cell_of_row w R j cs t (0, 0) hh, Array.getElem?_eq_getElem (by omega)]; rfl)
/-- what a cell holds, whatever it is -/
def cellOr (w : World) (p : Addr) : Value := (w.cell? p).getD undef
theorem cellOr_is {w : World} {p : Addr} (h : (w.cell? p).isSome = true) : w.cell? p = some (cellOr w p) := by
  unfold cellOr
  cases hc : w.cell? p
  · rw [hc] at h; cases h
  · rfl
@[go_sem low] theorem cell_or {w : World} {R j : Nat} (h : ResAt w R 5) (hj : j < 5) : w.cell? ⟨R, j, none⟩ = some (cellOr w ⟨R, j, none⟩) := by
  obtain ⟨cs, t, hh, hs⟩ := h
  exact cellOr_is (by rw [cell_of_row w R j cs t (0, 0) hh, Array.getElem?_eq_getElem (by omega)]; rfl)
@[go_sem low] theorem frozen_or {w : World} {R j : Nat} (h : ResAt w R 5) : w.frozen? ⟨R, j, none⟩ = false := by
  obtain ⟨cs, t, hh, hs⟩ := h
  simp [World.frozen?, hh]
end Go.Proofs.YtiekhbagpmnboaaGreatDoor
namespace Go.Proofs.YtiekhbagpmnboaaGreatDoor
open Go.RowKit

/-- a value's cells by name -/
structure VL where
  t : Int
  n : Int
  s : ByteArray
  b : Bool
  c : Int
def VL.cs (v : VL) : List Value := [.int .i64 v.t, .int .i64 v.n, .string v.s, .bool v.b, .int .i64 v.c]
def VL.ok (v : VL) : Prop := -9223372036854775808 ≤ v.n ∧ v.n ≤ 9223372036854775807
def VL.may (v : VL) : Bool := vMay v.t v.n v.s v.b v.c
/-- a place with its value -/
structure EL where
  r : Int
  c : Int
  v : VL
def EL.cs (e : EL) : List Value := [.int .i64 e.r, .int .i64 e.c, .int .i64 e.v.t, .int .i64 e.v.n, .string e.v.s, .bool e.v.b, .int .i64 e.v.c]
/-- an argument -/
structure AL where
  many : Bool
  v : VL
  t : Int
  l : Int
  b : Int
  r : Int
  A : Option Addr
  cap : Nat
  es : List EL
def AL.cs (x : AL) : List Value := [.bool x.many, .int .i64 x.v.t, .int .i64 x.v.n, .string x.v.s, .bool x.v.b, .int .i64 x.v.c, .int .i64 x.t, .int .i64 x.l, .int .i64 x.b, .int .i64 x.r, .slice x.A x.es.length x.cap]
def AL.In (w : World) (B : Nat) (x : AL) : Prop := x.v.ok ∧ RdB w B x.A 7 (x.es.map EL.cs) ∧ (∀ e ∈ x.es, e.v.ok) ∧ x.es.length ≤ 9223372036854775807
theorem AL.In.below {w w' : World} {B : Nat} {x : AL} (h : x.In w B) (hb : Below B w w') : x.In w' B := ⟨h.1, h.2.1.below hb, h.2.2⟩
theorem AL.In.mono {w : World} {B B' : Nat} {x : AL} (h : x.In w B) (hB : B ≤ B') : x.In w B' := ⟨h.1, h.2.1.mono hB, h.2.2⟩
def v0 : VL := ⟨0, 0, ⟨#[]⟩, false, 0⟩
end Go.Proofs.YtiekhbagpmnboaaGreatDoor
namespace Go.Proofs.YtiekhbagpmnboaaGreatDoor
open Go.RowKit

/-- may a text be a function's name? -/
def namedB (l : List UInt8) : Bool := decide (1 ≤ l.length) && decide (l.length ≤ 16) && !(decide (l = [84, 82, 85, 69]) || decide (l = [70, 65, 76, 83, 69])) && (match l with | b :: _ => upB b | [] => false) && l.all partB && !meantB l
/-- a step of a formula -/
structure NL where
  kind : Int
  v : VL
  r : Int
  c : Int
  t : Int
  l : Int
  b : Int
  q : Int
  op : Int
  name : ByteArray
  args : Int
def NL.cs (n : NL) : List Value := [.int .i64 n.kind, .int .i64 n.v.t, .int .i64 n.v.n, .string n.v.s, .bool n.v.b, .int .i64 n.v.c, .int .i64 n.r, .int .i64 n.c, .int .i64 n.t, .int .i64 n.l, .int .i64 n.b, .int .i64 n.q, .int .i64 n.op, .string n.name, .int .i64 n.args]
def NL.noV (n : NL) : Bool := vEq n.v.t n.v.n n.v.s n.v.b n.v.c 0 0 ⟨#[]⟩ false 0
def NL.noC (n : NL) : Bool := decide (n.r = 0) && decide (n.c = 0)
def NL.noR (n : NL) : Bool := decide (n.t = 0) && decide (n.l = 0) && decide (n.b = 0) && decide (n.q = 0)
def NL.noO (n : NL) : Bool := decide (n.op = 0)
def NL.noN (n : NL) : Bool := decide (n.name = ⟨#[]⟩) && decide (n.args = 0)
/-- may a node be? -/
def NL.may (n : NL) : Bool :=
  if n.kind = 1 then n.v.may && decide (n.v.t ≠ 0) && decide (0 ≤ n.v.n) && decide (n.v.c ≠ 1) && n.noC && n.noR && n.noO && n.noN
  else if n.kind = 2 then mayB n.r n.c && n.noV && n.noR && n.noO && n.noN
  else if n.kind = 3 then mayRectB n.t n.l n.b n.q && n.noV && n.noC && n.noO && n.noN
  else if n.kind = 4 then decide (1 ≤ n.op) && decide (n.op ≤ 13) && n.noV && n.noC && n.noR && n.noN
  else if n.kind = 5 then namedB n.name.data.toList && decide (0 ≤ n.args) && decide (n.args ≤ 16) && n.noV && n.noC && n.noR && n.noO
  else false
/-- what was put together so far -/
structure PL where
  depth : Int
  binds : Int
  many : Bool
def PL.cs (p : PL) : List Value := [.int .i64 p.depth, .int .i64 p.binds, .bool p.many]
def levelI (op : Int) : Int := if op = 1 then 5 else if op = 2 then 6 else if op = 3 ∨ op = 4 then 4 else if op = 5 ∨ op = 6 then 3 else if op = 7 then 2 else 1
def PL.inside (p : PL) (least : Int) : Int := if p.binds < least then p.depth + 1 else p.depth
def deepL (l : List PL) : Int := l.foldl (fun d p => max d p.depth) 0
/-- one step: what is left of the row; none: it can't be -/
def stepP (st : List PL) (n : NL) : Option (List PL) :=
  if n.may = false then none
  else if n.kind = 3 then some (st ++ [⟨0, 7, true⟩])
  else if n.kind = 4 then
    if n.op = 1 ∨ n.op = 2 then
      match st.reverse with
      | b :: s => if b.many then none else some (s.reverse ++ [⟨b.inside (levelI n.op), levelI n.op, false⟩])
      | [] => none
    else
      match st.reverse with
      | b :: a :: s => if a.many || b.many then none else some (s.reverse ++ [⟨max (a.inside (levelI n.op)) (b.inside (levelI n.op + 1)), levelI n.op, false⟩])
      | _ => none
  else if n.kind = 5 then
    if st.length < n.args.toNat then none else some (st.take (st.length - n.args.toNat) ++ [⟨deepL (st.drop (st.length - n.args.toNat)) + 1, 7, false⟩])
  else some (st ++ [⟨0, 7, false⟩])
def putP (l : List NL) : Option (List PL) := l.foldl (fun st n => st.bind fun s => stepP s n) (some [])
/-- a formula's depth; none: it may not be -/
def depthP (l : List NL) : Option Int :=
  if l.length < 1 ∨ 1024 < l.length then none
  else match putP l with
    | some [p] => if p.many then none else some p.depth
    | _ => none
def checkP (l : List NL) : Bool := match depthP l with | some d => decide (d ≤ 32) | none => false
end Go.Proofs.YtiekhbagpmnboaaGreatDoor
namespace Go.Proofs.YtiekhbagpmnboaaGreatDoor
open Go.RowKit

theorem tok_info : (Tryz.prog.info? 33).map (fun i => (i.zero, i.size, i.bytes)) = some (some (.agg #[.int .i64 0, .int .i64 0, .int .i64 0, .string ⟨#[]⟩, .int .i64 0, .int .i64 0, .int .i64 0, .int .i64 0, .int .i64 0, .int .i64 0, .int .i64 0]), 11, 96) := by kernel_rfl
def Tok.cs (x : Tok) : List Value := [.int .i64 x.kind, .int .i64 x.place, .int .i64 x.num, .string x.str, .int .i64 x.r, .int .i64 x.c, .int .i64 x.t, .int .i64 x.l, .int .i64 x.b, .int .i64 x.q, .int .i64 x.code]
def tRow (l : List Tok) : List Value := (l.map Tok.cs).flatten
theorem tRow_app (a b : List Tok) : tRow (a ++ b) = tRow a ++ tRow b := by simp [tRow]
theorem tRow_one (x : Tok) : tRow [x] = x.cs := by simp [tRow]
theorem tget {w : World} {g : Nat} {x : Tok} {T : TypeId} (h : w.heap[g]? = some (.cells #[.int .i64 x.kind, .int .i64 x.place, .int .i64 x.num, .string x.str, .int .i64 x.r, .int .i64 x.c, .int .i64 x.t, .int .i64 x.l, .int .i64 x.b, .int .i64 x.q, .int .i64 x.code] T (0, 0))) : ∀ (j : Nat) (u : Value), x.cs[j]? = some u → w.cell? ((⟨g, 0, none⟩ : Addr).add j) = some u := fun j u hj => by
  rw [show (⟨g, 0, none⟩ : Addr).add j = ⟨g, j, none⟩ by unfold Addr.add; split <;> simp [*], cell_of_row w g j _ T (0, 0) h, ← Array.getElem?_toList]
  exact hj
/-- a row of tokens of one's own -/
def OwnT (w : World) (B : Nat) (v : Value) (l : List Tok) : Prop := w.ownsRow B 33 11 v l.length (tRow l)
/-- a row of tokens that can be read -/
def RdT (w : World) (B : Nat) (v : Value) (l : List Tok) : Prop := ∃ A cap, v = .slice A l.length cap ∧ RdB w B A 11 (l.map Tok.cs)
theorem RdT.below {w w' : World} {B : Nat} {v : Value} {l : List Tok} (h : RdT w B v l) (hb : Below B w w') : RdT w' B v l := by
  obtain ⟨A, cap, e, h⟩ := h
  exact ⟨A, cap, e, h.below hb⟩
theorem RdT.mono {w : World} {B B' : Nat} {v : Value} {l : List Tok} (h : RdT w B v l) (hB : B ≤ B') : RdT w B' v l := by
  obtain ⟨A, cap, e, h⟩ := h
  exact ⟨A, cap, e, h.mono hB⟩
theorem own_rdt {w : World} {B : Nat} {v : Value} {l : List Tok} (h : OwnT w B v l) : RdT w w.heap.size v l :=
  ownsRow_rdk (by omega) (fun c hc => by obtain ⟨y, _, rfl⟩ := List.mem_map.1 hc; rfl) (by simp) h
end Go.Proofs.YtiekhbagpmnboaaGreatDoor
namespace Go.Proofs.YtiekhbagpmnboaaGreatDoor
open Go.RowKit

theorem toks_step (n f : Nat) (s : List UInt8) (y : Tok) (m : Nat) (p : Nat) (hs : s.length ≤ n) (hp : p = n - (blank s).length) (hx : firstT (blank s) = (y, m)) :
    toks n (f + 1) s = y.put p :: if (y.put p).last then [] else toks n f ((blank s).drop m) := by
  have hb := blank_le s
  rw [toks, hx, last_put]
  have : (n : Int) - (blank s).length = p := by omega
  rw [this]
theorem r4nexty (l : List UInt8) (at' p : Nat) (hl : l.length ≤ 9223372036854775000) (ham : l.length ≤ maxLen) (ha : at' ≤ l.length) (hp : p = l.length - (blank (l.drop at')).length) (x y : Tok) (n : Nat) (hx : firstT (blank (l.drop at')) = (x, n)) (hy : y = x.put p) (w : World) : Calls Tryz.prog 17 #[.string ⟨l.toArray⟩, .int .i64 (at' : Int)] w fun e w' => e = .returned (.tuple #[.agg #[.int .i64 y.kind, .int .i64 y.place, .int .i64 y.num, .string y.str, .int .i64 y.r, .int .i64 y.c, .int .i64 y.t, .int .i64 y.l, .int .i64 y.b, .int .i64 y.q, .int .i64 y.code], .int .i64 ((p + n : Nat) : Int)]) ∧ Below w.heap.size w w' := by
  subst hy
  exact r4next l at' p hl ham ha hp x n hx w
set_option maxRecDepth 100000 in
set_option maxHeartbeats 4000000 in
theorem r4lex_yes (l r : List UInt8) (c : UInt8) (hlr : l = c :: r) (hc : c.toNat = 61) (hl : l.length ≤ 1400000000000) (w : World) : Calls Tryz.prog 9 #[.string ⟨l.toArray⟩] w fun e w' => (∃ v, e = .returned v ∧ OwnT w' w.heap.size v (lexL l)) ∧ Below w.heap.size w w' := by
  obtain ⟨i0, hi, hz0, hz1, hz2⟩ := info_parts tok_info
  have ham : l.length ≤ maxLen := by unfold maxLen; omega
  have hb0 : 0 < (⟨l.toArray⟩ : ByteArray).size := by show 0 < l.toArray.size; rw [hlr]; simp
  have hbe : ((⟨l.toArray⟩ : ByteArray)[0]'hb0).toNat = 61 := by subst hlr; exact hc
  have hne : ((⟨l.toArray⟩ : ByteArray) = ⟨#[]⟩) = False := by rw [show (⟨#[]⟩ : ByteArray) = ⟨([] : List UInt8).toArray⟩ from rfl, list_bytes, hlr]; exact eq_false (by simp)
  have hL0 : Hid (lexL l = [] ++ toks l.length (r.length + 1) (l.drop 1)) := Lib.hid (by rw [hlr]; simp [lexL, hc])
  have hrl : l.length = r.length + 1 := by rw [hlr]; simp
  clear hlr hc
  go_enter Tryz.func9, Tryz.ntmps9
  go_wp2
  go_loopw [3, 4] (fun v a wr => ∃ (pre : List Tok) (at' f : Nat), at' ≤ l.length ∧ pre.length ≤ at' ∧ a = .int .i64 (at' : Int) ∧ l.length - at' < f ∧ OwnT wr w.heap.size v pre ∧ Below w.heap.size w wr ∧ Hid (lexL l = pre ++ toks l.length f (l.drop at'))) (fun _ a _ => l.length - (intOf a).toNat)
  case atStart => exact ⟨[], 1, r.length + 1, by omega, by simp, rfl, by omega, World.ownsRow_nil _ _ _ _, Below.refl _ _, hL0⟩
  case round =>
    clear hL0 hbe hne hrl
    obtain ⟨pre, at', f, hat, hpre, rfl, hf, hown, hbr, hL⟩ := hrel
    have hzr := hbr.size
    obtain ⟨f, rfl⟩ : ∃ g, f = g + 1 := ⟨f - 1, by omega⟩
    obtain ⟨x, m, hx⟩ : ∃ x m, firstT (blank (l.drop at')) = (x, m) := ⟨_, _, rfl⟩
    obtain ⟨p, hp⟩ : ∃ p, p = l.length - (blank (l.drop at')).length := ⟨_, rfl⟩
    obtain ⟨y, hy⟩ : ∃ y, y = x.put p := ⟨_, rfl⟩
    have hbl := blank_le (l.drop at')
    rw [List.length_drop] at hbl
    have CN := r4nexty l at' p (by omega) ham hat hp x y m hx hy
    have hstep := toks_step l.length f (l.drop at') x m p (by rw [List.length_drop]; omega) hp hx
    rw [← hy] at hstep
    have hsm : y.last = false → 1 ≤ m ∧ p + m ≤ l.length := fun h => by
      have := first_small (blank (l.drop at')) (by rw [hx]; rw [hy, last_put] at h; exact h)
      rw [hx] at this
      dsimp only at this
      omega
    have hpat : at' ≤ p := by omega
    have hdrop : (blank (l.drop at')).drop m = l.drop (p + m) := by
      rw [blank_drop, List.drop_drop]
      have := blank_drop l at'
      have h2 := congrArg List.length this
      rw [List.length_drop] at h2
      have h3 := takeWhile_le (fun b => decide (b.toNat = 32)) (l.drop at')
      rw [List.length_drop] at h3
      congr 1; omega
    rw [hstep, hdrop] at hL
    clear hstep hdrop hx hp hy hbl
    go_wp2_with fail
    refine (CN _).mono ?_
    rintro e w1 ⟨rfl, hb1⟩
    clear CN
    have hbr1 : Below w.heap.size w w1 := hbr.trans (hb1.mono hzr)
    have hown1 : OwnT w1 w.heap.size _ pre := ownsRow_below hown hb1
    have hzr1 := hbr1.size
    clear hb1 hbr hown
    have hbr2 : Below w.heap.size w (w1.alloc (.cells #[.int .i64 y.kind, .int .i64 y.place, .int .i64 y.num, .string y.str, .int .i64 y.r, .int .i64 y.c, .int .i64 y.t, .int .i64 y.l, .int .i64 y.b, .int .i64 y.q, .int .i64 y.code] 33)) := hbr1.alloc hzr1 _
    have hown2 : OwnT (w1.alloc (.cells #[.int .i64 y.kind, .int .i64 y.place, .int .i64 y.num, .string y.str, .int .i64 y.r, .int .i64 y.c, .int .i64 y.t, .int .i64 y.l, .int .i64 y.b, .int .i64 y.q, .int .i64 y.code] 33)) w.heap.size _ pre := hown1.alloc _
    have hvg := heap_alloc_new (w1.alloc (.cells #[.int .i64 y.kind, .int .i64 y.place, .int .i64 y.num, .string y.str, .int .i64 y.r, .int .i64 y.c, .int .i64 y.t, .int .i64 y.l, .int .i64 y.b, .int .i64 y.q, .int .i64 y.code] 33)) (.cells #[.int .i64 y.kind, .int .i64 y.place, .int .i64 y.num, .string y.str, .int .i64 y.r, .int .i64 y.c, .int .i64 y.t, .int .i64 y.l, .int .i64 y.b, .int .i64 y.q, .int .i64 y.code] 33)
    rw [World.size_alloc] at hvg
    have yk : (w1.alloc (.cells #[.int .i64 y.kind, .int .i64 y.place, .int .i64 y.num, .string y.str, .int .i64 y.r, .int .i64 y.c, .int .i64 y.t, .int .i64 y.l, .int .i64 y.b, .int .i64 y.q, .int .i64 y.code] 33)).cell? ⟨w1.heap.size, 0, none⟩ = some (.int .i64 y.kind) := by simp
    by_cases hk0 : y.kind = 0
    · have hl0 : y.last = true := by simp [Tok.last, hk0]
      rw [hl0, if_pos rfl] at hL
      have e0 : (y.kind == 0) = true := by simp [hk0]
      clear hk0 hl0 hsm
      go_wp2_with (at_builtin; go_loud (refine wpList_append_own_at _ rfl _ _ 22 rfl w.heap.size 33 i0 (.agg #[.int .i64 0, .int .i64 0, .int .i64 0, .string ⟨#[]⟩, .int .i64 0, .int .i64 0, .int .i64 0, .int .i64 0, .int .i64 0, .int .i64 0, .int .i64 0]) 11 96 Tryz.underlying22 hi hz0 hz1 hz2 rfl (by decide) _ _ _ rfl (hown2.alloc _) ⟨w1.heap.size + 1, 0, none⟩ 1 1 y.cs rfl rfl (tget hvg) (by simp [Tok.cs, Value.oneCell']) (by unfold maxLen; omega) (by omega) (by simp; omega) ?_); intro v' w5 hown5 hgrow5 _ _; have yf : w5.cell? ⟨w1.heap.size, 0, none⟩ = some (.int .i64 y.kind) := (World.cell?_of_block (a := ⟨w1.heap.size, 0, none⟩) (hgrow5.block w1.heap.size (by simp; omega) (fun e => by have := (hown1.lt _ (by first | exact e | exact e.symm)).2; omega))).trans ((World.cell?_alloc_lt _ _ ⟨w1.heap.size, 0, none⟩ (by simp)).trans yk))
      have hbr5 : Below w.heap.size w w5 := (hbr2.alloc (by simp; omega) (.cells #[.int .i64 y.kind, .int .i64 y.place, .int .i64 y.num, .string y.str, .int .i64 y.r, .int .i64 y.c, .int .i64 y.t, .int .i64 y.l, .int .i64 y.b, .int .i64 y.q, .int .i64 y.code] 33)).grown hgrow5 (by simp; omega) (fun q hq => (hown2.lt q hq).1)
      have ho5 : OwnT w5 w.heap.size v' (pre ++ [y]) := by unfold OwnT; rw [tRow_app, tRow_one, List.length_append]; exact hown5
      clear hgrow5 hown5 hown2 hown1 hbr2 hbr1
      rw [← hL.out] at ho5
      go_ret
      exact ⟨⟨_, rfl, ho5⟩, hbr5⟩
    · by_cases hk8 : y.kind = 8
      · have hl0 : y.last = true := by simp [Tok.last, hk8]
        rw [hl0, if_pos rfl] at hL
        have e0 : (y.kind == 0) = false := by simp [hk0]
        have e8 : (y.kind == 8) = true := by simp [hk8]
        clear hk0 hk8 hl0 hsm
        go_wp2_with (at_builtin; go_loud (refine wpList_append_own_at _ rfl _ _ 22 rfl w.heap.size 33 i0 (.agg #[.int .i64 0, .int .i64 0, .int .i64 0, .string ⟨#[]⟩, .int .i64 0, .int .i64 0, .int .i64 0, .int .i64 0, .int .i64 0, .int .i64 0, .int .i64 0]) 11 96 Tryz.underlying22 hi hz0 hz1 hz2 rfl (by decide) _ _ _ rfl (hown2.alloc _) ⟨w1.heap.size + 1, 0, none⟩ 1 1 y.cs rfl rfl (tget hvg) (by simp [Tok.cs, Value.oneCell']) (by unfold maxLen; omega) (by omega) (by simp; omega) ?_); intro v' w5 hown5 hgrow5 _ _; have yf : w5.cell? ⟨w1.heap.size, 0, none⟩ = some (.int .i64 y.kind) := (World.cell?_of_block (a := ⟨w1.heap.size, 0, none⟩) (hgrow5.block w1.heap.size (by simp; omega) (fun e => by have := (hown1.lt _ (by first | exact e | exact e.symm)).2; omega))).trans ((World.cell?_alloc_lt _ _ ⟨w1.heap.size, 0, none⟩ (by simp)).trans yk))
        have hbr5 : Below w.heap.size w w5 := (hbr2.alloc (by simp; omega) (.cells #[.int .i64 y.kind, .int .i64 y.place, .int .i64 y.num, .string y.str, .int .i64 y.r, .int .i64 y.c, .int .i64 y.t, .int .i64 y.l, .int .i64 y.b, .int .i64 y.q, .int .i64 y.code] 33)).grown hgrow5 (by simp; omega) (fun q hq => (hown2.lt q hq).1)
        have ho5 : OwnT w5 w.heap.size v' (pre ++ [y]) := by unfold OwnT; rw [tRow_app, tRow_one, List.length_append]; exact hown5
        clear hgrow5 hown5 hown2 hown1 hbr2 hbr1
        rw [← hL.out] at ho5
        go_ret
        exact ⟨⟨_, rfl, ho5⟩, hbr5⟩
      · have hl0 : y.last = false := by simp [Tok.last, hk0, hk8]
        obtain ⟨hm1, hm2⟩ := hsm hl0
        have hL2 : Hid (lexL l = (pre ++ [y]) ++ toks l.length f (l.drop (p + m))) := Lib.hid (by rw [hL.out, hl0]; simp)
        have e0 : (y.kind == 0) = false := by simp [hk0]
        have e8 : (y.kind == 8) = false := by simp [hk8]
        clear hk0 hk8 hl0 hL hsm
        go_wp2_with (at_builtin; go_loud (refine wpList_append_own_at _ rfl _ _ 22 rfl w.heap.size 33 i0 (.agg #[.int .i64 0, .int .i64 0, .int .i64 0, .string ⟨#[]⟩, .int .i64 0, .int .i64 0, .int .i64 0, .int .i64 0, .int .i64 0, .int .i64 0, .int .i64 0]) 11 96 Tryz.underlying22 hi hz0 hz1 hz2 rfl (by decide) _ _ _ rfl (hown2.alloc _) ⟨w1.heap.size + 1, 0, none⟩ 1 1 y.cs rfl rfl (tget hvg) (by simp [Tok.cs, Value.oneCell']) (by unfold maxLen; omega) (by omega) (by simp; omega) ?_); intro v' w5 hown5 hgrow5 _ _; have yf : w5.cell? ⟨w1.heap.size, 0, none⟩ = some (.int .i64 y.kind) := (World.cell?_of_block (a := ⟨w1.heap.size, 0, none⟩) (hgrow5.block w1.heap.size (by simp; omega) (fun e => by have := (hown1.lt _ (by first | exact e | exact e.symm)).2; omega))).trans ((World.cell?_alloc_lt _ _ ⟨w1.heap.size, 0, none⟩ (by simp)).trans yk))
        have hbr5 : Below w.heap.size w w5 := (hbr2.alloc (by simp; omega) (.cells #[.int .i64 y.kind, .int .i64 y.place, .int .i64 y.num, .string y.str, .int .i64 y.r, .int .i64 y.c, .int .i64 y.t, .int .i64 y.l, .int .i64 y.b, .int .i64 y.q, .int .i64 y.code] 33)).grown hgrow5 (by simp; omega) (fun q hq => (hown2.lt q hq).1)
        have ho5 : OwnT w5 w.heap.size v' (pre ++ [y]) := by unfold OwnT; rw [tRow_app, tRow_one, List.length_append]; exact hown5
        clear hgrow5 hown5 hown2 hown1 hbr2 hbr1
        go_roundw
        case rel => exact ⟨pre ++ [y], p + m, f, hm2, by rw [List.length_append]; simp; omega, by go_num, by omega, ho5, hbr5, hL2⟩
        case measure => simp [intOf]; omega
end Go.Proofs.YtiekhbagpmnboaaGreatDoor
namespace Go.Proofs.YtiekhbagpmnboaaGreatDoor
open Go.RowKit

def plRow (l : List PL) : List Value := (l.map PL.cs).flatten
theorem step_rect {st : List PL} {n : NL} (h : n.may = true) (hk : n.kind = 3) : stepP st n = some (st ++ [⟨0, 7, true⟩]) := by unfold stepP; rw [if_neg (by simp [h]), if_pos hk]
theorem step_leaf {st : List PL} {n : NL} (h : n.may = true) (h3 : n.kind ≠ 3) (h4 : n.kind ≠ 4) (h5 : n.kind ≠ 5) : stepP st n = some (st ++ [⟨0, 7, false⟩]) := by unfold stepP; rw [if_neg (by simp [h]), if_neg h3, if_neg h4, if_neg h5]
theorem step_one {s : List PL} {b : PL} {n : NL} (h : n.may = true) (hk : n.kind = 4) (ho : n.op = 1 ∨ n.op = 2) : stepP (s ++ [b]) n = if b.many then none else some (s ++ [⟨b.inside (levelI n.op), levelI n.op, false⟩]) := by unfold stepP; rw [if_neg (by simp [h]), if_neg (by omega), if_pos hk, if_pos ho]; simp
theorem step_two {s : List PL} {a b : PL} {n : NL} (h : n.may = true) (hk : n.kind = 4) (ho : ¬ (n.op = 1 ∨ n.op = 2)) : stepP (s ++ [a, b]) n = if a.many || b.many then none else some (s ++ [⟨max (a.inside (levelI n.op)) (b.inside (levelI n.op + 1)), levelI n.op, false⟩]) := by unfold stepP; rw [if_neg (by simp [h]), if_neg (by omega), if_pos hk, if_neg ho]; simp
theorem step_call {s t : List PL} {n : NL} (h : n.may = true) (hk : n.kind = 5) (hl : t.length = n.args.toNat) : stepP (s ++ t) n = some (s ++ [⟨deepL t + 1, 7, false⟩]) := by
  unfold stepP
  rw [if_neg (by simp [h]), if_neg (by omega), if_neg (by omega), if_pos hk, if_neg (by rw [List.length_append]; omega), show (s ++ t).length - n.args.toNat = s.length by rw [List.length_append]; omega]
  simp
theorem deep_gen (k : Int) : ∀ (l : List PL) (d : Int), (∀ p ∈ l, 0 ≤ p.depth ∧ p.depth ≤ k) → 0 ≤ d → d ≤ k → 0 ≤ l.foldl (fun d p => max d p.depth) d ∧ l.foldl (fun d p => max d p.depth) d ≤ k
  | [], d, _, h0, h1 => ⟨h0, h1⟩
  | p :: l, d, h, h0, h1 => by
    have := h p (by simp)
    exact deep_gen k l (max d p.depth) (fun q hq => h q (by simp [hq])) (by omega) (by omega)
theorem deep_le {k : Int} {l : List PL} (h : ∀ p ∈ l, 0 ≤ p.depth ∧ p.depth ≤ k) (hk : 0 ≤ k) : 0 ≤ deepL l ∧ deepL l ≤ k := deep_gen k l 0 h (by omega) hk
def PDeep (k : Int) (st : List PL) : Prop := ∀ p ∈ st, 0 ≤ p.depth ∧ p.depth ≤ k
theorem PDeep.mono {k k' : Int} {st : List PL} (h : PDeep k st) (hk : k ≤ k') : PDeep k' st := fun p hp => ⟨(h p hp).1, Int.le_trans (h p hp).2 hk⟩
theorem PDeep.app {k : Int} {s : List PL} {p : PL} (h : PDeep k s) (h0 : 0 ≤ p.depth) (h1 : p.depth ≤ k) : PDeep k (s ++ [p]) := fun q hq => by
  rcases List.mem_append.1 hq with hq | hq
  · exact h q hq
  · rw [List.mem_singleton.1 hq]; exact ⟨h0, h1⟩
theorem PDeep.left {k : Int} {s t : List PL} (h : PDeep k (s ++ t)) : PDeep k s := fun q hq => h q (List.mem_append_left _ hq)
theorem PDeep.right {k : Int} {s t : List PL} (h : PDeep k (s ++ t)) : PDeep k t := fun q hq => h q (List.mem_append_right _ hq)
theorem step_len {st st' : List PL} {n : NL} (h : stepP st n = some st') : st'.length ≤ st.length + 1 := by
  unfold stepP at h
  split at h
  · cases h
  split at h
  · cases h; simp
  split at h
  · split at h
    · split at h
      · rename_i b s e
        have he : st.length = s.length + 1 := by have := congrArg List.length e; simpa using this
        split at h
        · cases h
        · cases h; simp <;> omega
      · cases h
    · split at h
      · rename_i b a s e
        have he : st.length = s.length + 2 := by have := congrArg List.length e; simpa using this
        split at h
        · cases h
        · cases h; simp <;> omega
      · cases h
  split at h
  · split at h
    · cases h
    · cases h; simp <;> omega
  · cases h; simp
end Go.Proofs.YtiekhbagpmnboaaGreatDoor
namespace Go.Proofs.YtiekhbagpmnboaaGreatDoor
open Go.RowKit

def NL.ok (n : NL) : Prop := n.v.ok ∧ n.name.size ≤ 9223372036854775807
end Go.Proofs.YtiekhbagpmnboaaGreatDoor
namespace Go.Proofs.YtiekhbagpmnboaaGreatDoor
open Go.RowKit Go.ChangeShapes Go.WideShapes Go.Deep

theorem cellLt {w : World} {b j : Nat} {v : Value} (h : w.cell? ⟨b, j, none⟩ = some v) : b < w.heap.size := by
  rcases Nat.lt_or_ge b w.heap.size with h1 | h1
  · exact h1
  · unfold World.cell? at h
    rw [Array.getElem?_eq_none h1] at h
    cases h
section
variable {H : Type} {enc : TypeId × Value → H} {P : Program} {w : World}
end
end Go.Proofs.YtiekhbagpmnboaaGreatDoor
