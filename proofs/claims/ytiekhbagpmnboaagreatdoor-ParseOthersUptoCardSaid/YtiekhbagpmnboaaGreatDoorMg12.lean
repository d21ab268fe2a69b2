/-
  Arguments of functions: how they lie in memory; refs, as plain functions; refs: the row of parts, plain; refs: may whole; 'append(all, more...)' where the two slices' types differ by name, and what is put behind is read.
-/
import Derived.Test.YtiekhbagpmnboaaGreatDoorRows
import Derived.Test.YtiekhbagpmnboaaGreatDoorMg0
import Derived.Test.YtiekhbagpmnboaaGreatDoorMg11
import Derived.Test.YtiekhbagpmnboaaGreatDoorMg2
import Derived.Test.YtiekhbagpmnboaaGreatDoorValA
import Derived.Test.YtiekhbagpmnboaaGreatDoorValB
import Derived.Test.YtiekhbagpmnboaaGreatDoorAddrC
import Derived.Test.YtiekhbagpmnboaaGreatDoorProg
import Derived.Test.YtiekhbagpmnboaaGreatDoorShelf
import Derived.Test.YtiekhbagpmnboaaGreatDoorNames
import Derived.Test.YtiekhbagpmnboaaGreatDoorParseW
import Derived.Test.YtiekhbagpmnboaaGreatDoorMg6
import Derived.Test.YtiekhbagpmnboaaGreatDoorMg9
import Derived.Test.YtiekhbagpmnboaaGreatDoorLexP
import Derived.Test.YtiekhbagpmnboaaGreatDoorMg26
import Derived.Test.YtiekhbagpmnboaaGreatDoorLexR
import Derived.Test.YtiekhbagpmnboaaGreatDoorLexS
import Derived.WalkSpells
import Derived.WalkLawsBesides
import Derived.StillTactics
import Derived.Laws.Pointers
import Derived.Deep.RegionHeld3
import Derived.Deep.QuietTactic
import Derived.BigQuiet
import Derived.RowKit3
import Derived.Lib.Hide
import Derived.Lib.OthersKept
import Derived.OwnWalk
import Derived.Lib.IndexLaws
import Derived.Lib.ItoaMem
import Derived.WalkKit
import Derived.ProofKit
import Derived.OpenShut
import Derived.Carry
import Derived.ChangeSame
import Derived.Deep.Draws
import Derived.Maps.OwnSet
import Derived.Maps.AppendAt
import Derived.Lib.TrimByte
import Derived.Lib.SlTrimSet
import Derived.Lib.ParseIntB
import Derived.Shelf.Strings.Builder1
import Derived.Shelf.Strings.Trim
import Derived.Shelf.Small.Utf8
import Derived.Shelf.Small.Strs
import Derived.Shelf.Small.Wraps
import Derived.Shelf.Strings.BuilderF
import Derived.Shelf.Strings.BuilderK
import Derived.Shelf.Strconv.Itoa0
import Derived.Shelf.Strconv.Itoa1
import Derived.Shelf.LaysM
import Derived.Shelf.Strconv.Itoa2
import Derived.Shelf.Strconv.Itoa3
import Derived.Ground.MpProg
import Derived.Shelf.Pu.ParseUintPublic10
import Derived.Shelf.Strings.Search1
import Derived.Shelf.Strings.Search2
import Derived.Shelf.Strings.Cut
import Derived.Shelf.Strings.Shaped
import Derived.Shelf.Strings.Prefix
import Derived.Shelf.Strings.Runes
import Derived.Shelf.Strings.AsciiSet
import Derived.Shelf.Unicode.DecodeSlow
import Derived.Lib.ItoaNum
import Derived.Laws.AppendOwnNone
import Derived.Laws.AppendOwn
namespace Go.Proofs.YtiekhbagpmnboaaGreatDoor
open Go.RowKit

/-- a value's cells by name -/
structure VL where
  t : Int
  n : Int
  s : ByteArray
  b : Bool
  c : Int
def VL.cs (v : VL) : List Value := [.int .i64 v.t, .int .i64 v.n, .string v.s, .bool v.b, .int .i64 v.c]
def VL.ok (v : VL) : Prop := -9223372036854775808 ≤ v.n ∧ v.n ≤ 9223372036854775807
def VL.may (v : VL) : Bool := vMay v.t v.n v.s v.b v.c
/-- a place with its value -/
structure EL where
  r : Int
  c : Int
  v : VL
def EL.cs (e : EL) : List Value := [.int .i64 e.r, .int .i64 e.c, .int .i64 e.v.t, .int .i64 e.v.n, .string e.v.s, .bool e.v.b, .int .i64 e.v.c]
/-- an argument -/
structure AL where
  many : Bool
  v : VL
  t : Int
  l : Int
  b : Int
  r : Int
  A : Option Addr
  cap : Nat
  es : List EL
def AL.cs (x : AL) : List Value := [.bool x.many, .int .i64 x.v.t, .int .i64 x.v.n, .string x.v.s, .bool x.v.b, .int .i64 x.v.c, .int .i64 x.t, .int .i64 x.l, .int .i64 x.b, .int .i64 x.r, .slice x.A x.es.length x.cap]
def AL.In (w : World) (B : Nat) (x : AL) : Prop := x.v.ok ∧ RdB w B x.A 7 (x.es.map EL.cs) ∧ (∀ e ∈ x.es, e.v.ok) ∧ x.es.length ≤ 9223372036854775807
theorem AL.In.below {w w' : World} {B : Nat} {x : AL} (h : x.In w B) (hb : Below B w w') : x.In w' B := ⟨h.1, h.2.1.below hb, h.2.2⟩
theorem AL.In.mono {w : World} {B B' : Nat} {x : AL} (h : x.In w B) (hB : B ≤ B') : x.In w B' := ⟨h.1, h.2.1.mono hB, h.2.2⟩
def v0 : VL := ⟨0, 0, ⟨#[]⟩, false, 0⟩
end Go.Proofs.YtiekhbagpmnboaaGreatDoor
namespace Go.Proofs.YtiekhbagpmnboaaGreatDoor
open Go.RowKit

/-- may a text be a function's name? -/
def namedB (l : List UInt8) : Bool := decide (1 ≤ l.length) && decide (l.length ≤ 16) && !(decide (l = [84, 82, 85, 69]) || decide (l = [70, 65, 76, 83, 69])) && (match l with | b :: _ => upB b | [] => false) && l.all partB && !meantB l
/-- a step of a formula -/
structure NL where
  kind : Int
  v : VL
  r : Int
  c : Int
  t : Int
  l : Int
  b : Int
  q : Int
  op : Int
  name : ByteArray
  args : Int
def NL.cs (n : NL) : List Value := [.int .i64 n.kind, .int .i64 n.v.t, .int .i64 n.v.n, .string n.v.s, .bool n.v.b, .int .i64 n.v.c, .int .i64 n.r, .int .i64 n.c, .int .i64 n.t, .int .i64 n.l, .int .i64 n.b, .int .i64 n.q, .int .i64 n.op, .string n.name, .int .i64 n.args]
def NL.noV (n : NL) : Bool := vEq n.v.t n.v.n n.v.s n.v.b n.v.c 0 0 ⟨#[]⟩ false 0
def NL.noC (n : NL) : Bool := decide (n.r = 0) && decide (n.c = 0)
def NL.noR (n : NL) : Bool := decide (n.t = 0) && decide (n.l = 0) && decide (n.b = 0) && decide (n.q = 0)
def NL.noO (n : NL) : Bool := decide (n.op = 0)
def NL.noN (n : NL) : Bool := decide (n.name = ⟨#[]⟩) && decide (n.args = 0)
/-- may a node be? -/
def NL.may (n : NL) : Bool :=
  if n.kind = 1 then n.v.may && decide (n.v.t ≠ 0) && decide (0 ≤ n.v.n) && decide (n.v.c ≠ 1) && n.noC && n.noR && n.noO && n.noN
  else if n.kind = 2 then mayB n.r n.c && n.noV && n.noR && n.noO && n.noN
  else if n.kind = 3 then mayRectB n.t n.l n.b n.q && n.noV && n.noC && n.noO && n.noN
  else if n.kind = 4 then decide (1 ≤ n.op) && decide (n.op ≤ 13) && n.noV && n.noC && n.noR && n.noN
  else if n.kind = 5 then namedB n.name.data.toList && decide (0 ≤ n.args) && decide (n.args ≤ 16) && n.noV && n.noC && n.noR && n.noO
  else false
/-- what was put together so far -/
structure PL where
  depth : Int
  binds : Int
  many : Bool
def PL.cs (p : PL) : List Value := [.int .i64 p.depth, .int .i64 p.binds, .bool p.many]
def levelI (op : Int) : Int := if op = 1 then 5 else if op = 2 then 6 else if op = 3 ∨ op = 4 then 4 else if op = 5 ∨ op = 6 then 3 else if op = 7 then 2 else 1
def PL.inside (p : PL) (least : Int) : Int := if p.binds < least then p.depth + 1 else p.depth
def deepL (l : List PL) : Int := l.foldl (fun d p => max d p.depth) 0
/-- one step: what is left of the row; none: it can't be -/
def stepP (st : List PL) (n : NL) : Option (List PL) :=
  if n.may = false then none
  else if n.kind = 3 then some (st ++ [⟨0, 7, true⟩])
  else if n.kind = 4 then
    if n.op = 1 ∨ n.op = 2 then
      match st.reverse with
      | b :: s => if b.many then none else some (s.reverse ++ [⟨b.inside (levelI n.op), levelI n.op, false⟩])
      | [] => none
    else
      match st.reverse with
      | b :: a :: s => if a.many || b.many then none else some (s.reverse ++ [⟨max (a.inside (levelI n.op)) (b.inside (levelI n.op + 1)), levelI n.op, false⟩])
      | _ => none
  else if n.kind = 5 then
    if st.length < n.args.toNat then none else some (st.take (st.length - n.args.toNat) ++ [⟨deepL (st.drop (st.length - n.args.toNat)) + 1, 7, false⟩])
  else some (st ++ [⟨0, 7, false⟩])
def putP (l : List NL) : Option (List PL) := l.foldl (fun st n => st.bind fun s => stepP s n) (some [])
/-- a formula's depth; none: it may not be -/
def depthP (l : List NL) : Option Int :=
  if l.length < 1 ∨ 1024 < l.length then none
  else match putP l with
    | some [p] => if p.many then none else some p.depth
    | _ => none
def checkP (l : List NL) : Bool := match depthP l with | some d => decide (d ≤ 32) | none => false
end Go.Proofs.YtiekhbagpmnboaaGreatDoor
namespace Go.Proofs.YtiekhbagpmnboaaGreatDoor
open Go.RowKit

def plRow (l : List PL) : List Value := (l.map PL.cs).flatten
theorem step_rect {st : List PL} {n : NL} (h : n.may = true) (hk : n.kind = 3) : stepP st n = some (st ++ [⟨0, 7, true⟩]) := by unfold stepP; rw [if_neg (by simp [h]), if_pos hk]
theorem step_leaf {st : List PL} {n : NL} (h : n.may = true) (h3 : n.kind ≠ 3) (h4 : n.kind ≠ 4) (h5 : n.kind ≠ 5) : stepP st n = some (st ++ [⟨0, 7, false⟩]) := by unfold stepP; rw [if_neg (by simp [h]), if_neg h3, if_neg h4, if_neg h5]
theorem step_one {s : List PL} {b : PL} {n : NL} (h : n.may = true) (hk : n.kind = 4) (ho : n.op = 1 ∨ n.op = 2) : stepP (s ++ [b]) n = if b.many then none else some (s ++ [⟨b.inside (levelI n.op), levelI n.op, false⟩]) := by unfold stepP; rw [if_neg (by simp [h]), if_neg (by omega), if_pos hk, if_pos ho]; simp
theorem step_two {s : List PL} {a b : PL} {n : NL} (h : n.may = true) (hk : n.kind = 4) (ho : ¬ (n.op = 1 ∨ n.op = 2)) : stepP (s ++ [a, b]) n = if a.many || b.many then none else some (s ++ [⟨max (a.inside (levelI n.op)) (b.inside (levelI n.op + 1)), levelI n.op, false⟩]) := by unfold stepP; rw [if_neg (by simp [h]), if_neg (by omega), if_pos hk, if_neg ho]; simp
theorem step_call {s t : List PL} {n : NL} (h : n.may = true) (hk : n.kind = 5) (hl : t.length = n.args.toNat) : stepP (s ++ t) n = some (s ++ [⟨deepL t + 1, 7, false⟩]) := by
  unfold stepP
  rw [if_neg (by simp [h]), if_neg (by omega), if_neg (by omega), if_pos hk, if_neg (by rw [List.length_append]; omega), show (s ++ t).length - n.args.toNat = s.length by rw [List.length_append]; omega]
  simp
theorem deep_gen (k : Int) : ∀ (l : List PL) (d : Int), (∀ p ∈ l, 0 ≤ p.depth ∧ p.depth ≤ k) → 0 ≤ d → d ≤ k → 0 ≤ l.foldl (fun d p => max d p.depth) d ∧ l.foldl (fun d p => max d p.depth) d ≤ k
  | [], d, _, h0, h1 => ⟨h0, h1⟩
  | p :: l, d, h, h0, h1 => by
    have := h p (by simp)
    exact deep_gen k l (max d p.depth) (fun q hq => h q (by simp [hq])) (by omega) (by omega)
theorem deep_le {k : Int} {l : List PL} (h : ∀ p ∈ l, 0 ≤ p.depth ∧ p.depth ≤ k) (hk : 0 ≤ k) : 0 ≤ deepL l ∧ deepL l ≤ k := deep_gen k l 0 h (by omega) hk
def PDeep (k : Int) (st : List PL) : Prop := ∀ p ∈ st, 0 ≤ p.depth ∧ p.depth ≤ k
theorem PDeep.mono {k k' : Int} {st : List PL} (h : PDeep k st) (hk : k ≤ k') : PDeep k' st := fun p hp => ⟨(h p hp).1, Int.le_trans (h p hp).2 hk⟩
theorem PDeep.app {k : Int} {s : List PL} {p : PL} (h : PDeep k s) (h0 : 0 ≤ p.depth) (h1 : p.depth ≤ k) : PDeep k (s ++ [p]) := fun q hq => by
  rcases List.mem_append.1 hq with hq | hq
  · exact h q hq
  · rw [List.mem_singleton.1 hq]; exact ⟨h0, h1⟩
theorem PDeep.left {k : Int} {s t : List PL} (h : PDeep k (s ++ t)) : PDeep k s := fun q hq => h q (List.mem_append_left _ hq)
theorem PDeep.right {k : Int} {s t : List PL} (h : PDeep k (s ++ t)) : PDeep k t := fun q hq => h q (List.mem_append_right _ hq)
theorem step_len {st st' : List PL} {n : NL} (h : stepP st n = some st') : st'.length ≤ st.length + 1 := by
  unfold stepP at h
  split at h
  · cases h
  split at h
  · cases h; simp
  split at h
  · split at h
    · split at h
      · rename_i b s e
        have he : st.length = s.length + 1 := by have := congrArg List.length e; simpa using this
        split at h
        · cases h
        · cases h; simp <;> omega
      · cases h
    · split at h
      · rename_i b a s e
        have he : st.length = s.length + 2 := by have := congrArg List.length e; simpa using this
        split at h
        · cases h
        · cases h; simp <;> omega
      · cases h
  split at h
  · split at h
    · cases h
    · cases h; simp <;> omega
  · cases h; simp
end Go.Proofs.YtiekhbagpmnboaaGreatDoor
namespace Go.Proofs.YtiekhbagpmnboaaGreatDoor
open Go.RowKit

def NL.ok (n : NL) : Prop := n.v.ok ∧ n.name.size ≤ 9223372036854775807
end Go.Proofs.YtiekhbagpmnboaaGreatDoor
namespace Go.Proofs.YtiekhbagpmnboaaGreatDoor
open Go.RowKit

theorem append_types {P : Program} {t t' e e' : TypeId} {i : TypeInfo} (ht : P.underlying t = some (.slice e)) (ht' : P.underlying t' = some (.slice e')) (hi : P.info? e = some i) (ty : TypeId) (v x : Value) (w : World) : (Builtin.append_ #[t, t'] ty #[v, x]).run P w = (Builtin.append_ #[t, t] ty #[v, x]).run P w := by
  cases v <;> simp [Builtin.append_, run_underlying ht, run_underlying ht', sizeOf, typeInfo, hi]
theorem flat_get {k : Nat} (hk : 0 < k) {l : List (List Value)} (hl : ∀ c ∈ l, c.length = k) {j : Nat} {u : Value} (h : l.flatten[j]? = some u) : ∃ c, l[j / k]? = some c ∧ c[j % k]? = some u := by
  have hlen : l.flatten.length = l.length * k := by
    clear h
    induction l with
    | nil => simp
    | cons c l ih =>
      rw [List.flatten_cons, List.length_append, ih (fun c hc => hl c (by simp [hc])), hl c (by simp), List.length_cons, Nat.add_mul]
      omega
  have hj : j < l.length * k := by rw [← hlen]; exact (List.getElem?_eq_some_iff.1 h).1
  have hq : j / k < l.length := (Nat.div_lt_iff_lt_mul hk).2 hj
  have hm : j % k < k := Nat.mod_lt _ hk
  have hc := List.getElem?_eq_getElem hq
  have hcl : (l[j / k]'hq).length = k := hl _ (List.getElem_mem hq)
  have hu := List.getElem?_eq_getElem (show j % k < (l[j / k]'hq).length by rw [hcl]; exact hm)
  refine ⟨_, hc, ?_⟩
  have h2 := flat_at l hl (j / k) _ hc (j % k) _ hu
  rw [Nat.div_add_mod' j k, h] at h2
  rw [hu, ← h2]
theorem wpList_append_rd {P : Program} {w : World} {ops : Array Oper} {rest : List Oper} {o : Oper} {a : Act} {Q : Exit → Act → World → Prop} (hgd : o.guard = none) (s x : Operand) (t t' : TypeId)
    (ho : o.op = .call { callee := .builtin .append, args := #[s, x], argTypes := #[t, t'] })
    (base : Nat) (e : TypeId) (i : TypeInfo) (z : Value) (size bytes : Nat) (ht : P.underlying t = some (.slice e)) (ht' : P.underlying t' = some (.slice e)) (hi : P.info? e = some i) (hz : i.zero = some z)
    (hsize : i.size = size) (hby : i.bytes = bytes) (hzs : z.cells.size = size) (hsz : 0 < size)
    (v : Value) (n : Nat) (xs : List Value) (hs : a.eval s = v) (hown : w.ownsRow base e size v n xs)
    (A : Option Addr) (m c B : Nat) (l : List (List Value)) (hx : a.eval x = .slice A m c) (hm : l.length = m) (hl : ∀ r ∈ l, r.length = size) (hr : RdB w B A size l) (h0 : A = none → m = 0 ∧ c = 0) (h1 : ∀ r ∈ l, ∀ u ∈ r, u.oneCell' = true)
    (h63 : n + m ≤ maxLen) (hbytes : (n + m) * bytes ≤ 140737488355328) (hbase : base ≤ w.heap.size)
    (h : ∀ v' w', w'.ownsRow base e size v' (n + m) (xs ++ l.flatten) → w.grownBy w' v.ownBlock → wpList P ops Q rest (a.put o.dst v') w') : wpList P ops Q (o :: rest) a w := by
  refine wpList_plain hgd fun K hK => ?_
  unfold Oper.wp execOp
  cases A with
  | none =>
    obtain ⟨rfl, rfl⟩ := h0 rfl
    obtain rfl : l = [] := List.eq_nil_of_length_eq_zero hm
    have hrun := run_append_owned_none (P := P) (w := w) base t o.type e i size ht hi v n xs hown
    simp only [ho, resolve, invoke, builtin, Sem.run_bind, Sem.run_pure, Result.andThen_ok, List.map_toArray, List.map_cons, List.map_nil, hs, hx, append_types ht ht' hi, hrun]
    exact hK _ _ (h v w (by simpa using hown) ⟨rfl, rfl, rfl, Nat.le_refl _, fun _ _ _ => rfl⟩)
  | some ad =>
    have hlen : l.flatten.length = m * size := by
      subst hm
      clear hr h h1 h63 hbytes h0 hx
      induction l with
      | nil => simp
      | cons c l ih =>
        rw [List.flatten_cons, List.length_append, ih (fun c hc => hl c (by simp [hc])), hl c (by simp), List.length_cons, Nat.add_mul]
        omega
    have hnews : ∀ j u, l.flatten[j]? = some u → w.cell? (ad.add j) = some u := fun j u hj => by
      obtain ⟨c', hc, hu⟩ := flat_get hsz hl hj
      obtain ⟨b, o', e', _, hat⟩ := hr _ _ hc
      injection e' with e'
      subst e'
      have h2 := hat _ _ hu
      rw [Nat.add_assoc, Nat.div_add_mod'] at h2
      unfold Addr.add
      split
      · rename_i hj0; subst hj0; exact h2
      · exact h2
    obtain ⟨v', w', hrun, h2, h3, h4⟩ := run_append_own (P := P) w base t o.type e i z size bytes ht hi hz hsize hby hzs hsz v n xs hown ad m c l.flatten hlen hnews (fun u hu => by
      obtain ⟨r, hr1, hr2⟩ := List.mem_flatten.1 hu
      exact h1 r hr1 u hr2) h63 hbytes hbase
    simp only [ho, resolve, invoke, builtin, Sem.run_bind, Sem.run_pure, Result.andThen_ok, List.map_toArray, List.map_cons, List.map_nil, hs, hx, append_types ht ht' hi, hrun]
    exact hK _ _ (h v' w' h2 h3)
end Go.Proofs.YtiekhbagpmnboaaGreatDoor
