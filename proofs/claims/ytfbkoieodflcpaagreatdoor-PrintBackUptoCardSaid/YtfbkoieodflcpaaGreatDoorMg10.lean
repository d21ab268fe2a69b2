/-
  refs, as plain functions; refs: the row of parts, plain; orielref05.Same of a formula and itself.
-/
import Derived.Test.YtfbkoieodflcpaaGreatDoorMg3
import Derived.Test.YtfbkoieodflcpaaGreatDoorRows
import Derived.Test.YtfbkoieodflcpaaGreatDoorMg0
import Derived.Test.YtfbkoieodflcpaaGreatDoorProg
import Derived.Test.YtfbkoieodflcpaaGreatDoorShelf
import Derived.Test.YtfbkoieodflcpaaGreatDoorMg4
import Derived.Test.YtfbkoieodflcpaaGreatDoorAddrC
import Derived.Test.YtfbkoieodflcpaaGreatDoorMg6
import Derived.Test.YtfbkoieodflcpaaGreatDoorValA
import Derived.Test.YtfbkoieodflcpaaGreatDoorValB
import Derived.Test.YtfbkoieodflcpaaGreatDoorMg9
import Derived.WalkSpells
import Derived.WalkLawsBesides
import Derived.StillTactics
import Derived.Laws.Pointers
import Derived.Deep.RegionHeld3
import Derived.Deep.QuietTactic
import Derived.BigQuiet
import Derived.RowKit3
import Derived.Lib.Hide
import Derived.Lib.OthersKept
import Derived.OwnWalk
import Derived.Lib.IndexLaws
import Derived.Lib.ItoaMem
import Derived.Lib.TrimByte
import Derived.Lib.SlTrimSet
import Derived.Lib.ParseIntB
import Derived.WalkKit
import Derived.ProofKit
import Derived.OpenShut
import Derived.Carry
import Derived.ChangeSame
import Derived.Deep.Draws
import Derived.Shelf.Strings.Builder1
import Derived.Shelf.Strings.Builder2
import Derived.Shelf.Strings.Trim
import Derived.Shelf.Small.Utf8
import Derived.Shelf.Small.Strs
import Derived.Shelf.Small.Wraps
import Derived.Shelf.Strings.BuilderF
import Derived.Shelf.Strings.BuilderK
import Derived.Shelf.Utf8.RuneCount
import Derived.Shelf.Strconv.Itoa0
import Derived.Shelf.Strconv.Itoa1
import Derived.Shelf.LaysM
import Derived.Shelf.Strconv.Itoa2
import Derived.Shelf.Strconv.Itoa3
import Derived.Ground.MpProg
import Derived.Shelf.Pu.ParseUintPublic10
import Derived.Shelf.Strings.Search1
import Derived.Shelf.Strings.Search2
import Derived.Shelf.Strings.Search3
import Derived.Shelf.Strings.Cut
import Derived.Shelf.Strings.Count
import Derived.Shelf.Strings.Shaped
import Derived.Shelf.Strings.Prefix
import Derived.Shelf.Strings.Split
import Derived.Shelf.Strings.Replace
import Derived.Shelf.Strings.SplitShaped
import Derived.Shelf.Unicode.Decode
import Derived.Shelf.Strings.Runes
import Derived.Shelf.Strings.RuneCount
import Derived.Shelf.Strings.AsciiSet
import Derived.Shelf.Unicode.DecodeSlow
import Derived.Shelf.Unicode.DecodeAny
import Derived.Shelf.Unicode.DecodeLast
import Derived.Lib.ItoaNum
import Derived.Maps.OwnSet
import Derived.Maps.AppendAt
namespace Go.Proofs.YtfbkoieodflcpaaGreatDoor
open Go.RowKit

/-- may a text be a function's name? -/
def namedB (l : List UInt8) : Bool := decide (1 ≤ l.length) && decide (l.length ≤ 16) && !(decide (l = [84, 82, 85, 69]) || decide (l = [70, 65, 76, 83, 69])) && (match l with | b :: _ => upB b | [] => false) && l.all partB && !meantB l
/-- a step of a formula -/
structure NL where
  kind : Int
  v : VL
  r : Int
  c : Int
  t : Int
  l : Int
  b : Int
  q : Int
  op : Int
  name : ByteArray
  args : Int
def NL.cs (n : NL) : List Value := [.int .i64 n.kind, .int .i64 n.v.t, .int .i64 n.v.n, .string n.v.s, .bool n.v.b, .int .i64 n.v.c, .int .i64 n.r, .int .i64 n.c, .int .i64 n.t, .int .i64 n.l, .int .i64 n.b, .int .i64 n.q, .int .i64 n.op, .string n.name, .int .i64 n.args]
def NL.noV (n : NL) : Bool := vEq n.v.t n.v.n n.v.s n.v.b n.v.c 0 0 ⟨#[]⟩ false 0
def NL.noC (n : NL) : Bool := decide (n.r = 0) && decide (n.c = 0)
def NL.noR (n : NL) : Bool := decide (n.t = 0) && decide (n.l = 0) && decide (n.b = 0) && decide (n.q = 0)
def NL.noO (n : NL) : Bool := decide (n.op = 0)
def NL.noN (n : NL) : Bool := decide (n.name = ⟨#[]⟩) && decide (n.args = 0)
/-- may a node be? -/
def NL.may (n : NL) : Bool :=
  if n.kind = 1 then n.v.may && decide (n.v.t ≠ 0) && decide (0 ≤ n.v.n) && decide (n.v.c ≠ 1) && n.noC && n.noR && n.noO && n.noN
  else if n.kind = 2 then mayB n.r n.c && n.noV && n.noR && n.noO && n.noN
  else if n.kind = 3 then mayRectB n.t n.l n.b n.q && n.noV && n.noC && n.noO && n.noN
  else if n.kind = 4 then decide (1 ≤ n.op) && decide (n.op ≤ 13) && n.noV && n.noC && n.noR && n.noN
  else if n.kind = 5 then namedB n.name.data.toList && decide (0 ≤ n.args) && decide (n.args ≤ 16) && n.noV && n.noC && n.noR && n.noO
  else false
/-- what was put together so far -/
structure PL where
  depth : Int
  binds : Int
  many : Bool
def PL.cs (p : PL) : List Value := [.int .i64 p.depth, .int .i64 p.binds, .bool p.many]
def levelI (op : Int) : Int := if op = 1 then 5 else if op = 2 then 6 else if op = 3 ∨ op = 4 then 4 else if op = 5 ∨ op = 6 then 3 else if op = 7 then 2 else 1
def PL.inside (p : PL) (least : Int) : Int := if p.binds < least then p.depth + 1 else p.depth
def deepL (l : List PL) : Int := l.foldl (fun d p => max d p.depth) 0
/-- one step: what is left of the row; none: it can't be -/
def stepP (st : List PL) (n : NL) : Option (List PL) :=
  if n.may = false then none
  else if n.kind = 3 then some (st ++ [⟨0, 7, true⟩])
  else if n.kind = 4 then
    if n.op = 1 ∨ n.op = 2 then
      match st.reverse with
      | b :: s => if b.many then none else some (s.reverse ++ [⟨b.inside (levelI n.op), levelI n.op, false⟩])
      | [] => none
    else
      match st.reverse with
      | b :: a :: s => if a.many || b.many then none else some (s.reverse ++ [⟨max (a.inside (levelI n.op)) (b.inside (levelI n.op + 1)), levelI n.op, false⟩])
      | _ => none
  else if n.kind = 5 then
    if st.length < n.args.toNat then none else some (st.take (st.length - n.args.toNat) ++ [⟨deepL (st.drop (st.length - n.args.toNat)) + 1, 7, false⟩])
  else some (st ++ [⟨0, 7, false⟩])
def putP (l : List NL) : Option (List PL) := l.foldl (fun st n => st.bind fun s => stepP s n) (some [])
/-- a formula's depth; none: it may not be -/
def depthP (l : List NL) : Option Int :=
  if l.length < 1 ∨ 1024 < l.length then none
  else match putP l with
    | some [p] => if p.many then none else some p.depth
    | _ => none
def checkP (l : List NL) : Bool := match depthP l with | some d => decide (d ≤ 32) | none => false
end Go.Proofs.YtfbkoieodflcpaaGreatDoor
namespace Go.Proofs.YtfbkoieodflcpaaGreatDoor
open Go.RowKit

def plRow (l : List PL) : List Value := (l.map PL.cs).flatten
theorem plRow_app (a b : List PL) : plRow (a ++ b) = plRow a ++ plRow b := by simp [plRow]
theorem plRow_one (p : PL) : plRow [p] = p.cs := by simp [plRow]
theorem plRow_len : ∀ l : List PL, (plRow l).length = l.length * 3
  | [] => rfl
  | p :: l => by
    rw [show plRow (p :: l) = p.cs ++ plRow l from rfl, List.length_append, plRow_len l, show p.cs.length = 3 from rfl, List.length_cons, Nat.succ_mul, Nat.add_comm]
theorem step_bad {st : List PL} {n : NL} (h : n.may = false) : stepP st n = none := by unfold stepP; rw [if_pos h]
theorem step_rect {st : List PL} {n : NL} (h : n.may = true) (hk : n.kind = 3) : stepP st n = some (st ++ [⟨0, 7, true⟩]) := by unfold stepP; rw [if_neg (by simp [h]), if_pos hk]
theorem step_leaf {st : List PL} {n : NL} (h : n.may = true) (h3 : n.kind ≠ 3) (h4 : n.kind ≠ 4) (h5 : n.kind ≠ 5) : stepP st n = some (st ++ [⟨0, 7, false⟩]) := by unfold stepP; rw [if_neg (by simp [h]), if_neg h3, if_neg h4, if_neg h5]
theorem step_one {s : List PL} {b : PL} {n : NL} (h : n.may = true) (hk : n.kind = 4) (ho : n.op = 1 ∨ n.op = 2) : stepP (s ++ [b]) n = if b.many then none else some (s ++ [⟨b.inside (levelI n.op), levelI n.op, false⟩]) := by unfold stepP; rw [if_neg (by simp [h]), if_neg (by omega), if_pos hk, if_pos ho]; simp
theorem step_one_no {n : NL} (h : n.may = true) (hk : n.kind = 4) : stepP [] n = none := by unfold stepP; rw [if_neg (by simp [h]), if_neg (by omega), if_pos hk]; simp
theorem step_two {s : List PL} {a b : PL} {n : NL} (h : n.may = true) (hk : n.kind = 4) (ho : ¬ (n.op = 1 ∨ n.op = 2)) : stepP (s ++ [a, b]) n = if a.many || b.many then none else some (s ++ [⟨max (a.inside (levelI n.op)) (b.inside (levelI n.op + 1)), levelI n.op, false⟩]) := by unfold stepP; rw [if_neg (by simp [h]), if_neg (by omega), if_pos hk, if_neg ho]; simp
theorem step_two_no {a : PL} {n : NL} (h : n.may = true) (hk : n.kind = 4) (ho : ¬ (n.op = 1 ∨ n.op = 2)) : stepP [a] n = none := by unfold stepP; rw [if_neg (by simp [h]), if_neg (by omega), if_pos hk, if_neg ho]; simp
theorem step_two_no0 {n : NL} (h : n.may = true) (hk : n.kind = 4) (ho : ¬ (n.op = 1 ∨ n.op = 2)) : stepP [] n = none := by unfold stepP; rw [if_neg (by simp [h]), if_neg (by omega), if_pos hk, if_neg ho]; simp
theorem op_of {n : NL} (h : n.may = true) (hk : n.kind = 4) : 1 ≤ n.op ∧ n.op ≤ 13 := by
  unfold NL.may at h
  rw [if_neg (by omega), if_neg (by omega), if_neg (by omega), if_pos hk] at h
  simp at h
  exact ⟨h.1.1.1.1.1, h.1.1.1.1.2⟩
theorem args_of {n : NL} (h : n.may = true) (hk : n.kind = 5) : 0 ≤ n.args ∧ n.args ≤ 16 ∧ namedB n.name.data.toList = true := by
  unfold NL.may at h
  rw [if_neg (by omega), if_neg (by omega), if_neg (by omega), if_neg (by omega), if_pos hk] at h
  simp at h
  exact ⟨h.1.1.1.1.1.2, h.1.1.1.1.2, h.1.1.1.1.1.1⟩
theorem two_last (st : List PL) : st = [] ∨ (∃ a, st = [a]) ∨ ∃ s a b, st = s ++ [a, b] := by
  rcases st.eq_nil_or_concat with rfl | ⟨s, b, rfl⟩
  · exact Or.inl rfl
  · rcases s.eq_nil_or_concat with rfl | ⟨s, a, rfl⟩
    · exact Or.inr (Or.inl ⟨b, rfl⟩)
    · exact Or.inr (Or.inr ⟨s, a, b, by simp⟩)
theorem step_call_no {st : List PL} {n : NL} (h : n.may = true) (hk : n.kind = 5) (hl : st.length < n.args.toNat) : stepP st n = none := by unfold stepP; rw [if_neg (by simp [h]), if_neg (by omega), if_neg (by omega), if_pos hk, if_pos hl]
theorem step_call {s t : List PL} {n : NL} (h : n.may = true) (hk : n.kind = 5) (hl : t.length = n.args.toNat) : stepP (s ++ t) n = some (s ++ [⟨deepL t + 1, 7, false⟩]) := by
  unfold stepP
  rw [if_neg (by simp [h]), if_neg (by omega), if_neg (by omega), if_pos hk, if_neg (by rw [List.length_append]; omega), show (s ++ t).length - n.args.toNat = s.length by rw [List.length_append]; omega]
  simp
theorem deep_snoc (l : List PL) (p : PL) : deepL (l ++ [p]) = max (deepL l) p.depth := by simp [deepL]
theorem deep_gen (k : Int) : ∀ (l : List PL) (d : Int), (∀ p ∈ l, 0 ≤ p.depth ∧ p.depth ≤ k) → 0 ≤ d → d ≤ k → 0 ≤ l.foldl (fun d p => max d p.depth) d ∧ l.foldl (fun d p => max d p.depth) d ≤ k
  | [], d, _, h0, h1 => ⟨h0, h1⟩
  | p :: l, d, h, h0, h1 => by
    have := h p (by simp)
    exact deep_gen k l (max d p.depth) (fun q hq => h q (by simp [hq])) (by omega) (by omega)
theorem deep_le {k : Int} {l : List PL} (h : ∀ p ∈ l, 0 ≤ p.depth ∧ p.depth ≤ k) (hk : 0 ≤ k) : 0 ≤ deepL l ∧ deepL l ≤ k := deep_gen k l 0 h (by omega) hk
theorem inside_le {k : Int} {p : PL} (h : 0 ≤ p.depth ∧ p.depth ≤ k) (x : Int) : 0 ≤ p.inside x ∧ p.inside x ≤ k + 1 := by unfold PL.inside; split <;> omega
def PDeep (k : Int) (st : List PL) : Prop := ∀ p ∈ st, 0 ≤ p.depth ∧ p.depth ≤ k
theorem PDeep.mono {k k' : Int} {st : List PL} (h : PDeep k st) (hk : k ≤ k') : PDeep k' st := fun p hp => ⟨(h p hp).1, Int.le_trans (h p hp).2 hk⟩
theorem PDeep.app {k : Int} {s : List PL} {p : PL} (h : PDeep k s) (h0 : 0 ≤ p.depth) (h1 : p.depth ≤ k) : PDeep k (s ++ [p]) := fun q hq => by
  rcases List.mem_append.1 hq with hq | hq
  · exact h q hq
  · rw [List.mem_singleton.1 hq]; exact ⟨h0, h1⟩
theorem PDeep.left {k : Int} {s t : List PL} (h : PDeep k (s ++ t)) : PDeep k s := fun q hq => h q (List.mem_append_left _ hq)
theorem PDeep.right {k : Int} {s t : List PL} (h : PDeep k (s ++ t)) : PDeep k t := fun q hq => h q (List.mem_append_right _ hq)
theorem step_len {st st' : List PL} {n : NL} (h : stepP st n = some st') : st'.length ≤ st.length + 1 := by
  unfold stepP at h
  split at h
  · cases h
  split at h
  · cases h; simp
  split at h
  · split at h
    · split at h
      · rename_i b s e
        have he : st.length = s.length + 1 := by have := congrArg List.length e; simpa using this
        split at h
        · cases h
        · cases h; simp <;> omega
      · cases h
    · split at h
      · rename_i b a s e
        have he : st.length = s.length + 2 := by have := congrArg List.length e; simpa using this
        split at h
        · cases h
        · cases h; simp <;> omega
      · cases h
  split at h
  · split at h
    · cases h
    · cases h; simp <;> omega
  · cases h; simp
theorem putP_take (ns : List NL) (j : Nat) (n : NL) (h : ns[j]? = some n) : putP (ns.take (j + 1)) = (putP (ns.take j)).bind fun s => stepP s n := by
  unfold putP
  rw [List.take_add_one, h, List.foldl_append]
  rfl
theorem putP_no (ns : List NL) (j : Nat) (h : putP (ns.take j) = none) : putP ns = none := by
  have e : ns = ns.take j ++ ns.drop j := (List.take_append_drop j ns).symm
  have key : ∀ l : List NL, l.foldl (fun st n => st.bind fun s => stepP s n) (none : Option (List PL)) = none := fun l => by
    induction l with
    | nil => rfl
    | cons n l ih => exact ih
  rw [e]
  unfold putP at h ⊢
  rw [List.foldl_append, h]
  exact key _
theorem depth_no {ns : List NL} {j : Nat} (h : putP (ns.take j) = none) : depthP ns = none := by
  unfold depthP
  rw [putP_no ns j h]
  split <;> rfl
/-- a row whose last elements are let go -/
theorem ownsRow_cut {w : World} {base : Nat} {e : TypeId} {size n m cap : Nat} {A : Option Addr} {xs ys zs : List Value} (h : w.ownsRow base e size (.slice A n cap) n xs) (hx : xs = ys ++ zs) (hy : ys.length = m * size) (hm : m ≤ n) (h0 : A = none → m = 0) : w.ownsRow base e size (.slice A m cap) m ys := by
  obtain ⟨h1, h2⟩ := h
  rcases h2 with ⟨hv, hn⟩ | ⟨g, cap', cur, hv, hg, hh, hle, hmx, hsz, htk⟩
  · cases hv
    have := h0 rfl
    subst this
    exact ⟨hy, .inl ⟨rfl, rfl⟩⟩
  · cases hv
    refine ⟨hy, .inr ⟨g, _, cur, rfl, hg, hh, by omega, hmx, hsz, ?_⟩⟩
    have h3 : (cur.toList.take (n * size)).take (m * size) = xs.take (m * size) := by rw [htk]
    rw [List.take_take, Nat.min_eq_left (Nat.mul_le_mul_right _ hm)] at h3
    rw [h3, hx, ← hy, List.take_left]
end Go.Proofs.YtfbkoieodflcpaaGreatDoor
namespace Go.Proofs.YtfbkoieodflcpaaGreatDoor
open Go.RowKit

set_option maxRecDepth 100000 in
set_option maxHeartbeats 4000000 in
theorem rsame_refl (ns : List NL) (hlen : ns.length ≤ 9223372036854775807) (w : World) (A B : Option Addr) (cap cap2 : Nat) (hRA : RdB w w.heap.size A 15 (ns.map NL.cs)) (hRB : RdB w w.heap.size B 15 (ns.map NL.cs)) : Calls Tryz.prog 9 #[.agg #[.slice A ns.length cap], .agg #[.slice B ns.length cap2]] w fun e w' => e = .returned (.bool true) ∧ Below w.heap.size w w' := by
  have hRAH := Lib.hid hRA
  have hRBH := Lib.hid hRB
  clear hRA hRB
  have hW : Below w.heap.size w ((w.alloc (.cells #[.slice A ns.length cap] 24)).alloc (.cells #[.slice B ns.length cap2] 24)) := ((Below.refl _ _).alloc (Nat.le_refl _) _).alloc (by simp) _
  go_enter Tryz.func9, Tryz.ntmps9
  go_wp2
  go_loopw [5] (fun i wr => ∃ j : Nat, j ≤ ns.length ∧ i = .int .i64 (j : Int) ∧ Below (w.heap.size + 2) ((w.alloc (.cells #[.slice A ns.length cap] 24)).alloc (.cells #[.slice B ns.length cap2] 24)) wr) (fun i _ => ns.length - (intOf i).toNat)
  case atStart => exact ⟨0, by omega, rfl, Below.refl _ _⟩
  case round =>
    obtain ⟨j, hj, rfl, hbr⟩ := hrel
    have hb0 : Below w.heap.size w wr := hW.trans (hbr.mono (by omega))
    have hzr : w.heap.size + 2 ≤ wr.heap.size := by have := hbr.size; simp at this; omega
    have hf1 : wr.cell? ⟨w.heap.size, 0, none⟩ = some (.slice A ns.length cap) := (hbr.cell (p := ⟨w.heap.size, 0, none⟩) (by show w.heap.size < w.heap.size + 2; omega)).trans (by simp [go_sem])
    have hf2 : wr.cell? ⟨w.heap.size + 1, 0, none⟩ = some (.slice B ns.length cap2) := (hbr.cell (p := ⟨w.heap.size + 1, 0, none⟩) (by show w.heap.size + 1 < w.heap.size + 2; omega)).trans (by simp [go_sem])
    by_cases hlt : j < ns.length
    · obtain ⟨n, hn⟩ : ∃ n, ns[j]? = some n := ⟨_, List.getElem?_eq_getElem hlt⟩
      obtain ⟨ab, ao, hA2, hab, hcA⟩ := (hRAH.out.below hb0) j n.cs (by rw [List.getElem?_map, hn]; rfl)
      obtain rfl : A = some ⟨ab, ao, none⟩ := hA2
      obtain ⟨bb, bo, hB2, hbb, hcB⟩ := (hRBH.out.below hb0) j n.cs (by rw [List.getElem?_map, hn]; rfl)
      obtain rfl : B = some ⟨bb, bo, none⟩ := hB2
      have ha0 : wr.cell? ⟨ab, ao + j * 15, none⟩ = some (.int .i64 n.kind) := hcA 0 _ rfl
      have ha1 : wr.cell? ⟨ab, ao + j * 15 + 1, none⟩ = some (.int .i64 n.v.t) := hcA 1 _ rfl
      have ha2 : wr.cell? ⟨ab, ao + j * 15 + 2, none⟩ = some (.int .i64 n.v.n) := hcA 2 _ rfl
      have ha3 : wr.cell? ⟨ab, ao + j * 15 + 3, none⟩ = some (.string n.v.s) := hcA 3 _ rfl
      have ha4 : wr.cell? ⟨ab, ao + j * 15 + 4, none⟩ = some (.bool n.v.b) := hcA 4 _ rfl
      have ha5 : wr.cell? ⟨ab, ao + j * 15 + 5, none⟩ = some (.int .i64 n.v.c) := hcA 5 _ rfl
      have ha6 : wr.cell? ⟨ab, ao + j * 15 + 6, none⟩ = some (.int .i64 n.r) := hcA 6 _ rfl
      have ha7 : wr.cell? ⟨ab, ao + j * 15 + 7, none⟩ = some (.int .i64 n.c) := hcA 7 _ rfl
      have ha8 : wr.cell? ⟨ab, ao + j * 15 + 8, none⟩ = some (.int .i64 n.t) := hcA 8 _ rfl
      have ha9 : wr.cell? ⟨ab, ao + j * 15 + 9, none⟩ = some (.int .i64 n.l) := hcA 9 _ rfl
      have ha10 : wr.cell? ⟨ab, ao + j * 15 + 10, none⟩ = some (.int .i64 n.b) := hcA 10 _ rfl
      have ha11 : wr.cell? ⟨ab, ao + j * 15 + 11, none⟩ = some (.int .i64 n.q) := hcA 11 _ rfl
      have ha12 : wr.cell? ⟨ab, ao + j * 15 + 12, none⟩ = some (.int .i64 n.op) := hcA 12 _ rfl
      have ha13 : wr.cell? ⟨ab, ao + j * 15 + 13, none⟩ = some (.string n.name) := hcA 13 _ rfl
      have ha14 : wr.cell? ⟨ab, ao + j * 15 + 14, none⟩ = some (.int .i64 n.args) := hcA 14 _ rfl
      have hb0_ : wr.cell? ⟨bb, bo + j * 15, none⟩ = some (.int .i64 n.kind) := hcB 0 _ rfl
      have hb1_ : wr.cell? ⟨bb, bo + j * 15 + 1, none⟩ = some (.int .i64 n.v.t) := hcB 1 _ rfl
      have hb2_ : wr.cell? ⟨bb, bo + j * 15 + 2, none⟩ = some (.int .i64 n.v.n) := hcB 2 _ rfl
      have hb3_ : wr.cell? ⟨bb, bo + j * 15 + 3, none⟩ = some (.string n.v.s) := hcB 3 _ rfl
      have hb4_ : wr.cell? ⟨bb, bo + j * 15 + 4, none⟩ = some (.bool n.v.b) := hcB 4 _ rfl
      have hb5_ : wr.cell? ⟨bb, bo + j * 15 + 5, none⟩ = some (.int .i64 n.v.c) := hcB 5 _ rfl
      have hb6_ : wr.cell? ⟨bb, bo + j * 15 + 6, none⟩ = some (.int .i64 n.r) := hcB 6 _ rfl
      have hb7_ : wr.cell? ⟨bb, bo + j * 15 + 7, none⟩ = some (.int .i64 n.c) := hcB 7 _ rfl
      have hb8_ : wr.cell? ⟨bb, bo + j * 15 + 8, none⟩ = some (.int .i64 n.t) := hcB 8 _ rfl
      have hb9_ : wr.cell? ⟨bb, bo + j * 15 + 9, none⟩ = some (.int .i64 n.l) := hcB 9 _ rfl
      have hb10_ : wr.cell? ⟨bb, bo + j * 15 + 10, none⟩ = some (.int .i64 n.b) := hcB 10 _ rfl
      have hb11_ : wr.cell? ⟨bb, bo + j * 15 + 11, none⟩ = some (.int .i64 n.q) := hcB 11 _ rfl
      have hb12_ : wr.cell? ⟨bb, bo + j * 15 + 12, none⟩ = some (.int .i64 n.op) := hcB 12 _ rfl
      have hb13_ : wr.cell? ⟨bb, bo + j * 15 + 13, none⟩ = some (.string n.name) := hcB 13 _ rfl
      have hb14_ : wr.cell? ⟨bb, bo + j * 15 + 14, none⟩ = some (.int .i64 n.args) := hcB 14 _ rfl
      clear hcA hcB hn hW hb0
      have hkl : (j : Int) < (ns.length : Int) := by omega
      have hk0 : (0 : Int) ≤ (j : Int) := by omega
      go_wp2
      go_quiet (fail)
      go_wp2
      go_roundw
      case rel => exact ⟨j + 1, by omega, by go_num, by (repeat (first | (with_reducible exact Below.refl _ _) | (with_reducible refine Below.alloc ?_ (by first | omega | (dsimp only; omega) | (simp <;> omega)) _) | (with_reducible refine Below.setCell ?_ (by first | omega | (dsimp only; omega) | (simp <;> omega)) _) | (with_reducible refine Below.drew ?_) | (with_reducible refine below_drewN ?_ _) | (with_reducible refine Below.trans ?_ (Below.mono (by assumption) (by first | omega | (dsimp only; omega) | (simp <;> omega))))))⟩
      case measure => simp [intOf]; omega
    · obtain rfl : j = ns.length := by omega
      have hjj : ¬ ((ns.length : Int) < (ns.length : Int)) := by omega
      go_wp2
      go_ret
      exact ⟨rfl, hb0⟩
end Go.Proofs.YtfbkoieodflcpaaGreatDoor
