/-
  parse: the reader in memory, and what a call of its methods keeps.
-/
import Derived.Test.YtfbkoieodflcpaaGreatDoorMg3
import Derived.Test.YtfbkoieodflcpaaGreatDoorRows
import Derived.Test.YtfbkoieodflcpaaGreatDoorMg0
import Derived.Test.YtfbkoieodflcpaaGreatDoorProg
import Derived.Test.YtfbkoieodflcpaaGreatDoorShelf
import Derived.Test.YtfbkoieodflcpaaGreatDoorMg4
import Derived.Test.YtfbkoieodflcpaaGreatDoorAddrC
import Derived.Test.YtfbkoieodflcpaaGreatDoorMg6
import Derived.Test.YtfbkoieodflcpaaGreatDoorValA
import Derived.Test.YtfbkoieodflcpaaGreatDoorValB
import Derived.Test.YtfbkoieodflcpaaGreatDoorMg9
import Derived.Test.YtfbkoieodflcpaaGreatDoorMg10
import Derived.Test.YtfbkoieodflcpaaGreatDoorPaP
import Derived.Test.YtfbkoieodflcpaaGreatDoorPaF
import Derived.WalkSpells
import Derived.WalkLawsBesides
import Derived.StillTactics
import Derived.Laws.Pointers
import Derived.Deep.RegionHeld3
import Derived.Deep.QuietTactic
import Derived.BigQuiet
import Derived.RowKit3
import Derived.Lib.Hide
import Derived.Lib.OthersKept
import Derived.OwnWalk
import Derived.Lib.IndexLaws
import Derived.Lib.ItoaMem
import Derived.Lib.TrimByte
import Derived.Lib.SlTrimSet
import Derived.Lib.ParseIntB
import Derived.WalkKit
import Derived.ProofKit
import Derived.OpenShut
import Derived.Carry
import Derived.ChangeSame
import Derived.Deep.Draws
import Derived.Shelf.Strings.Builder1
import Derived.Shelf.Strings.Builder2
import Derived.Shelf.Strings.Trim
import Derived.Shelf.Small.Utf8
import Derived.Shelf.Small.Strs
import Derived.Shelf.Small.Wraps
import Derived.Shelf.Strings.BuilderF
import Derived.Shelf.Strings.BuilderK
import Derived.Shelf.Utf8.RuneCount
import Derived.Shelf.Strconv.Itoa0
import Derived.Shelf.Strconv.Itoa1
import Derived.Shelf.LaysM
import Derived.Shelf.Strconv.Itoa2
import Derived.Shelf.Strconv.Itoa3
import Derived.Ground.MpProg
import Derived.Shelf.Pu.ParseUintPublic10
import Derived.Shelf.Strings.Search1
import Derived.Shelf.Strings.Search2
import Derived.Shelf.Strings.Search3
import Derived.Shelf.Strings.Cut
import Derived.Shelf.Strings.Count
import Derived.Shelf.Strings.Shaped
import Derived.Shelf.Strings.Prefix
import Derived.Shelf.Strings.Split
import Derived.Shelf.Strings.Replace
import Derived.Shelf.Strings.SplitShaped
import Derived.Shelf.Unicode.Decode
import Derived.Shelf.Strings.Runes
import Derived.Shelf.Strings.RuneCount
import Derived.Shelf.Strings.AsciiSet
import Derived.Shelf.Unicode.DecodeSlow
import Derived.Shelf.Unicode.DecodeAny
import Derived.Shelf.Unicode.DecodeLast
import Derived.Lib.ItoaNum
import Derived.Maps.OwnSet
import Derived.Maps.AppendAt
namespace Go.Proofs.YtfbkoieodflcpaaGreatDoor
open Go.RowKit

def ndRow (l : List NL) : List Value := (l.map NL.cs).flatten
theorem ndRow_app (a b : List NL) : ndRow (a ++ b) = ndRow a ++ ndRow b := by simp [ndRow]
theorem ndRow_one (n : NL) : ndRow [n] = n.cs := by simp [ndRow]
/-- the block of the reader's nodes -/
def nown (W : World) (R : Nat) : Option Nat := match W.cell? ⟨R, 14, none⟩ with | some v => v.ownBlock | none => none
/-- the reader's cells -/
structure RS (tv : TV) (R : Nat) (w : World) (s : PS) (A : Option Addr) (cap : Nat) (N : Value) : Prop where
  blk : w.heap[R]? = some (.cells #[.slice A s.rest.length cap, .int .i64 s.now.kind, .int .i64 s.now.place, .int .i64 s.now.num, .string s.now.str, .int .i64 s.now.r, .int .i64 s.now.c, .int .i64 s.now.t, .int .i64 s.now.l, .int .i64 s.now.b, .int .i64 s.now.q, .int .i64 s.now.code, tv.v, .int .i64 s.opn, N] 82 (0, 0))
  rest : RdB w R A 11 (s.rest.map Tok.cs)
  room : s.rest.length ≤ cap
  nodes : w.ownsRow (R + 1) 47 15 N s.nodes.length (ndRow s.nodes)
  o1 : 0 ≤ s.opn
  o2 : s.opn ≤ 32
  nl : s.nodes.length ≤ 1024
  rl : s.rest.length ≤ 100000000000
  wf : s.wf
  tab : FunsAt tv R w
def RSt (tv : TV) (R : Nat) (w : World) (s : PS) : Prop := ∃ A cap N, RS tv R w s A cap N
theorem nown_eq {W W' : World} {R : Nat} (h : W'.cell? ⟨R, 14, none⟩ = W.cell? ⟨R, 14, none⟩) : nown W' R = nown W R := by unfold nown; rw [h]
theorem heap_lt {w : World} {k : Nat} {o : Obj} (h : w.heap[k]? = some o) : k < w.heap.size := (Array.getElem?_eq_some_iff.1 h).1
/-- what a call of the reader's methods keeps -/
def KeepR (R : Nat) (w w' : World) : Prop := Below R w w' ∧ (nown w' R = nown w R ∨ ∃ g, nown w' R = some g ∧ w.heap.size ≤ g ∧ g < w'.heap.size) ∧
  ∀ k cs t fr, w.heap[k]? = some (.cells cs t fr) → k ≠ R → nown w R ≠ some k → w'.heap[k]? = some (.cells cs t fr)
theorem KeepR.trans {R : Nat} {A B C : World} (h : KeepR R A B) (k : KeepR R B C) : KeepR R A C := by
  obtain ⟨h1, h2, h3⟩ := h
  obtain ⟨k1, k2, k3⟩ := k
  refine ⟨h1.trans k1, ?_, fun j cs t fr hj hne how => ?_⟩
  · rcases k2 with k2 | ⟨g, k2, k4, k5⟩
    · rcases h2 with h2 | ⟨g, h2, h4, h5⟩
      · exact .inl (k2.trans h2)
      · exact .inr ⟨g, k2.trans h2, h4, Nat.lt_of_lt_of_le h5 k1.size⟩
    · exact .inr ⟨g, k2, Nat.le_trans h1.size k4, k5⟩
  · refine k3 j cs t fr (h3 j cs t fr hj hne how) hne ?_
    rcases h2 with h2 | ⟨g, h2, h4, _⟩
    · rw [h2]; exact how
    · rw [h2]; intro e; injection e with e; have := heap_lt hj; omega
theorem KeepR.up {R : Nat} {w w' : World} (hb : Below w.heap.size w w') (hR : R < w.heap.size) : KeepR R w w' :=
  ⟨hb.mono (by omega), .inl (nown_eq (hb.cell (p := ⟨R, 14, none⟩) hR)), fun k _ _ _ hk _ _ => (hb.block k (heap_lt hk)).trans hk⟩
theorem KeepR.refl {R : Nat} {w : World} (hR : R < w.heap.size) : KeepR R w w := KeepR.up (Below.refl _ _) hR
/-- a block of a caller's own, beside the reader -/
structure Apart (R : Nat) (w : World) (k : Nat) (cs : Array Value) (t : TypeId) (fr : Nat × Nat) : Prop where
  blk : w.heap[k]? = some (.cells cs t fr)
  ne : k ≠ R
  own : nown w R ≠ some k
theorem Apart.kept {R k : Nat} {w w' : World} {cs : Array Value} {t : TypeId} {fr : Nat × Nat} (h : Apart R w k cs t fr) (hk : KeepR R w w') : Apart R w' k cs t fr := by
  refine ⟨hk.2.2 k cs t fr h.blk h.ne h.own, h.ne, ?_⟩
  rcases hk.2.1 with e | ⟨g, e, h1, _⟩
  · rw [e]; exact h.own
  · rw [e]; intro e2; injection e2 with e2; have := heap_lt h.blk; omega
theorem RS.lt {tv : TV} {R : Nat} {w : World} {s : PS} {A : Option Addr} {cap : Nat} {N : Value} (h : RS tv R w s A cap N) : R < w.heap.size := heap_lt h.blk
theorem RSt.lt {tv : TV} {R : Nat} {w : World} {s : PS} (h : RSt tv R w s) : R < w.heap.size := by obtain ⟨A, cap, N, h⟩ := h; exact h.lt
theorem RS.nown {tv : TV} {R : Nat} {w : World} {s : PS} {A : Option Addr} {cap : Nat} {N : Value} (h : RS tv R w s A cap N) : nown w R = N.ownBlock := by
  unfold Go.Proofs.YtfbkoieodflcpaaGreatDoor.nown
  rw [cell_of_row w R 14 _ _ _ h.blk]
  rfl
theorem RSt.fresh {tv : TV} {R : Nat} {w : World} {s : PS} (h : RSt tv R w s) (k : Nat) (hk : nown w R = some k) : R < k ∧ k < w.heap.size := by
  obtain ⟨A, cap, N, h⟩ := h
  rw [h.nown] at hk
  have := h.nodes.lt k hk
  omega
theorem RSt.apart {tv : TV} {R : Nat} {w w' : World} {s : PS} {k : Nat} {cs : Array Value} {t : TypeId} {fr : Nat × Nat} (h : RSt tv R w s) (hb : Below w.heap.size w w') (hk : w.heap.size ≤ k) (hh : w'.heap[k]? = some (.cells cs t fr)) : Apart R w' k cs t fr := by
  refine ⟨hh, by have := h.lt; omega, fun e => ?_⟩
  rw [nown_eq (hb.cell (p := ⟨R, 14, none⟩) h.lt)] at e
  have := h.fresh k e
  omega
theorem RSt.up {tv : TV} {R : Nat} {w w' : World} {s : PS} (h : RSt tv R w s) (hb : Below w.heap.size w w') : RSt tv R w' s := by
  have hl := h.lt
  obtain ⟨A, cap, N, h⟩ := h
  exact ⟨A, cap, N, (hb.block R hl).trans h.blk, h.rest.below (hb.mono (by omega)), h.room, ownsRow_below h.nodes hb, h.o1, h.o2, h.nl, h.rl, h.wf, h.tab.below (hb.mono (by omega))⟩
theorem rdb_tail {w : World} {B b o : Nat} {c : List Value} {l : List (List Value)} (h : RdB w B (some ⟨b, o, none⟩) 11 (c :: l)) : RdB w B (some ⟨b, o + 11, none⟩) 11 l := fun i d hd => by
  obtain ⟨b', o', e, hb, hc⟩ := h (i + 1) d (by simpa using hd)
  injection e with e
  injection e with e1 e2 _
  subst e1 e2
  exact ⟨b, o + 11, rfl, hb, fun j u hu => by have := hc j u hu; rwa [show o + (i + 1) * 11 + j = o + 11 + i * 11 + j by omega] at this⟩
/-- what a call answers -/
def RRes (tv : TV) (R : Nat) (w : World) (x : PR) (e : Ending) (w' : World) : Prop := KeepR R w w' ∧ match x with
  | .ok s' => e = .returned (.tuple #[]) ∧ RSt tv R w' s'
  | .bad er a => e = .panicked [{ v := .iface 71 (.agg #[.int .i64 er, .int .i64 a]), recovered := false }]
theorem pfail (tv : TV) (R : Nat) (s : PS) (w : World) (hR : RSt tv R w s) : Calls Tryz.prog 26 #[.pointer (some ⟨R, 0, none⟩)] w fun e w' => RRes tv R w s.fail e w' := by
  have hk := KeepR.refl hR.lt
  obtain ⟨A, cap, N, h⟩ := hR
  have c2 : w.cell? ⟨R, 2, none⟩ = some (.int .i64 s.now.place) := by rw [cell_of_row w R 2 _ _ _ h.blk]; rfl
  clear h
  go_enter Tryz.func26, Tryz.ntmps26
  go_wp2
  exact ⟨rfl, hk, rfl⟩
theorem pis (tv : TV) (R : Nat) (s : PS) (c : List UInt8) (w : World) (hR : RSt tv R w s) : Calls Tryz.prog 95 #[.pointer (some ⟨R, 0, none⟩), .string ⟨c.toArray⟩] w fun e w' => e = .returned (.bool (s.is c)) ∧ w' = w := by
  obtain ⟨A, cap, N, h⟩ := hR
  have c1 : w.cell? ⟨R, 1, none⟩ = some (.int .i64 s.now.kind) := by rw [cell_of_row w R 1 _ _ _ h.blk]; rfl
  have c4 : w.cell? ⟨R, 4, none⟩ = some (.string s.now.str) := by rw [cell_of_row w R 4 _ _ _ h.blk]; rfl
  clear h
  have e1 : s.is c = (decide (s.now.kind = 7) && decide (s.now.str = ⟨c.toArray⟩)) := rfl
  rw [e1]
  clear e1
  by_cases h7 : s.now.kind = 7
  · have k7 : (s.now.kind == 7) = true := by simp [h7]
    have e2 : (decide (s.now.kind = 7) && decide (s.now.str = ⟨c.toArray⟩)) = decide (s.now.str = ⟨c.toArray⟩) := by simp [h7]
    rw [e2]
    clear h7 e2
    go_enter Tryz.func95, Tryz.ntmps95
    go_wp2
    go_ret
    exact ⟨rfl, rfl⟩
  · have k7 : (s.now.kind == 7) = false := by simp [h7]
    have e2 : (decide (s.now.kind = 7) && decide (s.now.str = ⟨c.toArray⟩)) = false := by simp [h7]
    rw [e2]
    clear h7 e2
    go_enter Tryz.func95, Tryz.ntmps95
    go_wp2
    go_ret
    exact ⟨rfl, rfl⟩
end Go.Proofs.YtfbkoieodflcpaaGreatDoor
