/-
  orielref06: the reader in memory, and what a call of its methods keeps; parse: the reader's step; orielref06: the reader's fail, now, step, sign; parse: the reader's add, op, begin, end.
-/
import Derived.Test.YtiekhbagpmnboaaGreatDoorMg0
import Derived.Test.YtiekhbagpmnboaaGreatDoorRows
import Derived.Test.YtiekhbagpmnboaaGreatDoorProg
import Derived.Test.YtiekhbagpmnboaaGreatDoorAddrC
import Derived.Test.YtiekhbagpmnboaaGreatDoorMg2
import Derived.Test.YtiekhbagpmnboaaGreatDoorMg26
import Derived.Test.YtiekhbagpmnboaaGreatDoorValA
import Derived.Test.YtiekhbagpmnboaaGreatDoorValB
import Derived.Test.YtiekhbagpmnboaaGreatDoorMg5
import Derived.Test.YtiekhbagpmnboaaGreatDoorMg6
import Derived.Test.YtiekhbagpmnboaaGreatDoorMg7
import Derived.Test.YtiekhbagpmnboaaGreatDoorPaW
import Derived.BigRegion
import Derived.WalkSpells
import Derived.WalkLawsBesides
import Derived.StillTactics
import Derived.Laws.Pointers
import Derived.Deep.RegionHeld3
import Derived.Deep.QuietTactic
import Derived.BigQuiet
import Derived.RowKit3
import Derived.Lib.Hide
import Derived.Lib.OthersKept
import Derived.OwnWalk
import Derived.Lib.IndexLaws
import Derived.Lib.ItoaMem
import Derived.Lib.TrimByte
import Derived.Lib.SlTrimSet
import Derived.Lib.ParseIntB
import Derived.WalkKit
import Derived.ProofKit
import Derived.OpenShut
import Derived.Carry
import Derived.ChangeSame
import Derived.Deep.Draws
import Derived.Shelf.Strings.Builder1
import Derived.Shelf.Strings.Trim
import Derived.Shelf.Small.Utf8
import Derived.Shelf.Small.Strs
import Derived.Shelf.Small.Wraps
import Derived.Shelf.Strings.BuilderF
import Derived.Shelf.Strings.BuilderK
import Derived.Shelf.Strconv.Itoa0
import Derived.Shelf.Strconv.Itoa1
import Derived.Shelf.LaysM
import Derived.Shelf.Strconv.Itoa2
import Derived.Shelf.Strconv.Itoa3
import Derived.Ground.MpProg
import Derived.Shelf.Pu.ParseUintPublic10
import Derived.Shelf.Strings.Search1
import Derived.Shelf.Strings.Search2
import Derived.Shelf.Strings.Cut
import Derived.Shelf.Strings.Shaped
import Derived.Shelf.Strings.Prefix
import Derived.Shelf.Strings.Runes
import Derived.Shelf.Strings.AsciiSet
import Derived.Shelf.Unicode.DecodeSlow
import Derived.Lib.ItoaNum
import Derived.Maps.OwnSet
import Derived.Maps.AppendAt
import Derived.Deep.RegionLaw
import Derived.Deep.AppendLies
namespace Go.Proofs.YtiekhbagpmnboaaGreatDoor
open Go.RowKit

/-- the block of the reader's nodes -/
def nownD (W : World) (R : Nat) : Option Nat := match W.cell? ⟨R, 2, none⟩ with | some v => v.ownBlock | none => none
theorem nownD_eq {W W' : World} {R : Nat} (h : W'.cell? ⟨R, 2, none⟩ = W.cell? ⟨R, 2, none⟩) : nownD W' R = nownD W R := by unfold nownD; rw [h]
/-- what a call of the reader's methods keeps -/
def KeepD (R : Nat) (w w' : World) : Prop := Below R w w' ∧ (nownD w' R = nownD w R ∨ ∃ g, nownD w' R = some g ∧ w.heap.size ≤ g ∧ g < w'.heap.size) ∧
  ∀ k cs t fr, w.heap[k]? = some (.cells cs t fr) → k ≠ R → nownD w R ≠ some k → w'.heap[k]? = some (.cells cs t fr)
theorem KeepD.trans {R : Nat} {A B C : World} (h : KeepD R A B) (k : KeepD R B C) : KeepD R A C := by
  obtain ⟨h1, h2, h3⟩ := h
  obtain ⟨k1, k2, k3⟩ := k
  refine ⟨h1.trans k1, ?_, fun j cs t fr hj hne how => ?_⟩
  · rcases k2 with k2 | ⟨g, k2, k4, k5⟩
    · rcases h2 with h2 | ⟨g, h2, h4, h5⟩
      · exact .inl (k2.trans h2)
      · exact .inr ⟨g, k2.trans h2, h4, Nat.lt_of_lt_of_le h5 k1.size⟩
    · exact .inr ⟨g, k2, Nat.le_trans h1.size k4, k5⟩
  · refine k3 j cs t fr (h3 j cs t fr hj hne how) hne ?_
    rcases h2 with h2 | ⟨g, h2, h4, _⟩
    · rw [h2]; exact how
    · rw [h2]; intro e; injection e with e; have := heap_lt hj; omega
theorem KeepD.up {R : Nat} {w w' : World} (hb : Below w.heap.size w w') (hR : R < w.heap.size) : KeepD R w w' :=
  ⟨hb.mono (by omega), .inl (nownD_eq (hb.cell (p := ⟨R, 2, none⟩) hR)), fun k _ _ _ hk _ _ => (hb.block k (heap_lt hk)).trans hk⟩
theorem KeepD.refl {R : Nat} {w : World} (hR : R < w.heap.size) : KeepD R w w := KeepD.up (Below.refl _ _) hR
/-- a block of a caller's own, beside the reader -/
structure ApartD (R : Nat) (w : World) (k : Nat) (cs : Array Value) (t : TypeId) (fr : Nat × Nat) : Prop where
  blk : w.heap[k]? = some (.cells cs t fr)
  ne : k ≠ R
  own : nownD w R ≠ some k
theorem ApartD.kept {R k : Nat} {w w' : World} {cs : Array Value} {t : TypeId} {fr : Nat × Nat} (h : ApartD R w k cs t fr) (hk : KeepD R w w') : ApartD R w' k cs t fr := by
  refine ⟨hk.2.2 k cs t fr h.blk h.ne h.own, h.ne, ?_⟩
  rcases hk.2.1 with e | ⟨g, e, h1, _⟩
  · rw [e]; exact h.own
  · rw [e]; intro e2; injection e2 with e2; have := heap_lt h.blk; omega
/-- the reader's cells -/
structure DS (tv : TV) (R : Nat) (w : World) (ts : List Tok) (i : Nat) (ns : List NL) (o er a : Int) (A : Option Addr) (cap : Nat) (N : Value) : Prop where
  blk : w.heap[R]? = some (.cells #[.slice A ts.length cap, .int .i64 (i : Int), N, .int .i64 o, .int .i64 er, .int .i64 a, tv.s] 71 (0, 0))
  toks : RdB w R A 11 (ts.map Tok.cs)
  lt : i < ts.length
  nodes : w.ownsRow (R + 1) 79 15 N ns.length (ndRow ns)
  nl : ns.length ≤ 1024
  tl : ts.length ≤ 1000000000
  tab : FunsAt tv R w
/-- it reads on -/
def DOk (tv : TV) (R : Nat) (w : World) (ts : List Tok) (s : PS) : Prop := (∃ A cap N i, DS tv R w ts i s.nodes s.opn 0 0 A cap N ∧ ts.drop i = s.now :: s.rest) ∧ 0 ≤ s.opn ∧ s.opn ≤ 32 ∧ s.wf
/-- something is wrong, what and where -/
def DEr (tv : TV) (R : Nat) (w : World) (ts : List Tok) (er a : Int) : Prop := er ≠ 0 ∧ ∃ A cap N i ns o, DS tv R w ts i ns o er a A cap N
def DRes (tv : TV) (R : Nat) (ts : List Tok) (w : World) (x : PR) (e : Ending) (w' : World) : Prop := e = .returned (.tuple #[]) ∧ KeepD R w w' ∧ match x with
  | .ok s' => DOk tv R w' ts s'
  | .bad er a => DEr tv R w' ts er a
theorem DS.ltR {tv : TV} {R : Nat} {w : World} {ts : List Tok} {i : Nat} {ns : List NL} {o er a : Int} {A : Option Addr} {cap : Nat} {N : Value} (h : DS tv R w ts i ns o er a A cap N) : R < w.heap.size := heap_lt h.blk
theorem DS.nown {tv : TV} {R : Nat} {w : World} {ts : List Tok} {i : Nat} {ns : List NL} {o er a : Int} {A : Option Addr} {cap : Nat} {N : Value} (h : DS tv R w ts i ns o er a A cap N) : nownD w R = N.ownBlock := by
  unfold nownD
  rw [cell_of_row w R 2 _ _ _ h.blk]
  rfl
theorem DS.up {tv : TV} {R : Nat} {w w' : World} {ts : List Tok} {i : Nat} {ns : List NL} {o er a : Int} {A : Option Addr} {cap : Nat} {N : Value} (h : DS tv R w ts i ns o er a A cap N) (hb : Below w.heap.size w w') : DS tv R w' ts i ns o er a A cap N :=
  ⟨(hb.block R h.ltR).trans h.blk, h.toks.below (hb.mono (Nat.le_of_lt h.ltR)), h.lt, ownsRow_below h.nodes hb, h.nl, h.tl, h.tab.below (hb.mono (Nat.le_of_lt h.ltR))⟩
end Go.Proofs.YtiekhbagpmnboaaGreatDoor
namespace Go.Proofs.YtiekhbagpmnboaaGreatDoor
open Go.RowKit

theorem KeepR.only {R : Nat} {w w' : World} (hb : Below R w w') (ho : ∀ k, k ≠ R → w'.heap[k]? = w.heap[k]?) (hn : nown w' R = nown w R) : KeepR R w w' :=
  ⟨hb, .inl hn, fun k _ _ _ hk hne _ => (ho k hne).trans hk⟩
theorem own_only {w w' : World} {B size n : Nat} {e : TypeId} {v : Value} {xs : List Value} (h : w.ownsRow B e size v n xs) (ho : ∀ k, B ≤ k → w'.heap[k]? = w.heap[k]?) : w'.ownsRow B e size v n xs := by
  obtain ⟨h1, h2⟩ := h
  rcases h2 with ⟨h2, h3⟩ | ⟨g, cap, cur, hv, hB, hh, hr⟩
  · exact ⟨h1, .inl ⟨h2, h3⟩⟩
  · exact ⟨h1, .inr ⟨g, cap, cur, hv, hB, by rw [ho g hB]; exact hh, hr⟩⟩
theorem drew_heap (w : World) : w.drew.heap = w.heap := rfl
theorem set_other {w : World} {R i k : Nat} {v : Value} (hk : k ≠ R) : (w.setCell ⟨R, i, none⟩ v).heap[k]? = w.heap[k]? := Below.heap_setCell _ _ _ _ hk
theorem set15_0 {w : World} {R : Nat} {v0 v1 v2 v3 v4 v5 v6 v7 v8 v9 v10 v11 v12 v13 v14 a : Value} {T : TypeId} {fr : Nat × Nat} (h : w.heap[R]? = some (.cells #[v0, v1, v2, v3, v4, v5, v6, v7, v8, v9, v10, v11, v12, v13, v14] T fr)) : (w.setCell ⟨R, 0, none⟩ a).heap[R]? = some (.cells #[a, v1, v2, v3, v4, v5, v6, v7, v8, v9, v10, v11, v12, v13, v14] T fr) := set_block (i := 0) h a
theorem set15_1 {w : World} {R : Nat} {v0 v1 v2 v3 v4 v5 v6 v7 v8 v9 v10 v11 v12 v13 v14 a : Value} {T : TypeId} {fr : Nat × Nat} (h : w.heap[R]? = some (.cells #[v0, v1, v2, v3, v4, v5, v6, v7, v8, v9, v10, v11, v12, v13, v14] T fr)) : (w.setCell ⟨R, 1, none⟩ a).heap[R]? = some (.cells #[v0, a, v2, v3, v4, v5, v6, v7, v8, v9, v10, v11, v12, v13, v14] T fr) := set_block (i := 1) h a
theorem set15_2 {w : World} {R : Nat} {v0 v1 v2 v3 v4 v5 v6 v7 v8 v9 v10 v11 v12 v13 v14 a : Value} {T : TypeId} {fr : Nat × Nat} (h : w.heap[R]? = some (.cells #[v0, v1, v2, v3, v4, v5, v6, v7, v8, v9, v10, v11, v12, v13, v14] T fr)) : (w.setCell ⟨R, 2, none⟩ a).heap[R]? = some (.cells #[v0, v1, a, v3, v4, v5, v6, v7, v8, v9, v10, v11, v12, v13, v14] T fr) := set_block (i := 2) h a
theorem set15_3 {w : World} {R : Nat} {v0 v1 v2 v3 v4 v5 v6 v7 v8 v9 v10 v11 v12 v13 v14 a : Value} {T : TypeId} {fr : Nat × Nat} (h : w.heap[R]? = some (.cells #[v0, v1, v2, v3, v4, v5, v6, v7, v8, v9, v10, v11, v12, v13, v14] T fr)) : (w.setCell ⟨R, 3, none⟩ a).heap[R]? = some (.cells #[v0, v1, v2, a, v4, v5, v6, v7, v8, v9, v10, v11, v12, v13, v14] T fr) := set_block (i := 3) h a
theorem set15_4 {w : World} {R : Nat} {v0 v1 v2 v3 v4 v5 v6 v7 v8 v9 v10 v11 v12 v13 v14 a : Value} {T : TypeId} {fr : Nat × Nat} (h : w.heap[R]? = some (.cells #[v0, v1, v2, v3, v4, v5, v6, v7, v8, v9, v10, v11, v12, v13, v14] T fr)) : (w.setCell ⟨R, 4, none⟩ a).heap[R]? = some (.cells #[v0, v1, v2, v3, a, v5, v6, v7, v8, v9, v10, v11, v12, v13, v14] T fr) := set_block (i := 4) h a
theorem set15_5 {w : World} {R : Nat} {v0 v1 v2 v3 v4 v5 v6 v7 v8 v9 v10 v11 v12 v13 v14 a : Value} {T : TypeId} {fr : Nat × Nat} (h : w.heap[R]? = some (.cells #[v0, v1, v2, v3, v4, v5, v6, v7, v8, v9, v10, v11, v12, v13, v14] T fr)) : (w.setCell ⟨R, 5, none⟩ a).heap[R]? = some (.cells #[v0, v1, v2, v3, v4, a, v6, v7, v8, v9, v10, v11, v12, v13, v14] T fr) := set_block (i := 5) h a
theorem set15_6 {w : World} {R : Nat} {v0 v1 v2 v3 v4 v5 v6 v7 v8 v9 v10 v11 v12 v13 v14 a : Value} {T : TypeId} {fr : Nat × Nat} (h : w.heap[R]? = some (.cells #[v0, v1, v2, v3, v4, v5, v6, v7, v8, v9, v10, v11, v12, v13, v14] T fr)) : (w.setCell ⟨R, 6, none⟩ a).heap[R]? = some (.cells #[v0, v1, v2, v3, v4, v5, a, v7, v8, v9, v10, v11, v12, v13, v14] T fr) := set_block (i := 6) h a
theorem set15_7 {w : World} {R : Nat} {v0 v1 v2 v3 v4 v5 v6 v7 v8 v9 v10 v11 v12 v13 v14 a : Value} {T : TypeId} {fr : Nat × Nat} (h : w.heap[R]? = some (.cells #[v0, v1, v2, v3, v4, v5, v6, v7, v8, v9, v10, v11, v12, v13, v14] T fr)) : (w.setCell ⟨R, 7, none⟩ a).heap[R]? = some (.cells #[v0, v1, v2, v3, v4, v5, v6, a, v8, v9, v10, v11, v12, v13, v14] T fr) := set_block (i := 7) h a
theorem set15_8 {w : World} {R : Nat} {v0 v1 v2 v3 v4 v5 v6 v7 v8 v9 v10 v11 v12 v13 v14 a : Value} {T : TypeId} {fr : Nat × Nat} (h : w.heap[R]? = some (.cells #[v0, v1, v2, v3, v4, v5, v6, v7, v8, v9, v10, v11, v12, v13, v14] T fr)) : (w.setCell ⟨R, 8, none⟩ a).heap[R]? = some (.cells #[v0, v1, v2, v3, v4, v5, v6, v7, a, v9, v10, v11, v12, v13, v14] T fr) := set_block (i := 8) h a
theorem set15_9 {w : World} {R : Nat} {v0 v1 v2 v3 v4 v5 v6 v7 v8 v9 v10 v11 v12 v13 v14 a : Value} {T : TypeId} {fr : Nat × Nat} (h : w.heap[R]? = some (.cells #[v0, v1, v2, v3, v4, v5, v6, v7, v8, v9, v10, v11, v12, v13, v14] T fr)) : (w.setCell ⟨R, 9, none⟩ a).heap[R]? = some (.cells #[v0, v1, v2, v3, v4, v5, v6, v7, v8, a, v10, v11, v12, v13, v14] T fr) := set_block (i := 9) h a
theorem set15_10 {w : World} {R : Nat} {v0 v1 v2 v3 v4 v5 v6 v7 v8 v9 v10 v11 v12 v13 v14 a : Value} {T : TypeId} {fr : Nat × Nat} (h : w.heap[R]? = some (.cells #[v0, v1, v2, v3, v4, v5, v6, v7, v8, v9, v10, v11, v12, v13, v14] T fr)) : (w.setCell ⟨R, 10, none⟩ a).heap[R]? = some (.cells #[v0, v1, v2, v3, v4, v5, v6, v7, v8, v9, a, v11, v12, v13, v14] T fr) := set_block (i := 10) h a
theorem set15_11 {w : World} {R : Nat} {v0 v1 v2 v3 v4 v5 v6 v7 v8 v9 v10 v11 v12 v13 v14 a : Value} {T : TypeId} {fr : Nat × Nat} (h : w.heap[R]? = some (.cells #[v0, v1, v2, v3, v4, v5, v6, v7, v8, v9, v10, v11, v12, v13, v14] T fr)) : (w.setCell ⟨R, 11, none⟩ a).heap[R]? = some (.cells #[v0, v1, v2, v3, v4, v5, v6, v7, v8, v9, v10, a, v12, v13, v14] T fr) := set_block (i := 11) h a
theorem set15_13 {w : World} {R : Nat} {v0 v1 v2 v3 v4 v5 v6 v7 v8 v9 v10 v11 v12 v13 v14 a : Value} {T : TypeId} {fr : Nat × Nat} (h : w.heap[R]? = some (.cells #[v0, v1, v2, v3, v4, v5, v6, v7, v8, v9, v10, v11, v12, v13, v14] T fr)) : (w.setCell ⟨R, 13, none⟩ a).heap[R]? = some (.cells #[v0, v1, v2, v3, v4, v5, v6, v7, v8, v9, v10, v11, v12, a, v14] T fr) := set_block (i := 13) h a
theorem set15_14 {w : World} {R : Nat} {v0 v1 v2 v3 v4 v5 v6 v7 v8 v9 v10 v11 v12 v13 v14 a : Value} {T : TypeId} {fr : Nat × Nat} (h : w.heap[R]? = some (.cells #[v0, v1, v2, v3, v4, v5, v6, v7, v8, v9, v10, v11, v12, v13, v14] T fr)) : (w.setCell ⟨R, 14, none⟩ a).heap[R]? = some (.cells #[v0, v1, v2, v3, v4, v5, v6, v7, v8, v9, v10, v11, v12, v13, a] T fr) := set_block (i := 14) h a
theorem step_blk {w : World} {R : Nat} {v0 v1 v2 v3 v4 v5 v6 v7 v8 v9 v10 v11 v12 v13 v14 a0 a1 a2 a3 a4 a5 a6 a7 a8 a9 a10 a11 : Value} (h : w.heap[R]? = some (.cells #[v0, v1, v2, v3, v4, v5, v6, v7, v8, v9, v10, v11, v12, v13, v14] 68 (0, 0))) : (((((((((((((w.setCell ⟨R, 1, none⟩ a1).setCell ⟨R, 2, none⟩ a2).setCell ⟨R, 3, none⟩ a3).setCell ⟨R, 4, none⟩ a4).setCell ⟨R, 5, none⟩ a5).setCell ⟨R, 6, none⟩ a6).setCell ⟨R, 7, none⟩ a7).setCell ⟨R, 8, none⟩ a8).setCell ⟨R, 9, none⟩ a9).setCell ⟨R, 10, none⟩ a10).setCell ⟨R, 11, none⟩ a11).setCell ⟨R, 0, none⟩ a0).drew).heap[R]? = some (.cells #[a0, a1, a2, a3, a4, a5, a6, a7, a8, a9, a10, a11, v12, v13, v14] 68 (0, 0)) := by
  rw [drew_heap]
  exact set15_0 (set15_11 (set15_10 (set15_9 (set15_8 (set15_7 (set15_6 (set15_5 (set15_4 (set15_3 (set15_2 (set15_1 (h))))))))))))
theorem step_other {w : World} {R : Nat} {a0 a1 a2 a3 a4 a5 a6 a7 a8 a9 a10 a11 : Value} (k : Nat) (hk : k ≠ R) : (((((((((((((w.setCell ⟨R, 1, none⟩ a1).setCell ⟨R, 2, none⟩ a2).setCell ⟨R, 3, none⟩ a3).setCell ⟨R, 4, none⟩ a4).setCell ⟨R, 5, none⟩ a5).setCell ⟨R, 6, none⟩ a6).setCell ⟨R, 7, none⟩ a7).setCell ⟨R, 8, none⟩ a8).setCell ⟨R, 9, none⟩ a9).setCell ⟨R, 10, none⟩ a10).setCell ⟨R, 11, none⟩ a11).setCell ⟨R, 0, none⟩ a0).drew).heap[k]? = w.heap[k]? := by
  simp only [drew_heap, set_other hk]
theorem step_below {w : World} {R : Nat} {a0 a1 a2 a3 a4 a5 a6 a7 a8 a9 a10 a11 : Value} : Below R w (((((((((((((w.setCell ⟨R, 1, none⟩ a1).setCell ⟨R, 2, none⟩ a2).setCell ⟨R, 3, none⟩ a3).setCell ⟨R, 4, none⟩ a4).setCell ⟨R, 5, none⟩ a5).setCell ⟨R, 6, none⟩ a6).setCell ⟨R, 7, none⟩ a7).setCell ⟨R, 8, none⟩ a8).setCell ⟨R, 9, none⟩ a9).setCell ⟨R, 10, none⟩ a10).setCell ⟨R, 11, none⟩ a11).setCell ⟨R, 0, none⟩ a0).drew) :=
  Below.drew (Below.setCell (p := ⟨R, 0, none⟩) (Below.setCell (p := ⟨R, 11, none⟩) (Below.setCell (p := ⟨R, 10, none⟩) (Below.setCell (p := ⟨R, 9, none⟩) (Below.setCell (p := ⟨R, 8, none⟩) (Below.setCell (p := ⟨R, 7, none⟩) (Below.setCell (p := ⟨R, 6, none⟩) (Below.setCell (p := ⟨R, 5, none⟩) (Below.setCell (p := ⟨R, 4, none⟩) (Below.setCell (p := ⟨R, 3, none⟩) (Below.setCell (p := ⟨R, 2, none⟩) (Below.setCell (p := ⟨R, 1, none⟩) (Below.refl _ _) (Nat.le_refl _) _) (Nat.le_refl _) _) (Nat.le_refl _) _) (Nat.le_refl _) _) (Nat.le_refl _) _) (Nat.le_refl _) _) (Nat.le_refl _) _) (Nat.le_refl _) _) (Nat.le_refl _) _) (Nat.le_refl _) _) (Nat.le_refl _) _) (Nat.le_refl _) _)
theorem step_blk_of {R n n' cap : Nat} {w : World} {A : Option Addr} {x y : Tok} {tv N : Value} {o o' : Int} (h : w.heap[R]? = some (.cells #[.slice A n cap, .int .i64 x.kind, .int .i64 x.place, .int .i64 x.num, .string x.str, .int .i64 x.r, .int .i64 x.c, .int .i64 x.t, .int .i64 x.l, .int .i64 x.b, .int .i64 x.q, .int .i64 x.code, tv, .int .i64 o, N] 68 (0, 0))) (e : n = n' ∧ x = y ∧ o = o') : w.heap[R]? = some (.cells #[.slice A n' cap, .int .i64 y.kind, .int .i64 y.place, .int .i64 y.num, .string y.str, .int .i64 y.r, .int .i64 y.c, .int .i64 y.t, .int .i64 y.l, .int .i64 y.b, .int .i64 y.q, .int .i64 y.code, tv, .int .i64 o', N] 68 (0, 0)) := by
  obtain ⟨rfl, rfl, rfl⟩ := e
  exact h
set_option maxHeartbeats 1000000 in
theorem pstep1 (tv : TV) (R : Nat) (s : PS) (x : Tok) (r : List Tok) (hr : s.rest = x :: r) (b o : Nat) (cap : Nat) (N : Value) (hcap : ¬ cap = 1) (w : World) (h : RS tv R w s (some ⟨b, o, none⟩) cap N) : Calls Tryz.prog 25 #[.pointer (some ⟨R, 0, none⟩)] w fun e w' => e = .returned (.tuple #[]) ∧ RSt tv R w' s.step ∧ KeepR R w w' := by
  have hcl := h.blk
  have hwf := h.wf
  rw [hr] at hcl
  have hroom := h.room
  rw [hr] at hroom
  have hlen : (x :: r).length = r.length + 1 := rfl
  rw [hlen] at hroom hcl
  have c0 : w.cell? ⟨R, 0, none⟩ = some (.slice (some ⟨b, o, none⟩) (r.length + 1) cap) := by rw [cell_of_row w R 0 _ _ _ hcl]; rfl
  have c1 : w.cell? ⟨R, 1, none⟩ = some (.int .i64 s.now.kind) := by rw [cell_of_row w R 1 _ _ _ h.blk]; rfl
  have c2 : w.cell? ⟨R, 2, none⟩ = some (.int .i64 s.now.place) := by rw [cell_of_row w R 2 _ _ _ h.blk]; rfl
  have c3 : w.cell? ⟨R, 3, none⟩ = some (.int .i64 s.now.num) := by rw [cell_of_row w R 3 _ _ _ h.blk]; rfl
  have c4 : w.cell? ⟨R, 4, none⟩ = some (.string s.now.str) := by rw [cell_of_row w R 4 _ _ _ h.blk]; rfl
  have c5 : w.cell? ⟨R, 5, none⟩ = some (.int .i64 s.now.r) := by rw [cell_of_row w R 5 _ _ _ h.blk]; rfl
  have c6 : w.cell? ⟨R, 6, none⟩ = some (.int .i64 s.now.c) := by rw [cell_of_row w R 6 _ _ _ h.blk]; rfl
  have c7 : w.cell? ⟨R, 7, none⟩ = some (.int .i64 s.now.t) := by rw [cell_of_row w R 7 _ _ _ h.blk]; rfl
  have c8 : w.cell? ⟨R, 8, none⟩ = some (.int .i64 s.now.l) := by rw [cell_of_row w R 8 _ _ _ h.blk]; rfl
  have c9 : w.cell? ⟨R, 9, none⟩ = some (.int .i64 s.now.b) := by rw [cell_of_row w R 9 _ _ _ h.blk]; rfl
  have c10 : w.cell? ⟨R, 10, none⟩ = some (.int .i64 s.now.q) := by rw [cell_of_row w R 10 _ _ _ h.blk]; rfl
  have c11 : w.cell? ⟨R, 11, none⟩ = some (.int .i64 s.now.code) := by rw [cell_of_row w R 11 _ _ _ h.blk]; rfl
  have hfz : ∀ i : Nat, w.frozen? ⟨R, i, none⟩ = false := fun i => by simp [World.frozen?, h.blk]
  have f0 : w.frozen? ⟨R, 0, none⟩ = false := hfz 0
  have f1 : w.frozen? ⟨R, 1, none⟩ = false := hfz 1
  have f2 : w.frozen? ⟨R, 2, none⟩ = false := hfz 2
  have f3 : w.frozen? ⟨R, 3, none⟩ = false := hfz 3
  have f4 : w.frozen? ⟨R, 4, none⟩ = false := hfz 4
  have f5 : w.frozen? ⟨R, 5, none⟩ = false := hfz 5
  have f6 : w.frozen? ⟨R, 6, none⟩ = false := hfz 6
  have f7 : w.frozen? ⟨R, 7, none⟩ = false := hfz 7
  have f8 : w.frozen? ⟨R, 8, none⟩ = false := hfz 8
  have f9 : w.frozen? ⟨R, 9, none⟩ = false := hfz 9
  have f10 : w.frozen? ⟨R, 10, none⟩ = false := hfz 10
  have f11 : w.frozen? ⟨R, 11, none⟩ = false := hfz 11
  have hrd := h.rest
  rw [hr] at hrd
  obtain ⟨b', o', e, hb, hc⟩ := hrd 0 x.cs rfl
  injection e with e
  injection e with e1 e2 _
  subst e1 e2
  simp only [Nat.zero_mul, Nat.add_zero] at hc
  have t0 : w.cell? ⟨b, o, none⟩ = some (.int .i64 x.kind) := hc 0 _ rfl
  have t1 : w.cell? ⟨b, o + 1, none⟩ = some (.int .i64 x.place) := hc 1 _ rfl
  have t2 : w.cell? ⟨b, o + 2, none⟩ = some (.int .i64 x.num) := hc 2 _ rfl
  have t3 : w.cell? ⟨b, o + 3, none⟩ = some (.string x.str) := hc 3 _ rfl
  have t4 : w.cell? ⟨b, o + 4, none⟩ = some (.int .i64 x.r) := hc 4 _ rfl
  have t5 : w.cell? ⟨b, o + 5, none⟩ = some (.int .i64 x.c) := hc 5 _ rfl
  have t6 : w.cell? ⟨b, o + 6, none⟩ = some (.int .i64 x.t) := hc 6 _ rfl
  have t7 : w.cell? ⟨b, o + 7, none⟩ = some (.int .i64 x.l) := hc 7 _ rfl
  have t8 : w.cell? ⟨b, o + 8, none⟩ = some (.int .i64 x.b) := hc 8 _ rfl
  have t9 : w.cell? ⟨b, o + 9, none⟩ = some (.int .i64 x.q) := hc 9 _ rfl
  have t10 : w.cell? ⟨b, o + 10, none⟩ = some (.int .i64 x.code) := hc 10 _ rfl
  have hne : b ≠ R := by omega
  have key : RSt tv R (((((((((((((w.setCell ⟨R, 1, none⟩ (.int .i64 x.kind)).setCell ⟨R, 2, none⟩ (.int .i64 x.place)).setCell ⟨R, 3, none⟩ (.int .i64 x.num)).setCell ⟨R, 4, none⟩ (.string x.str)).setCell ⟨R, 5, none⟩ (.int .i64 x.r)).setCell ⟨R, 6, none⟩ (.int .i64 x.c)).setCell ⟨R, 7, none⟩ (.int .i64 x.t)).setCell ⟨R, 8, none⟩ (.int .i64 x.l)).setCell ⟨R, 9, none⟩ (.int .i64 x.b)).setCell ⟨R, 10, none⟩ (.int .i64 x.q)).setCell ⟨R, 11, none⟩ (.int .i64 x.code)).setCell ⟨R, 0, none⟩ (.slice (some ⟨b, o + 11, none⟩) r.length (cap - 1))).drew) s.step := by
    have es : s.step = { s with now := x, rest := r } := by unfold PS.step; rw [hr]
    refine ⟨some ⟨b, o + 11, none⟩, cap - 1, N, step_blk_of (step_blk hcl) (by rw [es]; exact ⟨rfl, rfl, rfl⟩), ?_, ?_, ?_, by rw [PS.step_opn]; exact h.o1, by rw [PS.step_opn]; exact h.o2, by rw [PS.step_nodes]; exact h.nl, Nat.le_trans (PS.step_le s) h.rl, PS.wf_step hwf, h.tab.below step_below⟩
    · rw [es]; exact (rdb_tail hrd).below step_below
    · rw [es]; show r.length ≤ _; omega
    · rw [PS.step_nodes]; exact own_only h.nodes fun k hk => step_other k (by omega)
  have hkp : KeepR R w (((((((((((((w.setCell ⟨R, 1, none⟩ (.int .i64 x.kind)).setCell ⟨R, 2, none⟩ (.int .i64 x.place)).setCell ⟨R, 3, none⟩ (.int .i64 x.num)).setCell ⟨R, 4, none⟩ (.string x.str)).setCell ⟨R, 5, none⟩ (.int .i64 x.r)).setCell ⟨R, 6, none⟩ (.int .i64 x.c)).setCell ⟨R, 7, none⟩ (.int .i64 x.t)).setCell ⟨R, 8, none⟩ (.int .i64 x.l)).setCell ⟨R, 9, none⟩ (.int .i64 x.b)).setCell ⟨R, 10, none⟩ (.int .i64 x.q)).setCell ⟨R, 11, none⟩ (.int .i64 x.code)).setCell ⟨R, 0, none⟩ (.slice (some ⟨b, o + 11, none⟩) r.length (cap - 1))).drew) := KeepR.only step_below (fun k hk => step_other k hk) (by rw [h.nown]; unfold nown; rw [cell_of_row _ R 14 _ _ _ (step_blk hcl)]; rfl)
  have hlt := h.lt
  have hgt : (0 : Int) < (r.length : Int) + 1 := by omega
  clear hc hfz hrd hr h hcl hlt hwf hroom
  go_enter Tryz.func25, Tryz.ntmps25
  go_wp2
  go_region
  first | go_end0 | refine bodyPost_ret (results_none rfl _ _ _) rfl ?_
  exact ⟨rfl, key, hkp⟩
set_option maxHeartbeats 1000000 in
theorem pstep2 (tv : TV) (R : Nat) (s : PS) (x : Tok) (hr : s.rest = [x]) (b o : Nat) (N : Value) (w : World) (h : RS tv R w s (some ⟨b, o, none⟩) 1 N) : Calls Tryz.prog 25 #[.pointer (some ⟨R, 0, none⟩)] w fun e w' => e = .returned (.tuple #[]) ∧ RSt tv R w' s.step ∧ KeepR R w w' := by
  obtain ⟨r, hr0⟩ : ∃ r : List Tok, r = [] := ⟨_, rfl⟩
  obtain ⟨cap, hcap⟩ : ∃ cap, cap = 1 := ⟨1, rfl⟩
  rw [← hr0] at hr
  rw [← hcap] at h
  have hcl := h.blk
  have hwf := h.wf
  rw [hr] at hcl
  have hroom := h.room
  rw [hr] at hroom
  have hlen : (x :: r).length = r.length + 1 := rfl
  rw [hlen] at hroom hcl
  have c0 : w.cell? ⟨R, 0, none⟩ = some (.slice (some ⟨b, o, none⟩) (r.length + 1) cap) := by rw [cell_of_row w R 0 _ _ _ hcl]; rfl
  have c1 : w.cell? ⟨R, 1, none⟩ = some (.int .i64 s.now.kind) := by rw [cell_of_row w R 1 _ _ _ h.blk]; rfl
  have c2 : w.cell? ⟨R, 2, none⟩ = some (.int .i64 s.now.place) := by rw [cell_of_row w R 2 _ _ _ h.blk]; rfl
  have c3 : w.cell? ⟨R, 3, none⟩ = some (.int .i64 s.now.num) := by rw [cell_of_row w R 3 _ _ _ h.blk]; rfl
  have c4 : w.cell? ⟨R, 4, none⟩ = some (.string s.now.str) := by rw [cell_of_row w R 4 _ _ _ h.blk]; rfl
  have c5 : w.cell? ⟨R, 5, none⟩ = some (.int .i64 s.now.r) := by rw [cell_of_row w R 5 _ _ _ h.blk]; rfl
  have c6 : w.cell? ⟨R, 6, none⟩ = some (.int .i64 s.now.c) := by rw [cell_of_row w R 6 _ _ _ h.blk]; rfl
  have c7 : w.cell? ⟨R, 7, none⟩ = some (.int .i64 s.now.t) := by rw [cell_of_row w R 7 _ _ _ h.blk]; rfl
  have c8 : w.cell? ⟨R, 8, none⟩ = some (.int .i64 s.now.l) := by rw [cell_of_row w R 8 _ _ _ h.blk]; rfl
  have c9 : w.cell? ⟨R, 9, none⟩ = some (.int .i64 s.now.b) := by rw [cell_of_row w R 9 _ _ _ h.blk]; rfl
  have c10 : w.cell? ⟨R, 10, none⟩ = some (.int .i64 s.now.q) := by rw [cell_of_row w R 10 _ _ _ h.blk]; rfl
  have c11 : w.cell? ⟨R, 11, none⟩ = some (.int .i64 s.now.code) := by rw [cell_of_row w R 11 _ _ _ h.blk]; rfl
  have hfz : ∀ i : Nat, w.frozen? ⟨R, i, none⟩ = false := fun i => by simp [World.frozen?, h.blk]
  have f0 : w.frozen? ⟨R, 0, none⟩ = false := hfz 0
  have f1 : w.frozen? ⟨R, 1, none⟩ = false := hfz 1
  have f2 : w.frozen? ⟨R, 2, none⟩ = false := hfz 2
  have f3 : w.frozen? ⟨R, 3, none⟩ = false := hfz 3
  have f4 : w.frozen? ⟨R, 4, none⟩ = false := hfz 4
  have f5 : w.frozen? ⟨R, 5, none⟩ = false := hfz 5
  have f6 : w.frozen? ⟨R, 6, none⟩ = false := hfz 6
  have f7 : w.frozen? ⟨R, 7, none⟩ = false := hfz 7
  have f8 : w.frozen? ⟨R, 8, none⟩ = false := hfz 8
  have f9 : w.frozen? ⟨R, 9, none⟩ = false := hfz 9
  have f10 : w.frozen? ⟨R, 10, none⟩ = false := hfz 10
  have f11 : w.frozen? ⟨R, 11, none⟩ = false := hfz 11
  have hrd := h.rest
  rw [hr] at hrd
  obtain ⟨b', o', e, hb, hc⟩ := hrd 0 x.cs rfl
  injection e with e
  injection e with e1 e2 _
  subst e1 e2
  simp only [Nat.zero_mul, Nat.add_zero] at hc
  have t0 : w.cell? ⟨b, o, none⟩ = some (.int .i64 x.kind) := hc 0 _ rfl
  have t1 : w.cell? ⟨b, o + 1, none⟩ = some (.int .i64 x.place) := hc 1 _ rfl
  have t2 : w.cell? ⟨b, o + 2, none⟩ = some (.int .i64 x.num) := hc 2 _ rfl
  have t3 : w.cell? ⟨b, o + 3, none⟩ = some (.string x.str) := hc 3 _ rfl
  have t4 : w.cell? ⟨b, o + 4, none⟩ = some (.int .i64 x.r) := hc 4 _ rfl
  have t5 : w.cell? ⟨b, o + 5, none⟩ = some (.int .i64 x.c) := hc 5 _ rfl
  have t6 : w.cell? ⟨b, o + 6, none⟩ = some (.int .i64 x.t) := hc 6 _ rfl
  have t7 : w.cell? ⟨b, o + 7, none⟩ = some (.int .i64 x.l) := hc 7 _ rfl
  have t8 : w.cell? ⟨b, o + 8, none⟩ = some (.int .i64 x.b) := hc 8 _ rfl
  have t9 : w.cell? ⟨b, o + 9, none⟩ = some (.int .i64 x.q) := hc 9 _ rfl
  have t10 : w.cell? ⟨b, o + 10, none⟩ = some (.int .i64 x.code) := hc 10 _ rfl
  have hne : b ≠ R := by omega
  have key : RSt tv R (((((((((((((w.setCell ⟨R, 1, none⟩ (.int .i64 x.kind)).setCell ⟨R, 2, none⟩ (.int .i64 x.place)).setCell ⟨R, 3, none⟩ (.int .i64 x.num)).setCell ⟨R, 4, none⟩ (.string x.str)).setCell ⟨R, 5, none⟩ (.int .i64 x.r)).setCell ⟨R, 6, none⟩ (.int .i64 x.c)).setCell ⟨R, 7, none⟩ (.int .i64 x.t)).setCell ⟨R, 8, none⟩ (.int .i64 x.l)).setCell ⟨R, 9, none⟩ (.int .i64 x.b)).setCell ⟨R, 10, none⟩ (.int .i64 x.q)).setCell ⟨R, 11, none⟩ (.int .i64 x.code)).setCell ⟨R, 0, none⟩ (.slice (some ⟨b, o, none⟩) 0 0)).drew) s.step := by
    have es : s.step = { s with now := x, rest := r } := by unfold PS.step; rw [hr]
    refine ⟨some ⟨b, o, none⟩, 0, N, step_blk_of (step_blk hcl) (by rw [es, hr0]; exact ⟨rfl, rfl, rfl⟩), ?_, ?_, ?_, by rw [PS.step_opn]; exact h.o1, by rw [PS.step_opn]; exact h.o2, by rw [PS.step_nodes]; exact h.nl, Nat.le_trans (PS.step_le s) h.rl, PS.wf_step hwf, h.tab.below step_below⟩
    · rw [es]; exact fun i c hi => by rw [hr0] at hi; cases hi
    · rw [es]; show r.length ≤ _; omega
    · rw [PS.step_nodes]; exact own_only h.nodes fun k hk => step_other k (by omega)
  have hkp : KeepR R w (((((((((((((w.setCell ⟨R, 1, none⟩ (.int .i64 x.kind)).setCell ⟨R, 2, none⟩ (.int .i64 x.place)).setCell ⟨R, 3, none⟩ (.int .i64 x.num)).setCell ⟨R, 4, none⟩ (.string x.str)).setCell ⟨R, 5, none⟩ (.int .i64 x.r)).setCell ⟨R, 6, none⟩ (.int .i64 x.c)).setCell ⟨R, 7, none⟩ (.int .i64 x.t)).setCell ⟨R, 8, none⟩ (.int .i64 x.l)).setCell ⟨R, 9, none⟩ (.int .i64 x.b)).setCell ⟨R, 10, none⟩ (.int .i64 x.q)).setCell ⟨R, 11, none⟩ (.int .i64 x.code)).setCell ⟨R, 0, none⟩ (.slice (some ⟨b, o, none⟩) 0 0)).drew) := KeepR.only step_below (fun k hk => step_other k hk) (by rw [h.nown]; unfold nown; rw [cell_of_row _ R 14 _ _ _ (step_blk hcl)]; rfl)
  have hlt := h.lt
  have hgt : (0 : Int) < (r.length : Int) + 1 := by omega
  clear hc hfz hrd hr h hcl hlt hwf hroom
  go_enter Tryz.func25, Tryz.ntmps25
  go_wp2
  go_region
  first | go_end0 | refine bodyPost_ret (results_none rfl _ _ _) rfl ?_
  exact ⟨rfl, key, hkp⟩
theorem pstep (tv : TV) (R : Nat) (s : PS) (w : World) (hR : RSt tv R w s) : Calls Tryz.prog 25 #[.pointer (some ⟨R, 0, none⟩)] w fun e w' => e = .returned (.tuple #[]) ∧ RSt tv R w' s.step ∧ KeepR R w w' := by
  obtain ⟨A, cap, N, h⟩ := hR
  cases hr : s.rest with
  | nil =>
    have hs : s.step = s := by unfold PS.step; rw [hr]
    rw [hs]
    have hk := KeepR.refl h.lt
    have hR : RSt tv R w s := ⟨A, cap, N, h⟩
    have c0 : w.cell? ⟨R, 0, none⟩ = some (.slice A 0 cap) := by rw [cell_of_row w R 0 _ _ _ h.blk, hr]; rfl
    clear h hs
    go_enter Tryz.func25, Tryz.ntmps25
    go_wp2
    first | go_end0 | refine bodyPost_ret (results_none rfl _ _ _) rfl ?_
    exact ⟨rfl, hR, hk⟩
  | cons x r =>
    obtain ⟨b, o, rfl, _, _⟩ := h.rest 0 x.cs (by rw [hr]; rfl)
    by_cases hcap : cap = 1
    · subst hcap
      have := h.room
      rw [hr] at this
      have h0 : r = [] := by cases r with | nil => rfl | cons _ _ => simp at this
      subst h0
      exact pstep2 tv R s x hr b o N w h
    · exact pstep1 tv R s x r hr b o cap N hcap w h
end Go.Proofs.YtiekhbagpmnboaaGreatDoor
namespace Go.Proofs.YtiekhbagpmnboaaGreatDoor
open Go.RowKit

theorem set7_1 {w : World} {R : Nat} {v0 v1 v2 v3 v4 v5 v6 a : Value} {T : TypeId} {fr : Nat × Nat} (h : w.heap[R]? = some (.cells #[v0, v1, v2, v3, v4, v5, v6] T fr)) : (w.setCell ⟨R, 1, none⟩ a).heap[R]? = some (.cells #[v0, a, v2, v3, v4, v5, v6] T fr) := set_block (i := 1) h a
theorem set7_3 {w : World} {R : Nat} {v0 v1 v2 v3 v4 v5 v6 a : Value} {T : TypeId} {fr : Nat × Nat} (h : w.heap[R]? = some (.cells #[v0, v1, v2, v3, v4, v5, v6] T fr)) : (w.setCell ⟨R, 3, none⟩ a).heap[R]? = some (.cells #[v0, v1, v2, a, v4, v5, v6] T fr) := set_block (i := 3) h a
theorem set7_4 {w : World} {R : Nat} {v0 v1 v2 v3 v4 v5 v6 a : Value} {T : TypeId} {fr : Nat × Nat} (h : w.heap[R]? = some (.cells #[v0, v1, v2, v3, v4, v5, v6] T fr)) : (w.setCell ⟨R, 4, none⟩ a).heap[R]? = some (.cells #[v0, v1, v2, v3, a, v5, v6] T fr) := set_block (i := 4) h a
theorem set7_5 {w : World} {R : Nat} {v0 v1 v2 v3 v4 v5 v6 a : Value} {T : TypeId} {fr : Nat × Nat} (h : w.heap[R]? = some (.cells #[v0, v1, v2, v3, v4, v5, v6] T fr)) : (w.setCell ⟨R, 5, none⟩ a).heap[R]? = some (.cells #[v0, v1, v2, v3, v4, a, v6] T fr) := set_block (i := 5) h a
theorem KeepD.only {R : Nat} {w w' : World} (hb : Below R w w') (ho : ∀ k, k ≠ R → w'.heap[k]? = w.heap[k]?) (hn : nownD w' R = nownD w R) : KeepD R w w' :=
  ⟨hb, .inl hn, fun k _ _ _ hk hne _ => (ho k hne).trans hk⟩
/-- what one store into the reader leaves -/
theorem DS.put {tv : TV} {R : Nat} {w w' : World} {ts : List Tok} {i : Nat} {ns : List NL} {o er a : Int} {A : Option Addr} {cap : Nat} {N : Value} (h : DS tv R w ts i ns o er a A cap N) (hb : Below R w w') (ho : ∀ k, k ≠ R → w'.heap[k]? = w.heap[k]?) {i' : Nat} {o' er' a' : Int} (hi : i' < ts.length) (hk : w'.heap[R]? = some (.cells #[.slice A ts.length cap, .int .i64 (i' : Int), N, .int .i64 o', .int .i64 er', .int .i64 a', tv.s] 71 (0, 0))) : DS tv R w' ts i' ns o' er' a' A cap N ∧ KeepD R w w' := by
  have h' : DS tv R w' ts i' ns o' er' a' A cap N := ⟨hk, h.toks.below hb, hi, own_only h.nodes (fun k hk => ho k (by omega)), h.nl, h.tl, h.tab.below hb⟩
  exact ⟨h', KeepD.only hb ho (by rw [h'.nown, h.nown])⟩
theorem dfail_ok (tv : TV) (R : Nat) (ts : List Tok) (s : PS) (er a : Int) (he : er ≠ 0) (w : World) (hR : DOk tv R w ts s) : Calls Tryz.prog 30 #[.pointer (some ⟨R, 0, none⟩), .int .i64 er, .int .i64 a] w fun e w' => DRes tv R ts w (.bad er a) e w' := by
  obtain ⟨⟨A, cap, N, i, h, _⟩, _⟩ := hR
  have h2 := h.put (w' := (w.setCell ⟨R, 4, none⟩ (.int .i64 er)).setCell ⟨R, 5, none⟩ (.int .i64 a)) (((Below.refl _ _).setCell (p := ⟨R, 4, none⟩) (Nat.le_refl _) _).setCell (p := ⟨R, 5, none⟩) (Nat.le_refl _) _) (fun k hk => by simp only [set_other hk]) h.lt (set7_5 (set7_4 h.blk))
  have c4 : w.cell? ⟨R, 4, none⟩ = some (.int .i64 0) := by rw [cell_of_row w R 4 _ _ _ h.blk]; rfl
  have c5 : w.cell? ⟨R, 5, none⟩ = some (.int .i64 0) := by rw [cell_of_row w R 5 _ _ _ h.blk]; rfl
  have f4 : w.frozen? ⟨R, 4, none⟩ = false := by simp [World.frozen?, h.blk]
  have f5 : w.frozen? ⟨R, 5, none⟩ = false := by simp [World.frozen?, h.blk]
  clear h
  go_enter Tryz.func30, Tryz.ntmps30
  go_wp2
  first | go_end0 | refine bodyPost_ret (results_none rfl _ _ _) rfl ?_
  exact ⟨rfl, h2.2, he, _, _, _, _, _, _, h2.1⟩
theorem dfail_er (tv : TV) (R : Nat) (ts : List Tok) (e0 a0 er a : Int) (w : World) (hR : DEr tv R w ts e0 a0) : Calls Tryz.prog 30 #[.pointer (some ⟨R, 0, none⟩), .int .i64 er, .int .i64 a] w fun e w' => DRes tv R ts w (.bad e0 a0) e w' := by
  have hR0 := hR
  obtain ⟨he, A, cap, N, i, ns, o, h⟩ := hR
  have hk := KeepD.refl h.ltR
  have he0 : (e0 == 0) = false := by simpa using he
  have c4 : w.cell? ⟨R, 4, none⟩ = some (.int .i64 e0) := by rw [cell_of_row w R 4 _ _ _ h.blk]; rfl
  clear h
  go_enter Tryz.func30, Tryz.ntmps30
  go_wp2
  first | go_end0 | refine bodyPost_ret (results_none rfl _ _ _) rfl ?_
  exact ⟨rfl, hk, hR0⟩
/-- the token that is next -/
theorem DS.tok {tv : TV} {R : Nat} {w : World} {ts : List Tok} {i : Nat} {ns : List NL} {o er a : Int} {A : Option Addr} {cap : Nat} {N : Value} (h : DS tv R w ts i ns o er a A cap N) : ∃ b p x, A = some ⟨b, p, none⟩ ∧ b < R ∧ ts[i]? = some x ∧ ∀ j u, x.cs[j]? = some u → w.cell? ⟨b, p + i * 11 + j, none⟩ = some u := by
  obtain ⟨x, hx⟩ : ∃ x, ts[i]? = some x := ⟨_, List.getElem?_eq_getElem h.lt⟩
  obtain ⟨b, p, e, hb, hc⟩ := h.toks i x.cs (by rw [List.getElem?_map, hx]; rfl)
  exact ⟨b, p, x, e, hb, hx, hc⟩
theorem dnow_any (tv : TV) (R : Nat) (ts : List Tok) (i : Nat) (ns : List NL) (o er a : Int) (A : Option Addr) (cap : Nat) (N : Value) (x : Tok) (hx : ts[i]? = some x) (w : World) (h : DS tv R w ts i ns o er a A cap N) : Calls Tryz.prog 29 #[.pointer (some ⟨R, 0, none⟩)] w fun e w' => e = .returned (.agg #[.int .i64 x.kind, .int .i64 x.place, .int .i64 x.num, .string x.str, .int .i64 x.r, .int .i64 x.c, .int .i64 x.t, .int .i64 x.l, .int .i64 x.b, .int .i64 x.q, .int .i64 x.code]) ∧ Below w.heap.size w w' := by
  obtain ⟨b, p, y, rfl, hb, hy, hc⟩ := h.tok
  rw [hx] at hy; injection hy with hy; subst hy
  have t0 : w.cell? ⟨b, p + i * 11, none⟩ = some (.int .i64 x.kind) := hc 0 _ rfl
  have t1 : w.cell? ⟨b, p + i * 11 + 1, none⟩ = some (.int .i64 x.place) := hc 1 _ rfl
  have t2 : w.cell? ⟨b, p + i * 11 + 2, none⟩ = some (.int .i64 x.num) := hc 2 _ rfl
  have t3 : w.cell? ⟨b, p + i * 11 + 3, none⟩ = some (.string x.str) := hc 3 _ rfl
  have t4 : w.cell? ⟨b, p + i * 11 + 4, none⟩ = some (.int .i64 x.r) := hc 4 _ rfl
  have t5 : w.cell? ⟨b, p + i * 11 + 5, none⟩ = some (.int .i64 x.c) := hc 5 _ rfl
  have t6 : w.cell? ⟨b, p + i * 11 + 6, none⟩ = some (.int .i64 x.t) := hc 6 _ rfl
  have t7 : w.cell? ⟨b, p + i * 11 + 7, none⟩ = some (.int .i64 x.l) := hc 7 _ rfl
  have t8 : w.cell? ⟨b, p + i * 11 + 8, none⟩ = some (.int .i64 x.b) := hc 8 _ rfl
  have t9 : w.cell? ⟨b, p + i * 11 + 9, none⟩ = some (.int .i64 x.q) := hc 9 _ rfl
  have t10 : w.cell? ⟨b, p + i * 11 + 10, none⟩ = some (.int .i64 x.code) := hc 10 _ rfl
  have c0 : w.cell? ⟨R, 0, none⟩ = some (.slice (some ⟨b, p, none⟩) ts.length cap) := by rw [cell_of_row w R 0 _ _ _ h.blk]; rfl
  have c1 : w.cell? ⟨R, 1, none⟩ = some (.int .i64 (i : Int)) := by rw [cell_of_row w R 1 _ _ _ h.blk]; rfl
  have hlt := h.ltR
  have hil : (i : Int) < (ts.length : Int) := by have := h.lt; omega
  have hi0 : (0 : Int) ≤ (i : Int) := by omega
  have hbs : b < w.heap.size := by omega
  clear hc h hx
  go_enter Tryz.func29, Tryz.ntmps29
  go_wp2_with fail
  go_region
  go_wp2
  refine bodyPost_ret (v := .agg #[.int .i64 x.kind, .int .i64 x.place, .int .i64 x.num, .string x.str, .int .i64 x.r, .int .i64 x.c, .int .i64 x.t, .int .i64 x.l, .int .i64 x.b, .int .i64 x.q, .int .i64 x.code]) ?_ rfl ⟨rfl, ((Below.refl _ _).alloc (Nat.le_refl _) _).drew⟩
  simp [results, Tryz.results29, go_sem]
theorem dstep_any (tv : TV) (R : Nat) (ts : List Tok) (i : Nat) (ns : List NL) (o er a : Int) (A : Option Addr) (cap : Nat) (N : Value) (w : World) (h : DS tv R w ts i ns o er a A cap N) : Calls Tryz.prog 60 #[.pointer (some ⟨R, 0, none⟩)] w fun e w' => e = .returned (.tuple #[]) ∧ KeepD R w w' ∧ DS tv R w' ts (if i + 1 < ts.length then i + 1 else i) ns o er a A cap N := by
  have c0 : w.cell? ⟨R, 0, none⟩ = some (.slice A ts.length cap) := by rw [cell_of_row w R 0 _ _ _ h.blk]; rfl
  have c1 : w.cell? ⟨R, 1, none⟩ = some (.int .i64 (i : Int)) := by rw [cell_of_row w R 1 _ _ _ h.blk]; rfl
  have f1 : w.frozen? ⟨R, 1, none⟩ = false := by simp [World.frozen?, h.blk]
  have hil := h.lt
  have htl := h.tl
  by_cases hlt : i + 1 < ts.length
  · rw [if_pos hlt]
    have h2 := h.put (w' := w.drew.setCell ⟨R, 1, none⟩ (.int .i64 ((i + 1 : Nat) : Int))) ((Below.refl _ _).drew.setCell (p := ⟨R, 1, none⟩) (Nat.le_refl _) _) (fun k hk => by rw [set_other hk, drew_heap]) hlt (set7_1 (show w.drew.heap[R]? = _ from h.blk))
    have hli : (i : Int) + 1 < (ts.length : Int) := by omega
    have ec : ((i + 1 : Nat) : Int) = (i : Int) + 1 := by omega
    rw [ec] at h2
    clear h hlt ec
    go_enter Tryz.func60, Tryz.ntmps60
    go_wp2
    go_region
    go_wp2
    first | go_end0 | refine bodyPost_ret (results_none rfl _ _ _) rfl ?_
    exact ⟨rfl, h2.2, h2.1⟩
  · rw [if_neg hlt]
    have h2 := h.put (w' := w.drew) (Below.refl _ _).drew (fun k hk => rfl) h.lt h.blk
    have hli : ¬ ((i : Int) + 1 < (ts.length : Int)) := by omega
    clear h hlt
    go_enter Tryz.func60, Tryz.ntmps60
    go_wp2
    go_region
    go_wp2
    first | go_end0 | refine bodyPost_ret (results_none rfl _ _ _) rfl ?_
    exact ⟨rfl, h2.2, h2.1⟩
theorem dstep_ok (tv : TV) (R : Nat) (ts : List Tok) (s : PS) (w : World) (hR : DOk tv R w ts s) : Calls Tryz.prog 60 #[.pointer (some ⟨R, 0, none⟩)] w fun e w' => DRes tv R ts w (.ok s.step) e w' := by
  obtain ⟨⟨A, cap, N, i, h, hd⟩, ho1, ho2, hw⟩ := hR
  refine (dstep_any tv R ts i _ _ _ _ A cap N w h).mono ?_
  rintro e w' ⟨he, hk, h'⟩
  refine ⟨he, hk, ⟨A, cap, N, _, by rw [PS.step_nodes, PS.step_opn]; exact h', ?_⟩, by rw [PS.step_opn]; exact ho1, by rw [PS.step_opn]; exact ho2, PS.wf_step hw⟩
  have hlen : ts.length - i = s.rest.length + 1 := by have := congrArg List.length hd; simpa using this
  cases hr : s.rest with
  | nil =>
    rw [hr] at hlen
    simp at hlen
    rw [if_neg (by omega)]
    unfold PS.step; rw [hr]; simp only; rw [hd, hr]
  | cons x r =>
    rw [hr] at hlen
    simp at hlen
    rw [if_pos (by omega)]
    have h1 : ts.drop (i + 1) = s.rest := by rw [← List.tail_drop, hd]; rfl
    unfold PS.step; rw [hr]; simp only; rw [h1, hr]
theorem dstep_er (tv : TV) (R : Nat) (ts : List Tok) (e0 a0 : Int) (w : World) (hR : DEr tv R w ts e0 a0) : Calls Tryz.prog 60 #[.pointer (some ⟨R, 0, none⟩)] w fun e w' => DRes tv R ts w (.bad e0 a0) e w' := by
  obtain ⟨he, A, cap, N, i, ns, o, h⟩ := hR
  refine (dstep_any tv R ts i _ _ _ _ A cap N w h).mono ?_
  rintro e w' ⟨h1, hk, h'⟩
  exact ⟨h1, hk, he, A, cap, N, _, ns, o, h'⟩
theorem dsign_ok (tv : TV) (R : Nat) (ts : List Tok) (s : PS) (c : List UInt8) (w : World) (hR : DOk tv R w ts s) : Calls Tryz.prog 59 #[.pointer (some ⟨R, 0, none⟩), .string ⟨c.toArray⟩] w fun e w' => e = .returned (.bool (s.is c)) ∧ Below w.heap.size w w' := by
  obtain ⟨⟨A, cap, N, i, h, hd⟩, _⟩ := hR
  have hx : ts[i]? = some s.now := by have := congrArg List.head? hd; rwa [List.head?_drop] at this
  have CN := dnow_any tv R ts i _ _ _ _ A cap N s.now hx w h
  have hlt := h.ltR
  have c4 : w.cell? ⟨R, 4, none⟩ = some (.int .i64 0) := by rw [cell_of_row w R 4 _ _ _ h.blk]; rfl
  clear h hd hx
  have e1 : s.is c = (decide (s.now.kind = 7) && decide (s.now.str = ⟨c.toArray⟩)) := rfl
  rw [e1]
  clear e1
  generalize s.now = x at *
  by_cases h7 : x.kind = 7
  · have k7 : (x.kind == 7) = true := by simp [h7]
    have e2 : (decide (x.kind = 7) && decide (x.str = ⟨c.toArray⟩)) = decide (x.str = ⟨c.toArray⟩) := by simp [h7]
    rw [e2]
    clear h7 e2
    go_enter Tryz.func59, Tryz.ntmps59
    go_wp2_with fail
    refine CN.mono ?_
    rintro e w1 ⟨rfl, hb1⟩
    have d4 := (hb1.cell (p := ⟨R, 4, none⟩) hlt).trans c4
    have hlt1 : R < w1.heap.size := Nat.lt_of_lt_of_le hlt hb1.size
    clear CN c4
    go_wp2
    go_ret
    exact ⟨rfl, hb1.alloc hb1.size _⟩
  · have k7 : (x.kind == 7) = false := by simp [h7]
    have e2 : (decide (x.kind = 7) && decide (x.str = ⟨c.toArray⟩)) = false := by simp [h7]
    rw [e2]
    clear h7 e2
    go_enter Tryz.func59, Tryz.ntmps59
    go_wp2_with fail
    refine CN.mono ?_
    rintro e w1 ⟨rfl, hb1⟩
    have d4 := (hb1.cell (p := ⟨R, 4, none⟩) hlt).trans c4
    have hlt1 : R < w1.heap.size := Nat.lt_of_lt_of_le hlt hb1.size
    clear CN c4
    go_wp2
    go_ret
    exact ⟨rfl, hb1.alloc hb1.size _⟩
theorem dsign_er (tv : TV) (R : Nat) (ts : List Tok) (e0 a0 : Int) (c : ByteArray) (w : World) (hR : DEr tv R w ts e0 a0) : Calls Tryz.prog 59 #[.pointer (some ⟨R, 0, none⟩), .string c] w fun e w' => e = .returned (.bool false) ∧ Below w.heap.size w w' := by
  obtain ⟨he, A, cap, N, i, ns, o, h⟩ := hR
  obtain ⟨x, hx⟩ : ∃ x, ts[i]? = some x := ⟨_, List.getElem?_eq_getElem h.lt⟩
  have CN := dnow_any tv R ts i _ _ _ _ A cap N x hx w h
  have hlt := h.ltR
  have he0 : (e0 == 0) = false := by simpa using he
  have c4 : w.cell? ⟨R, 4, none⟩ = some (.int .i64 e0) := by rw [cell_of_row w R 4 _ _ _ h.blk]; rfl
  clear h hx
  go_enter Tryz.func59, Tryz.ntmps59
  go_wp2_with fail
  refine CN.mono ?_
  rintro e w1 ⟨rfl, hb1⟩
  have d4 := (hb1.cell (p := ⟨R, 4, none⟩) hlt).trans c4
  have hlt1 : R < w1.heap.size := Nat.lt_of_lt_of_le hlt hb1.size
  clear CN c4
  go_wp2
  go_ret
  exact ⟨rfl, hb1.alloc hb1.size _⟩
end Go.Proofs.YtiekhbagpmnboaaGreatDoor
namespace Go.Proofs.YtiekhbagpmnboaaGreatDoor
open Go.RowKit

theorem ownsRow_form' {w : World} {B size n : Nat} {e : TypeId} {v : Value} {xs : List Value} (h : w.ownsRow B e size v n xs) : ∃ A cap, v = .slice A n cap := by
  rcases h.2 with ⟨rfl, rfl⟩ | ⟨g, cap, cur, hv, _⟩
  · exact ⟨none, 0, rfl⟩
  · exact ⟨_, _, hv⟩
theorem add_end {tv : TV} {R : Nat} {w W w5 : World} {s : PS} {n : NL} {A : Option Addr} {cap : Nat} {N : Value} {L g cap5 : Nat} (h : RS tv R w s A cap N) (hl : L < 1024) (hL : s.nodes.length = L) (hW : Below w.heap.size w W) (hsz : W.heap.size = w.heap.size + 2)
    (hgrow : W.grownBy w5 N.ownBlock) (hown : w5.ownsRow (R + 1) 79 15 (.slice (some ⟨g, 0, none⟩) (L + 1) cap5) (L + 1) (ndRow s.nodes ++ n.cs)) (hat : N.ownBlock = some g ∨ g = w.heap.size + 2) (hlt : g < w5.heap.size) :
    KeepR R w (w5.setCell ⟨R, 14, none⟩ (.slice (some ⟨g, 0, none⟩) (L + 1) cap5)) ∧ RSt tv R (w5.setCell ⟨R, 14, none⟩ (.slice (some ⟨g, 0, none⟩) (L + 1) cap5)) { s with nodes := s.nodes ++ [n] } := by
  have hR := h.lt
  have hf := RSt.fresh (s := s) ⟨A, cap, N, h⟩
  have hn := h.nown
  have hRne : some R ≠ N.ownBlock := fun e => by have := hf R (hn.trans e.symm); omega
  have hr5 : w5.heap[R]? = w.heap[R]? := (hgrow.block R (by omega) hRne).trans (hW.block R hR)
  have hblk := set15_14 (a := .slice (some ⟨g, 0, none⟩) (L + 1) cap5) (hr5.trans h.blk)
  have hb5 : Below R w w5 := (hW.mono (by omega)).grown hgrow (by omega) (fun q hq => by have := hf q (hn.trans hq); omega)
  have hb6 := hb5.setCell (p := ⟨R, 14, none⟩) (Nat.le_refl _) (.slice (some ⟨g, 0, none⟩) (L + 1) cap5)
  have hnew : nown (w5.setCell ⟨R, 14, none⟩ (.slice (some ⟨g, 0, none⟩) (L + 1) cap5)) R = some g := by
    unfold nown
    rw [cell_of_row _ R 14 _ _ _ hblk]
    rfl
  refine ⟨⟨hb6, ?_, fun k cs t fr hk hne how => ?_⟩, A, cap, _, hblk, h.rest.below hb6, h.room, ?_, h.o1, h.o2, ?_, h.rl, h.wf, h.tab.below hb6⟩
  · rcases hat with e | e
    · exact .inl (by rw [hnew, hn, e])
    · exact .inr ⟨g, hnew, by omega, by simpa using hlt⟩
  · rw [hn] at how
    exact (set_other hne).trans ((hgrow.block k (by have := heap_lt hk; omega) (fun e => how e.symm)).trans ((hW.block k (heap_lt hk)).trans hk))
  · rw [show (s.nodes ++ [n]).length = L + 1 by simp [hL], ndRow_app, ndRow_one]
    exact own_only hown fun k hk => set_other (by omega)
  · simp [hL]; omega
theorem node_info : (Tryz.prog.info? 79).map (fun i => (i.zero, i.size, i.bytes)) = some (some (.agg #[.int .i64 0, .int .i64 0, .int .i64 0, .string ⟨#[]⟩, .bool false, .int .i64 0, .int .i64 0, .int .i64 0, .int .i64 0, .int .i64 0, .int .i64 0, .int .i64 0, .int .i64 0, .string ⟨#[]⟩, .int .i64 0]), 15, 136) := by kernel_rfl
theorem padd_no (tv : TV) (R : Nat) (s : PS) (n : NL) (a : Int) (hn : s.nodes.length = 1024) (w : World) (hR : RSt tv R w s) : Calls Tryz.prog 110 #[.pointer (some ⟨R, 0, none⟩), .agg #[.int .i64 n.kind, .int .i64 n.v.t, .int .i64 n.v.n, .string n.v.s, .bool n.v.b, .int .i64 n.v.c, .int .i64 n.r, .int .i64 n.c, .int .i64 n.t, .int .i64 n.l, .int .i64 n.b, .int .i64 n.q, .int .i64 n.op, .string n.name, .int .i64 n.args], .int .i64 a] w fun e w' => RRes tv R w (.bad 8 a) e w' := by
  have hlt := hR.lt
  have hk : KeepR R w (w.alloc (.cells #[.int .i64 n.kind, .int .i64 n.v.t, .int .i64 n.v.n, .string n.v.s, .bool n.v.b, .int .i64 n.v.c, .int .i64 n.r, .int .i64 n.c, .int .i64 n.t, .int .i64 n.l, .int .i64 n.b, .int .i64 n.q, .int .i64 n.op, .string n.name, .int .i64 n.args] 79)) := KeepR.up ((Below.refl _ _).alloc (Nat.le_refl _) _) hlt
  obtain ⟨A, cap, N, h⟩ := hR
  have c14 : w.cell? ⟨R, 14, none⟩ = some (N) := by rw [cell_of_row w R 14 _ _ _ h.blk]; rfl
  have hv := ownsRow_form' h.nodes
  rw [hn] at hv
  obtain ⟨B, cap', rfl⟩ := hv
  clear h
  go_enter Tryz.func110, Tryz.ntmps110
  go_wp2
  exact ⟨rfl, hk, rfl⟩
set_option maxHeartbeats 1000000 in
theorem padd_yes (tv : TV) (R : Nat) (s : PS) (n : NL) (a : Int) (hn : s.nodes.length < 1024) (w : World) (hR : RSt tv R w s) : Calls Tryz.prog 110 #[.pointer (some ⟨R, 0, none⟩), .agg #[.int .i64 n.kind, .int .i64 n.v.t, .int .i64 n.v.n, .string n.v.s, .bool n.v.b, .int .i64 n.v.c, .int .i64 n.r, .int .i64 n.c, .int .i64 n.t, .int .i64 n.l, .int .i64 n.b, .int .i64 n.q, .int .i64 n.op, .string n.name, .int .i64 n.args], .int .i64 a] w fun e w' => RRes tv R w (.ok { s with nodes := s.nodes ++ [n] }) e w' := by
  obtain ⟨i0, hi, hz0, hz1, hz2⟩ := info_parts node_info
  have hlt := hR.lt
  have hfr := hR.fresh
  obtain ⟨A, cap, N, h⟩ := hR
  have c14 : w.cell? ⟨R, 14, none⟩ = some (N) := by rw [cell_of_row w R 14 _ _ _ h.blk]; rfl
  have f14 : w.frozen? ⟨R, 14, none⟩ = false := by simp [World.frozen?, h.blk]
  have hv := ownsRow_form' h.nodes
  have hnown := h.nown
  obtain ⟨B, cap', hN⟩ := hv
  have hblk := h.blk
  have hown := h.nodes
  have hne : ¬ s.nodes.length = 1024 := by omega
  have hni : ((s.nodes.length : Int) == 1024) = false := by simp; omega
  have hlN : s.nodes.length < 1024 := hn
  clear hn
  generalize hL : s.nodes.length = L at *
  have hb1 : Below w.heap.size w (w.alloc (.cells #[.int .i64 n.kind, .int .i64 n.v.t, .int .i64 n.v.n, .string n.v.s, .bool n.v.b, .int .i64 n.v.c, .int .i64 n.r, .int .i64 n.c, .int .i64 n.t, .int .i64 n.l, .int .i64 n.b, .int .i64 n.q, .int .i64 n.op, .string n.name, .int .i64 n.args] 79)) := (Below.refl _ _).alloc (Nat.le_refl _) _
  have hown1 := ownsRow_below hown hb1
  have c14' : (w.alloc (.cells #[.int .i64 n.kind, .int .i64 n.v.t, .int .i64 n.v.n, .string n.v.s, .bool n.v.b, .int .i64 n.v.c, .int .i64 n.r, .int .i64 n.c, .int .i64 n.t, .int .i64 n.l, .int .i64 n.b, .int .i64 n.q, .int .i64 n.op, .string n.name, .int .i64 n.args] 79)).cell? ⟨R, 14, none⟩ = some N := (World.cell?_alloc_lt _ _ ⟨R, 14, none⟩ hlt).trans c14
  have hh1 := heap_alloc_new w (.cells #[.int .i64 n.kind, .int .i64 n.v.t, .int .i64 n.v.n, .string n.v.s, .bool n.v.b, .int .i64 n.v.c, .int .i64 n.r, .int .i64 n.c, .int .i64 n.t, .int .i64 n.l, .int .i64 n.b, .int .i64 n.q, .int .i64 n.op, .string n.name, .int .i64 n.args] 79)
  have hz1' : (w.alloc (.cells #[.int .i64 n.kind, .int .i64 n.v.t, .int .i64 n.v.n, .string n.v.s, .bool n.v.b, .int .i64 n.v.c, .int .i64 n.r, .int .i64 n.c, .int .i64 n.t, .int .i64 n.l, .int .i64 n.b, .int .i64 n.q, .int .i64 n.op, .string n.name, .int .i64 n.args] 79)).heap.size = w.heap.size + 1 := by simp
  have n0 : R ≠ w.heap.size := by omega
  have hrow : ∀ q, N.ownBlock = some q → R < q ∧ q < w.heap.size := fun q hq => hfr q (hnown.trans hq)
  have hNe : N = .slice B L cap' := hN
  have hNb : (Value.slice B L cap').ownBlock = N.ownBlock := by rw [hNe]
  have hownS : w.ownsRow (R + 1) 79 15 (.slice B L cap') L (ndRow s.nodes) := by rw [← hNe]; exact hown
  rw [hNe] at c14
  have hvg := heap_alloc_new (w.alloc (.cells #[.int .i64 n.kind, .int .i64 n.v.t, .int .i64 n.v.n, .string n.v.s, .bool n.v.b, .int .i64 n.v.c, .int .i64 n.r, .int .i64 n.c, .int .i64 n.t, .int .i64 n.l, .int .i64 n.b, .int .i64 n.q, .int .i64 n.op, .string n.name, .int .i64 n.args] 79)) (.cells #[.int .i64 n.kind, .int .i64 n.v.t, .int .i64 n.v.n, .string n.v.s, .bool n.v.b, .int .i64 n.v.c, .int .i64 n.r, .int .i64 n.c, .int .i64 n.t, .int .i64 n.l, .int .i64 n.b, .int .i64 n.q, .int .i64 n.op, .string n.name, .int .i64 n.args] 79)
  rw [World.size_alloc] at hvg
  have c2 : ((w.alloc (.cells #[.int .i64 n.kind, .int .i64 n.v.t, .int .i64 n.v.n, .string n.v.s, .bool n.v.b, .int .i64 n.v.c, .int .i64 n.r, .int .i64 n.c, .int .i64 n.t, .int .i64 n.l, .int .i64 n.b, .int .i64 n.q, .int .i64 n.op, .string n.name, .int .i64 n.args] 79)).alloc (.cells #[.int .i64 n.kind, .int .i64 n.v.t, .int .i64 n.v.n, .string n.v.s, .bool n.v.b, .int .i64 n.v.c, .int .i64 n.r, .int .i64 n.c, .int .i64 n.t, .int .i64 n.l, .int .i64 n.b, .int .i64 n.q, .int .i64 n.op, .string n.name, .int .i64 n.args] 79)).cell? ⟨R, 14, none⟩ = some (.slice B L cap') := (World.cell?_alloc_lt _ _ ⟨R, 14, none⟩ (by simp; omega)).trans ((World.cell?_alloc_lt _ _ ⟨R, 14, none⟩ hlt).trans c14)
  have f2 : ((w.alloc (.cells #[.int .i64 n.kind, .int .i64 n.v.t, .int .i64 n.v.n, .string n.v.s, .bool n.v.b, .int .i64 n.v.c, .int .i64 n.r, .int .i64 n.c, .int .i64 n.t, .int .i64 n.l, .int .i64 n.b, .int .i64 n.q, .int .i64 n.op, .string n.name, .int .i64 n.args] 79)).alloc (.cells #[.int .i64 n.kind, .int .i64 n.v.t, .int .i64 n.v.n, .string n.v.s, .bool n.v.b, .int .i64 n.v.c, .int .i64 n.r, .int .i64 n.c, .int .i64 n.t, .int .i64 n.l, .int .i64 n.b, .int .i64 n.q, .int .i64 n.op, .string n.name, .int .i64 n.args] 79)).frozen? ⟨R, 14, none⟩ = false := (World.frozen?_of_block (a := ⟨R, 14, none⟩) (Lib.alloc_old _ _ _ (by simp; omega))).trans ((World.frozen?_of_block (a := ⟨R, 14, none⟩) (Lib.alloc_old _ _ _ hlt)).trans f14)
  have hEnd := fun W w5 g cap5 => add_end (W := W) (w5 := w5) (g := g) (cap5 := cap5) (n := n) h hlN hL
  clear hown hown1 hb1 c14' hh1 hz1' hfr h hN
  go_enter Tryz.func110, Tryz.ntmps110
  go_wp2
  go_region_law (refine step_append_lies _ (by rfl) _ _ _ (by rfl) (R + 1) 79 i0 _ 15 136 Tryz.underlying37 hi hz0 hz1 hz2 rfl (by omega) (.slice B L cap') L (ndRow s.nodes) (by rfl) (ownsRow_below hownS (by repeat (first | exact Below.refl _ _ | refine Below.drew ?_ | refine Below.alloc ?_ (by first | exact Nat.le_refl _ | (simp; done) | (simp; omega)) _))) ⟨w.heap.size + 1, 0, none⟩ 1 1 n.cs (by rfl) (by rfl) (World.news_of_block (cs := #[.int .i64 n.kind, .int .i64 n.v.t, .int .i64 n.v.n, .string n.v.s, .bool n.v.b, .int .i64 n.v.c, .int .i64 n.r, .int .i64 n.c, .int .i64 n.t, .int .i64 n.l, .int .i64 n.b, .int .i64 n.q, .int .i64 n.op, .string n.name, .int .i64 n.args]) (t := 79) (fr := (0, 0)) hvg) (by simp [NL.cs, Value.oneCell']) (by omega) (by unfold maxLen; omega) (by omega) (by simp; omega) (w.heap.size + 2) (by simp) ?_; intro g cap5 w5 hown5 hgrow5 hat5 hlt5; have g5 : w5.cell? ⟨R, 14, none⟩ = some (.slice B L cap') := (hgrow5.cell_far ⟨R, 14, none⟩ (by simp; omega) (fun e => by have := hrow R (hNb.symm.trans e.symm); omega)).trans c2; have q5 : w5.frozen? ⟨R, 14, none⟩ = false := (hgrow5.frozen_far ⟨R, 14, none⟩ (by simp; omega) (fun e => by have := hrow R (hNb.symm.trans e.symm); omega)).trans f2)
  all_goals first | go_end0 | refine bodyPost_ret (results_none rfl _ _ _) rfl ?_
  all_goals (
    have hE := hEnd _ _ _ _ (by repeat (first | exact Below.refl _ _ | refine Below.drew ?_ | refine Below.alloc ?_ (by first | exact Nat.le_refl _ | (simp; done) | (simp; omega)) _)) (by simp) (hNb ▸ hgrow5) hown5 (hNb ▸ hat5) hlt5
    exact ⟨hE.1, rfl, hE.2⟩)
theorem padd (tv : TV) (R : Nat) (s : PS) (n : NL) (a : Int) (w : World) (hR : RSt tv R w s) : Calls Tryz.prog 110 #[.pointer (some ⟨R, 0, none⟩), .agg #[.int .i64 n.kind, .int .i64 n.v.t, .int .i64 n.v.n, .string n.v.s, .bool n.v.b, .int .i64 n.v.c, .int .i64 n.r, .int .i64 n.c, .int .i64 n.t, .int .i64 n.l, .int .i64 n.b, .int .i64 n.q, .int .i64 n.op, .string n.name, .int .i64 n.args], .int .i64 a] w fun e w' => RRes tv R w (s.add n a) e w' := by
  have hnl : s.nodes.length ≤ 1024 := by obtain ⟨A, cap, N, h⟩ := hR; exact h.nl
  unfold PS.add
  by_cases hn : s.nodes.length = 1024
  · rw [if_pos hn]; exact padd_no tv R s n a hn w hR
  · rw [if_neg hn]; exact padd_yes tv R s n a (by omega) w hR
theorem pop (tv : TV) (R : Nat) (s : PS) (o a : Int) (w : World) (hR : RSt tv R w s) : Calls Tryz.prog 88 #[.pointer (some ⟨R, 0, none⟩), .int .i64 o, .int .i64 a] w fun e w' => RRes tv R w (s.add (opN o) a) e w' := by
  have C := padd tv R s (opN o) a w hR
  simp only [opN, vl0] at C
  have hN : opN o = ⟨4, ⟨0, 0, ⟨#[]⟩, false, 0⟩, 0, 0, 0, 0, 0, 0, o, ⟨#[]⟩, 0⟩ := rfl
  rw [hN]
  clear hR hN
  generalize s.add _ a = q at C ⊢
  go_enter Tryz.func88, Tryz.ntmps88
  go_wp2_with fail
  refine C.mono ?_
  rintro e w1 h
  cases q with
  | ok s' =>
    obtain ⟨h1, rfl, h2⟩ := h
    go_wp2
    first | go_end0 | refine bodyPost_ret (results_none rfl _ _ _) rfl ?_
    exact ⟨h1, rfl, h2⟩
  | bad er b =>
    obtain ⟨h1, rfl⟩ := h
    exact ⟨rfl, h1, rfl⟩
theorem pbegin (tv : TV) (R : Nat) (s : PS) (w : World) (hR : RSt tv R w s) : Calls Tryz.prog 139 #[.pointer (some ⟨R, 0, none⟩)] w fun e w' => RRes tv R w s.opens e w' := by
  have CI := pis tv R s [40] w hR
  have hlt := hR.lt
  unfold PS.opens
  cases hi : s.is [40] with
  | false =>
    rw [if_pos rfl]
    rw [hi] at CI
    have CF := pfail tv R s w hR
    clear hR hi
    go_enter Tryz.func139, Tryz.ntmps139
    go_wp2_with fail
    refine CI.mono ?_
    rintro e w1 ⟨rfl, rfl⟩
    go_wp2_with fail
    refine CF.mono ?_
    rintro e w2 ⟨h1, rfl⟩
    exact ⟨rfl, h1, rfl⟩
  | true =>
    rw [if_neg (by simp)]
    rw [hi] at CI
    have hR0 := hR
    obtain ⟨A, cap, N, h⟩ := hR
    have c2 : w.cell? ⟨R, 2, none⟩ = some (.int .i64 s.now.place) := by rw [cell_of_row w R 2 _ _ _ h.blk]; rfl
    have c13 : w.cell? ⟨R, 13, none⟩ = some (.int .i64 s.opn) := by rw [cell_of_row w R 13 _ _ _ h.blk]; rfl
    by_cases h32 : s.opn = 32
    · rw [if_pos h32]
      rw [h32] at c13
      clear h hR0
      go_enter Tryz.func139, Tryz.ntmps139
      go_wp2_with fail
      refine CI.mono ?_
      rintro e w1 ⟨rfl, rfl⟩
      go_wp2
      exact ⟨rfl, KeepR.refl hlt, rfl⟩
    · rw [if_neg h32]
      have f13 : w.frozen? ⟨R, 13, none⟩ = false := by simp [World.frozen?, h.blk]
      have ho1 := h.o1
      have ho2 := h.o2
      have hwr : IntKind.i64.wrap (s.opn + 1) = s.opn + 1 := IntWalk.i64_in _ (by omega)
      have hb : Below R w (w.setCell ⟨R, 13, none⟩ (.int .i64 (s.opn + 1))) := (Below.refl _ _).setCell (p := ⟨R, 13, none⟩) (Nat.le_refl _) _
      have hblk := set15_13 (a := .int .i64 (s.opn + 1)) h.blk
      have hR1 : RSt tv R (w.setCell ⟨R, 13, none⟩ (.int .i64 (s.opn + 1))) { s with opn := s.opn + 1 } := ⟨A, cap, N, hblk, h.rest.below hb, h.room, own_only h.nodes fun k hk => set_other (by omega), by simp; omega, by simp; omega, h.nl, h.rl, h.wf, h.tab.below hb⟩
      have hk1 : KeepR R w (w.setCell ⟨R, 13, none⟩ (.int .i64 (s.opn + 1))) := KeepR.only hb (fun k hk => set_other hk) (by rw [h.nown]; unfold nown; rw [cell_of_row _ R 14 _ _ _ hblk]; rfl)
      have CS := pstep tv R { s with opn := s.opn + 1 } _ hR1
      have hne : (s.opn == 32) = false := by simp [h32]
      clear h hR0 hR1 hb hblk h32
      go_enter Tryz.func139, Tryz.ntmps139
      go_wp2_with fail
      refine CI.mono ?_
      rintro e w1 ⟨rfl, rfl⟩
      go_wp2_with fail
      refine CS.mono ?_
      rintro e w2 ⟨rfl, h1, h2⟩
      go_wp2
      first | go_end0 | refine bodyPost_ret (results_none rfl _ _ _) rfl ?_
      exact ⟨hk1.trans h2, rfl, h1⟩
theorem pend (tv : TV) (R : Nat) (s : PS) (ho : 1 ≤ s.opn) (w : World) (hR : RSt tv R w s) : Calls Tryz.prog 140 #[.pointer (some ⟨R, 0, none⟩)] w fun e w' => RRes tv R w s.closes e w' := by
  have CI := pis tv R s [41] w hR
  unfold PS.closes
  cases hi : s.is [41] with
  | false =>
    rw [if_pos rfl]
    rw [hi] at CI
    have CF := pfail tv R s w hR
    clear hR hi
    go_enter Tryz.func140, Tryz.ntmps140
    go_wp2_with fail
    refine CI.mono ?_
    rintro e w1 ⟨rfl, rfl⟩
    go_wp2_with fail
    refine CF.mono ?_
    rintro e w2 ⟨h1, rfl⟩
    exact ⟨rfl, h1, rfl⟩
  | true =>
    rw [if_neg (by simp)]
    rw [hi] at CI
    obtain ⟨A, cap, N, h⟩ := hR
    have c13 : w.cell? ⟨R, 13, none⟩ = some (.int .i64 s.opn) := by rw [cell_of_row w R 13 _ _ _ h.blk]; rfl
    have f13 : w.frozen? ⟨R, 13, none⟩ = false := by simp [World.frozen?, h.blk]
    have ho2 := h.o2
    have hwr : IntKind.i64.wrap (s.opn - 1) = s.opn - 1 := IntWalk.i64_in _ (by omega)
    have hb : Below R w (w.setCell ⟨R, 13, none⟩ (.int .i64 (s.opn - 1))) := (Below.refl _ _).setCell (p := ⟨R, 13, none⟩) (Nat.le_refl _) _
    have hblk := set15_13 (a := .int .i64 (s.opn - 1)) h.blk
    have hR1 : RSt tv R (w.setCell ⟨R, 13, none⟩ (.int .i64 (s.opn - 1))) { s with opn := s.opn - 1 } := ⟨A, cap, N, hblk, h.rest.below hb, h.room, own_only h.nodes fun k hk => set_other (by omega), by simp; omega, by simp; omega, h.nl, h.rl, h.wf, h.tab.below hb⟩
    have hk1 : KeepR R w (w.setCell ⟨R, 13, none⟩ (.int .i64 (s.opn - 1))) := KeepR.only hb (fun k hk => set_other hk) (by rw [h.nown]; unfold nown; rw [cell_of_row _ R 14 _ _ _ hblk]; rfl)
    have CS := pstep tv R { s with opn := s.opn - 1 } _ hR1
    clear h hR1 hb hblk
    go_enter Tryz.func140, Tryz.ntmps140
    go_wp2_with fail
    refine CI.mono ?_
    rintro e w1 ⟨rfl, rfl⟩
    go_wp2_with fail
    refine CS.mono ?_
    rintro e w2 ⟨rfl, h1, h2⟩
    go_wp2
    first | go_end0 | refine bodyPost_ret (results_none rfl _ _ _) rfl ?_
    exact ⟨hk1.trans h2, rfl, h1⟩
end Go.Proofs.YtiekhbagpmnboaaGreatDoor
