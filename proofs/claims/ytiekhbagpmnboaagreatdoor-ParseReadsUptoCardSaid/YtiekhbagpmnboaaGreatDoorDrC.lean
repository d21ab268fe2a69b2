/-
  orielref06: the reader's node, opened, closed.
-/
import Derived.Test.YtiekhbagpmnboaaGreatDoorMg0
import Derived.Test.YtiekhbagpmnboaaGreatDoorRows
import Derived.Test.YtiekhbagpmnboaaGreatDoorProg
import Derived.Test.YtiekhbagpmnboaaGreatDoorAddrC
import Derived.Test.YtiekhbagpmnboaaGreatDoorMg2
import Derived.Test.YtiekhbagpmnboaaGreatDoorMg26
import Derived.Test.YtiekhbagpmnboaaGreatDoorValA
import Derived.Test.YtiekhbagpmnboaaGreatDoorValB
import Derived.Test.YtiekhbagpmnboaaGreatDoorMg5
import Derived.Test.YtiekhbagpmnboaaGreatDoorMg6
import Derived.Test.YtiekhbagpmnboaaGreatDoorMg7
import Derived.Test.YtiekhbagpmnboaaGreatDoorPaW
import Derived.Test.YtiekhbagpmnboaaGreatDoorMg9
import Derived.BigRegion
import Derived.Deep.RegionLaw
import Derived.Deep.AppendLies
import Derived.WalkSpells
import Derived.WalkLawsBesides
import Derived.StillTactics
import Derived.Laws.Pointers
import Derived.Deep.RegionHeld3
import Derived.Deep.QuietTactic
import Derived.BigQuiet
import Derived.RowKit3
import Derived.Lib.Hide
import Derived.Lib.OthersKept
import Derived.OwnWalk
import Derived.Lib.IndexLaws
import Derived.Lib.ItoaMem
import Derived.Lib.TrimByte
import Derived.Lib.SlTrimSet
import Derived.Lib.ParseIntB
import Derived.WalkKit
import Derived.ProofKit
import Derived.OpenShut
import Derived.Carry
import Derived.ChangeSame
import Derived.Deep.Draws
import Derived.Shelf.Strings.Builder1
import Derived.Shelf.Strings.Trim
import Derived.Shelf.Small.Utf8
import Derived.Shelf.Small.Strs
import Derived.Shelf.Small.Wraps
import Derived.Shelf.Strings.BuilderF
import Derived.Shelf.Strings.BuilderK
import Derived.Shelf.Strconv.Itoa0
import Derived.Shelf.Strconv.Itoa1
import Derived.Shelf.LaysM
import Derived.Shelf.Strconv.Itoa2
import Derived.Shelf.Strconv.Itoa3
import Derived.Ground.MpProg
import Derived.Shelf.Pu.ParseUintPublic10
import Derived.Shelf.Strings.Search1
import Derived.Shelf.Strings.Search2
import Derived.Shelf.Strings.Cut
import Derived.Shelf.Strings.Shaped
import Derived.Shelf.Strings.Prefix
import Derived.Shelf.Strings.Runes
import Derived.Shelf.Strings.AsciiSet
import Derived.Shelf.Unicode.DecodeSlow
import Derived.Lib.ItoaNum
import Derived.Maps.OwnSet
import Derived.Maps.AppendAt
namespace Go.Proofs.YtiekhbagpmnboaaGreatDoor
open Go.RowKit

theorem set7_2' {w : World} {R : Nat} {v0 v1 v2 v3 v4 v5 v6 a : Value} {T : TypeId} {fr : Nat × Nat} (h : w.heap[R]? = some (.cells #[v0, v1, v2, v3, v4, v5, v6] T fr)) : (w.setCell ⟨R, 2, none⟩ a).heap[R]? = some (.cells #[v0, v1, a, v3, v4, v5, v6] T fr) := set_block (i := 2) h a
theorem DS.fresh {tv : TV} {R : Nat} {w : World} {ts : List Tok} {i : Nat} {ns : List NL} {o er a : Int} {A : Option Addr} {cap : Nat} {N : Value} (h : DS tv R w ts i ns o er a A cap N) (k : Nat) (hk : nownD w R = some k) : R < k ∧ k < w.heap.size := by
  rw [h.nown] at hk
  have := h.nodes.lt k hk
  omega
theorem dadd_end {tv : TV} {R : Nat} {w W w5 : World} {ts : List Tok} {i : Nat} {ns : List NL} {n : NL} {o er a : Int} {A : Option Addr} {cap : Nat} {N : Value} {L g cap5 : Nat} (h : DS tv R w ts i ns o er a A cap N) (hl : L < 1024) (hL : ns.length = L) (hW : Below w.heap.size w W) (hsz : W.heap.size = w.heap.size + 2)
    (hgrow : W.grownBy w5 N.ownBlock) (hown : w5.ownsRow (R + 1) 79 15 (.slice (some ⟨g, 0, none⟩) (L + 1) cap5) (L + 1) (ndRow ns ++ n.cs)) (hat : N.ownBlock = some g ∨ g = w.heap.size + 2) (hlt : g < w5.heap.size) :
    KeepD R w (w5.setCell ⟨R, 2, none⟩ (.slice (some ⟨g, 0, none⟩) (L + 1) cap5)) ∧ DS tv R (w5.setCell ⟨R, 2, none⟩ (.slice (some ⟨g, 0, none⟩) (L + 1) cap5)) ts i (ns ++ [n]) o er a A cap (.slice (some ⟨g, 0, none⟩) (L + 1) cap5) := by
  have hR := h.ltR
  have hf := h.fresh
  have hn := h.nown
  have hRne : some R ≠ N.ownBlock := fun e => by have := hf R (hn.trans e.symm); omega
  have hr5 : w5.heap[R]? = w.heap[R]? := (hgrow.block R (by omega) hRne).trans (hW.block R hR)
  have hblk := set7_2' (a := (.slice (some ⟨g, 0, none⟩) (L + 1) cap5)) (hr5.trans h.blk)
  have hb5 : Below R w w5 := (hW.mono (by omega)).grown hgrow (by omega) (fun q hq => by have := hf q (hn.trans hq); omega)
  have hb6 := hb5.setCell (p := ⟨R, 2, none⟩) (Nat.le_refl _) (.slice (some ⟨g, 0, none⟩) (L + 1) cap5)
  have hnew : nownD (w5.setCell ⟨R, 2, none⟩ (.slice (some ⟨g, 0, none⟩) (L + 1) cap5)) R = some g := by
    unfold nownD
    rw [cell_of_row _ R 2 _ _ _ hblk]
    rfl
  refine ⟨⟨hb6, ?_, fun k cs t fr hk hne how => ?_⟩, hblk, h.toks.below hb6, h.lt, ?_, ?_, h.tl, h.tab.below hb6⟩
  · rcases hat with e | e
    · exact .inl (by rw [hnew, hn, e])
    · exact .inr ⟨g, hnew, by omega, by simpa using hlt⟩
  · rw [hn] at how
    exact (set_other hne).trans ((hgrow.block k (by have := heap_lt hk; omega) (fun e => how e.symm)).trans ((hW.block k (heap_lt hk)).trans hk))
  · rw [show (ns ++ [n]).length = L + 1 by simp [hL], ndRow_app, ndRow_one]
    exact own_only hown fun k hk => set_other (by omega)
  · simp [hL]; omega
set_option maxHeartbeats 1000000 in
theorem dnode_yes (tv : TV) (R : Nat) (ts : List Tok) (i : Nat) (ns : List NL) (n : NL) (at' o : Int) (A : Option Addr) (cap : Nat) (N : Value) (hn : ns.length < 1024) (w : World) (h : DS tv R w ts i ns o 0 0 A cap N) : Calls Tryz.prog 61 #[.pointer (some ⟨R, 0, none⟩), .agg #[.int .i64 n.kind, .int .i64 n.v.t, .int .i64 n.v.n, .string n.v.s, .bool n.v.b, .int .i64 n.v.c, .int .i64 n.r, .int .i64 n.c, .int .i64 n.t, .int .i64 n.l, .int .i64 n.b, .int .i64 n.q, .int .i64 n.op, .string n.name, .int .i64 n.args], .int .i64 at'] w fun e w' => e = .returned (.tuple #[]) ∧ KeepD R w w' ∧ ∃ N', DS tv R w' ts i (ns ++ [n]) o 0 0 A cap N' := by
  obtain ⟨i0, hi, hz0, hz1, hz2⟩ := info_parts node_info
  have hlt := h.ltR
  have hfr := h.fresh
  have c2 : w.cell? ⟨R, 2, none⟩ = some (N) := by rw [cell_of_row w R 2 _ _ _ h.blk]; rfl
  have c4 : w.cell? ⟨R, 4, none⟩ = some (.int .i64 0) := by rw [cell_of_row w R 4 _ _ _ h.blk]; rfl
  have f2 : w.frozen? ⟨R, 2, none⟩ = false := by simp [World.frozen?, h.blk]
  have hv := ownsRow_form' h.nodes
  have hnown := h.nown
  obtain ⟨B, cap', hN⟩ := hv
  have hown := h.nodes
  have hlN := hn
  clear hn
  generalize hL : ns.length = L at *
  have hni : ((L : Int) ≥ 1024) = False := eq_false (by omega)
  have hrow : ∀ q, N.ownBlock = some q → R < q ∧ q < w.heap.size := fun q hq => hfr q (hnown.trans hq)
  have hNe : N = .slice B L cap' := hN
  have hNb : (Value.slice B L cap').ownBlock = N.ownBlock := by rw [hNe]
  have hownS : w.ownsRow (R + 1) 79 15 (.slice B L cap') L (ndRow ns) := by rw [← hNe]; exact hown
  rw [hNe] at c2
  have hvg := heap_alloc_new (w.alloc (.cells #[.int .i64 n.kind, .int .i64 n.v.t, .int .i64 n.v.n, .string n.v.s, .bool n.v.b, .int .i64 n.v.c, .int .i64 n.r, .int .i64 n.c, .int .i64 n.t, .int .i64 n.l, .int .i64 n.b, .int .i64 n.q, .int .i64 n.op, .string n.name, .int .i64 n.args] 79)) (.cells #[.int .i64 n.kind, .int .i64 n.v.t, .int .i64 n.v.n, .string n.v.s, .bool n.v.b, .int .i64 n.v.c, .int .i64 n.r, .int .i64 n.c, .int .i64 n.t, .int .i64 n.l, .int .i64 n.b, .int .i64 n.q, .int .i64 n.op, .string n.name, .int .i64 n.args] 79)
  rw [World.size_alloc] at hvg
  have d2 : ((w.alloc (.cells #[.int .i64 n.kind, .int .i64 n.v.t, .int .i64 n.v.n, .string n.v.s, .bool n.v.b, .int .i64 n.v.c, .int .i64 n.r, .int .i64 n.c, .int .i64 n.t, .int .i64 n.l, .int .i64 n.b, .int .i64 n.q, .int .i64 n.op, .string n.name, .int .i64 n.args] 79)).alloc (.cells #[.int .i64 n.kind, .int .i64 n.v.t, .int .i64 n.v.n, .string n.v.s, .bool n.v.b, .int .i64 n.v.c, .int .i64 n.r, .int .i64 n.c, .int .i64 n.t, .int .i64 n.l, .int .i64 n.b, .int .i64 n.q, .int .i64 n.op, .string n.name, .int .i64 n.args] 79)).cell? ⟨R, 2, none⟩ = some (.slice B L cap') := (World.cell?_alloc_lt _ _ ⟨R, 2, none⟩ (by simp; omega)).trans ((World.cell?_alloc_lt _ _ ⟨R, 2, none⟩ hlt).trans c2)
  have g2 : ((w.alloc (.cells #[.int .i64 n.kind, .int .i64 n.v.t, .int .i64 n.v.n, .string n.v.s, .bool n.v.b, .int .i64 n.v.c, .int .i64 n.r, .int .i64 n.c, .int .i64 n.t, .int .i64 n.l, .int .i64 n.b, .int .i64 n.q, .int .i64 n.op, .string n.name, .int .i64 n.args] 79)).alloc (.cells #[.int .i64 n.kind, .int .i64 n.v.t, .int .i64 n.v.n, .string n.v.s, .bool n.v.b, .int .i64 n.v.c, .int .i64 n.r, .int .i64 n.c, .int .i64 n.t, .int .i64 n.l, .int .i64 n.b, .int .i64 n.q, .int .i64 n.op, .string n.name, .int .i64 n.args] 79)).frozen? ⟨R, 2, none⟩ = false := (World.frozen?_of_block (a := ⟨R, 2, none⟩) (Lib.alloc_old _ _ _ (by simp; omega))).trans ((World.frozen?_of_block (a := ⟨R, 2, none⟩) (Lib.alloc_old _ _ _ hlt)).trans f2)
  have hEnd := fun W w5 g cap5 => dadd_end (W := W) (w5 := w5) (g := g) (cap5 := cap5) (n := n) h hlN hL
  clear hown hfr h hN
  go_enter Tryz.func61, Tryz.ntmps61
  go_wp2
  go_region_law (refine step_append_lies _ (by rfl) _ _ _ (by rfl) (R + 1) 79 i0 _ 15 136 Tryz.underlying37 hi hz0 hz1 hz2 rfl (by omega) (.slice B L cap') L (ndRow ns) (by rfl) (ownsRow_below hownS (by repeat (first | exact Below.refl _ _ | refine Below.drew ?_ | refine Below.alloc ?_ (by first | exact Nat.le_refl _ | (simp; done) | (simp; omega)) _))) ⟨w.heap.size + 1, 0, none⟩ 1 1 n.cs (by rfl) (by rfl) (World.news_of_block (cs := #[.int .i64 n.kind, .int .i64 n.v.t, .int .i64 n.v.n, .string n.v.s, .bool n.v.b, .int .i64 n.v.c, .int .i64 n.r, .int .i64 n.c, .int .i64 n.t, .int .i64 n.l, .int .i64 n.b, .int .i64 n.q, .int .i64 n.op, .string n.name, .int .i64 n.args]) (t := 79) (fr := (0, 0)) hvg) (by simp [NL.cs, Value.oneCell']) (by omega) (by unfold maxLen; omega) (by omega) (by simp; omega) (w.heap.size + 2) (by simp) ?_; intro g cap5 w5 hown5 hgrow5 hat5 hlt5; have e5 : w5.cell? ⟨R, 2, none⟩ = some (.slice B L cap') := (hgrow5.cell_far ⟨R, 2, none⟩ (by simp; omega) (fun e => by have := hrow R (hNb.symm.trans e.symm); omega)).trans d2; have q5 : w5.frozen? ⟨R, 2, none⟩ = false := (hgrow5.frozen_far ⟨R, 2, none⟩ (by simp; omega) (fun e => by have := hrow R (hNb.symm.trans e.symm); omega)).trans g2)
  all_goals try go_wp2
  all_goals first | go_end0 | refine bodyPost_ret (results_none rfl _ _ _) rfl ?_
  all_goals (
    have hE := hEnd _ _ _ _ (by repeat (first | exact Below.refl _ _ | refine Below.drew ?_ | refine Below.alloc ?_ (by first | exact Nat.le_refl _ | (simp; done) | (simp; omega)) _)) (by simp) (hNb ▸ hgrow5) hown5 (hNb ▸ hat5) hlt5
    exact ⟨rfl, hE.1, _, hE.2⟩)
theorem DOk.up {tv : TV} {R : Nat} {w w' : World} {ts : List Tok} {s : PS} (h : DOk tv R w ts s) (hb : Below w.heap.size w w') : DOk tv R w' ts s := by
  obtain ⟨⟨A, cap, N, i, h, hd⟩, hr⟩ := h
  exact ⟨⟨A, cap, N, i, h.up hb, hd⟩, hr⟩
theorem DEr.up {tv : TV} {R : Nat} {w w' : World} {ts : List Tok} {e a : Int} (h : DEr tv R w ts e a) (hb : Below w.heap.size w w') : DEr tv R w' ts e a := by
  obtain ⟨he, A, cap, N, i, ns, o, h⟩ := h
  exact ⟨he, A, cap, N, i, ns, o, h.up hb⟩
theorem DOk.ltR {tv : TV} {R : Nat} {w : World} {ts : List Tok} {s : PS} (h : DOk tv R w ts s) : R < w.heap.size := by
  obtain ⟨⟨A, cap, N, i, h, hd⟩, hr⟩ := h
  exact h.ltR
theorem DEr.ltR {tv : TV} {R : Nat} {w : World} {ts : List Tok} {e a : Int} (h : DEr tv R w ts e a) : R < w.heap.size := by
  obtain ⟨he, A, cap, N, i, ns, o, h⟩ := h
  exact h.ltR
theorem DRes.back {tv : TV} {R : Nat} {ts : List Tok} {w w1 : World} {x : PR} {e : Ending} {w' : World} (h : DRes tv R ts w1 x e w') (k : KeepD R w w1) : DRes tv R ts w x e w' := ⟨h.1, k.trans h.2.1, h.2.2⟩
/-- the cells that a caller looks at -/
theorem DEr.err {tv : TV} {R : Nat} {w : World} {ts : List Tok} {e a : Int} (h : DEr tv R w ts e a) : w.cell? ⟨R, 4, none⟩ = some (.int .i64 e) := by
  obtain ⟨he, A, cap, N, i, ns, o, h⟩ := h
  rw [cell_of_row w R 4 _ _ _ h.blk]; rfl
theorem DOk.err {tv : TV} {R : Nat} {w : World} {ts : List Tok} {s : PS} (h : DOk tv R w ts s) : w.cell? ⟨R, 4, none⟩ = some (.int .i64 0) := by
  obtain ⟨⟨A, cap, N, i, h, hd⟩, hr⟩ := h
  rw [cell_of_row w R 4 _ _ _ h.blk]; rfl
set_option maxHeartbeats 1000000 in
theorem dnode_full (tv : TV) (R : Nat) (ts : List Tok) (s : PS) (n : NL) (at' : Int) (hn : s.nodes.length = 1024) (w : World) (hR : DOk tv R w ts s) : Calls Tryz.prog 61 #[.pointer (some ⟨R, 0, none⟩), .agg #[.int .i64 n.kind, .int .i64 n.v.t, .int .i64 n.v.n, .string n.v.s, .bool n.v.b, .int .i64 n.v.c, .int .i64 n.r, .int .i64 n.c, .int .i64 n.t, .int .i64 n.l, .int .i64 n.b, .int .i64 n.q, .int .i64 n.op, .string n.name, .int .i64 n.args], .int .i64 at'] w fun e w' => DRes tv R ts w (.bad 8 at') e w' := by
  have hb1 : Below w.heap.size w (w.alloc (.cells #[.int .i64 n.kind, .int .i64 n.v.t, .int .i64 n.v.n, .string n.v.s, .bool n.v.b, .int .i64 n.v.c, .int .i64 n.r, .int .i64 n.c, .int .i64 n.t, .int .i64 n.l, .int .i64 n.b, .int .i64 n.q, .int .i64 n.op, .string n.name, .int .i64 n.args] 79)) := (Below.refl _ _).alloc (Nat.le_refl _) _
  have hlt := hR.ltR
  have hk := KeepD.up hb1 hlt
  have CF := dfail_ok tv R ts s 8 at' (by decide) _ (hR.up hb1)
  obtain ⟨⟨A, cap, N, i, h, hd⟩, hr⟩ := hR
  have c2 : w.cell? ⟨R, 2, none⟩ = some (N) := by rw [cell_of_row w R 2 _ _ _ h.blk]; rfl
  have hv := ownsRow_form' h.nodes
  rw [hn] at hv
  obtain ⟨B, cap', rfl⟩ := hv
  clear h hd hr hb1 hn
  go_enter Tryz.func61, Tryz.ntmps61
  go_wp2_with fail
  refine CF.mono ?_
  rintro e w1 ⟨rfl, hk1, h1⟩
  have d4 := h1.err
  clear CF
  go_wp2
  first | go_end0 | refine bodyPost_ret (results_none rfl _ _ _) rfl ?_
  exact ⟨rfl, hk.trans hk1, h1⟩
theorem dnode_ok (tv : TV) (R : Nat) (ts : List Tok) (s : PS) (n : NL) (at' : Int) (w : World) (hR : DOk tv R w ts s) : Calls Tryz.prog 61 #[.pointer (some ⟨R, 0, none⟩), .agg #[.int .i64 n.kind, .int .i64 n.v.t, .int .i64 n.v.n, .string n.v.s, .bool n.v.b, .int .i64 n.v.c, .int .i64 n.r, .int .i64 n.c, .int .i64 n.t, .int .i64 n.l, .int .i64 n.b, .int .i64 n.q, .int .i64 n.op, .string n.name, .int .i64 n.args], .int .i64 at'] w fun e w' => DRes tv R ts w (s.add n at') e w' := by
  unfold PS.add
  by_cases hn : s.nodes.length = 1024
  · rw [if_pos hn]; exact dnode_full tv R ts s n at' hn w hR
  · rw [if_neg hn]
    obtain ⟨⟨A, cap, N, i, h, hd⟩, hr⟩ := hR
    have hnl := h.nl
    refine (dnode_yes tv R ts i s.nodes n at' s.opn A cap N (by omega) w h).mono ?_
    rintro e w' ⟨he, hk, N', h'⟩
    exact ⟨he, hk, ⟨A, cap, N', i, h', hd⟩, hr⟩
set_option maxHeartbeats 1000000 in
theorem dnode_er (tv : TV) (R : Nat) (ts : List Tok) (e0 a0 : Int) (n : NL) (at' : Int) (w : World) (hR : DEr tv R w ts e0 a0) : Calls Tryz.prog 61 #[.pointer (some ⟨R, 0, none⟩), .agg #[.int .i64 n.kind, .int .i64 n.v.t, .int .i64 n.v.n, .string n.v.s, .bool n.v.b, .int .i64 n.v.c, .int .i64 n.r, .int .i64 n.c, .int .i64 n.t, .int .i64 n.l, .int .i64 n.b, .int .i64 n.q, .int .i64 n.op, .string n.name, .int .i64 n.args], .int .i64 at'] w fun e w' => DRes tv R ts w (.bad e0 a0) e w' := by
  have hb1 : Below w.heap.size w (w.alloc (.cells #[.int .i64 n.kind, .int .i64 n.v.t, .int .i64 n.v.n, .string n.v.s, .bool n.v.b, .int .i64 n.v.c, .int .i64 n.r, .int .i64 n.c, .int .i64 n.t, .int .i64 n.l, .int .i64 n.b, .int .i64 n.q, .int .i64 n.op, .string n.name, .int .i64 n.args] 79)) := (Below.refl _ _).alloc (Nat.le_refl _) _
  have hlt := hR.ltR
  have hk := KeepD.up hb1 hlt
  have hR1 := hR.up hb1
  have CF := dfail_er tv R ts e0 a0 8 at' _ hR1
  obtain ⟨he, A, cap, N, i, ns, o, h⟩ := hR
  have he0 : (e0 == 0) = false := by simpa using he
  have c2 : w.cell? ⟨R, 2, none⟩ = some (N) := by rw [cell_of_row w R 2 _ _ _ h.blk]; rfl
  have c4 : w.cell? ⟨R, 4, none⟩ = some (.int .i64 e0) := by rw [cell_of_row w R 4 _ _ _ h.blk]; rfl
  have hv := ownsRow_form' h.nodes
  have hnl := h.nl
  obtain ⟨B, cap', rfl⟩ := hv
  clear h hb1
  generalize ns.length = L at *
  by_cases hn : L = 1024
  · have hge : (1024 : Int) ≤ (L : Int) := by omega
    go_enter Tryz.func61, Tryz.ntmps61
    go_wp2_with fail
    refine CF.mono ?_
    rintro e w1 ⟨rfl, hk1, h1⟩
    have d4 := h1.err
    clear CF c4 c2
    go_wp2
    first | go_end0 | refine bodyPost_ret (results_none rfl _ _ _) rfl ?_
    exact ⟨rfl, hk.trans hk1, h1⟩
  · have hge : ¬ (1024 : Int) ≤ (L : Int) := by omega
    clear CF
    go_enter Tryz.func61, Tryz.ntmps61
    go_wp2_with fail
    first | go_end0 | refine bodyPost_ret (results_none rfl _ _ _) rfl ?_
    exact ⟨rfl, hk, hR1⟩
end Go.Proofs.YtiekhbagpmnboaaGreatDoor
