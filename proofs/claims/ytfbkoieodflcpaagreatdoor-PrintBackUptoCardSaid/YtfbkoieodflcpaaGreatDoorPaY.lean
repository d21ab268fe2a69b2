/-
  parse: the reader's add, op, begin, end.
-/
import Derived.Test.YtfbkoieodflcpaaGreatDoorMg3
import Derived.Test.YtfbkoieodflcpaaGreatDoorRows
import Derived.Test.YtfbkoieodflcpaaGreatDoorMg0
import Derived.Test.YtfbkoieodflcpaaGreatDoorProg
import Derived.Test.YtfbkoieodflcpaaGreatDoorShelf
import Derived.Test.YtfbkoieodflcpaaGreatDoorMg4
import Derived.Test.YtfbkoieodflcpaaGreatDoorAddrC
import Derived.Test.YtfbkoieodflcpaaGreatDoorMg6
import Derived.Test.YtfbkoieodflcpaaGreatDoorValA
import Derived.Test.YtfbkoieodflcpaaGreatDoorValB
import Derived.Test.YtfbkoieodflcpaaGreatDoorMg9
import Derived.Test.YtfbkoieodflcpaaGreatDoorMg10
import Derived.Test.YtfbkoieodflcpaaGreatDoorPaP
import Derived.Test.YtfbkoieodflcpaaGreatDoorPaF
import Derived.Test.YtfbkoieodflcpaaGreatDoorPaW
import Derived.Test.YtfbkoieodflcpaaGreatDoorPaX
import Derived.BigRegion
import Derived.Deep.RegionLaw
import Derived.Deep.AppendLies
import Derived.WalkSpells
import Derived.WalkLawsBesides
import Derived.StillTactics
import Derived.Laws.Pointers
import Derived.Deep.RegionHeld3
import Derived.Deep.QuietTactic
import Derived.BigQuiet
import Derived.RowKit3
import Derived.Lib.Hide
import Derived.Lib.OthersKept
import Derived.OwnWalk
import Derived.Lib.IndexLaws
import Derived.Lib.ItoaMem
import Derived.Lib.TrimByte
import Derived.Lib.SlTrimSet
import Derived.Lib.ParseIntB
import Derived.WalkKit
import Derived.ProofKit
import Derived.OpenShut
import Derived.Carry
import Derived.ChangeSame
import Derived.Deep.Draws
import Derived.Shelf.Strings.Builder1
import Derived.Shelf.Strings.Builder2
import Derived.Shelf.Strings.Trim
import Derived.Shelf.Small.Utf8
import Derived.Shelf.Small.Strs
import Derived.Shelf.Small.Wraps
import Derived.Shelf.Strings.BuilderF
import Derived.Shelf.Strings.BuilderK
import Derived.Shelf.Utf8.RuneCount
import Derived.Shelf.Strconv.Itoa0
import Derived.Shelf.Strconv.Itoa1
import Derived.Shelf.LaysM
import Derived.Shelf.Strconv.Itoa2
import Derived.Shelf.Strconv.Itoa3
import Derived.Ground.MpProg
import Derived.Shelf.Pu.ParseUintPublic10
import Derived.Shelf.Strings.Search1
import Derived.Shelf.Strings.Search2
import Derived.Shelf.Strings.Search3
import Derived.Shelf.Strings.Cut
import Derived.Shelf.Strings.Count
import Derived.Shelf.Strings.Shaped
import Derived.Shelf.Strings.Prefix
import Derived.Shelf.Strings.Split
import Derived.Shelf.Strings.Replace
import Derived.Shelf.Strings.SplitShaped
import Derived.Shelf.Unicode.Decode
import Derived.Shelf.Strings.Runes
import Derived.Shelf.Strings.RuneCount
import Derived.Shelf.Strings.AsciiSet
import Derived.Shelf.Unicode.DecodeSlow
import Derived.Shelf.Unicode.DecodeAny
import Derived.Shelf.Unicode.DecodeLast
import Derived.Lib.ItoaNum
import Derived.Maps.OwnSet
import Derived.Maps.AppendAt
namespace Go.Proofs.YtfbkoieodflcpaaGreatDoor
open Go.RowKit

theorem ownsRow_form' {w : World} {B size n : Nat} {e : TypeId} {v : Value} {xs : List Value} (h : w.ownsRow B e size v n xs) : ∃ A cap, v = .slice A n cap := by
  rcases h.2 with ⟨rfl, rfl⟩ | ⟨g, cap, cur, hv, _⟩
  · exact ⟨none, 0, rfl⟩
  · exact ⟨_, _, hv⟩
theorem add_end {tv : TV} {R : Nat} {w W w5 : World} {s : PS} {n : NL} {A : Option Addr} {cap : Nat} {N : Value} {L g cap5 : Nat} (h : RS tv R w s A cap N) (hl : L < 1024) (hL : s.nodes.length = L) (hW : Below w.heap.size w W) (hsz : W.heap.size = w.heap.size + 2)
    (hgrow : W.grownBy w5 N.ownBlock) (hown : w5.ownsRow (R + 1) 47 15 (.slice (some ⟨g, 0, none⟩) (L + 1) cap5) (L + 1) (ndRow s.nodes ++ n.cs)) (hat : N.ownBlock = some g ∨ g = w.heap.size + 2) (hlt : g < w5.heap.size) :
    KeepR R w (w5.setCell ⟨R, 14, none⟩ (.slice (some ⟨g, 0, none⟩) (L + 1) cap5)) ∧ RSt tv R (w5.setCell ⟨R, 14, none⟩ (.slice (some ⟨g, 0, none⟩) (L + 1) cap5)) { s with nodes := s.nodes ++ [n] } := by
  have hR := h.lt
  have hf := RSt.fresh (s := s) ⟨A, cap, N, h⟩
  have hn := h.nown
  have hRne : some R ≠ N.ownBlock := fun e => by have := hf R (hn.trans e.symm); omega
  have hr5 : w5.heap[R]? = w.heap[R]? := (hgrow.block R (by omega) hRne).trans (hW.block R hR)
  have hblk := set15_14 (a := .slice (some ⟨g, 0, none⟩) (L + 1) cap5) (hr5.trans h.blk)
  have hb5 : Below R w w5 := (hW.mono (by omega)).grown hgrow (by omega) (fun q hq => by have := hf q (hn.trans hq); omega)
  have hb6 := hb5.setCell (p := ⟨R, 14, none⟩) (Nat.le_refl _) (.slice (some ⟨g, 0, none⟩) (L + 1) cap5)
  have hnew : nown (w5.setCell ⟨R, 14, none⟩ (.slice (some ⟨g, 0, none⟩) (L + 1) cap5)) R = some g := by
    unfold nown
    rw [cell_of_row _ R 14 _ _ _ hblk]
    rfl
  refine ⟨⟨hb6, ?_, fun k cs t fr hk hne how => ?_⟩, A, cap, _, hblk, h.rest.below hb6, h.room, ?_, h.o1, h.o2, ?_, h.rl, h.wf, h.tab.below hb6⟩
  · rcases hat with e | e
    · exact .inl (by rw [hnew, hn, e])
    · exact .inr ⟨g, hnew, by omega, by simpa using hlt⟩
  · rw [hn] at how
    exact (set_other hne).trans ((hgrow.block k (by have := heap_lt hk; omega) (fun e => how e.symm)).trans ((hW.block k (heap_lt hk)).trans hk))
  · rw [show (s.nodes ++ [n]).length = L + 1 by simp [hL], ndRow_app, ndRow_one]
    exact own_only hown fun k hk => set_other (by omega)
  · simp [hL]; omega
theorem node_info : (Tryz.prog.info? 47).map (fun i => (i.zero, i.size, i.bytes)) = some (some (.agg #[.int .i64 0, .int .i64 0, .int .i64 0, .string ⟨#[]⟩, .bool false, .int .i64 0, .int .i64 0, .int .i64 0, .int .i64 0, .int .i64 0, .int .i64 0, .int .i64 0, .int .i64 0, .string ⟨#[]⟩, .int .i64 0]), 15, 136) := by kernel_rfl
theorem padd_no (tv : TV) (R : Nat) (s : PS) (n : NL) (a : Int) (hn : s.nodes.length = 1024) (w : World) (hR : RSt tv R w s) : Calls Tryz.prog 127 #[.pointer (some ⟨R, 0, none⟩), .agg #[.int .i64 n.kind, .int .i64 n.v.t, .int .i64 n.v.n, .string n.v.s, .bool n.v.b, .int .i64 n.v.c, .int .i64 n.r, .int .i64 n.c, .int .i64 n.t, .int .i64 n.l, .int .i64 n.b, .int .i64 n.q, .int .i64 n.op, .string n.name, .int .i64 n.args], .int .i64 a] w fun e w' => RRes tv R w (.bad 8 a) e w' := by
  have hlt := hR.lt
  have hk : KeepR R w (w.alloc (.cells #[.int .i64 n.kind, .int .i64 n.v.t, .int .i64 n.v.n, .string n.v.s, .bool n.v.b, .int .i64 n.v.c, .int .i64 n.r, .int .i64 n.c, .int .i64 n.t, .int .i64 n.l, .int .i64 n.b, .int .i64 n.q, .int .i64 n.op, .string n.name, .int .i64 n.args] 47)) := KeepR.up ((Below.refl _ _).alloc (Nat.le_refl _) _) hlt
  obtain ⟨A, cap, N, h⟩ := hR
  have c14 : w.cell? ⟨R, 14, none⟩ = some (N) := by rw [cell_of_row w R 14 _ _ _ h.blk]; rfl
  have hv := ownsRow_form' h.nodes
  rw [hn] at hv
  obtain ⟨B, cap', rfl⟩ := hv
  clear h
  go_enter Tryz.func127, Tryz.ntmps127
  go_wp2
  exact ⟨rfl, hk, rfl⟩
set_option maxHeartbeats 1000000 in
theorem padd_yes (tv : TV) (R : Nat) (s : PS) (n : NL) (a : Int) (hn : s.nodes.length < 1024) (w : World) (hR : RSt tv R w s) : Calls Tryz.prog 127 #[.pointer (some ⟨R, 0, none⟩), .agg #[.int .i64 n.kind, .int .i64 n.v.t, .int .i64 n.v.n, .string n.v.s, .bool n.v.b, .int .i64 n.v.c, .int .i64 n.r, .int .i64 n.c, .int .i64 n.t, .int .i64 n.l, .int .i64 n.b, .int .i64 n.q, .int .i64 n.op, .string n.name, .int .i64 n.args], .int .i64 a] w fun e w' => RRes tv R w (.ok { s with nodes := s.nodes ++ [n] }) e w' := by
  obtain ⟨i0, hi, hz0, hz1, hz2⟩ := info_parts node_info
  have hlt := hR.lt
  have hfr := hR.fresh
  obtain ⟨A, cap, N, h⟩ := hR
  have c14 : w.cell? ⟨R, 14, none⟩ = some (N) := by rw [cell_of_row w R 14 _ _ _ h.blk]; rfl
  have f14 : w.frozen? ⟨R, 14, none⟩ = false := by simp [World.frozen?, h.blk]
  have hv := ownsRow_form' h.nodes
  have hnown := h.nown
  obtain ⟨B, cap', hN⟩ := hv
  have hblk := h.blk
  have hown := h.nodes
  have hne : ¬ s.nodes.length = 1024 := by omega
  have hni : ((s.nodes.length : Int) == 1024) = false := by simp; omega
  have hlN : s.nodes.length < 1024 := hn
  clear hn
  generalize hL : s.nodes.length = L at *
  have hb1 : Below w.heap.size w (w.alloc (.cells #[.int .i64 n.kind, .int .i64 n.v.t, .int .i64 n.v.n, .string n.v.s, .bool n.v.b, .int .i64 n.v.c, .int .i64 n.r, .int .i64 n.c, .int .i64 n.t, .int .i64 n.l, .int .i64 n.b, .int .i64 n.q, .int .i64 n.op, .string n.name, .int .i64 n.args] 47)) := (Below.refl _ _).alloc (Nat.le_refl _) _
  have hown1 := ownsRow_below hown hb1
  have c14' : (w.alloc (.cells #[.int .i64 n.kind, .int .i64 n.v.t, .int .i64 n.v.n, .string n.v.s, .bool n.v.b, .int .i64 n.v.c, .int .i64 n.r, .int .i64 n.c, .int .i64 n.t, .int .i64 n.l, .int .i64 n.b, .int .i64 n.q, .int .i64 n.op, .string n.name, .int .i64 n.args] 47)).cell? ⟨R, 14, none⟩ = some N := (World.cell?_alloc_lt _ _ ⟨R, 14, none⟩ hlt).trans c14
  have hh1 := heap_alloc_new w (.cells #[.int .i64 n.kind, .int .i64 n.v.t, .int .i64 n.v.n, .string n.v.s, .bool n.v.b, .int .i64 n.v.c, .int .i64 n.r, .int .i64 n.c, .int .i64 n.t, .int .i64 n.l, .int .i64 n.b, .int .i64 n.q, .int .i64 n.op, .string n.name, .int .i64 n.args] 47)
  have hz1' : (w.alloc (.cells #[.int .i64 n.kind, .int .i64 n.v.t, .int .i64 n.v.n, .string n.v.s, .bool n.v.b, .int .i64 n.v.c, .int .i64 n.r, .int .i64 n.c, .int .i64 n.t, .int .i64 n.l, .int .i64 n.b, .int .i64 n.q, .int .i64 n.op, .string n.name, .int .i64 n.args] 47)).heap.size = w.heap.size + 1 := by simp
  have n0 : R ≠ w.heap.size := by omega
  have hrow : ∀ q, N.ownBlock = some q → R < q ∧ q < w.heap.size := fun q hq => hfr q (hnown.trans hq)
  have hNe : N = .slice B L cap' := hN
  have hNb : (Value.slice B L cap').ownBlock = N.ownBlock := by rw [hNe]
  have hownS : w.ownsRow (R + 1) 47 15 (.slice B L cap') L (ndRow s.nodes) := by rw [← hNe]; exact hown
  rw [hNe] at c14
  have hvg := heap_alloc_new (w.alloc (.cells #[.int .i64 n.kind, .int .i64 n.v.t, .int .i64 n.v.n, .string n.v.s, .bool n.v.b, .int .i64 n.v.c, .int .i64 n.r, .int .i64 n.c, .int .i64 n.t, .int .i64 n.l, .int .i64 n.b, .int .i64 n.q, .int .i64 n.op, .string n.name, .int .i64 n.args] 47)) (.cells #[.int .i64 n.kind, .int .i64 n.v.t, .int .i64 n.v.n, .string n.v.s, .bool n.v.b, .int .i64 n.v.c, .int .i64 n.r, .int .i64 n.c, .int .i64 n.t, .int .i64 n.l, .int .i64 n.b, .int .i64 n.q, .int .i64 n.op, .string n.name, .int .i64 n.args] 47)
  rw [World.size_alloc] at hvg
  have c2 : ((w.alloc (.cells #[.int .i64 n.kind, .int .i64 n.v.t, .int .i64 n.v.n, .string n.v.s, .bool n.v.b, .int .i64 n.v.c, .int .i64 n.r, .int .i64 n.c, .int .i64 n.t, .int .i64 n.l, .int .i64 n.b, .int .i64 n.q, .int .i64 n.op, .string n.name, .int .i64 n.args] 47)).alloc (.cells #[.int .i64 n.kind, .int .i64 n.v.t, .int .i64 n.v.n, .string n.v.s, .bool n.v.b, .int .i64 n.v.c, .int .i64 n.r, .int .i64 n.c, .int .i64 n.t, .int .i64 n.l, .int .i64 n.b, .int .i64 n.q, .int .i64 n.op, .string n.name, .int .i64 n.args] 47)).cell? ⟨R, 14, none⟩ = some (.slice B L cap') := (World.cell?_alloc_lt _ _ ⟨R, 14, none⟩ (by simp; omega)).trans ((World.cell?_alloc_lt _ _ ⟨R, 14, none⟩ hlt).trans c14)
  have f2 : ((w.alloc (.cells #[.int .i64 n.kind, .int .i64 n.v.t, .int .i64 n.v.n, .string n.v.s, .bool n.v.b, .int .i64 n.v.c, .int .i64 n.r, .int .i64 n.c, .int .i64 n.t, .int .i64 n.l, .int .i64 n.b, .int .i64 n.q, .int .i64 n.op, .string n.name, .int .i64 n.args] 47)).alloc (.cells #[.int .i64 n.kind, .int .i64 n.v.t, .int .i64 n.v.n, .string n.v.s, .bool n.v.b, .int .i64 n.v.c, .int .i64 n.r, .int .i64 n.c, .int .i64 n.t, .int .i64 n.l, .int .i64 n.b, .int .i64 n.q, .int .i64 n.op, .string n.name, .int .i64 n.args] 47)).frozen? ⟨R, 14, none⟩ = false := (World.frozen?_of_block (a := ⟨R, 14, none⟩) (Lib.alloc_old _ _ _ (by simp; omega))).trans ((World.frozen?_of_block (a := ⟨R, 14, none⟩) (Lib.alloc_old _ _ _ hlt)).trans f14)
  have hEnd := fun W w5 g cap5 => add_end (W := W) (w5 := w5) (g := g) (cap5 := cap5) (n := n) h hlN hL
  clear hown hown1 hb1 c14' hh1 hz1' hfr h hN
  go_enter Tryz.func127, Tryz.ntmps127
  go_wp2
  go_region_law (refine step_append_lies _ (by rfl) _ _ _ (by rfl) (R + 1) 47 i0 _ 15 136 Tryz.underlying22 hi hz0 hz1 hz2 rfl (by omega) (.slice B L cap') L (ndRow s.nodes) (by rfl) (ownsRow_below hownS (by repeat (first | exact Below.refl _ _ | refine Below.drew ?_ | refine Below.alloc ?_ (by first | exact Nat.le_refl _ | (simp; done) | (simp; omega)) _))) ⟨w.heap.size + 1, 0, none⟩ 1 1 n.cs (by rfl) (by rfl) (World.news_of_block (cs := #[.int .i64 n.kind, .int .i64 n.v.t, .int .i64 n.v.n, .string n.v.s, .bool n.v.b, .int .i64 n.v.c, .int .i64 n.r, .int .i64 n.c, .int .i64 n.t, .int .i64 n.l, .int .i64 n.b, .int .i64 n.q, .int .i64 n.op, .string n.name, .int .i64 n.args]) (t := 47) (fr := (0, 0)) hvg) (by simp [NL.cs, Value.oneCell']) (by omega) (by unfold maxLen; omega) (by omega) (by simp; omega) (w.heap.size + 2) (by simp) ?_; intro g cap5 w5 hown5 hgrow5 hat5 hlt5; have g5 : w5.cell? ⟨R, 14, none⟩ = some (.slice B L cap') := (hgrow5.cell_far ⟨R, 14, none⟩ (by simp; omega) (fun e => by have := hrow R (hNb.symm.trans e.symm); omega)).trans c2; have q5 : w5.frozen? ⟨R, 14, none⟩ = false := (hgrow5.frozen_far ⟨R, 14, none⟩ (by simp; omega) (fun e => by have := hrow R (hNb.symm.trans e.symm); omega)).trans f2)
  all_goals first | go_end0 | refine bodyPost_ret (results_none rfl _ _ _) rfl ?_
  all_goals (
    have hE := hEnd _ _ _ _ (by repeat (first | exact Below.refl _ _ | refine Below.drew ?_ | refine Below.alloc ?_ (by first | exact Nat.le_refl _ | (simp; done) | (simp; omega)) _)) (by simp) (hNb ▸ hgrow5) hown5 (hNb ▸ hat5) hlt5
    exact ⟨hE.1, rfl, hE.2⟩)
theorem padd (tv : TV) (R : Nat) (s : PS) (n : NL) (a : Int) (w : World) (hR : RSt tv R w s) : Calls Tryz.prog 127 #[.pointer (some ⟨R, 0, none⟩), .agg #[.int .i64 n.kind, .int .i64 n.v.t, .int .i64 n.v.n, .string n.v.s, .bool n.v.b, .int .i64 n.v.c, .int .i64 n.r, .int .i64 n.c, .int .i64 n.t, .int .i64 n.l, .int .i64 n.b, .int .i64 n.q, .int .i64 n.op, .string n.name, .int .i64 n.args], .int .i64 a] w fun e w' => RRes tv R w (s.add n a) e w' := by
  have hnl : s.nodes.length ≤ 1024 := by obtain ⟨A, cap, N, h⟩ := hR; exact h.nl
  unfold PS.add
  by_cases hn : s.nodes.length = 1024
  · rw [if_pos hn]; exact padd_no tv R s n a hn w hR
  · rw [if_neg hn]; exact padd_yes tv R s n a (by omega) w hR
theorem pop (tv : TV) (R : Nat) (s : PS) (o a : Int) (w : World) (hR : RSt tv R w s) : Calls Tryz.prog 96 #[.pointer (some ⟨R, 0, none⟩), .int .i64 o, .int .i64 a] w fun e w' => RRes tv R w (s.add (opN o) a) e w' := by
  have C := padd tv R s (opN o) a w hR
  simp only [opN, vl0] at C
  have hN : opN o = ⟨4, ⟨0, 0, ⟨#[]⟩, false, 0⟩, 0, 0, 0, 0, 0, 0, o, ⟨#[]⟩, 0⟩ := rfl
  rw [hN]
  clear hR hN
  generalize s.add _ a = q at C ⊢
  go_enter Tryz.func96, Tryz.ntmps96
  go_wp2_with fail
  refine C.mono ?_
  rintro e w1 h
  cases q with
  | ok s' =>
    obtain ⟨h1, rfl, h2⟩ := h
    go_wp2
    first | go_end0 | refine bodyPost_ret (results_none rfl _ _ _) rfl ?_
    exact ⟨h1, rfl, h2⟩
  | bad er b =>
    obtain ⟨h1, rfl⟩ := h
    exact ⟨rfl, h1, rfl⟩
theorem pbegin (tv : TV) (R : Nat) (s : PS) (w : World) (hR : RSt tv R w s) : Calls Tryz.prog 145 #[.pointer (some ⟨R, 0, none⟩)] w fun e w' => RRes tv R w s.opens e w' := by
  have CI := pis tv R s [40] w hR
  have hlt := hR.lt
  unfold PS.opens
  cases hi : s.is [40] with
  | false =>
    rw [if_pos rfl]
    rw [hi] at CI
    have CF := pfail tv R s w hR
    clear hR hi
    go_enter Tryz.func145, Tryz.ntmps145
    go_wp2_with fail
    refine CI.mono ?_
    rintro e w1 ⟨rfl, rfl⟩
    go_wp2_with fail
    refine CF.mono ?_
    rintro e w2 ⟨h1, rfl⟩
    exact ⟨rfl, h1, rfl⟩
  | true =>
    rw [if_neg (by simp)]
    rw [hi] at CI
    have hR0 := hR
    obtain ⟨A, cap, N, h⟩ := hR
    have c2 : w.cell? ⟨R, 2, none⟩ = some (.int .i64 s.now.place) := by rw [cell_of_row w R 2 _ _ _ h.blk]; rfl
    have c13 : w.cell? ⟨R, 13, none⟩ = some (.int .i64 s.opn) := by rw [cell_of_row w R 13 _ _ _ h.blk]; rfl
    by_cases h32 : s.opn = 32
    · rw [if_pos h32]
      rw [h32] at c13
      clear h hR0
      go_enter Tryz.func145, Tryz.ntmps145
      go_wp2_with fail
      refine CI.mono ?_
      rintro e w1 ⟨rfl, rfl⟩
      go_wp2
      exact ⟨rfl, KeepR.refl hlt, rfl⟩
    · rw [if_neg h32]
      have f13 : w.frozen? ⟨R, 13, none⟩ = false := by simp [World.frozen?, h.blk]
      have ho1 := h.o1
      have ho2 := h.o2
      have hwr : IntKind.i64.wrap (s.opn + 1) = s.opn + 1 := IntWalk.i64_in _ (by omega)
      have hb : Below R w (w.setCell ⟨R, 13, none⟩ (.int .i64 (s.opn + 1))) := (Below.refl _ _).setCell (p := ⟨R, 13, none⟩) (Nat.le_refl _) _
      have hblk := set15_13 (a := .int .i64 (s.opn + 1)) h.blk
      have hR1 : RSt tv R (w.setCell ⟨R, 13, none⟩ (.int .i64 (s.opn + 1))) { s with opn := s.opn + 1 } := ⟨A, cap, N, hblk, h.rest.below hb, h.room, own_only h.nodes fun k hk => set_other (by omega), by simp; omega, by simp; omega, h.nl, h.rl, h.wf, h.tab.below hb⟩
      have hk1 : KeepR R w (w.setCell ⟨R, 13, none⟩ (.int .i64 (s.opn + 1))) := KeepR.only hb (fun k hk => set_other hk) (by rw [h.nown]; unfold nown; rw [cell_of_row _ R 14 _ _ _ hblk]; rfl)
      have CS := pstep tv R { s with opn := s.opn + 1 } _ hR1
      have hne : (s.opn == 32) = false := by simp [h32]
      clear h hR0 hR1 hb hblk h32
      go_enter Tryz.func145, Tryz.ntmps145
      go_wp2_with fail
      refine CI.mono ?_
      rintro e w1 ⟨rfl, rfl⟩
      go_wp2_with fail
      refine CS.mono ?_
      rintro e w2 ⟨rfl, h1, h2⟩
      go_wp2
      first | go_end0 | refine bodyPost_ret (results_none rfl _ _ _) rfl ?_
      exact ⟨hk1.trans h2, rfl, h1⟩
theorem pend (tv : TV) (R : Nat) (s : PS) (ho : 1 ≤ s.opn) (w : World) (hR : RSt tv R w s) : Calls Tryz.prog 146 #[.pointer (some ⟨R, 0, none⟩)] w fun e w' => RRes tv R w s.closes e w' := by
  have CI := pis tv R s [41] w hR
  unfold PS.closes
  cases hi : s.is [41] with
  | false =>
    rw [if_pos rfl]
    rw [hi] at CI
    have CF := pfail tv R s w hR
    clear hR hi
    go_enter Tryz.func146, Tryz.ntmps146
    go_wp2_with fail
    refine CI.mono ?_
    rintro e w1 ⟨rfl, rfl⟩
    go_wp2_with fail
    refine CF.mono ?_
    rintro e w2 ⟨h1, rfl⟩
    exact ⟨rfl, h1, rfl⟩
  | true =>
    rw [if_neg (by simp)]
    rw [hi] at CI
    obtain ⟨A, cap, N, h⟩ := hR
    have c13 : w.cell? ⟨R, 13, none⟩ = some (.int .i64 s.opn) := by rw [cell_of_row w R 13 _ _ _ h.blk]; rfl
    have f13 : w.frozen? ⟨R, 13, none⟩ = false := by simp [World.frozen?, h.blk]
    have ho2 := h.o2
    have hwr : IntKind.i64.wrap (s.opn - 1) = s.opn - 1 := IntWalk.i64_in _ (by omega)
    have hb : Below R w (w.setCell ⟨R, 13, none⟩ (.int .i64 (s.opn - 1))) := (Below.refl _ _).setCell (p := ⟨R, 13, none⟩) (Nat.le_refl _) _
    have hblk := set15_13 (a := .int .i64 (s.opn - 1)) h.blk
    have hR1 : RSt tv R (w.setCell ⟨R, 13, none⟩ (.int .i64 (s.opn - 1))) { s with opn := s.opn - 1 } := ⟨A, cap, N, hblk, h.rest.below hb, h.room, own_only h.nodes fun k hk => set_other (by omega), by simp; omega, by simp; omega, h.nl, h.rl, h.wf, h.tab.below hb⟩
    have hk1 : KeepR R w (w.setCell ⟨R, 13, none⟩ (.int .i64 (s.opn - 1))) := KeepR.only hb (fun k hk => set_other hk) (by rw [h.nown]; unfold nown; rw [cell_of_row _ R 14 _ _ _ hblk]; rfl)
    have CS := pstep tv R { s with opn := s.opn - 1 } _ hR1
    clear h hR1 hb hblk
    go_enter Tryz.func146, Tryz.ntmps146
    go_wp2_with fail
    refine CI.mono ?_
    rintro e w1 ⟨rfl, rfl⟩
    go_wp2_with fail
    refine CS.mono ?_
    rintro e w2 ⟨rfl, h1, h2⟩
    go_wp2
    first | go_end0 | refine bodyPost_ret (results_none rfl _ _ _) rfl ?_
    exact ⟨hk1.trans h2, rfl, h1⟩
end Go.Proofs.YtfbkoieodflcpaaGreatDoor
