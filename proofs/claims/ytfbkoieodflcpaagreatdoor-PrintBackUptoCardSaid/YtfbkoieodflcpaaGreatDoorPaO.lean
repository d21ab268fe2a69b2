/-
  slices.AppendSeq, Collect at tokens.
-/
import Derived.Test.YtfbkoieodflcpaaGreatDoorMg3
import Derived.Test.YtfbkoieodflcpaaGreatDoorRows
import Derived.Test.YtfbkoieodflcpaaGreatDoorMg0
import Derived.Test.YtfbkoieodflcpaaGreatDoorProg
import Derived.Test.YtfbkoieodflcpaaGreatDoorShelf
import Derived.Test.YtfbkoieodflcpaaGreatDoorMg4
import Derived.Test.YtfbkoieodflcpaaGreatDoorAddrC
import Derived.Test.YtfbkoieodflcpaaGreatDoorMg6
import Derived.Test.YtfbkoieodflcpaaGreatDoorValA
import Derived.Test.YtfbkoieodflcpaaGreatDoorValB
import Derived.Test.YtfbkoieodflcpaaGreatDoorMg9
import Derived.Test.YtfbkoieodflcpaaGreatDoorMg26
import Derived.Test.YtfbkoieodflcpaaGreatDoorMg11
import Derived.Test.YtfbkoieodflcpaaGreatDoorLexWd
import Derived.Test.YtfbkoieodflcpaaGreatDoorLexS
import Derived.Test.YtfbkoieodflcpaaGreatDoorDParse
import Derived.Test.YtfbkoieodflcpaaGreatDoorLexF
import Derived.Test.YtfbkoieodflcpaaGreatDoorMg15
import Derived.Test.YtfbkoieodflcpaaGreatDoorLexI
import Derived.RangeFuncBox
import Derived.RangeFuncNested
import Derived.RangeFuncLeaves
import Derived.Shelf.Abstract
import Derived.WalkKit
import Derived.OwnWalkIn
import Derived.TacticsInMore
import Derived.LoopNIn
import Derived.LoopIn
import Derived.Maps.AppendAt
import Derived.Maps.OwnIn
import Derived.Lib.ItoaMem
import Derived.Lib.TrimByte
import Derived.Lib.IndexLaws
import Derived.Lib.SlTrimSet
import Derived.Lib.ParseIntB
import Derived.ProofKit
import Derived.OpenShut
import Derived.Carry
import Derived.ChangeSame
import Derived.Lib.Hide
import Derived.Deep.Draws
import Derived.Shelf.Strings.Builder1
import Derived.Shelf.Strings.Builder2
import Derived.Shelf.Strings.Trim
import Derived.Shelf.Small.Utf8
import Derived.Shelf.Small.Strs
import Derived.Shelf.Small.Wraps
import Derived.Shelf.Strings.BuilderF
import Derived.Shelf.Strings.BuilderK
import Derived.Shelf.Utf8.RuneCount
import Derived.Shelf.Strconv.Itoa0
import Derived.Shelf.Strconv.Itoa1
import Derived.Shelf.LaysM
import Derived.Shelf.Strconv.Itoa2
import Derived.Shelf.Strconv.Itoa3
import Derived.Ground.MpProg
import Derived.Shelf.Pu.ParseUintPublic10
import Derived.Shelf.Strings.Search1
import Derived.Shelf.Strings.Search2
import Derived.Shelf.Strings.Search3
import Derived.Shelf.Strings.Cut
import Derived.Shelf.Strings.Count
import Derived.Shelf.Strings.Shaped
import Derived.Shelf.Strings.Prefix
import Derived.Shelf.Strings.Split
import Derived.Shelf.Strings.Replace
import Derived.Shelf.Strings.SplitShaped
import Derived.Shelf.Unicode.Decode
import Derived.Shelf.Strings.Runes
import Derived.Shelf.Strings.RuneCount
import Derived.Shelf.Strings.AsciiSet
import Derived.Shelf.Unicode.DecodeSlow
import Derived.Shelf.Unicode.DecodeAny
import Derived.Shelf.Unicode.DecodeLast
import Derived.WalkSpells
import Derived.WalkLawsBesides
import Derived.StillTactics
import Derived.Laws.Pointers
import Derived.Deep.RegionHeld3
import Derived.Deep.QuietTactic
import Derived.BigQuiet
import Derived.RowKit3
import Derived.Lib.OthersKept
import Derived.OwnWalk
import Derived.Lib.ItoaNum
import Derived.Shelf.Strings.SlTrimAscii
import Derived.Lib.SmallJoins
import Derived.Maps.OwnSet
namespace Go.Proofs.YtfbkoieodflcpaaGreatDoor
open Go.RowKit Go.Shelf

attribute [local go_sem] Oper.semAt_some

set_option maxRecDepth 100000 in
set_option maxHeartbeats 4000000 in
theorem tappend (l : List UInt8) (hl : l.length ≤ 1400000000000) (Bt : Nat) (w : World) (hBt : w.heap[Bt]? = some (.cells #[.string ⟨l.toArray⟩] 9 (0, 0))) : Calls Tryz.prog 47 #[.slice none 0 0, .func (.func 48) #[] #[.pointer (some ⟨Bt, 0, none⟩)]] w fun e w' => (∃ v, e = .returned v ∧ OwnT w' w.heap.size v (lexL l)) ∧ Below w.heap.size w w' := by
  obtain ⟨i0, hi, hz0, hz1, hz2⟩ := info_parts tok_info
  have hbt := lt_of_heap hBt
  refine (callsIn_wide (n := 7)).1 ?_
  refine callsIn_of_wp_marks Tryz.func47 rfl trivial ?_ rfl
  simp only [Tryz.ntmps47, List.size_toArray, List.length_cons, List.length_nil, Nat.reduceAdd, Nat.reduceSub, Array.replicate_succ, Array.replicate_zero, List.push_toArray, List.append_toArray, List.nil_append, List.cons_append]
  gi_wp2
  have hbw : Below w.heap.size w (w.alloc (.cells #[.slice none 0 0] 74)) := (Below.refl _ w).alloc (Nat.le_refl _) _
  have g3 : Boxed (w.alloc (.cells #[.slice none 0 0] 74)) w.heap.size 74 (.slice none 0 0) := Boxed.new w 74 (.slice none 0 0)
  have g4 : (w.alloc (.cells #[.slice none 0 0] 74)).heap[Bt]? = some (.cells #[.string ⟨l.toArray⟩] 9 (0, 0)) := (hbw.block Bt hbt).trans hBt
  have hsz : (w.alloc (.cells #[.slice none 0 0] 74)).heap.size = w.heap.size + 1 := by simp
  have ho0 : ownOf (w.alloc (.cells #[.slice none 0 0] 74)) w.heap.size = none := by unfold ownOf; rw [g3.cell]; rfl
  have hST : (74 : TypeId) ≠ 77 := by decide
  have hI : OwnFrom (w.alloc (.cells #[.slice none 0 0] 74)).heap.size (fun (pre : List Tok) (W : World) => (∃ v, Boxed W w.heap.size 74 v ∧ W.ownsRow w.heap.size 77 11 v pre.length (tRow pre) ∧ True) ∧ Below w.heap.size w W) :=
    OwnFrom.and (Own.from (holdsRow_own w.heap.size w.heap.size 74 77 11 (fun pre : List Tok => pre.length) (fun pre => tRow pre) (fun _ _ => True)) _) (ownFrom_below (Nat.le_refl _) (by omega))
  refine wpIn_rangeFunc_ownH rfl (by omega) (gf := 48) (lb := #[.pointer (some ⟨Bt, 0, none⟩)]) rfl trivial (enters_of Tryz.func48 (by kernel_rfl) rfl)
    (lex_stops (7 - 1) (by omega) Bt w.heap.size w.heap.size l (by omega) 9 (by omega) (w.alloc (.cells #[.slice none 0 0] 74)) (by omega) (by omega) (fun k hk => by rw [ho0] at hk; cases hk) (by rw [ho0]; simp) g4)
    KpO.trans (KpO.putObj (by omega) (by omega)) (Below.refl _ _) (fun _ => rfl)
    (fun pre W => (∃ v, Boxed W w.heap.size 74 v ∧ W.ownsRow w.heap.size 77 11 v pre.length (tRow pre) ∧ True) ∧ Below w.heap.size w W)
    (fun _ _ _ => False)
    hI (fun _ _ _ _ _ hs _ _ => hs)
    ⟨⟨_, g3, World.ownsRow_nil _ _ _ _, trivial⟩, hbw⟩
    (fun x a' W => ∃ Bx, W.heap[Bx]? = some (.cells #[.int .i64 x.kind, .int .i64 x.place, .int .i64 x.num, .string x.str, .int .i64 x.r, .int .i64 x.c, .int .i64 x.t, .int .i64 x.l, .int .i64 x.b, .int .i64 x.q, .int .i64 x.code] 77 (0, 0)) ∧ a' = { tmps := #[.slice none 0 0, .func (.func 48) #[] #[.pointer (some ⟨Bt, 0, none⟩)], .pointer (some ⟨w.heap.size, 0, none⟩), undef, .slice none 0 0, .pointer (some ⟨Bx, 0, none⟩), .func (.func 48) #[] #[.pointer (some ⟨Bt, 0, none⟩)], .agg #[.int .i64 x.kind, .int .i64 x.place, .int .i64 x.num, .string x.str, .int .i64 x.r, .int .i64 x.c, .int .i64 x.t, .int .i64 x.l, .int .i64 x.b, .int .i64 x.q, .int .i64 x.code], undef, undef, undef, undef, undef], defers := [] })
    (fun x a' => fun s A B row hs hg hr => by
      obtain ⟨Bx, hx, e⟩ := hs
      exact ⟨Bx, grownBy_keeps_cells hg (fun r e => (hr r e).2) hx rfl ▸ hx, e⟩) ?assign ?body ?done ?stop
  case assign =>
    rintro l₀ pre x W K hi hK
    obtain ⟨v, hv, _⟩ := hi.1
    have hBl := hv.lt
    have hsW := hi.2.size
    simp only [Tok.enc]
    gi_wp2
    exact hK _ _ ((KeepsOthers.alloc _ _).from _) (KpO.of_below ((Below.refl _ _).alloc (Nat.le_refl _) _) hBl hsW) (hI.alloc _ hi) ⟨W.heap.size, heap_alloc_new W _, rfl⟩
  case body =>
    rintro l₀ pre x a' W hl0 _ ⟨⟨v, hv, hrow, _⟩, hB⟩ ⟨Bx, hx, rfl⟩ hlt
    have hvc := hv.cell
    have cx0 : W.cell? ⟨Bx, 0, none⟩ = some (.int .i64 x.kind) := by rw [cell_of_row W Bx 0 _ _ _ hx]; rfl
    have cx1 : W.cell? ⟨Bx, 1, none⟩ = some (.int .i64 x.place) := by rw [cell_of_row W Bx 1 _ _ _ hx]; rfl
    have cx2 : W.cell? ⟨Bx, 2, none⟩ = some (.int .i64 x.num) := by rw [cell_of_row W Bx 2 _ _ _ hx]; rfl
    have cx3 : W.cell? ⟨Bx, 3, none⟩ = some (.string x.str) := by rw [cell_of_row W Bx 3 _ _ _ hx]; rfl
    have cx4 : W.cell? ⟨Bx, 4, none⟩ = some (.int .i64 x.r) := by rw [cell_of_row W Bx 4 _ _ _ hx]; rfl
    have cx5 : W.cell? ⟨Bx, 5, none⟩ = some (.int .i64 x.c) := by rw [cell_of_row W Bx 5 _ _ _ hx]; rfl
    have cx6 : W.cell? ⟨Bx, 6, none⟩ = some (.int .i64 x.t) := by rw [cell_of_row W Bx 6 _ _ _ hx]; rfl
    have cx7 : W.cell? ⟨Bx, 7, none⟩ = some (.int .i64 x.l) := by rw [cell_of_row W Bx 7 _ _ _ hx]; rfl
    have cx8 : W.cell? ⟨Bx, 8, none⟩ = some (.int .i64 x.b) := by rw [cell_of_row W Bx 8 _ _ _ hx]; rfl
    have cx9 : W.cell? ⟨Bx, 9, none⟩ = some (.int .i64 x.q) := by rw [cell_of_row W Bx 9 _ _ _ hx]; rfl
    have cx10 : W.cell? ⟨Bx, 10, none⟩ = some (.int .i64 x.code) := by rw [cell_of_row W Bx 10 _ _ _ hx]; rfl
    have hpl : pre.length ≤ l.length := by omega
    clear hx
    gi_wp2_with (gi_at_builtin; refine wpListIn_append_own_at _ rfl _ _ 74 rfl w.heap.size 77 i0 (.agg #[.int .i64 0, .int .i64 0, .int .i64 0, .string ⟨#[]⟩, .int .i64 0, .int .i64 0, .int .i64 0, .int .i64 0, .int .i64 0, .int .i64 0, .int .i64 0]) 11 96 Tryz.underlying74 hi hz0 hz1 hz2 rfl (by decide) _ _ _ rfl (hrow.alloc _) ⟨W.heap.size, 0, none⟩ 1 1 x.cs rfl rfl (tget (heap_alloc_new W _)) (by simp [Tok.cs, Value.oneCell']) (by unfold maxLen; omega) (by omega) (by have := hB.size; simp; omega) ?_; intro v' w1 hown' hgrow _ hat; obtain ⟨g', cap', rfl⟩ := ownsRow_succ hown'; obtain ⟨hv1, hv2, hr2, hk2, hb2⟩ := hv.appended hST hrow hB.size (by omega) hown' hgrow; have hc1 := hv1.cell; have hf1 := hv1.frozen)
    have hKp : KpO w.heap.size w.heap.size W (w1.setCell ⟨w.heap.size, 0, none⟩ (.slice (some ⟨g', 0, none⟩) (pre.length + 1) cap')) := by
      refine ⟨hb2, ?_, fun k cs t fr hk hne how => ?_⟩
      · have e1 : ownOf W w.heap.size = v.ownBlock := by unfold ownOf; rw [hv.cell]
        have e2 : ownOf (w1.setCell ⟨w.heap.size, 0, none⟩ (.slice (some ⟨g', 0, none⟩) (pre.length + 1) cap')) w.heap.size = some g' := by unfold ownOf; rw [hv2.cell]; rfl
        rcases hat with h | h
        · exact .inl (by rw [e1, e2]; exact h)
        · refine .inr ⟨g', e2, ?_, ?_⟩
          · have h9 : g' = W.heap.size + 1 := by simpa [Value.ownBlock] using h
            omega
          · exact (hr2.lt g' rfl).2
      · have e1 : ownOf W w.heap.size = v.ownBlock := by unfold ownOf; rw [hv.cell]
        rw [e1] at how
        have h3 : w1.heap[k]? = some (.cells cs t fr) := (hgrow.block k (by have := lt_of_heap hk; simp; omega) (fun e => how e.symm)).trans ((Lib.alloc_old _ _ _ (lt_of_heap hk)).trans hk)
        exact (Below.heap_setCell _ _ _ _ (by dsimp only; omega)).trans h3
    refine ⟨hk2.from _, hKp, ⟨_, hv2, ?_⟩, hB.trans hb2⟩
    rw [tRow_app, tRow_one, List.length_append]; exact ⟨hr2, trivial⟩
  case done =>
    rintro D ys W hD rfl ⟨⟨v, hv, hrow, _⟩, hB⟩ hK
    have hvc := hv.cell
    gi_wp2
    refine ⟨by simp, .inl ⟨_, _, rfl, run_takeDeferred hK, ?_⟩⟩
    exact ⟨_, results_tmp rfl _ _ _, ⟨v, rfl, ownsRow_putObj hrow _ hK rfl⟩, hB.trans (belowK_b (w := w) (Nat.le_refl _) W D _ _ (by simp at hD; omega) hK rfl rfl)⟩
  case stop =>
    rintro D c pre W _ _ h _
    exact h.elim
theorem tcollect (l : List UInt8) (hl : l.length ≤ 1400000000000) (Bt : Nat) (w : World) (hBt : w.heap[Bt]? = some (.cells #[.string ⟨l.toArray⟩] 9 (0, 0))) : Calls Tryz.prog 22 #[.func (.func 48) #[] #[.pointer (some ⟨Bt, 0, none⟩)]] w fun e w' => (∃ v, e = .returned v ∧ OwnT w' w.heap.size v (lexL l)) ∧ Below w.heap.size w w' := by
  have C := tappend l hl Bt w hBt
  go_enter Tryz.func22, Tryz.ntmps22
  go_wp2_with fail
  refine C.mono ?_
  rintro e w1 ⟨⟨v, rfl, hown⟩, hb⟩
  go_wp2
  go_ret
  exact ⟨⟨v, rfl, hown⟩, hb⟩
end Go.Proofs.YtfbkoieodflcpaaGreatDoor
