/-
  oriellaw04.all: the tokens that a range tells.
-/
import Derived.Test.YtiekhbagpmnboaaGreatDoorPrintL
import Derived.Test.YtiekhbagpmnboaaGreatDoorNumL
import Derived.Test.YtiekhbagpmnboaaGreatDoorRows
import Derived.Test.YtiekhbagpmnboaaGreatDoorBase
import Derived.Test.YtiekhbagpmnboaaGreatDoorProg
import Derived.Test.YtiekhbagpmnboaaGreatDoorShelf
import Derived.Test.YtiekhbagpmnboaaGreatDoorCutW
import Derived.Test.YtiekhbagpmnboaaGreatDoorAddrC
import Derived.Test.YtiekhbagpmnboaaGreatDoorNames
import Derived.Test.YtiekhbagpmnboaaGreatDoorParseW
import Derived.Test.YtiekhbagpmnboaaGreatDoorPRect
import Derived.Test.YtiekhbagpmnboaaGreatDoorDecA
import Derived.Test.YtiekhbagpmnboaaGreatDoorValA
import Derived.Test.YtiekhbagpmnboaaGreatDoorValB
import Derived.Test.YtiekhbagpmnboaaGreatDoorValD
import Derived.Test.YtiekhbagpmnboaaGreatDoorLexP
import Derived.Test.YtiekhbagpmnboaaGreatDoorLexW
import Derived.Test.YtiekhbagpmnboaaGreatDoorRefName
import Derived.Test.YtiekhbagpmnboaaGreatDoorLexR
import Derived.Test.YtiekhbagpmnboaaGreatDoorLexWd
import Derived.Test.YtiekhbagpmnboaaGreatDoorLexSg
import Derived.Test.YtiekhbagpmnboaaGreatDoorLexQ
import Derived.Test.YtiekhbagpmnboaaGreatDoorMg21
import Derived.Test.YtiekhbagpmnboaaGreatDoorLexQt
import Derived.Test.YtiekhbagpmnboaaGreatDoorLexS
import Derived.Test.YtiekhbagpmnboaaGreatDoorDDig
import Derived.Test.YtiekhbagpmnboaaGreatDoorDParse
import Derived.Test.YtiekhbagpmnboaaGreatDoorLexF
import Derived.Test.YtiekhbagpmnboaaGreatDoorRParse
import Derived.Test.YtiekhbagpmnboaaGreatDoorRPRect
import Derived.Test.YtiekhbagpmnboaaGreatDoorLexN
import Derived.Test.YtiekhbagpmnboaaGreatDoorMg30
import Derived.Test.YtiekhbagpmnboaaGreatDoorMg31
import Derived.Test.YtiekhbagpmnboaaGreatDoorRDPar
import Derived.Test.YtiekhbagpmnboaaGreatDoorRDParB
import Derived.Test.YtiekhbagpmnboaaGreatDoorRDJoin
import Derived.Test.YtiekhbagpmnboaaGreatDoorValK
import Derived.Test.YtiekhbagpmnboaaGreatDoorLexD
import Derived.Test.YtiekhbagpmnboaaGreatDoorLexA
import Derived.Test.YtiekhbagpmnboaaGreatDoorLexB
import Derived.Test.YtiekhbagpmnboaaGreatDoorRowB
import Derived.Test.YtiekhbagpmnboaaGreatDoorMapK
import Derived.Test.YtiekhbagpmnboaaGreatDoorTokR
import Derived.Test.YtiekhbagpmnboaaGreatDoorLexC
import Derived.Test.YtiekhbagpmnboaaGreatDoorLexI
import Derived.RangeFuncBox
import Derived.RangeFuncNested
import Derived.RangeFuncLeaves
import Derived.Shelf.Abstract
import Derived.WalkKit
import Derived.OwnWalkIn
import Derived.TacticsInMore
import Derived.LoopNIn
import Derived.LoopIn
import Derived.Maps.AppendAt
import Derived.Maps.OwnIn
import Derived.Lib.ItoaMem
import Derived.Lib.TrimByte
import Derived.Lib.IndexLaws
import Derived.Lib.SlTrimSet
import Derived.Lib.ParseIntB
import Derived.ProofKit
import Derived.OpenShut
import Derived.Carry
import Derived.ChangeSame
import Derived.Lib.Hide
import Derived.Deep.Draws
import Derived.Shelf.Strings.Builder1
import Derived.Shelf.Strings.Trim
import Derived.Shelf.Small.Utf8
import Derived.Shelf.Small.Strs
import Derived.Shelf.Small.Wraps
import Derived.Shelf.Strings.BuilderF
import Derived.Shelf.Strings.BuilderK
import Derived.Shelf.Strconv.Itoa0
import Derived.Shelf.Strconv.Itoa1
import Derived.Shelf.LaysM
import Derived.Shelf.Strconv.Itoa2
import Derived.Shelf.Strconv.Itoa3
import Derived.Ground.MpProg
import Derived.Shelf.Pu.ParseUintPublic10
import Derived.Shelf.Strings.Search1
import Derived.Shelf.Strings.Search2
import Derived.Shelf.Strings.Cut
import Derived.Shelf.Strings.Shaped
import Derived.Shelf.Strings.Prefix
import Derived.Shelf.Strings.Runes
import Derived.Shelf.Strings.AsciiSet
import Derived.Shelf.Unicode.DecodeSlow
import Derived.WalkSpells
import Derived.WalkLawsBesides
import Derived.StillTactics
import Derived.Laws.Pointers
import Derived.Deep.RegionHeld3
import Derived.Deep.QuietTactic
import Derived.BigQuiet
import Derived.RowKit3
import Derived.Lib.OthersKept
import Derived.OwnWalk
import Derived.Lib.ItoaNum
import Derived.Shelf.Strings.SlTrimAscii
import Derived.Lib.SmallJoins
import Derived.Maps.OwnSet
namespace Go.Proofs.YtiekhbagpmnboaaGreatDoor
open Go.RowKit Go.Shelf

attribute [local go_sem] Oper.semAt_some

theorem eq_nilf (b : Nat) (W : World) : (binOp BinOp.eql 25 (.func (.func 18) #[] #[.pointer (some ⟨b, 0, none⟩)]) .nilFunc).run Tryz.prog W = .ok (.bool false) W := by kernel_rfl
attribute [local go_sem] eq_nilf
set_option maxRecDepth 100000 in
set_option maxHeartbeats 4000000 in
theorem all_any (l : List UInt8) (hl : l.length ≤ 1400000000000) (most : Int) (hm : most < 0 ∨ ((lexL l).length : Int) < most) (w : World) : Calls Tryz.prog 22 #[.string ⟨l.toArray⟩, .int .i64 most] w fun e w' => (∃ v, e = .returned v ∧ OwnT w' w.heap.size v (lexL l)) ∧ Below w.heap.size w w' := by
  obtain ⟨i0, hi, hz0, hz1, hz2⟩ := info_parts tok_info
  have hm0 : (most == 0) = false := by simp; omega
  refine (callsIn_wide (n := 7)).1 ?_
  refine callsIn_of_wp_marks Tryz.func22 rfl trivial ?_ rfl
  simp only [Tryz.ntmps22, List.size_toArray, List.length_cons, List.length_nil, Nat.reduceAdd, Nat.reduceSub, Array.replicate_succ, Array.replicate_zero, List.push_toArray, List.append_toArray, List.nil_append, List.cons_append]
  gi_wp2_with fail
  refine ⟨trivial, ?_⟩
  gi_at_call 10
  refine (callsIn_wide.2 (lex_any l _)).mono ?_
  rintro e w1 ⟨rfl, hw1⟩
  subst hw1
  gi_wp2
  obtain ⟨W0, hW0⟩ : ∃ W0, (((((w.alloc (.cells #[.string ⟨l.toArray⟩] 9)).alloc (.cells #[.int .i64 most] 3)).alloc (.cells #[.slice none 0 0] 22)).alloc (.cells #[.slice none 0 0] 22)).alloc (.cells #[.string ⟨l.toArray⟩] 9)) = W0 := ⟨_, rfl⟩
  have hsz : W0.heap.size = w.heap.size + 5 := by rw [← hW0]; simp
  have hbw : Below w.heap.size w W0 := by rw [← hW0]; exact (((((Below.refl _ w).alloc (Nat.le_refl _) _).alloc (by simp) _).alloc (by first | (simp; done) | (simp; omega)) _).alloc (by first | (simp; done) | (simp; omega)) _).alloc (by first | (simp; done) | (simp; omega)) _
  have g0 : W0.heap[w.heap.size]? = some (.cells #[.string ⟨l.toArray⟩] 9 (0, 0)) := by rw [← hW0]; exact (Lib.alloc_old _ _ _ (by first | (simp; done) | (simp; omega))).trans ((Lib.alloc_old _ _ _ (by first | (simp; done) | (simp; omega))).trans ((Lib.alloc_old _ _ _ (by first | (simp; done) | (simp; omega))).trans ((Lib.alloc_old _ _ _ (by simp)).trans (heap_alloc_new w _))))
  have g1 : W0.heap[w.heap.size + 1]? = some (.cells #[.int .i64 most] 3 (0, 0)) := by
    have := heap_alloc_new (w.alloc (.cells #[.string ⟨l.toArray⟩] 9)) (.cells #[.int .i64 most] 3)
    rw [World.size_alloc] at this
    rw [← hW0]; exact (Lib.alloc_old _ _ _ (by first | (simp; done) | (simp; omega))).trans ((Lib.alloc_old _ _ _ (by first | (simp; done) | (simp; omega))).trans ((Lib.alloc_old _ _ _ (by simp)).trans this))
  have g2 : Boxed W0 (w.heap.size + 1 + 1) 22 (.slice none 0 0) := by
    have := heap_alloc_new ((w.alloc (.cells #[.string ⟨l.toArray⟩] 9)).alloc (.cells #[.int .i64 most] 3)) (.cells #[.slice none 0 0] 22)
    simp only [World.size_alloc] at this
    rw [← hW0]; exact (Lib.alloc_old _ _ _ (by first | (simp; done) | (simp; omega))).trans ((Lib.alloc_old _ _ _ (by simp)).trans this)
  have g3 : Boxed W0 (w.heap.size + 1 + 1 + 1) 22 (.slice none 0 0) := by
    have := heap_alloc_new (((w.alloc (.cells #[.string ⟨l.toArray⟩] 9)).alloc (.cells #[.int .i64 most] 3)).alloc (.cells #[.slice none 0 0] 22)) (.cells #[.slice none 0 0] 22)
    simp only [World.size_alloc] at this
    rw [← hW0]; exact (Lib.alloc_old _ _ _ (by simp)).trans this
  have g4 : W0.heap[w.heap.size + 1 + 1 + 1 + 1]? = some (.cells #[.string ⟨l.toArray⟩] 9 (0, 0)) := by
    have := heap_alloc_new ((((w.alloc (.cells #[.string ⟨l.toArray⟩] 9)).alloc (.cells #[.int .i64 most] 3)).alloc (.cells #[.slice none 0 0] 22)).alloc (.cells #[.slice none 0 0] 22)) (.cells #[.string ⟨l.toArray⟩] 9)
    simp only [World.size_alloc] at this
    rw [← hW0]; exact this
  rw [hW0]
  clear hW0
  have ho0 : ownOf W0 (w.heap.size + 1 + 1 + 1) = none := by unfold ownOf; rw [g3.cell]; rfl
  have hST : (22 : TypeId) ≠ 33 := by decide
  have hSS : (9 : TypeId) ≠ 33 := by decide
  have hIN : (3 : TypeId) ≠ 33 := by decide
  have hI : OwnFrom W0.heap.size (fun (pre : List Tok) (W : World) => ((∃ v, Boxed W (w.heap.size + 1 + 1 + 1) 22 v ∧ W.ownsRow w.heap.size 33 11 v pre.length (tRow pre) ∧ True) ∧ (Boxed W w.heap.size 9 (.string ⟨l.toArray⟩) ∧ Boxed W (w.heap.size + 1) 3 (.int .i64 most) ∧ Boxed W (w.heap.size + 1 + 1) 22 (.slice none 0 0))) ∧ Below w.heap.size w W) :=
    OwnFrom.and (Own.from (fun (s : List Tok) A B row hs hg hr => ⟨holdsRow_own w.heap.size (w.heap.size + 1 + 1 + 1) 22 33 11 (fun pre : List Tok => pre.length) (fun pre => tRow pre) (fun _ _ => True) s A B row hs.1 hg hr, boxed_own w.heap.size 9 (fun _ : List Tok => .string ⟨l.toArray⟩) s A B row hs.2.1 hg hr, boxed_own (w.heap.size + 1) 3 (fun _ : List Tok => .int .i64 most) s A B row hs.2.2.1 hg hr, boxed_own (w.heap.size + 1 + 1) 22 (fun _ : List Tok => .slice none 0 0) s A B row hs.2.2.2 hg hr⟩) _) (ownFrom_below (Nat.le_refl _) (by omega))
  refine wpIn_rangeFunc_ownH rfl (by omega) (gf := 18) (lb := #[.pointer (some ⟨w.heap.size + 1 + 1 + 1 + 1, 0, none⟩)]) rfl trivial (enters_of Tryz.func18 (by kernel_rfl) rfl)
    (lex_stops (7 - 1) (by omega) (w.heap.size + 1 + 1 + 1 + 1) w.heap.size (w.heap.size + 1 + 1 + 1) l (by omega) 9 (by omega) W0 (by omega) (by omega) (fun k hk => by rw [ho0] at hk; cases hk) (by rw [ho0]; simp) g4)
    KpO.trans (KpO.putObj (by omega) (by omega)) (Below.refl _ _) (fun _ => rfl)
    (fun pre W => ((∃ v, Boxed W (w.heap.size + 1 + 1 + 1) 22 v ∧ W.ownsRow w.heap.size 33 11 v pre.length (tRow pre) ∧ True) ∧ (Boxed W w.heap.size 9 (.string ⟨l.toArray⟩) ∧ Boxed W (w.heap.size + 1) 3 (.int .i64 most) ∧ Boxed W (w.heap.size + 1 + 1) 22 (.slice none 0 0))) ∧ Below w.heap.size w W)
    (fun _ pre _ => (pre.length : Int) = most)
    hI (fun _ _ _ _ _ hs _ _ => hs)
    ⟨⟨⟨_, g3, World.ownsRow_nil _ _ _ _, trivial⟩, g0, g1, g2⟩, hbw⟩
    (fun x a' W => ∃ Bx, W.heap[Bx]? = some (.cells #[.int .i64 x.kind, .int .i64 x.place, .int .i64 x.num, .string x.str, .int .i64 x.r, .int .i64 x.c, .int .i64 x.t, .int .i64 x.l, .int .i64 x.b, .int .i64 x.q, .int .i64 x.code] 33 (0, 0)) ∧ a' = { tmps := #[.string ⟨l.toArray⟩, .int .i64 most, .pointer (some ⟨w.heap.size, 0, none⟩), .pointer (some ⟨w.heap.size + 1, 0, none⟩), .pointer (some ⟨w.heap.size + 1 + 1, 0, none⟩), .pointer (some ⟨w.heap.size + 1 + 1 + 1, 0, none⟩), .func (.func 18) #[] #[.pointer (some ⟨w.heap.size + 1 + 1 + 1 + 1, 0, none⟩)], .pointer (some ⟨Bx, 0, none⟩), .string ⟨l.toArray⟩, .func (.func 18) #[] #[.pointer (some ⟨w.heap.size + 1 + 1 + 1 + 1, 0, none⟩)], .int .i64 most, .bool false, .bool false, .func (.func 18) #[] #[.pointer (some ⟨w.heap.size + 1 + 1 + 1 + 1, 0, none⟩)], .bool false, .bool false, undef, .func (.func 18) #[] #[.pointer (some ⟨w.heap.size + 1 + 1 + 1 + 1, 0, none⟩)], .agg #[.int .i64 x.kind, .int .i64 x.place, .int .i64 x.num, .string x.str, .int .i64 x.r, .int .i64 x.c, .int .i64 x.t, .int .i64 x.l, .int .i64 x.b, .int .i64 x.q, .int .i64 x.code], undef, undef, undef, undef, undef, undef, undef, undef, undef, undef, undef, undef, undef, undef, undef, undef, undef, undef], defers := [] })
    (fun x a' => fun s A B row hs hg hr => by
      obtain ⟨Bx, hx, e⟩ := hs
      exact ⟨Bx, grownBy_keeps_cells hg (fun r e => (hr r e).2) hx rfl ▸ hx, e⟩) ?assign ?body ?done ?stop
  case assign =>
    rintro l₀ pre x W K hi hK
    have hlt := hi.1.1
    obtain ⟨v, hv, _⟩ := hlt
    have hBl := hv.lt
    have hsW := hi.2.size
    simp only [Tok.enc]
    gi_wp2
    exact hK _ _ ((KeepsOthers.alloc _ _).from _) (KpO.of_below ((Below.refl _ _).alloc (Nat.le_refl _) _) hBl hsW) (hI.alloc _ hi) ⟨W.heap.size, heap_alloc_new W _, rfl⟩
  case body =>
    rintro l₀ pre x a' W hl0 _ ⟨⟨⟨v, hv, hrow, _⟩, n0, n1, n2⟩, hB⟩ ⟨Bx, hx, rfl⟩ hlt
    have hvc := hv.cell
    have cx0 : W.cell? ⟨Bx, 0, none⟩ = some (.int .i64 x.kind) := by rw [cell_of_row W Bx 0 _ _ _ hx]; rfl
    have cx1 : W.cell? ⟨Bx, 1, none⟩ = some (.int .i64 x.place) := by rw [cell_of_row W Bx 1 _ _ _ hx]; rfl
    have cx2 : W.cell? ⟨Bx, 2, none⟩ = some (.int .i64 x.num) := by rw [cell_of_row W Bx 2 _ _ _ hx]; rfl
    have cx3 : W.cell? ⟨Bx, 3, none⟩ = some (.string x.str) := by rw [cell_of_row W Bx 3 _ _ _ hx]; rfl
    have cx4 : W.cell? ⟨Bx, 4, none⟩ = some (.int .i64 x.r) := by rw [cell_of_row W Bx 4 _ _ _ hx]; rfl
    have cx5 : W.cell? ⟨Bx, 5, none⟩ = some (.int .i64 x.c) := by rw [cell_of_row W Bx 5 _ _ _ hx]; rfl
    have cx6 : W.cell? ⟨Bx, 6, none⟩ = some (.int .i64 x.t) := by rw [cell_of_row W Bx 6 _ _ _ hx]; rfl
    have cx7 : W.cell? ⟨Bx, 7, none⟩ = some (.int .i64 x.l) := by rw [cell_of_row W Bx 7 _ _ _ hx]; rfl
    have cx8 : W.cell? ⟨Bx, 8, none⟩ = some (.int .i64 x.b) := by rw [cell_of_row W Bx 8 _ _ _ hx]; rfl
    have cx9 : W.cell? ⟨Bx, 9, none⟩ = some (.int .i64 x.q) := by rw [cell_of_row W Bx 9 _ _ _ hx]; rfl
    have cx10 : W.cell? ⟨Bx, 10, none⟩ = some (.int .i64 x.code) := by rw [cell_of_row W Bx 10 _ _ _ hx]; rfl
    have hpl : pre.length ≤ l.length := by omega
    have hgt : decide ((pre.length : Int) + 1 > (l.length : Int) + 1) = false := by simp; omega
    have hgt2 : ¬ (l.length : Int) + 1 < (pre.length : Int) + 1 := by omega
    clear hx
    rcases hmst : ((pre.length : Int) + 1 == most)
    · gi_wp2_with (gi_at_builtin; refine wpListIn_append_own_at _ rfl _ _ 22 rfl w.heap.size 33 i0 (.agg #[.int .i64 0, .int .i64 0, .int .i64 0, .string ⟨#[]⟩, .int .i64 0, .int .i64 0, .int .i64 0, .int .i64 0, .int .i64 0, .int .i64 0, .int .i64 0]) 11 96 Tryz.underlying22 hi hz0 hz1 hz2 rfl (by decide) _ _ _ rfl (hrow.alloc _) ⟨W.heap.size, 0, none⟩ 1 1 x.cs rfl rfl (tget (heap_alloc_new W _)) (by simp [Tok.cs, Value.oneCell']) (by unfold maxLen; omega) (by omega) (by have := hB.size; simp; omega) ?_; intro v' w1 hown' hgrow _ hat; obtain ⟨g', cap', rfl⟩ := ownsRow_succ hown'; obtain ⟨hv1, hv2, hr2, hk2, hb2⟩ := hv.appended hST hrow hB.size (by omega) hown' hgrow; have hc1 := hv1.cell; have hf1 := hv1.frozen; have n0 := ((n0.alloc (.cells #[.int .i64 x.kind, .int .i64 x.place, .int .i64 x.num, .string x.str, .int .i64 x.r, .int .i64 x.c, .int .i64 x.t, .int .i64 x.l, .int .i64 x.b, .int .i64 x.q, .int .i64 x.code] 33)).kept hgrow (n0.not_row hSS hrow)).other (show w.heap.size ≠ w.heap.size + 1 + 1 + 1 by omega) (.slice (some ⟨g', 0, none⟩) (pre.length + 1) cap'); have n1 := ((n1.alloc (.cells #[.int .i64 x.kind, .int .i64 x.place, .int .i64 x.num, .string x.str, .int .i64 x.r, .int .i64 x.c, .int .i64 x.t, .int .i64 x.l, .int .i64 x.b, .int .i64 x.q, .int .i64 x.code] 33)).kept hgrow (n1.not_row hIN hrow)).other (show w.heap.size + 1 ≠ w.heap.size + 1 + 1 + 1 by omega) (.slice (some ⟨g', 0, none⟩) (pre.length + 1) cap'); have n2 := ((n2.alloc (.cells #[.int .i64 x.kind, .int .i64 x.place, .int .i64 x.num, .string x.str, .int .i64 x.r, .int .i64 x.c, .int .i64 x.t, .int .i64 x.l, .int .i64 x.b, .int .i64 x.q, .int .i64 x.code] 33)).kept hgrow (n2.not_row hST hrow)).other (show w.heap.size + 1 + 1 ≠ w.heap.size + 1 + 1 + 1 by omega) (.slice (some ⟨g', 0, none⟩) (pre.length + 1) cap'); have d0 := n0.cell; have d1 := n1.cell; have d2 := n2.cell; have d3 := hv2.cell; have f2 := n2.frozen)
      have hKp : KpO (w.heap.size + 1 + 1 + 1) w.heap.size W (w1.setCell ⟨w.heap.size + 1 + 1 + 1, 0, none⟩ (.slice (some ⟨g', 0, none⟩) (pre.length + 1) cap')) := by
        refine ⟨hb2, ?_, fun k cs t fr hk hne how => ?_⟩
        · have e1 : ownOf W (w.heap.size + 1 + 1 + 1) = v.ownBlock := by unfold ownOf; rw [hv.cell]
          have e2 : ownOf (w1.setCell ⟨w.heap.size + 1 + 1 + 1, 0, none⟩ (.slice (some ⟨g', 0, none⟩) (pre.length + 1) cap')) (w.heap.size + 1 + 1 + 1) = some g' := by unfold ownOf; rw [hv2.cell]; rfl
          rcases hat with h | h
          · exact .inl (by rw [e1, e2]; exact h)
          · refine .inr ⟨g', e2, ?_, ?_⟩
            · have h9 : g' = W.heap.size + 1 := by simpa [Value.ownBlock] using h
              omega
            · exact (hr2.lt g' rfl).2
        · have e1 : ownOf W (w.heap.size + 1 + 1 + 1) = v.ownBlock := by unfold ownOf; rw [hv.cell]
          rw [e1] at how
          have h3 : w1.heap[k]? = some (.cells cs t fr) := (hgrow.block k (by have := lt_of_heap hk; simp; omega) (fun e => how e.symm)).trans ((Lib.alloc_old _ _ _ (lt_of_heap hk)).trans hk)
          exact (Below.heap_setCell _ _ _ _ (by dsimp only; omega)).trans h3
      refine ⟨hk2.from _, hKp, ⟨⟨_, hv2, ?_⟩, n0, n1, n2⟩, hB.trans hb2⟩
      rw [tRow_app, tRow_one, List.length_append]; exact hr2
    · gi_wp2_with (gi_at_builtin; refine wpListIn_append_own_at _ rfl _ _ 22 rfl w.heap.size 33 i0 (.agg #[.int .i64 0, .int .i64 0, .int .i64 0, .string ⟨#[]⟩, .int .i64 0, .int .i64 0, .int .i64 0, .int .i64 0, .int .i64 0, .int .i64 0, .int .i64 0]) 11 96 Tryz.underlying22 hi hz0 hz1 hz2 rfl (by decide) _ _ _ rfl (hrow.alloc _) ⟨W.heap.size, 0, none⟩ 1 1 x.cs rfl rfl (tget (heap_alloc_new W _)) (by simp [Tok.cs, Value.oneCell']) (by unfold maxLen; omega) (by omega) (by have := hB.size; simp; omega) ?_; intro v' w1 hown' hgrow _ hat; obtain ⟨g', cap', rfl⟩ := ownsRow_succ hown'; obtain ⟨hv1, hv2, hr2, hk2, hb2⟩ := hv.appended hST hrow hB.size (by omega) hown' hgrow; have hc1 := hv1.cell; have hf1 := hv1.frozen; have n0 := ((n0.alloc (.cells #[.int .i64 x.kind, .int .i64 x.place, .int .i64 x.num, .string x.str, .int .i64 x.r, .int .i64 x.c, .int .i64 x.t, .int .i64 x.l, .int .i64 x.b, .int .i64 x.q, .int .i64 x.code] 33)).kept hgrow (n0.not_row hSS hrow)).other (show w.heap.size ≠ w.heap.size + 1 + 1 + 1 by omega) (.slice (some ⟨g', 0, none⟩) (pre.length + 1) cap'); have n1 := ((n1.alloc (.cells #[.int .i64 x.kind, .int .i64 x.place, .int .i64 x.num, .string x.str, .int .i64 x.r, .int .i64 x.c, .int .i64 x.t, .int .i64 x.l, .int .i64 x.b, .int .i64 x.q, .int .i64 x.code] 33)).kept hgrow (n1.not_row hIN hrow)).other (show w.heap.size + 1 ≠ w.heap.size + 1 + 1 + 1 by omega) (.slice (some ⟨g', 0, none⟩) (pre.length + 1) cap'); have n2 := ((n2.alloc (.cells #[.int .i64 x.kind, .int .i64 x.place, .int .i64 x.num, .string x.str, .int .i64 x.r, .int .i64 x.c, .int .i64 x.t, .int .i64 x.l, .int .i64 x.b, .int .i64 x.q, .int .i64 x.code] 33)).kept hgrow (n2.not_row hST hrow)).other (show w.heap.size + 1 + 1 ≠ w.heap.size + 1 + 1 + 1 by omega) (.slice (some ⟨g', 0, none⟩) (pre.length + 1) cap'); have d0 := n0.cell; have d1 := n1.cell; have d2 := n2.cell; have d3 := hv2.cell; have f2 := n2.frozen)
      refine ⟨(hk2.trans (KeepsOthers.setCell _ _ _)).from _, ?_⟩
      show ((pre ++ [x]).length : Int) = most
      rw [List.length_append]
      simpa using hmst
  case done =>
    rintro D ys W hD rfl ⟨⟨⟨v, hv, hrow, _⟩, n0, n1, n2⟩, hB⟩ hK
    obtain ⟨A, cap, rfl, _⟩ := own_rdt hrow
    have hvc := hv.cell
    have d2 := n2.cell
    have f2 := n2.frozen
    gi_wp2
    have hK' : (W.setCell ⟨w.heap.size + 1 + 1, 0, none⟩ (.slice A (lexL l).length cap)).heap[D]? = some (.deferred (some [])) := (KeepsOthers.setCell _ _ _).same D _ hK rfl
    refine ⟨by simp, .inl ⟨_, _, rfl, run_takeDeferred hK', ?_⟩⟩
    have n3 := n2.set (.slice A (lexL l).length cap)
    have hcell := cell_kept n3.cell (grownBy_putObj' _ D (.deferred none)) (fun r e => by cases e; exact ⟨_, hK', rfl⟩)
    have hrow2 := hrow.kept (grownBy_setCell' W (w.heap.size + 1 + 1) (.slice A (lexL l).length cap)) (.inr (n2.not_row hST hrow).symm)
    have hB2 := hB.setCell (p := ⟨w.heap.size + 1 + 1, 0, none⟩) (by dsimp only; omega) (.slice A (lexL l).length cap)
    refine ⟨.slice A (lexL l).length cap, ?_, ⟨_, rfl, ownsRow_putObj hrow2 _ hK' rfl⟩, hB2.trans (belowK_b (w := w) (Nat.le_refl _) _ D _ _ (by omega) hK' rfl rfl)⟩
    simp [results, Tryz.results22, go_sem, hcell]
  case stop =>
    rintro D c pre W hD hsp hmo _
    exfalso
    have := hsp.length_le
    omega
end Go.Proofs.YtiekhbagpmnboaaGreatDoor
