/-
  orielref06.Parse.
-/
import Derived.Test.YtiekhbagpmnboaaGreatDoorMg0
import Derived.Test.YtiekhbagpmnboaaGreatDoorRows
import Derived.Test.YtiekhbagpmnboaaGreatDoorProg
import Derived.Test.YtiekhbagpmnboaaGreatDoorAddrC
import Derived.Test.YtiekhbagpmnboaaGreatDoorMg2
import Derived.Test.YtiekhbagpmnboaaGreatDoorMg26
import Derived.Test.YtiekhbagpmnboaaGreatDoorValA
import Derived.Test.YtiekhbagpmnboaaGreatDoorValB
import Derived.Test.YtiekhbagpmnboaaGreatDoorMg5
import Derived.Test.YtiekhbagpmnboaaGreatDoorMg6
import Derived.Test.YtiekhbagpmnboaaGreatDoorMg7
import Derived.Test.YtiekhbagpmnboaaGreatDoorPaW
import Derived.Test.YtiekhbagpmnboaaGreatDoorMg9
import Derived.Test.YtiekhbagpmnboaaGreatDoorDrC
import Derived.Test.YtiekhbagpmnboaaGreatDoorMg11
import Derived.Test.YtiekhbagpmnboaaGreatDoorDrF
import Derived.Test.YtiekhbagpmnboaaGreatDoorDrH
import Derived.Test.YtiekhbagpmnboaaGreatDoorDrI
import Derived.Test.YtiekhbagpmnboaaGreatDoorMg15
import Derived.Test.YtiekhbagpmnboaaGreatDoorMg16
import Derived.Test.YtiekhbagpmnboaaGreatDoorDrO
import Derived.Test.YtiekhbagpmnboaaGreatDoorPaC
import Derived.Test.YtiekhbagpmnboaaGreatDoorPaK
import Derived.Test.YtiekhbagpmnboaaGreatDoorDrK
import Derived.Test.YtiekhbagpmnboaaGreatDoorDrG
import Derived.Test.YtiekhbagpmnboaaGreatDoorDrQ
import Derived.Test.YtiekhbagpmnboaaGreatDoorPaI
import Derived.Test.YtiekhbagpmnboaaGreatDoorPaQ
import Derived.Test.YtiekhbagpmnboaaGreatDoorPaE
import Derived.Test.YtiekhbagpmnboaaGreatDoorMg27
import Derived.Test.YtiekhbagpmnboaaGreatDoorLexWd
import Derived.Test.YtiekhbagpmnboaaGreatDoorMg29
import Derived.Test.YtiekhbagpmnboaaGreatDoorLexS
import Derived.Test.YtiekhbagpmnboaaGreatDoorDDig
import Derived.Test.YtiekhbagpmnboaaGreatDoorDParse
import Derived.Test.YtiekhbagpmnboaaGreatDoorLexF
import Derived.Test.YtiekhbagpmnboaaGreatDoorLexN
import Derived.Test.YtiekhbagpmnboaaGreatDoorRDPar
import Derived.Test.YtiekhbagpmnboaaGreatDoorRDParB
import Derived.Test.YtiekhbagpmnboaaGreatDoorRDJoin
import Derived.Test.YtiekhbagpmnboaaGreatDoorLexD
import Derived.Test.YtiekhbagpmnboaaGreatDoorLexB
import Derived.Test.YtiekhbagpmnboaaGreatDoorLexI
import Derived.Test.YtiekhbagpmnboaaGreatDoorPaO
import Derived.Test.YtiekhbagpmnboaaGreatDoorMg42
import Derived.Test.YtiekhbagpmnboaaGreatDoorPaS
import Derived.Test.YtiekhbagpmnboaaGreatDoorMg44
import Derived.Test.YtiekhbagpmnboaaGreatDoorLPSm
import Derived.Test.YtiekhbagpmnboaaGreatDoorLPOth
import Derived.Test.YtiekhbagpmnboaaGreatDoorLPBla
import Derived.BigRegion
import Derived.WalkSpells
import Derived.WalkLawsBesides
import Derived.StillTactics
import Derived.Laws.Pointers
import Derived.Deep.RegionHeld3
import Derived.Deep.QuietTactic
import Derived.BigQuiet
import Derived.RowKit3
import Derived.Lib.Hide
import Derived.Lib.OthersKept
import Derived.OwnWalk
import Derived.Lib.IndexLaws
import Derived.Lib.ItoaMem
import Derived.Lib.TrimByte
import Derived.Lib.SlTrimSet
import Derived.Lib.ParseIntB
import Derived.WalkKit
import Derived.ProofKit
import Derived.OpenShut
import Derived.Carry
import Derived.ChangeSame
import Derived.Deep.Draws
import Derived.Shelf.Strings.Builder1
import Derived.Shelf.Strings.Trim
import Derived.Shelf.Small.Utf8
import Derived.Shelf.Small.Strs
import Derived.Shelf.Small.Wraps
import Derived.Shelf.Strings.BuilderF
import Derived.Shelf.Strings.BuilderK
import Derived.Shelf.Strconv.Itoa0
import Derived.Shelf.Strconv.Itoa1
import Derived.Shelf.LaysM
import Derived.Shelf.Strconv.Itoa2
import Derived.Shelf.Strconv.Itoa3
import Derived.Ground.MpProg
import Derived.Shelf.Pu.ParseUintPublic10
import Derived.Shelf.Strings.Search1
import Derived.Shelf.Strings.Search2
import Derived.Shelf.Strings.Cut
import Derived.Shelf.Strings.Shaped
import Derived.Shelf.Strings.Prefix
import Derived.Shelf.Strings.Runes
import Derived.Shelf.Strings.AsciiSet
import Derived.Shelf.Unicode.DecodeSlow
import Derived.Lib.ItoaNum
import Derived.Maps.OwnSet
import Derived.Maps.AppendAt
import Derived.Deep.RegionLaw
import Derived.Deep.AppendLies
import Derived.ScopeJumps
import Derived.WalkMore
import Derived.Deep.CutRange
import Derived.Shelf.Strings.SlTrimAscii
import Derived.Lib.SmallJoins
import Derived.RangeFuncBox
import Derived.RangeFuncNested
import Derived.RangeFuncLeaves
import Derived.Shelf.Abstract
import Derived.OwnWalkIn
import Derived.TacticsInMore
import Derived.LoopNIn
import Derived.LoopIn
import Derived.Maps.OwnIn
import Derived.Defers
import Derived.Recover
import Derived.Outline
import Derived.Laws.AppendOwnNone
import Derived.Laws.AppendOwn
namespace Go.Proofs.YtiekhbagpmnboaaGreatDoor
open Go.RowKit

theorem field_kind (x0 x1 x2 x3 x4 x5 x6 x7 x8 x9 x10 : Value) (w : World) : (Instr.field 33 (.agg #[x0, x1, x2, x3, x4, x5, x6, x7, x8, x9, x10]) 0).run Tryz.prog w = .ok x0 w := by kernel_rfl
set_option maxRecDepth 100000 in
set_option maxHeartbeats 4000000 in
theorem dparse (l : List UInt8) (hl : l.length ≤ 1400000) (At : Option Addr) (fl : List FL) (ct : Nat) (w : World) (hT : FunsAt ⟨At, ct, fl⟩ w.heap.size w) : Calls Tryz.prog 13 #[.string ⟨l.toArray⟩, .slice At fl.length ct] w fun e w' => PUn w (nsOf (parseT (tbOf fl) (lexL l))) (erOf (parseT (tbOf fl) (lexL l))) (atOf (parseT (tbOf fl) (lexL l))) e w' := by
  have CL := r4lex l (by omega) (w.alloc (.cells #[.slice none 0 0] 39))
  have hln := lexL_len l
  have hne := (lexL_laws l).ne
  have hlast := (lexL_laws l).last
  obtain ⟨x, r, hxr⟩ : ∃ x r, lexL l = x :: r := by
    cases hl : lexL l with
    | nil => rw [hl] at hne; simp at hne
    | cons x r => exact ⟨x, r, rfl⟩
  rw [hxr] at CL hln hne hlast ⊢
  clear hxr
  have hwf1 : (⟨x, r, 0, []⟩ : PS).wf := by
    rcases List.eq_nil_or_concat (x :: r) with h | ⟨l', y, h⟩
    · cases h
    · have hx : (x :: r)[l'.length]? = some y := by rw [h]; simp
      have hd := hlast l'.length y hx
      refine ⟨l', y, by simpa using h, ?_⟩
      rw [hd, h]; simp
  obtain ⟨q, hq, _⟩ := px_total (tbOf fl) (8 * r.length + 16) (.lev 0) ⟨x, r, 0, []⟩ hwf1 (Nat.zero_le 4) (by simp [Md.rank])
  rw [parse_end (tbOf fl) x r q hq]
  have hF := heap_alloc_new w (.cells #[.slice none 0 0] 39)
  have hb1 : Below w.heap.size w (w.alloc (.cells #[.slice none 0 0] 39)) := (Below.refl _ _).alloc (Nat.le_refl _) _
  have hz1 : (w.alloc (.cells #[.slice none 0 0] 39)).heap.size = w.heap.size + 1 := by simp
  clear hlast hne
  go_enter Tryz.func13, Tryz.ntmps13
  go_wp2_with fail
  refine CL.mono ?_
  rintro e w2 ⟨⟨v, rfl, A, cap, rfl, hrd⟩, hb2⟩
  have hz2 := hb2.size
  rw [hz1] at hz2 hb2
  have hF2 := (hb2.block w.heap.size (by omega)).trans hF
  have hB2 : Below w.heap.size w w2 := hb1.trans (hb2.mono (by omega))
  have hb3 : Below w2.heap.size w2 (w2.alloc (.cells #[.slice A (r.length + 1) cap, .int .i64 0, .slice none 0 0, .int .i64 0, .int .i64 0, .int .i64 0, .slice At fl.length ct] 71)) := (Below.refl _ _).alloc (Nat.le_refl _) _
  have hR : DOk ⟨At, ct, fl⟩ w2.heap.size (w2.alloc (.cells #[.slice A (r.length + 1) cap, .int .i64 0, .slice none 0 0, .int .i64 0, .int .i64 0, .int .i64 0, .slice At fl.length ct] 71)) (x :: r) ⟨x, r, 0, []⟩ :=
    ⟨⟨A, cap, .slice none 0 0, 0, ⟨heap_alloc_new w2 _, hrd.below hb3, by simp, World.ownsRow_nil _ _ _ _, by simp, by simp at hln ⊢; omega, (hT.below (hB2.trans (hb3.mono (by omega)))).mono (by omega)⟩, rfl⟩, Int.le_refl _, by simp, hwf1⟩
  have CE := dexpr (tbOf fl) ⟨At, ct, fl⟩ rfl w2.heap.size (x :: r) _ 0 (Nat.zero_le 4) ⟨x, r, 0, []⟩ _ q hR hq
  have hF3 := (hb3.block w.heap.size (by omega)).trans hF2
  have hB3 := hB2.trans (hb3.mono (by omega))
  have hlt2 : w.heap.size < w2.heap.size := by omega
  clear CL hrd hF hF2 hb1 hb2 hz1 hB2 hb3 hq hwf1 hT hR hln
  rw [show ((0 : Nat) : Int) = 0 from rfl] at CE
  simp only [List.length_cons] at CE ⊢
  go_wp2_with fail
  refine CE.mono ?_
  intro e w3 h3
  obtain ⟨rfl, k3, h3⟩ := h3.st
  have hF4 := (k3.1.block w.heap.size hlt2).trans hF3
  have hB4 := hB3.trans (k3.1.mono (by omega))
  clear CE hF3 hB3 k3
  obtain ⟨y, hy, CN⟩ := dnow_on ⟨At, ct, fl⟩ w2.heap.size (x :: r) q w3 h3
  have hR3 := h3.ltR
  go_wp2_with fail
  refine CN.mono ?_
  rintro e w4 ⟨rfl, hb4⟩
  have h4 := h3.up hb4
  have hF5 := (hb4.block w.heap.size (heap_lt hF4)).trans hF4
  have hB5 := hB4.trans (hb4.mono hB4.size)
  have hR4 := h4.ltR
  have hfk := field_kind
  have hfp := field_place
  clear CN hF4 hB4 hb4 h3 hR3
  by_cases hk : y.kind = 0
  · have hk0 : (y.kind != 0) = false := by simp [hk]
    have he : endP q = q := by
      cases q with
      | bad e a => rfl
      | ok s => have := hy s rfl; subst this; exact if_pos hk
    have heH := Lib.hid he
    clear hk hy he
    cases q with
    | bad e0 a0 =>
      have he0 : (e0 != 0) = true := by simpa using h4.1
      obtain ⟨_, A8, cap8, N8, i8, ns8, o8, h8⟩ := h4
      have c4 : w4.cell? ⟨w2.heap.size, 4, none⟩ = some (.int .i64 e0) := by rw [cell_of_row w4 w2.heap.size 4 _ _ _ h8.blk]; rfl
      have c5 : w4.cell? ⟨w2.heap.size, 5, none⟩ = some (.int .i64 a0) := by rw [cell_of_row w4 w2.heap.size 5 _ _ _ h8.blk]; rfl
      have z0 : w4.cell? ⟨w.heap.size, 0, none⟩ = some (.slice none 0 0) := by rw [cell_of_row _ w.heap.size 0 _ _ _ hF5]; rfl
      have f0 : w4.frozen? ⟨w.heap.size, 0, none⟩ = false := by simp [World.frozen?, hF5]
      have hne1 : w.heap.size ≠ w2.heap.size := by omega
      have hltF := heap_lt hF5
      clear h8 hF5
      go_wp2
      go_region
      go_wp2
      refine bodyPost_ret (v := .tuple #[.agg #[.slice none 0 0], .int .i64 e0, .int .i64 a0]) ?_ rfl ?_
      · simp [results, Tryz.results13, go_sem, z0]
      · rw [heH.out]
        exact ⟨none, 0, rfl, fun i c hi => by simp [nsOf] at hi, (hB5.setCell (p := ⟨w.heap.size, 0, none⟩) (Nat.le_refl _) _).drew, fun p hp => by cases hp⟩
    | ok s =>
      have hs : DOk ⟨At, ct, fl⟩ w2.heap.size w4 (x :: r) s := h4
      obtain ⟨⟨A8, cap8, N8, i8, h8, _⟩, _⟩ := hs
      have c4 : w4.cell? ⟨w2.heap.size, 4, none⟩ = some (.int .i64 0) := by rw [cell_of_row w4 w2.heap.size 4 _ _ _ h8.blk]; rfl
      have c2 : w4.cell? ⟨w2.heap.size, 2, none⟩ = some N8 := by rw [cell_of_row w4 w2.heap.size 2 _ _ _ h8.blk]; rfl
      have hown := h8.nodes
      obtain ⟨A9, cap9, rfl⟩ := ownsRow_form' hown
      have z0 : w4.cell? ⟨w.heap.size, 0, none⟩ = some (.slice none 0 0) := by rw [cell_of_row _ w.heap.size 0 _ _ _ hF5]; rfl
      have f0 : w4.frozen? ⟨w.heap.size, 0, none⟩ = false := by simp [World.frozen?, hF5]
      have hne1 : w.heap.size ≠ w2.heap.size := by omega
      have hltF := heap_lt hF5
      have hown2 := own_only (w' := w4.setCell ⟨w.heap.size, 0, none⟩ (.slice A9 s.nodes.length cap9)) hown (fun k hk => set_other (by omega))
      have hb9 := hB5.setCell (p := ⟨w.heap.size, 0, none⟩) (Nat.le_refl _) (.slice A9 s.nodes.length cap9)
      have hans := pun_of (x := .ok s) (w := w) (e := .returned (.tuple #[.agg #[.slice A9 s.nodes.length cap9], .int .i64 0, .int .i64 0])) ⟨hb9, _, rfl, ownsRow_base hown2 (by omega)⟩
      clear h8 hF5 hown hown2 hb9
      go_wp2
      refine bodyPost_ret (v := .tuple #[.agg #[.slice A9 s.nodes.length cap9], .int .i64 0, .int .i64 0]) ?_ rfl (by rw [heH.out]; exact hans)
      simp [results, Tryz.results13, go_sem, z0]
  · have hk0 : (y.kind != 0) = true := by simp [hk]
    obtain ⟨y2, hy2, CN⟩ := dnow_on ⟨At, ct, fl⟩ w2.heap.size (x :: r) q w4 h4
    have he : endP q = failR q 8 y2.place := by
      cases q with
      | bad e a => rfl
      | ok s =>
        have h1 := hy s rfl
        have h2 := hy2 s rfl
        subst h1 h2
        simp only [endP, failR, if_neg hk]
        rfl
    have heH := Lib.hid he
    clear hk hy he hy2
    go_wp2_with fail
    refine CN.mono ?_
    rintro e w5 ⟨rfl, hb5⟩
    have CF := dfail_on ⟨At, ct, fl⟩ w2.heap.size (x :: r) q 8 y2.place (by decide) w5 (h4.up hb5)
    have hF6 := (hb5.block w.heap.size (heap_lt hF5)).trans hF5
    have hB6 := hB5.trans (hb5.mono hB5.size)
    generalize failR q 8 y2.place = q' at *
    clear CN hF5 hB5 hb5 h4 hR4
    go_wp2_with fail
    refine CF.mono ?_
    intro e w6 h6
    obtain ⟨rfl, k6, h6⟩ := h6.st
    have hF7 := (k6.1.block w.heap.size hlt2).trans hF6
    have hB7 := hB6.trans (k6.1.mono (by omega))
    have hR6 := h6.ltR
    clear CF hF6 hB6 k6
    cases q' with
    | bad e0 a0 =>
      have he0 : (e0 != 0) = true := by simpa using h6.1
      obtain ⟨_, A8, cap8, N8, i8, ns8, o8, h8⟩ := h6
      have c4 : w6.cell? ⟨w2.heap.size, 4, none⟩ = some (.int .i64 e0) := by rw [cell_of_row w6 w2.heap.size 4 _ _ _ h8.blk]; rfl
      have c5 : w6.cell? ⟨w2.heap.size, 5, none⟩ = some (.int .i64 a0) := by rw [cell_of_row w6 w2.heap.size 5 _ _ _ h8.blk]; rfl
      have z0 : w6.cell? ⟨w.heap.size, 0, none⟩ = some (.slice none 0 0) := by rw [cell_of_row _ w.heap.size 0 _ _ _ hF7]; rfl
      have f0 : w6.frozen? ⟨w.heap.size, 0, none⟩ = false := by simp [World.frozen?, hF7]
      have hne1 : w.heap.size ≠ w2.heap.size := by omega
      have hltF := heap_lt hF7
      clear h8 hF7
      go_wp2
      go_region
      go_wp2
      refine bodyPost_ret (v := .tuple #[.agg #[.slice none 0 0], .int .i64 e0, .int .i64 a0]) ?_ rfl ?_
      · simp [results, Tryz.results13, go_sem, z0]
      · rw [heH.out]
        exact ⟨none, 0, rfl, fun i c hi => by simp [nsOf] at hi, (hB7.setCell (p := ⟨w.heap.size, 0, none⟩) (Nat.le_refl _) _).drew, fun p hp => by cases hp⟩
    | ok s =>
      have hs : DOk ⟨At, ct, fl⟩ w2.heap.size w6 (x :: r) s := h6
      obtain ⟨⟨A8, cap8, N8, i8, h8, _⟩, _⟩ := hs
      have c4 : w6.cell? ⟨w2.heap.size, 4, none⟩ = some (.int .i64 0) := by rw [cell_of_row w6 w2.heap.size 4 _ _ _ h8.blk]; rfl
      have c2 : w6.cell? ⟨w2.heap.size, 2, none⟩ = some N8 := by rw [cell_of_row w6 w2.heap.size 2 _ _ _ h8.blk]; rfl
      have hown := h8.nodes
      obtain ⟨A9, cap9, rfl⟩ := ownsRow_form' hown
      have z0 : w6.cell? ⟨w.heap.size, 0, none⟩ = some (.slice none 0 0) := by rw [cell_of_row _ w.heap.size 0 _ _ _ hF7]; rfl
      have f0 : w6.frozen? ⟨w.heap.size, 0, none⟩ = false := by simp [World.frozen?, hF7]
      have hne1 : w.heap.size ≠ w2.heap.size := by omega
      have hltF := heap_lt hF7
      have hown2 := own_only (w' := w6.setCell ⟨w.heap.size, 0, none⟩ (.slice A9 s.nodes.length cap9)) hown (fun k hk => set_other (by omega))
      have hb9 := hB7.setCell (p := ⟨w.heap.size, 0, none⟩) (Nat.le_refl _) (.slice A9 s.nodes.length cap9)
      have hans := pun_of (x := .ok s) (w := w) (e := .returned (.tuple #[.agg #[.slice A9 s.nodes.length cap9], .int .i64 0, .int .i64 0])) ⟨hb9, _, rfl, ownsRow_base hown2 (by omega)⟩
      clear h8 hF7 hown hown2 hb9
      go_wp2
      refine bodyPost_ret (v := .tuple #[.agg #[.slice A9 s.nodes.length cap9], .int .i64 0, .int .i64 0]) ?_ rfl (by rw [heH.out]; exact hans)
      simp [results, Tryz.results13, go_sem, z0]
end Go.Proofs.YtiekhbagpmnboaaGreatDoor
