/-
  orielref06: the reader's prim and expr, whole.
-/
import Derived.Test.YtiekhbagpmnboaaGreatDoorMg0
import Derived.Test.YtiekhbagpmnboaaGreatDoorRows
import Derived.Test.YtiekhbagpmnboaaGreatDoorProg
import Derived.Test.YtiekhbagpmnboaaGreatDoorAddrC
import Derived.Test.YtiekhbagpmnboaaGreatDoorMg2
import Derived.Test.YtiekhbagpmnboaaGreatDoorMg26
import Derived.Test.YtiekhbagpmnboaaGreatDoorValA
import Derived.Test.YtiekhbagpmnboaaGreatDoorValB
import Derived.Test.YtiekhbagpmnboaaGreatDoorMg5
import Derived.Test.YtiekhbagpmnboaaGreatDoorMg6
import Derived.Test.YtiekhbagpmnboaaGreatDoorMg7
import Derived.Test.YtiekhbagpmnboaaGreatDoorPaW
import Derived.Test.YtiekhbagpmnboaaGreatDoorMg9
import Derived.Test.YtiekhbagpmnboaaGreatDoorDrC
import Derived.Test.YtiekhbagpmnboaaGreatDoorMg11
import Derived.Test.YtiekhbagpmnboaaGreatDoorDrF
import Derived.Test.YtiekhbagpmnboaaGreatDoorDrH
import Derived.Test.YtiekhbagpmnboaaGreatDoorDrI
import Derived.Test.YtiekhbagpmnboaaGreatDoorMg15
import Derived.Test.YtiekhbagpmnboaaGreatDoorMg16
import Derived.Test.YtiekhbagpmnboaaGreatDoorDrO
import Derived.Test.YtiekhbagpmnboaaGreatDoorPaC
import Derived.Test.YtiekhbagpmnboaaGreatDoorPaK
import Derived.Test.YtiekhbagpmnboaaGreatDoorDrK
import Derived.Test.YtiekhbagpmnboaaGreatDoorDrG
import Derived.WalkSpells
import Derived.WalkLawsBesides
import Derived.StillTactics
import Derived.Laws.Pointers
import Derived.Deep.RegionHeld3
import Derived.Deep.QuietTactic
import Derived.BigQuiet
import Derived.RowKit3
import Derived.Lib.Hide
import Derived.Lib.OthersKept
import Derived.OwnWalk
import Derived.Lib.IndexLaws
import Derived.Lib.ItoaMem
import Derived.Lib.TrimByte
import Derived.Lib.SlTrimSet
import Derived.Lib.ParseIntB
import Derived.WalkKit
import Derived.ProofKit
import Derived.OpenShut
import Derived.Carry
import Derived.ChangeSame
import Derived.Deep.Draws
import Derived.Shelf.Strings.Builder1
import Derived.Shelf.Strings.Trim
import Derived.Shelf.Small.Utf8
import Derived.Shelf.Small.Strs
import Derived.Shelf.Small.Wraps
import Derived.Shelf.Strings.BuilderF
import Derived.Shelf.Strings.BuilderK
import Derived.Shelf.Strconv.Itoa0
import Derived.Shelf.Strconv.Itoa1
import Derived.Shelf.LaysM
import Derived.Shelf.Strconv.Itoa2
import Derived.Shelf.Strconv.Itoa3
import Derived.Ground.MpProg
import Derived.Shelf.Pu.ParseUintPublic10
import Derived.Shelf.Strings.Search1
import Derived.Shelf.Strings.Search2
import Derived.Shelf.Strings.Cut
import Derived.Shelf.Strings.Shaped
import Derived.Shelf.Strings.Prefix
import Derived.Shelf.Strings.Runes
import Derived.Shelf.Strings.AsciiSet
import Derived.Shelf.Unicode.DecodeSlow
import Derived.Lib.ItoaNum
import Derived.Maps.OwnSet
import Derived.Maps.AppendAt
import Derived.BigRegion
import Derived.Deep.RegionLaw
import Derived.Deep.AppendLies
import Derived.ScopeJumps
import Derived.WalkMore
import Derived.Deep.CutRange
namespace Go.Proofs.YtiekhbagpmnboaaGreatDoor
open Go.RowKit

set_option maxRecDepth 100000 in
set_option maxHeartbeats 2000000 in
theorem dcall0 (tb : Tb) (tv : TV) (htb : tb = tbOf tv.l) (R : Nat) (ts : List Tok) (s : PS) (hbad : 16 < s.now.str.size) (w : World) (hR : DOk tv R w ts s) : Calls Tryz.prog 112 #[.pointer (some ⟨R, 0, none⟩)] w fun e w' => DRes tv R ts w s.fail e w' := by
  have hlt := hR.ltR
  have CN := dnow_ok tv R ts s w hR
  have hsz : decide ((s.now.str.size : Int) > 16) = true := by simp; omega
  have hsz2 : (16 : Int) < (s.now.str.size : Int) := by omega
  go_enter Tryz.func112, Tryz.ntmps112
  go_wp2_with fail
  refine CN.mono ?_
  rintro e w1 ⟨rfl, hb1⟩
  have hR1 := hR.up hb1
  have hlt1 := hR1.ltR
  have hb2 : Below w1.heap.size w1 (w1.alloc (.cells #[.int .i64 s.now.kind, .int .i64 s.now.place, .int .i64 s.now.num, .string s.now.str, .int .i64 s.now.r, .int .i64 s.now.c, .int .i64 s.now.t, .int .i64 s.now.l, .int .i64 s.now.b, .int .i64 s.now.q, .int .i64 s.now.code] 33)) := (Below.refl _ _).alloc (Nat.le_refl _) _
  have hk1 := KeepD.up hb1 hlt
  have htab : FunsAt tv R w1 := by obtain ⟨⟨A, cap, N, i, h, _⟩, _⟩ := hR1; exact h.tab
  have c6 : w1.cell? ⟨R, 6, none⟩ = some tv.s := by obtain ⟨⟨A, cap, N, i, h, _⟩, _⟩ := hR1; rw [cell_of_row w1 R 6 _ _ _ h.blk]; rfl
  have CF := fun n => dfail_ok tv R ts s 8 s.now.place (by decide) ((w1.alloc (.cells #[.int .i64 s.now.kind, .int .i64 s.now.place, .int .i64 s.now.num, .string s.now.str, .int .i64 s.now.r, .int .i64 s.now.c, .int .i64 s.now.t, .int .i64 s.now.l, .int .i64 s.now.b, .int .i64 s.now.q, .int .i64 s.now.code] 33)).drewN n) (hR1.up (below_drewN hb2 n))
  have hkk := fun n => KeepD.up (below_drewN hb2 n) hlt1
  have hAp := fun n => DSt.apart (x := .ok s) hR1 (below_drewN hb2 n) (Nat.le_refl _) (heap_alloc_new w1 (.cells #[.int .i64 s.now.kind, .int .i64 s.now.place, .int .i64 s.now.num, .string s.now.str, .int .i64 s.now.r, .int .i64 s.now.c, .int .i64 s.now.t, .int .i64 s.now.l, .int .i64 s.now.b, .int .i64 s.now.q, .int .i64 s.now.code] 33))
  have hT := fun n => fknown tv R s.now.str ((w1.alloc (.cells #[.int .i64 s.now.kind, .int .i64 s.now.place, .int .i64 s.now.num, .string s.now.str, .int .i64 s.now.r, .int .i64 s.now.c, .int .i64 s.now.t, .int .i64 s.now.l, .int .i64 s.now.b, .int .i64 s.now.q, .int .i64 s.now.code] 33)).drewN n) (htab.below (below_drewN (hb2.mono (by omega)) n))
  rw [← htb] at hT
  clear htab CN hR hb1 hlt
  go_wp2
  go_quiet ((go_at_call 141; exact Calls.quiet_of_same ((hT _).mono fun _ _ h => h)))
  have CF0 := CF nq
  have hk0 := hkk nq
  have hA0 := hAp nq
  have m1 : ((w1.alloc (.cells #[.int .i64 s.now.kind, .int .i64 s.now.place, .int .i64 s.now.num, .string s.now.str, .int .i64 s.now.r, .int .i64 s.now.c, .int .i64 s.now.t, .int .i64 s.now.l, .int .i64 s.now.b, .int .i64 s.now.q, .int .i64 s.now.code] 33)).drewN nq).cell? ⟨w1.heap.size, 1, none⟩ = some (.int .i64 s.now.place) := by rw [cell_of_row _ (w1.heap.size) 1 _ _ _ hA0.blk]; rfl
  clear CF hkk hAp hT c6 hb2 hR1
  go_wp2_with fail
  refine CF0.mono ?_
  intro e w2 h2
  obtain ⟨rfl, k2, h2⟩ := h2.st
  go_wp2
  first | go_end0 | refine bodyPost_ret (results_none rfl _ _ _) rfl ?_
  exact DSt.res h2 (hk1.trans (hk0.trans k2))
set_option maxRecDepth 100000 in
set_option maxHeartbeats 2000000 in
theorem dcall1 (tb : Tb) (tv : TV) (htb : tb = tbOf tv.l) (R : Nat) (ts : List Tok) (s : PS) (hok : ¬ 16 < s.now.str.size) (hkn : tb.known s.now.str = false) (w : World) (hR : DOk tv R w ts s) : Calls Tryz.prog 112 #[.pointer (some ⟨R, 0, none⟩)] w fun e w' => DRes tv R ts w s.fail e w' := by
  have hlt := hR.ltR
  have CN := dnow_ok tv R ts s w hR
  have hsz : decide ((s.now.str.size : Int) > 16) = false := by simp; omega
  have hsz2 : ¬ (16 : Int) < (s.now.str.size : Int) := by omega
  go_enter Tryz.func112, Tryz.ntmps112
  go_wp2_with fail
  refine CN.mono ?_
  rintro e w1 ⟨rfl, hb1⟩
  have hR1 := hR.up hb1
  have hlt1 := hR1.ltR
  have hb2 : Below w1.heap.size w1 (w1.alloc (.cells #[.int .i64 s.now.kind, .int .i64 s.now.place, .int .i64 s.now.num, .string s.now.str, .int .i64 s.now.r, .int .i64 s.now.c, .int .i64 s.now.t, .int .i64 s.now.l, .int .i64 s.now.b, .int .i64 s.now.q, .int .i64 s.now.code] 33)) := (Below.refl _ _).alloc (Nat.le_refl _) _
  have hk1 := KeepD.up hb1 hlt
  have htab : FunsAt tv R w1 := by obtain ⟨⟨A, cap, N, i, h, _⟩, _⟩ := hR1; exact h.tab
  have c6 : w1.cell? ⟨R, 6, none⟩ = some tv.s := by obtain ⟨⟨A, cap, N, i, h, _⟩, _⟩ := hR1; rw [cell_of_row w1 R 6 _ _ _ h.blk]; rfl
  have CF := fun n => dfail_ok tv R ts s 8 s.now.place (by decide) ((w1.alloc (.cells #[.int .i64 s.now.kind, .int .i64 s.now.place, .int .i64 s.now.num, .string s.now.str, .int .i64 s.now.r, .int .i64 s.now.c, .int .i64 s.now.t, .int .i64 s.now.l, .int .i64 s.now.b, .int .i64 s.now.q, .int .i64 s.now.code] 33)).drewN n) (hR1.up (below_drewN hb2 n))
  have hkk := fun n => KeepD.up (below_drewN hb2 n) hlt1
  have hAp := fun n => DSt.apart (x := .ok s) hR1 (below_drewN hb2 n) (Nat.le_refl _) (heap_alloc_new w1 (.cells #[.int .i64 s.now.kind, .int .i64 s.now.place, .int .i64 s.now.num, .string s.now.str, .int .i64 s.now.r, .int .i64 s.now.c, .int .i64 s.now.t, .int .i64 s.now.l, .int .i64 s.now.b, .int .i64 s.now.q, .int .i64 s.now.code] 33))
  have hT := fun n => fknown tv R s.now.str ((w1.alloc (.cells #[.int .i64 s.now.kind, .int .i64 s.now.place, .int .i64 s.now.num, .string s.now.str, .int .i64 s.now.r, .int .i64 s.now.c, .int .i64 s.now.t, .int .i64 s.now.l, .int .i64 s.now.b, .int .i64 s.now.q, .int .i64 s.now.code] 33)).drewN n) (htab.below (below_drewN (hb2.mono (by omega)) n))
  rw [← htb, hkn] at hT
  clear htab CN hR hb1 hlt
  go_wp2
  go_quiet ((go_at_call 141; exact Calls.quiet_of_same ((hT _).mono fun _ _ h => h)))
  have CF0 := CF nq
  have hk0 := hkk nq
  have hA0 := hAp nq
  have m1 : ((w1.alloc (.cells #[.int .i64 s.now.kind, .int .i64 s.now.place, .int .i64 s.now.num, .string s.now.str, .int .i64 s.now.r, .int .i64 s.now.c, .int .i64 s.now.t, .int .i64 s.now.l, .int .i64 s.now.b, .int .i64 s.now.q, .int .i64 s.now.code] 33)).drewN nq).cell? ⟨w1.heap.size, 1, none⟩ = some (.int .i64 s.now.place) := by rw [cell_of_row _ (w1.heap.size) 1 _ _ _ hA0.blk]; rfl
  clear CF hkk hAp hT c6 hb2 hR1
  go_wp2_with fail
  refine CF0.mono ?_
  intro e w2 h2
  obtain ⟨rfl, k2, h2⟩ := h2.st
  go_wp2
  first | go_end0 | refine bodyPost_ret (results_none rfl _ _ _) rfl ?_
  exact DSt.res h2 (hk1.trans (hk0.trans k2))
set_option maxRecDepth 100000 in
set_option maxHeartbeats 2000000 in
theorem dprim_call (tv : TV) (R : Nat) (ts : List Tok) (s : PS) (r : PR) (hk : s.now.kind = 3) (h1 : s.now.str ≠ trueS) (h2 : s.now.str ≠ falseS) (HC : ∀ W, DOk tv R W ts s → Calls Tryz.prog 112 #[.pointer (some ⟨R, 0, none⟩)] W fun e w' => DRes tv R ts W r e w') (w : World) (hR : DOk tv R w ts s) : Calls Tryz.prog 90 #[.pointer (some ⟨R, 0, none⟩)] w fun e w' => DRes tv R ts w r e w' := by
  have CN := dnow_ok tv R ts s w hR
  have hlt := hR.ltR
  have g1 : (s.now.kind == 1) = false := by simp [hk]
  have g2 : (s.now.kind == 2) = false := by simp [hk]
  have g6 : (s.now.kind == 6) = false := by simp [hk]
  have g3 : (s.now.kind == 3) = true := by simp [hk]
  have g4 : (s.now.kind == 4) = false := by simp [hk]
  clear hk
  have e1 : (s.now.str = (⟨#[84, 82, 85, 69]⟩ : ByteArray)) = False := eq_false h1
  have e2 : (s.now.str = (⟨#[70, 65, 76, 83, 69]⟩ : ByteArray)) = False := eq_false h2
  clear h1 h2
  generalize s.now = x at *
  go_enter Tryz.func90, Tryz.ntmps90
  go_wp2_with fail
  refine CN.mono ?_
  rintro e w1 ⟨rfl, hb1⟩
  have hR1 := hR.up hb1
  have d4 := hR1.err
  have hlt1 := hR1.ltR
  have CC := fun W (hb : Below w1.heap.size w1 W) => HC W (hR1.up hb)
  have hk1 := KeepD.up hb1 hlt
  clear CN HC hb1 hR hR1
  go_wp2_with fail
  refine (CC _ (by repeat (first | exact Below.refl _ _ | refine Below.drew ?_ | refine Below.setCell ?_ (by first | (simp; done) | (simp; omega)) _ | refine Below.alloc ?_ (by first | exact Nat.le_refl _ | (simp; done) | (simp; omega)) _))).mono ?_
  intro e w2 h2
  obtain ⟨rfl, hk2, h2⟩ := h2.st
  have hk := hk1.trans ((KeepD.up (by repeat (first | exact Below.refl _ _ | refine Below.drew ?_ | refine Below.setCell ?_ (by first | (simp; done) | (simp; omega)) _ | refine Below.alloc ?_ (by first | exact Nat.le_refl _ | (simp; done) | (simp; omega)) _)) hlt1).trans hk2)
  clear CC
  go_wp2
  first | go_end0 | refine bodyPost_ret (results_none rfl _ _ _) rfl ?_
  exact DSt.res h2 hk
theorem add_step {s : PS} {n : NL} {a : Int} {r : PR} (h : bindR (some (s.add n a)) (fun s' => some (.ok s'.step)) = some r) : r = stepR (s.add n a) := by
  cases hq : s.add n a with
  | bad e b => rw [hq] at h; simp only [bindR] at h; injection h with h; exact h.symm
  | ok s1 => rw [hq] at h; simp only [bindR] at h; injection h with h; exact h.symm
theorem dprim (tb : Tb) (tv : TV) (htb : tb = tbOf tv.l) (R : Nat) (ts : List Tok) (f : Nat) (HE : ∀ s w q, DOk tv R w ts s → px tb f (.lev 0) s = some q → Calls Tryz.prog 28 #[.pointer (some ⟨R, 0, none⟩), .int .i64 0] w fun e w' => DRes tv R ts w q e w') (s : PS) (r : PR) (w : World) (hR : DOk tv R w ts s) (h : px tb (f + 1) .prim s = some r) : Calls Tryz.prog 90 #[.pointer (some ⟨R, 0, none⟩)] w fun e w' => DRes tv R ts w r e w' := by
  rw [px] at h
  cases hl : leafN s.now with
  | some n =>
    rw [hl] at h
    have hr := add_step h
    subst hr
    unfold leafN at hl
    split at hl
    · rename_i h1; injection hl with hl; subst hl; exact dprim_num tv R ts s h1 w hR
    split at hl
    · rename_i h1; injection hl with hl; subst hl; exact dprim_text tv R ts s h1 w hR
    split at hl
    · rename_i h1; injection hl with hl; subst hl; exact dprim_code tv R ts s h1 w hR
    split at hl
    · rename_i h1; injection hl with hl; subst hl; exact dprim_cell tv R ts s h1 w hR
    split at hl
    · rename_i h1
      split at hl
      · rename_i h2; injection hl with hl; subst hl; exact dprim_true tv R ts s h1 h2 w hR
      · split at hl
        · rename_i h2; injection hl with hl; subst hl; exact dprim_false tv R ts s h1 h2 w hR
        · cases hl
    · cases hl
  | none =>
    rw [hl] at h
    dsimp only at h
    have hl' := hl
    unfold leafN at hl'
    split at hl'; · cases hl'
    rename_i k1
    split at hl'; · cases hl'
    rename_i k2
    split at hl'; · cases hl'
    rename_i k6
    split at hl'; · cases hl'
    rename_i k4
    split at h
    · rename_i h3
      rw [if_pos h3] at hl'
      have ht : s.now.str ≠ trueS := fun e => by rw [if_pos e] at hl'; cases hl'
      have hf : s.now.str ≠ falseS := fun e => by rw [if_neg ht, if_pos e] at hl'; cases hl'
      split at h
      · rename_i hbad
        injection h with h
        subst h
        refine dprim_call tv R ts s _ h3 ht hf (fun W hW => ?_) w hR
        by_cases h16 : 16 < s.now.str.size
        · exact dcall0 tb tv htb R ts s h16 W hW
        · exact dcall1 tb tv htb R ts s h16 (hbad.resolve_left h16) W hW
      · rename_i hgood
        have h16 : ¬ 16 < s.now.str.size := fun e => hgood (.inl e)
        have hkn : tb.known s.now.str = true := by
          cases hk : tb.known s.now.str with
          | true => rfl
          | false => exact absurd (.inr hk) hgood
        exact dprim_call tv R ts s r h3 ht hf (fun W hW => dcall tb tv htb R ts f HE s r h16 hkn h W hW) w hR
    · rename_i h3
      cases hi : s.is [40] with
      | true =>
        have hx : ∃ x2, bindR (some s.opens) (px tb f (.lev 0)) = some x2 ∧ r = closeR x2 := by
          rcases bindR_some h with ⟨e, a, h1, h2⟩ | ⟨s1, h1, h2⟩
          · injection h1 with h1
            exact ⟨.bad e a, by rw [h1]; rfl, h2⟩
          · injection h1 with h1
            rcases bindR_some h2 with ⟨e, a, h5, h6⟩ | ⟨s2, h5, h6⟩
            · exact ⟨.bad e a, by rw [h1]; exact h5, h6⟩
            · injection h6 with h6
              exact ⟨.ok s2, by rw [h1]; exact h5, h6.symm⟩
        obtain ⟨x2, hx2, rfl⟩ := hx
        refine dprim_par tv R ts tb f HE s hi x2 hx2 (fun s2 e => ?_) w hR
        subst e
        rcases bindR_some hx2 with ⟨e, a, h1, h2⟩ | ⟨s1, h1, h2⟩
        · cases h2
        · injection h1 with h1
          obtain ⟨e1, h40, _⟩ := opens_some h1
          have hw1 : s1.wf := by rw [e1]; exact PS.wf_step (PS.wf_of hR.2.2.2 rfl rfl)
          have hao := (px_after tb hw1 (show Md.ok (.lev 0) from Nat.zero_le 4) h2).opn
          simp only [Md.opn] at hao
          have ho := hR.2.1
          have e2 : s1.opn = s.opn + 1 := by rw [e1, PS.step_opn]
          omega
      | false =>
        have hop : s.opens = s.fail := by unfold PS.opens; rw [if_pos hi]
        rw [hop] at h
        simp only [PS.fail, bindR] at h
        injection h with h
        rw [← h]
        exact dprim_bad tv R ts s ⟨k1, k2, k6, h3, k4⟩ hi w hR
/-- the document's reader reads what the plain function says -/
theorem dexpr (tb : Tb) (tv : TV) (htb : tb = tbOf tv.l) (R : Nat) (ts : List Tok) : ∀ (f k : Nat), k ≤ 4 → ∀ (s : PS) (w : World) (r : PR), DOk tv R w ts s → px tb f (.lev k) s = some r → Calls Tryz.prog 28 #[.pointer (some ⟨R, 0, none⟩), .int .i64 (k : Int)] w fun e w' => DRes tv R ts w r e w' := by
  intro f
  induction f with
  | zero => intro k _ s w r _ h; cases h
  | succ f ih =>
    intro k hk s w r hR h
    by_cases h4 : k = 4
    · subst h4
      rw [px, if_pos rfl] at h
      exact dexpr4 tv R ts s r w hR (dneg tb tv R ts f (fun s w q hR h => dprim tb tv htb R ts f (fun s w q hR h => ih 0 (by omega) s w q hR h) s q w hR (px_step tb _ _ _ _ h)) s r w hR h)
    · exact dexprL tb tv R ts f k (by omega) (fun s w q hR h => by
        have := ih (k + 1) (by omega) s w q hR h
        rwa [show ((k + 1 : Nat) : Int) = (k : Int) + 1 by omega] at this) s r w hR h
end Go.Proofs.YtiekhbagpmnboaaGreatDoor
