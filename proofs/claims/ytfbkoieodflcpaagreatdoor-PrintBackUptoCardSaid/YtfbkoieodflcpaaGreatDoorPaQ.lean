/-
  parse: the reader's prim, whole.
-/
import Derived.Test.YtfbkoieodflcpaaGreatDoorMg3
import Derived.Test.YtfbkoieodflcpaaGreatDoorRows
import Derived.Test.YtfbkoieodflcpaaGreatDoorMg0
import Derived.Test.YtfbkoieodflcpaaGreatDoorProg
import Derived.Test.YtfbkoieodflcpaaGreatDoorShelf
import Derived.Test.YtfbkoieodflcpaaGreatDoorMg4
import Derived.Test.YtfbkoieodflcpaaGreatDoorAddrC
import Derived.Test.YtfbkoieodflcpaaGreatDoorMg6
import Derived.Test.YtfbkoieodflcpaaGreatDoorValA
import Derived.Test.YtfbkoieodflcpaaGreatDoorValB
import Derived.Test.YtfbkoieodflcpaaGreatDoorMg9
import Derived.Test.YtfbkoieodflcpaaGreatDoorMg10
import Derived.Test.YtfbkoieodflcpaaGreatDoorPaP
import Derived.Test.YtfbkoieodflcpaaGreatDoorPaF
import Derived.Test.YtfbkoieodflcpaaGreatDoorPaW
import Derived.Test.YtfbkoieodflcpaaGreatDoorPaX
import Derived.Test.YtfbkoieodflcpaaGreatDoorPaY
import Derived.Test.YtfbkoieodflcpaaGreatDoorMg22
import Derived.Test.YtfbkoieodflcpaaGreatDoorPaZ
import Derived.Test.YtfbkoieodflcpaaGreatDoorMg42
import Derived.Test.YtfbkoieodflcpaaGreatDoorPaC
import Derived.Test.YtfbkoieodflcpaaGreatDoorPaK
import Derived.Test.YtfbkoieodflcpaaGreatDoorPaI
import Derived.BigRegion
import Derived.WalkSpells
import Derived.WalkLawsBesides
import Derived.StillTactics
import Derived.Laws.Pointers
import Derived.Deep.RegionHeld3
import Derived.Deep.QuietTactic
import Derived.BigQuiet
import Derived.RowKit3
import Derived.Lib.Hide
import Derived.Lib.OthersKept
import Derived.OwnWalk
import Derived.Lib.IndexLaws
import Derived.Lib.ItoaMem
import Derived.Lib.TrimByte
import Derived.Lib.SlTrimSet
import Derived.Lib.ParseIntB
import Derived.WalkKit
import Derived.ProofKit
import Derived.OpenShut
import Derived.Carry
import Derived.ChangeSame
import Derived.Deep.Draws
import Derived.Shelf.Strings.Builder1
import Derived.Shelf.Strings.Builder2
import Derived.Shelf.Strings.Trim
import Derived.Shelf.Small.Utf8
import Derived.Shelf.Small.Strs
import Derived.Shelf.Small.Wraps
import Derived.Shelf.Strings.BuilderF
import Derived.Shelf.Strings.BuilderK
import Derived.Shelf.Utf8.RuneCount
import Derived.Shelf.Strconv.Itoa0
import Derived.Shelf.Strconv.Itoa1
import Derived.Shelf.LaysM
import Derived.Shelf.Strconv.Itoa2
import Derived.Shelf.Strconv.Itoa3
import Derived.Ground.MpProg
import Derived.Shelf.Pu.ParseUintPublic10
import Derived.Shelf.Strings.Search1
import Derived.Shelf.Strings.Search2
import Derived.Shelf.Strings.Search3
import Derived.Shelf.Strings.Cut
import Derived.Shelf.Strings.Count
import Derived.Shelf.Strings.Shaped
import Derived.Shelf.Strings.Prefix
import Derived.Shelf.Strings.Split
import Derived.Shelf.Strings.Replace
import Derived.Shelf.Strings.SplitShaped
import Derived.Shelf.Unicode.Decode
import Derived.Shelf.Strings.Runes
import Derived.Shelf.Strings.RuneCount
import Derived.Shelf.Strings.AsciiSet
import Derived.Shelf.Unicode.DecodeSlow
import Derived.Shelf.Unicode.DecodeAny
import Derived.Shelf.Unicode.DecodeLast
import Derived.Lib.ItoaNum
import Derived.Maps.OwnSet
import Derived.Maps.AppendAt
import Derived.Deep.RegionLaw
import Derived.Deep.AppendLies
import Derived.ScopeJumps
import Derived.WalkMore
namespace Go.Proofs.YtfbkoieodflcpaaGreatDoor
open Go.RowKit

theorem pcallA (tb : Tb) (tv : TV) (htb : tb = tbOf tv.l) (R f : Nat) (HE : ∀ s w q, RSt tv R w s → px tb f (.lev 0) s = some q → Calls Tryz.prog 25 #[.pointer (some ⟨R, 0, none⟩)] w fun e w' => RRes tv R w q e w') (s : PS) (r : PR) (h0 : (if 16 < s.now.str.size ∨ tb.known s.now.str = false then some s.fail else bindR (some s.step.opens) (px tb f (.args s.now.str s.now.place []))) = some r) (w : World) (hR : RSt tv R w s) : Calls Tryz.prog 144 #[.pointer (some ⟨R, 0, none⟩)] w fun e w' => RRes tv R w r e w' := by
  by_cases h16 : 16 < s.now.str.size
  · rw [if_pos (.inl h16)] at h0
    injection h0 with h0
    subst h0
    exact pcall0 tv R s h16 w hR
  · cases hk : tb.known s.now.str with
    | false =>
      rw [if_pos (.inr hk)] at h0
      injection h0 with h0
      subst h0
      exact pcall1 tb tv htb R s h16 hk w hR
    | true =>
      rw [if_neg (by simp [hk]; omega)] at h0
      exact pcall2 tb tv htb R f HE s r h16 hk h0 w hR
set_option maxRecDepth 100000 in
set_option maxHeartbeats 2000000 in
theorem pprimC (tb : Tb) (tv : TV) (htb : tb = tbOf tv.l) (R f : Nat) (HE : ∀ s w q, RSt tv R w s → px tb f (.lev 0) s = some q → Calls Tryz.prog 25 #[.pointer (some ⟨R, 0, none⟩)] w fun e w' => RRes tv R w q e w') (s : PS) (hkd : s.now.kind = 3) (hT : s.now.str ≠ trueS) (hF : s.now.str ≠ falseS) (r : PR) (h0 : (if 16 < s.now.str.size ∨ tb.known s.now.str = false then some s.fail else bindR (some s.step.opens) (px tb f (.args s.now.str s.now.place []))) = some r) (w : World) (hR : RSt tv R w s) : Calls Tryz.prog 128 #[.pointer (some ⟨R, 0, none⟩)] w fun e w' => RRes tv R w r e w' := by
  have hlt := hR.lt
  have e1 : (s.now.kind == 1) = false := by simp [hkd]
  have e2 : (s.now.kind == 2) = false := by simp [hkd]
  have e6 : (s.now.kind == 6) = false := by simp [hkd]
  have e4 : (s.now.kind == 4) = false := by simp [hkd]
  have e3 : (s.now.kind == 3) = true := by simp [hkd]
  have hT2 : decide (s.now.str = ⟨#[84, 82, 85, 69]⟩) = false := decide_eq_false hT
  have hT3 : decide (s.now.str = ⟨#[70, 65, 76, 83, 69]⟩) = false := decide_eq_false hF
  clear hkd hT hF
  have hW : Below w.heap.size w ((w.alloc (.cells #[.int .i64 s.now.kind, .int .i64 s.now.place, .int .i64 s.now.num, .string s.now.str, .int .i64 s.now.r, .int .i64 s.now.c, .int .i64 s.now.t, .int .i64 s.now.l, .int .i64 s.now.b, .int .i64 s.now.q, .int .i64 s.now.code] 77)).alloc (.cells #[.int .i64 1, .int .i64 0, .int .i64 0, .string ⟨#[]⟩, .bool false, .int .i64 0, .int .i64 0, .int .i64 0, .int .i64 0, .int .i64 0, .int .i64 0, .int .i64 0, .int .i64 0, .string ⟨#[]⟩, .int .i64 0] 47)) := ((Below.refl _ _).alloc (Nat.le_refl _) _).alloc (by simp) _
  have hkW := KeepR.up hW hlt
  have CO := pcallA tb tv htb R f HE s r h0 ((w.alloc (.cells #[.int .i64 s.now.kind, .int .i64 s.now.place, .int .i64 s.now.num, .string s.now.str, .int .i64 s.now.r, .int .i64 s.now.c, .int .i64 s.now.t, .int .i64 s.now.l, .int .i64 s.now.b, .int .i64 s.now.q, .int .i64 s.now.code] 77)).alloc (.cells #[.int .i64 1, .int .i64 0, .int .i64 0, .string ⟨#[]⟩, .bool false, .int .i64 0, .int .i64 0, .int .i64 0, .int .i64 0, .int .i64 0, .int .i64 0, .int .i64 0, .int .i64 0, .string ⟨#[]⟩, .int .i64 0] 47)) (hR.up hW)
  clear HE h0
  obtain ⟨A, cap, N, h⟩ := hR
  have c1 : w.cell? ⟨R, 1, none⟩ = some (.int .i64 s.now.kind) := by rw [cell_of_row w R 1 _ _ _ h.blk]; rfl
  have c2 : w.cell? ⟨R, 2, none⟩ = some (.int .i64 s.now.place) := by rw [cell_of_row w R 2 _ _ _ h.blk]; rfl
  have c3 : w.cell? ⟨R, 3, none⟩ = some (.int .i64 s.now.num) := by rw [cell_of_row w R 3 _ _ _ h.blk]; rfl
  have c4 : w.cell? ⟨R, 4, none⟩ = some (.string s.now.str) := by rw [cell_of_row w R 4 _ _ _ h.blk]; rfl
  have c5 : w.cell? ⟨R, 5, none⟩ = some (.int .i64 s.now.r) := by rw [cell_of_row w R 5 _ _ _ h.blk]; rfl
  have c6 : w.cell? ⟨R, 6, none⟩ = some (.int .i64 s.now.c) := by rw [cell_of_row w R 6 _ _ _ h.blk]; rfl
  have c7 : w.cell? ⟨R, 7, none⟩ = some (.int .i64 s.now.t) := by rw [cell_of_row w R 7 _ _ _ h.blk]; rfl
  have c8 : w.cell? ⟨R, 8, none⟩ = some (.int .i64 s.now.l) := by rw [cell_of_row w R 8 _ _ _ h.blk]; rfl
  have c9 : w.cell? ⟨R, 9, none⟩ = some (.int .i64 s.now.b) := by rw [cell_of_row w R 9 _ _ _ h.blk]; rfl
  have c10 : w.cell? ⟨R, 10, none⟩ = some (.int .i64 s.now.q) := by rw [cell_of_row w R 10 _ _ _ h.blk]; rfl
  have c11 : w.cell? ⟨R, 11, none⟩ = some (.int .i64 s.now.code) := by rw [cell_of_row w R 11 _ _ _ h.blk]; rfl
  clear h hW
  go_enter Tryz.func128, Tryz.ntmps128
  go_wp2_with fail
  refine CO.mono ?_
  rintro e w1 ⟨k1, h1⟩
  have k1 := hkW.trans k1
  cases r with
  | ok s1 =>
    obtain ⟨rfl, hR1⟩ := h1
    go_wp2
    first | go_end0 | refine bodyPost_ret (results_none rfl _ _ _) rfl ?_
    exact ⟨k1, rfl, hR1⟩
  | bad e1 a1 =>
    obtain rfl := h1
    exact ⟨rfl, k1, rfl⟩
set_option maxRecDepth 100000 in
set_option maxHeartbeats 2000000 in
theorem pprimB (tb : Tb) (tv : TV) (R f : Nat) (HE : ∀ s w q, RSt tv R w s → px tb f (.lev 0) s = some q → Calls Tryz.prog 25 #[.pointer (some ⟨R, 0, none⟩)] w fun e w' => RRes tv R w q e w') (s : PS) (n1 : s.now.kind ≠ 1) (n2 : s.now.kind ≠ 2) (n6 : s.now.kind ≠ 6) (n4 : s.now.kind ≠ 4) (n3 : s.now.kind ≠ 3) (r : PR) (h0 : bindR (some s.opens) (fun s' => bindR (px tb f (.lev 0) s') fun s'' => some s''.closes) = some r) (w : World) (hR : RSt tv R w s) : Calls Tryz.prog 128 #[.pointer (some ⟨R, 0, none⟩)] w fun e w' => RRes tv R w r e w' := by
  have hlt := hR.lt
  have e1 : (s.now.kind == 1) = false := by simp [n1]
  have e2 : (s.now.kind == 2) = false := by simp [n2]
  have e6 : (s.now.kind == 6) = false := by simp [n6]
  have e4 : (s.now.kind == 4) = false := by simp [n4]
  have e3 : (s.now.kind == 3) = false := by simp [n3]
  clear n1 n2 n6 n4 n3
  have hW : Below w.heap.size w ((w.alloc (.cells #[.int .i64 s.now.kind, .int .i64 s.now.place, .int .i64 s.now.num, .string s.now.str, .int .i64 s.now.r, .int .i64 s.now.c, .int .i64 s.now.t, .int .i64 s.now.l, .int .i64 s.now.b, .int .i64 s.now.q, .int .i64 s.now.code] 77)).alloc (.cells #[.int .i64 1, .int .i64 0, .int .i64 0, .string ⟨#[]⟩, .bool false, .int .i64 0, .int .i64 0, .int .i64 0, .int .i64 0, .int .i64 0, .int .i64 0, .int .i64 0, .int .i64 0, .string ⟨#[]⟩, .int .i64 0] 47)) := ((Below.refl _ _).alloc (Nat.le_refl _) _).alloc (by simp) _
  have hkW := KeepR.up hW hlt
  have hwf := hR.wf
  have ho : 0 ≤ s.opn := by obtain ⟨A, cap, N, h⟩ := hR; exact h.o1
  have CO := pbegin tv R s ((w.alloc (.cells #[.int .i64 s.now.kind, .int .i64 s.now.place, .int .i64 s.now.num, .string s.now.str, .int .i64 s.now.r, .int .i64 s.now.c, .int .i64 s.now.t, .int .i64 s.now.l, .int .i64 s.now.b, .int .i64 s.now.q, .int .i64 s.now.code] 77)).alloc (.cells #[.int .i64 1, .int .i64 0, .int .i64 0, .string ⟨#[]⟩, .bool false, .int .i64 0, .int .i64 0, .int .i64 0, .int .i64 0, .int .i64 0, .int .i64 0, .int .i64 0, .int .i64 0, .string ⟨#[]⟩, .int .i64 0] 47)) (hR.up hW)
  obtain ⟨A, cap, N, h⟩ := hR
  have c1 : w.cell? ⟨R, 1, none⟩ = some (.int .i64 s.now.kind) := by rw [cell_of_row w R 1 _ _ _ h.blk]; rfl
  have c2 : w.cell? ⟨R, 2, none⟩ = some (.int .i64 s.now.place) := by rw [cell_of_row w R 2 _ _ _ h.blk]; rfl
  have c3 : w.cell? ⟨R, 3, none⟩ = some (.int .i64 s.now.num) := by rw [cell_of_row w R 3 _ _ _ h.blk]; rfl
  have c4 : w.cell? ⟨R, 4, none⟩ = some (.string s.now.str) := by rw [cell_of_row w R 4 _ _ _ h.blk]; rfl
  have c5 : w.cell? ⟨R, 5, none⟩ = some (.int .i64 s.now.r) := by rw [cell_of_row w R 5 _ _ _ h.blk]; rfl
  have c6 : w.cell? ⟨R, 6, none⟩ = some (.int .i64 s.now.c) := by rw [cell_of_row w R 6 _ _ _ h.blk]; rfl
  have c7 : w.cell? ⟨R, 7, none⟩ = some (.int .i64 s.now.t) := by rw [cell_of_row w R 7 _ _ _ h.blk]; rfl
  have c8 : w.cell? ⟨R, 8, none⟩ = some (.int .i64 s.now.l) := by rw [cell_of_row w R 8 _ _ _ h.blk]; rfl
  have c9 : w.cell? ⟨R, 9, none⟩ = some (.int .i64 s.now.b) := by rw [cell_of_row w R 9 _ _ _ h.blk]; rfl
  have c10 : w.cell? ⟨R, 10, none⟩ = some (.int .i64 s.now.q) := by rw [cell_of_row w R 10 _ _ _ h.blk]; rfl
  have c11 : w.cell? ⟨R, 11, none⟩ = some (.int .i64 s.now.code) := by rw [cell_of_row w R 11 _ _ _ h.blk]; rfl
  clear h hW
  go_enter Tryz.func128, Tryz.ntmps128
  go_wp2_with fail
  refine CO.mono ?_
  rintro e w1 ⟨k1, h1⟩
  have k1 := hkW.trans k1
  clear CO hkW
  rcases bindR_some h0 with ⟨e1, a1, h2, rfl⟩ | ⟨s1, h2, h3⟩
  · injection h2 with h2
    rw [h2] at h1
    obtain rfl := h1
    exact ⟨rfl, k1, rfl⟩
  · injection h2 with h2
    rw [h2] at h1
    obtain ⟨rfl, hR1⟩ := h1
    obtain ⟨es1, _, _⟩ := opens_some h2
    have ho1 : 1 ≤ s1.opn := by
      rw [es1, PS.step_opn]
      show 1 ≤ s.opn + 1
      omega
    clear h2 es1
    have CE := fun q => HE s1 w1 q hR1
    rcases bindR_some h3 with ⟨e1, a1, h4, rfl⟩ | ⟨s2, h4, h5⟩
    · have CE1 := CE _ h4
      clear CE h3 h0 h4
      go_wp2_with fail
      refine CE1.mono ?_
      rintro e w2 ⟨k2, rfl⟩
      exact ⟨rfl, k1.trans k2, rfl⟩
    · have CE1 := CE _ h4
      have hao := (px_after tb hR1.wf (show Md.ok (.lev 0) from Nat.zero_le 4) h4).opn
      simp only [Md.opn] at hao
      injection h5 with h5
      clear CE h3 h0 h4
      go_wp2_with fail
      refine CE1.mono ?_
      rintro e w2 ⟨k2, rfl, hR2⟩
      have CN := pend tv R s2 (by omega) w2 hR2
      rw [h5] at CN
      go_wp2_with fail
      refine CN.mono ?_
      rintro e w3 ⟨k3, h6⟩
      cases r with
      | ok s3 =>
        obtain ⟨rfl, hR3⟩ := h6
        go_wp2
        first | go_end0 | refine bodyPost_ret (results_none rfl _ _ _) rfl ?_
        exact ⟨(k1.trans k2).trans k3, rfl, hR3⟩
      | bad e1 a1 =>
        obtain rfl := h6
        exact ⟨rfl, (k1.trans k2).trans k3, rfl⟩
theorem pprim (tb : Tb) (tv : TV) (htb : tb = tbOf tv.l) (R f : Nat) (HE : ∀ s w q, RSt tv R w s → px tb f (.lev 0) s = some q → Calls Tryz.prog 25 #[.pointer (some ⟨R, 0, none⟩)] w fun e w' => RRes tv R w q e w') (s : PS) (r : PR) (w : World) (hR : RSt tv R w s) (h : px tb (f + 1) .prim s = some r) : Calls Tryz.prog 128 #[.pointer (some ⟨R, 0, none⟩)] w fun e w' => RRes tv R w r e w' := by
  rw [px] at h
  by_cases h1 : s.now.kind = 1
  · have hl : leafN s.now = some (valN ⟨1, s.now.num, ⟨#[]⟩, false, 0⟩) := by unfold leafN; rw [if_pos h1]
    rw [hl] at h
    exact pprim1 tv R s h1 r h w hR
  by_cases h2 : s.now.kind = 2
  · have hl : leafN s.now = some (valN ⟨2, 0, s.now.str, false, 0⟩) := by unfold leafN; rw [if_neg h1, if_pos h2]
    rw [hl] at h
    exact pprim2 tv R s h2 r h w hR
  by_cases h6 : s.now.kind = 6
  · have hl : leafN s.now = some (valN ⟨4, 0, ⟨#[]⟩, false, s.now.code⟩) := by unfold leafN; rw [if_neg h1, if_neg h2, if_pos h6]
    rw [hl] at h
    exact pprim6 tv R s h6 r h w hR
  by_cases h4 : s.now.kind = 4
  · have hl : leafN s.now = some (cellN s.now.r s.now.c) := by unfold leafN; rw [if_neg h1, if_neg h2, if_neg h6, if_pos h4]
    rw [hl] at h
    exact pprim4 tv R s h4 r h w hR
  by_cases h3 : s.now.kind = 3
  · by_cases hT : s.now.str = trueS
    · have hl : leafN s.now = some (valN ⟨3, 0, ⟨#[]⟩, true, 0⟩) := by unfold leafN; rw [if_neg h1, if_neg h2, if_neg h6, if_neg h4, if_pos h3, if_pos hT]
      rw [hl] at h
      exact pprim3t tv R s h3 hT r h w hR
    · by_cases hF : s.now.str = falseS
      · have hl : leafN s.now = some (valN ⟨3, 0, ⟨#[]⟩, false, 0⟩) := by unfold leafN; rw [if_neg h1, if_neg h2, if_neg h6, if_neg h4, if_pos h3, if_neg hT, if_pos hF]
        rw [hl] at h
        exact pprim3f tv R s h3 hF r h w hR
      · have hl : leafN s.now = none := by unfold leafN; rw [if_neg h1, if_neg h2, if_neg h6, if_neg h4, if_pos h3, if_neg hT, if_neg hF]
        rw [hl] at h
        dsimp only at h
        rw [if_pos h3] at h
        exact pprimC tb tv htb R f HE s h3 hT hF r h w hR
  · have hl : leafN s.now = none := by unfold leafN; rw [if_neg h1, if_neg h2, if_neg h6, if_neg h4, if_neg h3]
    rw [hl] at h
    dsimp only at h
    rw [if_neg h3] at h
    exact pprimB tb tv R f HE s h1 h2 h6 h4 h3 r h w hR
end Go.Proofs.YtfbkoieodflcpaaGreatDoor
