/-
  orielref04: Lex.
-/
import Derived.Test.YtiekhbagpmnboaaGreatDoorPrintL
import Derived.Test.YtiekhbagpmnboaaGreatDoorNumL
import Derived.Test.YtiekhbagpmnboaaGreatDoorRows
import Derived.Test.YtiekhbagpmnboaaGreatDoorBase
import Derived.Test.YtiekhbagpmnboaaGreatDoorProg
import Derived.Test.YtiekhbagpmnboaaGreatDoorShelf
import Derived.Test.YtiekhbagpmnboaaGreatDoorCutW
import Derived.Test.YtiekhbagpmnboaaGreatDoorAddrC
import Derived.Test.YtiekhbagpmnboaaGreatDoorNames
import Derived.Test.YtiekhbagpmnboaaGreatDoorParseW
import Derived.Test.YtiekhbagpmnboaaGreatDoorPRect
import Derived.Test.YtiekhbagpmnboaaGreatDoorDecA
import Derived.Test.YtiekhbagpmnboaaGreatDoorValA
import Derived.Test.YtiekhbagpmnboaaGreatDoorValB
import Derived.Test.YtiekhbagpmnboaaGreatDoorValD
import Derived.Test.YtiekhbagpmnboaaGreatDoorLexP
import Derived.Test.YtiekhbagpmnboaaGreatDoorRefName
import Derived.Test.YtiekhbagpmnboaaGreatDoorLexR
import Derived.Test.YtiekhbagpmnboaaGreatDoorLexQ
import Derived.Test.YtiekhbagpmnboaaGreatDoorLexS
import Derived.Test.YtiekhbagpmnboaaGreatDoorRParse
import Derived.Test.YtiekhbagpmnboaaGreatDoorRPRect
import Derived.Test.YtiekhbagpmnboaaGreatDoorLexN
import Derived.Test.YtiekhbagpmnboaaGreatDoorMg30
import Derived.Test.YtiekhbagpmnboaaGreatDoorMg31
import Derived.Test.YtiekhbagpmnboaaGreatDoorRDPar
import Derived.Test.YtiekhbagpmnboaaGreatDoorRDParB
import Derived.Test.YtiekhbagpmnboaaGreatDoorDDig
import Derived.Test.YtiekhbagpmnboaaGreatDoorDParse
import Derived.Test.YtiekhbagpmnboaaGreatDoorRDJoin
import Derived.Test.YtiekhbagpmnboaaGreatDoorValK
import Derived.Test.YtiekhbagpmnboaaGreatDoorLexD
import Derived.Test.YtiekhbagpmnboaaGreatDoorLexA
import Derived.Test.YtiekhbagpmnboaaGreatDoorLexB
import Derived.Test.YtiekhbagpmnboaaGreatDoorRowB
import Derived.Test.YtiekhbagpmnboaaGreatDoorMapK
import Derived.Test.YtiekhbagpmnboaaGreatDoorTokR
import Derived.Maps.AppendAt
import Derived.WalkSpells
import Derived.WalkLawsBesides
import Derived.StillTactics
import Derived.Laws.Pointers
import Derived.Deep.RegionHeld3
import Derived.Deep.QuietTactic
import Derived.BigQuiet
import Derived.RowKit3
import Derived.Lib.Hide
import Derived.Lib.OthersKept
import Derived.OwnWalk
import Derived.Lib.IndexLaws
import Derived.Lib.ItoaMem
import Derived.Lib.TrimByte
import Derived.Lib.SlTrimSet
import Derived.Lib.ParseIntB
import Derived.WalkKit
import Derived.ProofKit
import Derived.OpenShut
import Derived.Carry
import Derived.ChangeSame
import Derived.Deep.Draws
import Derived.Shelf.Strings.Builder1
import Derived.Shelf.Strings.Trim
import Derived.Shelf.Small.Utf8
import Derived.Shelf.Small.Strs
import Derived.Shelf.Small.Wraps
import Derived.Shelf.Strings.BuilderF
import Derived.Shelf.Strings.BuilderK
import Derived.Shelf.Strconv.Itoa0
import Derived.Shelf.Strconv.Itoa1
import Derived.Shelf.LaysM
import Derived.Shelf.Strconv.Itoa2
import Derived.Shelf.Strconv.Itoa3
import Derived.Ground.MpProg
import Derived.Shelf.Pu.ParseUintPublic10
import Derived.Shelf.Strings.Search1
import Derived.Shelf.Strings.Search2
import Derived.Shelf.Strings.Cut
import Derived.Shelf.Strings.Shaped
import Derived.Shelf.Strings.Prefix
import Derived.Shelf.Strings.Runes
import Derived.Shelf.Strings.AsciiSet
import Derived.Shelf.Unicode.DecodeSlow
import Derived.Lib.ItoaNum
import Derived.Shelf.Strings.SlTrimAscii
import Derived.Lib.SmallJoins
import Derived.Maps.OwnSet
namespace Go.Proofs.YtiekhbagpmnboaaGreatDoor
open Go.RowKit

theorem toks_step (n f : Nat) (s : List UInt8) (y : Tok) (m : Nat) (p : Nat) (hs : s.length ≤ n) (hp : p = n - (blank s).length) (hx : firstT (blank s) = (y, m)) :
    toks n (f + 1) s = y.put p :: if (y.put p).last then [] else toks n f ((blank s).drop m) := by
  have hb := blank_le s
  rw [toks, hx, last_put]
  have : (n : Int) - (blank s).length = p := by omega
  rw [this]
theorem r4nexty (l : List UInt8) (at' p : Nat) (hl : l.length ≤ 9223372036854775000) (ham : l.length ≤ maxLen) (ha : at' ≤ l.length) (hp : p = l.length - (blank (l.drop at')).length) (x y : Tok) (n : Nat) (hx : firstT (blank (l.drop at')) = (x, n)) (hy : y = x.put p) (w : World) : Calls Tryz.prog 17 #[.string ⟨l.toArray⟩, .int .i64 (at' : Int)] w fun e w' => e = .returned (.tuple #[.agg #[.int .i64 y.kind, .int .i64 y.place, .int .i64 y.num, .string y.str, .int .i64 y.r, .int .i64 y.c, .int .i64 y.t, .int .i64 y.l, .int .i64 y.b, .int .i64 y.q, .int .i64 y.code], .int .i64 ((p + n : Nat) : Int)]) ∧ Below w.heap.size w w' := by
  subst hy
  exact r4next l at' p hl ham ha hp x n hx w
set_option maxRecDepth 100000 in
set_option maxHeartbeats 4000000 in
theorem r4lex_yes (l r : List UInt8) (c : UInt8) (hlr : l = c :: r) (hc : c.toNat = 61) (hl : l.length ≤ 1400000000000) (w : World) : Calls Tryz.prog 9 #[.string ⟨l.toArray⟩] w fun e w' => (∃ v, e = .returned v ∧ OwnT w' w.heap.size v (lexL l)) ∧ Below w.heap.size w w' := by
  obtain ⟨i0, hi, hz0, hz1, hz2⟩ := info_parts tok_info
  have ham : l.length ≤ maxLen := by unfold maxLen; omega
  have hb0 : 0 < (⟨l.toArray⟩ : ByteArray).size := by show 0 < l.toArray.size; rw [hlr]; simp
  have hbe : ((⟨l.toArray⟩ : ByteArray)[0]'hb0).toNat = 61 := by subst hlr; exact hc
  have hne : ((⟨l.toArray⟩ : ByteArray) = ⟨#[]⟩) = False := by rw [show (⟨#[]⟩ : ByteArray) = ⟨([] : List UInt8).toArray⟩ from rfl, list_bytes, hlr]; exact eq_false (by simp)
  have hL0 : Hid (lexL l = [] ++ toks l.length (r.length + 1) (l.drop 1)) := Lib.hid (by rw [hlr]; simp [lexL, hc])
  have hrl : l.length = r.length + 1 := by rw [hlr]; simp
  clear hlr hc
  go_enter Tryz.func9, Tryz.ntmps9
  go_wp2
  go_loopw [3, 4] (fun v a wr => ∃ (pre : List Tok) (at' f : Nat), at' ≤ l.length ∧ pre.length ≤ at' ∧ a = .int .i64 (at' : Int) ∧ l.length - at' < f ∧ OwnT wr w.heap.size v pre ∧ Below w.heap.size w wr ∧ Hid (lexL l = pre ++ toks l.length f (l.drop at'))) (fun _ a _ => l.length - (intOf a).toNat)
  case atStart => exact ⟨[], 1, r.length + 1, by omega, by simp, rfl, by omega, World.ownsRow_nil _ _ _ _, Below.refl _ _, hL0⟩
  case round =>
    clear hL0 hbe hne hrl
    obtain ⟨pre, at', f, hat, hpre, rfl, hf, hown, hbr, hL⟩ := hrel
    have hzr := hbr.size
    obtain ⟨f, rfl⟩ : ∃ g, f = g + 1 := ⟨f - 1, by omega⟩
    obtain ⟨x, m, hx⟩ : ∃ x m, firstT (blank (l.drop at')) = (x, m) := ⟨_, _, rfl⟩
    obtain ⟨p, hp⟩ : ∃ p, p = l.length - (blank (l.drop at')).length := ⟨_, rfl⟩
    obtain ⟨y, hy⟩ : ∃ y, y = x.put p := ⟨_, rfl⟩
    have hbl := blank_le (l.drop at')
    rw [List.length_drop] at hbl
    have CN := r4nexty l at' p (by omega) ham hat hp x y m hx hy
    have hstep := toks_step l.length f (l.drop at') x m p (by rw [List.length_drop]; omega) hp hx
    rw [← hy] at hstep
    have hsm : y.last = false → 1 ≤ m ∧ p + m ≤ l.length := fun h => by
      have := first_small (blank (l.drop at')) (by rw [hx]; rw [hy, last_put] at h; exact h)
      rw [hx] at this
      dsimp only at this
      omega
    have hpat : at' ≤ p := by omega
    have hdrop : (blank (l.drop at')).drop m = l.drop (p + m) := by
      rw [blank_drop, List.drop_drop]
      have := blank_drop l at'
      have h2 := congrArg List.length this
      rw [List.length_drop] at h2
      have h3 := takeWhile_le (fun b => decide (b.toNat = 32)) (l.drop at')
      rw [List.length_drop] at h3
      congr 1; omega
    rw [hstep, hdrop] at hL
    clear hstep hdrop hx hp hy hbl
    go_wp2_with fail
    refine (CN _).mono ?_
    rintro e w1 ⟨rfl, hb1⟩
    clear CN
    have hbr1 : Below w.heap.size w w1 := hbr.trans (hb1.mono hzr)
    have hown1 : OwnT w1 w.heap.size _ pre := ownsRow_below hown hb1
    have hzr1 := hbr1.size
    clear hb1 hbr hown
    have hbr2 : Below w.heap.size w (w1.alloc (.cells #[.int .i64 y.kind, .int .i64 y.place, .int .i64 y.num, .string y.str, .int .i64 y.r, .int .i64 y.c, .int .i64 y.t, .int .i64 y.l, .int .i64 y.b, .int .i64 y.q, .int .i64 y.code] 33)) := hbr1.alloc hzr1 _
    have hown2 : OwnT (w1.alloc (.cells #[.int .i64 y.kind, .int .i64 y.place, .int .i64 y.num, .string y.str, .int .i64 y.r, .int .i64 y.c, .int .i64 y.t, .int .i64 y.l, .int .i64 y.b, .int .i64 y.q, .int .i64 y.code] 33)) w.heap.size _ pre := hown1.alloc _
    have hvg := heap_alloc_new (w1.alloc (.cells #[.int .i64 y.kind, .int .i64 y.place, .int .i64 y.num, .string y.str, .int .i64 y.r, .int .i64 y.c, .int .i64 y.t, .int .i64 y.l, .int .i64 y.b, .int .i64 y.q, .int .i64 y.code] 33)) (.cells #[.int .i64 y.kind, .int .i64 y.place, .int .i64 y.num, .string y.str, .int .i64 y.r, .int .i64 y.c, .int .i64 y.t, .int .i64 y.l, .int .i64 y.b, .int .i64 y.q, .int .i64 y.code] 33)
    rw [World.size_alloc] at hvg
    have yk : (w1.alloc (.cells #[.int .i64 y.kind, .int .i64 y.place, .int .i64 y.num, .string y.str, .int .i64 y.r, .int .i64 y.c, .int .i64 y.t, .int .i64 y.l, .int .i64 y.b, .int .i64 y.q, .int .i64 y.code] 33)).cell? ⟨w1.heap.size, 0, none⟩ = some (.int .i64 y.kind) := by simp
    by_cases hk0 : y.kind = 0
    · have hl0 : y.last = true := by simp [Tok.last, hk0]
      rw [hl0, if_pos rfl] at hL
      have e0 : (y.kind == 0) = true := by simp [hk0]
      clear hk0 hl0 hsm
      go_wp2_with (at_builtin; go_loud (refine wpList_append_own_at _ rfl _ _ 22 rfl w.heap.size 33 i0 (.agg #[.int .i64 0, .int .i64 0, .int .i64 0, .string ⟨#[]⟩, .int .i64 0, .int .i64 0, .int .i64 0, .int .i64 0, .int .i64 0, .int .i64 0, .int .i64 0]) 11 96 Tryz.underlying22 hi hz0 hz1 hz2 rfl (by decide) _ _ _ rfl (hown2.alloc _) ⟨w1.heap.size + 1, 0, none⟩ 1 1 y.cs rfl rfl (tget hvg) (by simp [Tok.cs, Value.oneCell']) (by unfold maxLen; omega) (by omega) (by simp; omega) ?_); intro v' w5 hown5 hgrow5 _ _; have yf : w5.cell? ⟨w1.heap.size, 0, none⟩ = some (.int .i64 y.kind) := (World.cell?_of_block (a := ⟨w1.heap.size, 0, none⟩) (hgrow5.block w1.heap.size (by simp; omega) (fun e => by have := (hown1.lt _ (by first | exact e | exact e.symm)).2; omega))).trans ((World.cell?_alloc_lt _ _ ⟨w1.heap.size, 0, none⟩ (by simp)).trans yk))
      have hbr5 : Below w.heap.size w w5 := (hbr2.alloc (by simp; omega) (.cells #[.int .i64 y.kind, .int .i64 y.place, .int .i64 y.num, .string y.str, .int .i64 y.r, .int .i64 y.c, .int .i64 y.t, .int .i64 y.l, .int .i64 y.b, .int .i64 y.q, .int .i64 y.code] 33)).grown hgrow5 (by simp; omega) (fun q hq => (hown2.lt q hq).1)
      have ho5 : OwnT w5 w.heap.size v' (pre ++ [y]) := by unfold OwnT; rw [tRow_app, tRow_one, List.length_append]; exact hown5
      clear hgrow5 hown5 hown2 hown1 hbr2 hbr1
      rw [← hL.out] at ho5
      go_ret
      exact ⟨⟨_, rfl, ho5⟩, hbr5⟩
    · by_cases hk8 : y.kind = 8
      · have hl0 : y.last = true := by simp [Tok.last, hk8]
        rw [hl0, if_pos rfl] at hL
        have e0 : (y.kind == 0) = false := by simp [hk0]
        have e8 : (y.kind == 8) = true := by simp [hk8]
        clear hk0 hk8 hl0 hsm
        go_wp2_with (at_builtin; go_loud (refine wpList_append_own_at _ rfl _ _ 22 rfl w.heap.size 33 i0 (.agg #[.int .i64 0, .int .i64 0, .int .i64 0, .string ⟨#[]⟩, .int .i64 0, .int .i64 0, .int .i64 0, .int .i64 0, .int .i64 0, .int .i64 0, .int .i64 0]) 11 96 Tryz.underlying22 hi hz0 hz1 hz2 rfl (by decide) _ _ _ rfl (hown2.alloc _) ⟨w1.heap.size + 1, 0, none⟩ 1 1 y.cs rfl rfl (tget hvg) (by simp [Tok.cs, Value.oneCell']) (by unfold maxLen; omega) (by omega) (by simp; omega) ?_); intro v' w5 hown5 hgrow5 _ _; have yf : w5.cell? ⟨w1.heap.size, 0, none⟩ = some (.int .i64 y.kind) := (World.cell?_of_block (a := ⟨w1.heap.size, 0, none⟩) (hgrow5.block w1.heap.size (by simp; omega) (fun e => by have := (hown1.lt _ (by first | exact e | exact e.symm)).2; omega))).trans ((World.cell?_alloc_lt _ _ ⟨w1.heap.size, 0, none⟩ (by simp)).trans yk))
        have hbr5 : Below w.heap.size w w5 := (hbr2.alloc (by simp; omega) (.cells #[.int .i64 y.kind, .int .i64 y.place, .int .i64 y.num, .string y.str, .int .i64 y.r, .int .i64 y.c, .int .i64 y.t, .int .i64 y.l, .int .i64 y.b, .int .i64 y.q, .int .i64 y.code] 33)).grown hgrow5 (by simp; omega) (fun q hq => (hown2.lt q hq).1)
        have ho5 : OwnT w5 w.heap.size v' (pre ++ [y]) := by unfold OwnT; rw [tRow_app, tRow_one, List.length_append]; exact hown5
        clear hgrow5 hown5 hown2 hown1 hbr2 hbr1
        rw [← hL.out] at ho5
        go_ret
        exact ⟨⟨_, rfl, ho5⟩, hbr5⟩
      · have hl0 : y.last = false := by simp [Tok.last, hk0, hk8]
        obtain ⟨hm1, hm2⟩ := hsm hl0
        have hL2 : Hid (lexL l = (pre ++ [y]) ++ toks l.length f (l.drop (p + m))) := Lib.hid (by rw [hL.out, hl0]; simp)
        have e0 : (y.kind == 0) = false := by simp [hk0]
        have e8 : (y.kind == 8) = false := by simp [hk8]
        clear hk0 hk8 hl0 hL hsm
        go_wp2_with (at_builtin; go_loud (refine wpList_append_own_at _ rfl _ _ 22 rfl w.heap.size 33 i0 (.agg #[.int .i64 0, .int .i64 0, .int .i64 0, .string ⟨#[]⟩, .int .i64 0, .int .i64 0, .int .i64 0, .int .i64 0, .int .i64 0, .int .i64 0, .int .i64 0]) 11 96 Tryz.underlying22 hi hz0 hz1 hz2 rfl (by decide) _ _ _ rfl (hown2.alloc _) ⟨w1.heap.size + 1, 0, none⟩ 1 1 y.cs rfl rfl (tget hvg) (by simp [Tok.cs, Value.oneCell']) (by unfold maxLen; omega) (by omega) (by simp; omega) ?_); intro v' w5 hown5 hgrow5 _ _; have yf : w5.cell? ⟨w1.heap.size, 0, none⟩ = some (.int .i64 y.kind) := (World.cell?_of_block (a := ⟨w1.heap.size, 0, none⟩) (hgrow5.block w1.heap.size (by simp; omega) (fun e => by have := (hown1.lt _ (by first | exact e | exact e.symm)).2; omega))).trans ((World.cell?_alloc_lt _ _ ⟨w1.heap.size, 0, none⟩ (by simp)).trans yk))
        have hbr5 : Below w.heap.size w w5 := (hbr2.alloc (by simp; omega) (.cells #[.int .i64 y.kind, .int .i64 y.place, .int .i64 y.num, .string y.str, .int .i64 y.r, .int .i64 y.c, .int .i64 y.t, .int .i64 y.l, .int .i64 y.b, .int .i64 y.q, .int .i64 y.code] 33)).grown hgrow5 (by simp; omega) (fun q hq => (hown2.lt q hq).1)
        have ho5 : OwnT w5 w.heap.size v' (pre ++ [y]) := by unfold OwnT; rw [tRow_app, tRow_one, List.length_append]; exact hown5
        clear hgrow5 hown5 hown2 hown1 hbr2 hbr1
        go_roundw
        case rel => exact ⟨pre ++ [y], p + m, f, hm2, by rw [List.length_append]; simp; omega, by go_num, by omega, ho5, hbr5, hL2⟩
        case measure => simp [intOf]; omega
end Go.Proofs.YtiekhbagpmnboaaGreatDoor
