/-
  lex.Lex: what its range tells.
-/
import Derived.Test.YtfbkoieodflcpaaGreatDoorMg3
import Derived.Test.YtfbkoieodflcpaaGreatDoorRows
import Derived.Test.YtfbkoieodflcpaaGreatDoorMg0
import Derived.Test.YtfbkoieodflcpaaGreatDoorProg
import Derived.Test.YtfbkoieodflcpaaGreatDoorShelf
import Derived.Test.YtfbkoieodflcpaaGreatDoorMg4
import Derived.Test.YtfbkoieodflcpaaGreatDoorAddrC
import Derived.Test.YtfbkoieodflcpaaGreatDoorMg6
import Derived.Test.YtfbkoieodflcpaaGreatDoorValA
import Derived.Test.YtfbkoieodflcpaaGreatDoorValB
import Derived.Test.YtfbkoieodflcpaaGreatDoorMg9
import Derived.Test.YtfbkoieodflcpaaGreatDoorMg26
import Derived.Test.YtfbkoieodflcpaaGreatDoorMg11
import Derived.Test.YtfbkoieodflcpaaGreatDoorLexWd
import Derived.Test.YtfbkoieodflcpaaGreatDoorLexS
import Derived.Test.YtfbkoieodflcpaaGreatDoorDParse
import Derived.Test.YtfbkoieodflcpaaGreatDoorLexF
import Derived.Test.YtfbkoieodflcpaaGreatDoorMg15
import Derived.RangeFuncBox
import Derived.RangeFuncNested
import Derived.RangeFuncLeaves
import Derived.Shelf.Abstract
import Derived.WalkKit
import Derived.OwnWalkIn
import Derived.TacticsInMore
import Derived.LoopNIn
import Derived.LoopIn
import Derived.Maps.AppendAt
import Derived.Maps.OwnIn
import Derived.Lib.ItoaMem
import Derived.Lib.TrimByte
import Derived.Lib.IndexLaws
import Derived.Lib.SlTrimSet
import Derived.Lib.ParseIntB
import Derived.ProofKit
import Derived.OpenShut
import Derived.Carry
import Derived.ChangeSame
import Derived.Lib.Hide
import Derived.Deep.Draws
import Derived.Shelf.Strings.Builder1
import Derived.Shelf.Strings.Builder2
import Derived.Shelf.Strings.Trim
import Derived.Shelf.Small.Utf8
import Derived.Shelf.Small.Strs
import Derived.Shelf.Small.Wraps
import Derived.Shelf.Strings.BuilderF
import Derived.Shelf.Strings.BuilderK
import Derived.Shelf.Utf8.RuneCount
import Derived.Shelf.Strconv.Itoa0
import Derived.Shelf.Strconv.Itoa1
import Derived.Shelf.LaysM
import Derived.Shelf.Strconv.Itoa2
import Derived.Shelf.Strconv.Itoa3
import Derived.Ground.MpProg
import Derived.Shelf.Pu.ParseUintPublic10
import Derived.Shelf.Strings.Search1
import Derived.Shelf.Strings.Search2
import Derived.Shelf.Strings.Search3
import Derived.Shelf.Strings.Cut
import Derived.Shelf.Strings.Count
import Derived.Shelf.Strings.Shaped
import Derived.Shelf.Strings.Prefix
import Derived.Shelf.Strings.Split
import Derived.Shelf.Strings.Replace
import Derived.Shelf.Strings.SplitShaped
import Derived.Shelf.Unicode.Decode
import Derived.Shelf.Strings.Runes
import Derived.Shelf.Strings.RuneCount
import Derived.Shelf.Strings.AsciiSet
import Derived.Shelf.Unicode.DecodeSlow
import Derived.Shelf.Unicode.DecodeAny
import Derived.Shelf.Unicode.DecodeLast
import Derived.WalkSpells
import Derived.WalkLawsBesides
import Derived.StillTactics
import Derived.Laws.Pointers
import Derived.Deep.RegionHeld3
import Derived.Deep.QuietTactic
import Derived.BigQuiet
import Derived.RowKit3
import Derived.Lib.OthersKept
import Derived.OwnWalk
import Derived.Lib.ItoaNum
import Derived.Shelf.Strings.SlTrimAscii
import Derived.Lib.SmallJoins
import Derived.Maps.OwnSet
namespace Go.Proofs.YtfbkoieodflcpaaGreatDoor
open Go.RowKit Go.Shelf

attribute [local go_sem] Oper.semAt_some

theorem grown_below {w w' : World} (h : Below w.heap.size w w') (row : Option Nat) : w.grownBy w' row := ⟨h.os, h.tape, h.output, h.size, fun k hk _ => h.block k hk⟩
def Tok.enc (x : Tok) : Array Value := #[.agg #[.int .i64 x.kind, .int .i64 x.place, .int .i64 x.num, .string x.str, .int .i64 x.r, .int .i64 x.c, .int .i64 x.t, .int .i64 x.l, .int .i64 x.b, .int .i64 x.q, .int .i64 x.code]]
/-- the row to which a box's slice points -/
def ownOf (W : World) (Bo : Nat) : Option Nat := match W.cell? ⟨Bo, 0, none⟩ with | some v => v.ownBlock | none => none
/-- what a round of a loop that gathers into a box keeps: all cells but the box and its row -/
def KpO (Bo n₀ : Nat) (W W' : World) : Prop := Below n₀ W W' ∧ (ownOf W' Bo = ownOf W Bo ∨ ∃ g, ownOf W' Bo = some g ∧ W.heap.size ≤ g ∧ g < W'.heap.size) ∧
  ∀ k cs t fr, W.heap[k]? = some (.cells cs t fr) → k ≠ Bo → ownOf W Bo ≠ some k → W'.heap[k]? = some (.cells cs t fr)
theorem lt_of_heap {W : World} {k : Nat} {o : Obj} (h : W.heap[k]? = some o) : k < W.heap.size := (Array.getElem?_eq_some_iff.1 h).1
theorem KpO.trans {Bo n₀ : Nat} {A B C : World} (h : KpO Bo n₀ A B) (k : KpO Bo n₀ B C) : KpO Bo n₀ A C := by
  obtain ⟨h1, h2, h3⟩ := h
  obtain ⟨k1, k2, k3⟩ := k
  refine ⟨h1.trans k1, ?_, fun j cs t fr hj hne how => ?_⟩
  · rcases k2 with k2 | ⟨g, k2, k4, k5⟩
    · rcases h2 with h2 | ⟨g, h2, h4, h5⟩
      · exact .inl (k2.trans h2)
      · exact .inr ⟨g, k2.trans h2, h4, Nat.lt_of_lt_of_le h5 k1.size⟩
    · exact .inr ⟨g, k2, Nat.le_trans h1.size k4, k5⟩
  · refine k3 j cs t fr (h3 j cs t fr hj hne how) hne ?_
    rcases h2 with h2 | ⟨g, h2, h4, _⟩
    · rw [h2]; exact how
    · rw [h2]; intro e; injection e with e; have := lt_of_heap hj; omega
theorem ownOf_eq {W W' : World} {Bo : Nat} (h : W'.cell? ⟨Bo, 0, none⟩ = W.cell? ⟨Bo, 0, none⟩) : ownOf W' Bo = ownOf W Bo := by unfold ownOf; rw [h]
theorem KpO.putObj {Bo n₀ : Nat} {w : World} (hBo : Bo < w.heap.size) (hn : n₀ ≤ w.heap.size) (W : World) (l : Nat) (o o' : Obj) (hl : w.heap.size ≤ l) (ho : W.heap[l]? = some o) (hc : o.isCells = false) (hw : o.isWalk = false) : KpO Bo n₀ W (W.putObj l o') := by
  refine ⟨belowK_b hn W l o o' hl ho hc hw, .inl (ownOf_eq ?_), fun k cs t fr hk _ _ => ?_⟩
  · exact World.cell?_of_block (a := ⟨Bo, 0, none⟩) (World.putObj_heap_other (by dsimp only; omega))
  · refine (World.putObj_heap_other fun e => ?_).trans hk
    subst e
    rw [ho] at hk
    cases hk
    simp [Obj.isCells] at hc
theorem KpO.of_below {Bo n₀ : Nat} {W W' : World} (hb : Below W.heap.size W W') (hBo : Bo < W.heap.size) (hn : n₀ ≤ W.heap.size) : KpO Bo n₀ W W' :=
  ⟨hb.mono hn, .inl (ownOf_eq (hb.cell (p := ⟨Bo, 0, none⟩) hBo)), fun k _cs _t _fr hk _ _ => (hb.block k (lt_of_heap hk)).trans hk⟩
theorem lcut_yes (l r : List UInt8) (c : UInt8) (hlr : l = c :: r) (hc : c.toNat = 61) (w : World) : Calls Tryz.prog 49 #[.string ⟨l.toArray⟩, .string ⟨#[61]⟩] w fun e w' => e = .returned (.tuple #[.string ⟨r.toArray⟩, .bool true]) ∧ w' = w := by
  have h := Tryz.strings_CutPrefix ⟨l.toArray⟩ ⟨#[61]⟩ w
  have h61 : c = 61 := by rw [← UInt8.toNat_inj]; exact hc
  have e1 : Lib.trimPrefix (⟨l.toArray⟩ : ByteArray).data.toList (⟨#[61]⟩ : ByteArray).data.toList = r := by subst hlr h61; simp [Lib.trimPrefix, Lib.hasPrefix]
  have e2 : Lib.hasPrefix (⟨l.toArray⟩ : ByteArray).data.toList (⟨#[61]⟩ : ByteArray).data.toList = true := by subst hlr h61; simp [Lib.hasPrefix]
  rwa [e1, e2] at h
theorem lcut_no (l : List UInt8) (h0 : ∀ b, l.head? = some b → b.toNat ≠ 61) (w : World) : Calls Tryz.prog 49 #[.string ⟨l.toArray⟩, .string ⟨#[61]⟩] w fun e w' => e = .returned (.tuple #[.string ⟨l.toArray⟩, .bool false]) ∧ w' = w := by
  have h := Tryz.strings_CutPrefix ⟨l.toArray⟩ ⟨#[61]⟩ w
  have e2 : Lib.hasPrefix (⟨l.toArray⟩ : ByteArray).data.toList (⟨#[61]⟩ : ByteArray).data.toList = false := by
    show Lib.hasPrefix l [61] = false
    cases l with
    | nil => rfl
    | cons b r =>
      have := h0 b rfl
      have hne : (61 : UInt8) ≠ b := fun e => this (by rw [← e]; rfl)
      show ([61] : List UInt8).isPrefixOf (b :: r) = false
      simp [List.isPrefixOf, hne]
  have e1 : Lib.trimPrefix (⟨l.toArray⟩ : ByteArray).data.toList (⟨#[61]⟩ : ByteArray).data.toList = l := by
    show Lib.trimPrefix l [61] = l
    unfold Lib.trimPrefix
    rw [show Lib.hasPrefix l [61] = false from e2]; rfl
  rwa [e1, e2] at h
theorem lexL_no {l : List UInt8} (h0 : ∀ b, l.head? = some b → b.toNat ≠ 61) : lexL l = [tokK 8] := by
  cases l with
  | nil => rfl
  | cons b r => simp [lexL, h0 b rfl]
theorem lexL_len (l : List UInt8) : (lexL l).length ≤ l.length + 1 := by
  unfold lexL
  split
  · rename_i b r
    split
    · have := toks_len (b :: r).length (r.length + 1) r
      simp at this ⊢; omega
    · simp
  · simp
set_option maxRecDepth 100000 in
set_option maxHeartbeats 2000000 in
theorem lex1_no (n : Nat) (hn : 1 ≤ n) (l₀ Bt n₀ Bo : Nat) (l : List UInt8) (h61 : ∀ b, l.head? = some b → b.toNat ≠ 61) (J Jx : List Tok → World → Prop)
    (hY : ∀ pre x W, J pre W → pre.length < l.length + 1 → YieldAt Fence.wide (n - 1) Tryz.prog l₀ (Tok.enc x) W fun e W' =>
      (e = .returned (.bool true) ∧ J (pre ++ [x]) W' ∧ KpO Bo n₀ W W') ∨ (e = .returned (.bool false) ∧ Jx (pre ++ [x]) W'))
    (W : World) (hBt : W.cell? ⟨Bt, 0, none⟩ = some (.string ⟨l.toArray⟩)) (h0 : J [] W) :
    CallsIn Fence.wide n Tryz.prog 48 #[.func (.yield l₀) #[] #[], .pointer (some ⟨Bt, 0, none⟩)] W fun e W' => (∃ v, e = .returned v) ∧
      ((∃ ys, ys = lexL l ∧ J ys W') ∨ (∃ pre, pre <+: lexL l ∧ Jx pre W')) := by
  have CC := lcut_no l h61
  have hL := lexL_no h61
  clear h61
  obtain ⟨fn, tmps, assign, body, hy, hR⟩ := hY [] (tokK 8) W h0 (by simp)
  simp only [Tok.enc, tokK] at hy
  refine callsIn_of_wp Tryz.func48 rfl trivial ?_ rfl
  simp only [Tryz.ntmps48, List.size_toArray, List.length_cons, List.length_nil, Nat.reduceAdd, Nat.reduceSub, Array.replicate_succ, Array.replicate_zero, List.push_toArray, List.append_toArray, List.nil_append, List.cons_append]
  gi_wp2_with (refine ⟨trivial, ?_⟩; gi_at_call 49; refine (callsIn_wide.2 (CC _)).mono ?_; rintro e w1 ⟨rfl, hb1⟩)
  subst hb1
  gi_wp2
  refine hR.mono ?_
  rintro e W3 (⟨rfl, hJ3, hk3⟩ | ⟨rfl, hJx3⟩)
  · gi_wp2
    refine bodyPost_ret (results_none rfl _ _ _) rfl ?_
    exact ⟨⟨_, rfl⟩, .inl ⟨_, hL.symm, hJ3⟩⟩
  · gi_wp2
    refine bodyPost_ret (results_none rfl _ _ _) rfl ?_
    exact ⟨⟨_, rfl⟩, .inr ⟨_, by rw [hL]; exact List.prefix_refl _, hJx3⟩⟩
theorem lfirst_b (l : List UInt8) (hl : l.length ≤ 140737488355327) (x : Tok) (m : Nat) (hx : firstT (blank l) = (x, m)) (w : World) : Calls Tryz.prog 51 #[.string ⟨(blank l).toArray⟩] w fun e w' => e = .returned (.tuple #[.agg #[.int .i64 x.kind, .int .i64 x.place, .int .i64 x.num, .string x.str, .int .i64 x.r, .int .i64 x.c, .int .i64 x.t, .int .i64 x.l, .int .i64 x.b, .int .i64 x.q, .int .i64 x.code], .int .i64 (m : Int)]) ∧ Below w.heap.size w w' :=
  lfirst (blank l) (by have := blank_le l; omega) x m hx w
def strLen (v : Value) : Nat := match v with | .string b => b.size | _ => 0
set_option maxRecDepth 100000 in
set_option maxHeartbeats 4000000 in
theorem lex1_yes (n : Nat) (hn : 1 ≤ n) (l₀ Bt n₀ Bo B0 : Nat) (l r : List UInt8) (c : UInt8) (hlr : l = c :: r) (hc : c.toNat = 61) (hl : l.length ≤ 140737488355327) (tb : TypeId) (hbo : Bt ≠ Bo) (J Jx : List Tok → World → Prop) (hJ : AbidesFrom B0 J)
    (hY : ∀ pre x W, J pre W → pre.length < l.length + 1 → YieldAt Fence.wide (n - 1) Tryz.prog l₀ (Tok.enc x) W fun e W' =>
      (e = .returned (.bool true) ∧ J (pre ++ [x]) W' ∧ KpO Bo n₀ W W') ∨ (e = .returned (.bool false) ∧ Jx (pre ++ [x]) W'))
    (W : World) (hn₀ : n₀ ≤ W.heap.size) (hBo : Bo < W.heap.size) (how : ∀ k, ownOf W Bo = some k → k < W.heap.size) (hob : ownOf W Bo ≠ some Bt) (hBt : W.heap[Bt]? = some (.cells #[.string ⟨l.toArray⟩] tb (0, 0))) (h0 : J [] W) :
    CallsIn Fence.wide n Tryz.prog 48 #[.func (.yield l₀) #[] #[], .pointer (some ⟨Bt, 0, none⟩)] W fun e W' => (∃ v, e = .returned v) ∧
      ((∃ ys, ys = lexL l ∧ J ys W') ∨ (∃ pre, pre <+: lexL l ∧ Jx pre W')) := by
  have CC := lcut_yes l r c hlr hc
  have hL0 : Hid (lexL l = [] ++ toks l.length (r.length + 1) r) := Lib.hid (by rw [hlr]; simp [lexL, hc])
  have hrl1 : l.length ≤ r.length + 1 := by rw [hlr]; simp
  have hrl2 : r.length + 1 ≤ l.length := by rw [hlr]; simp
  clear hlr hc
  have hBc : W.cell? ⟨Bt, 0, none⟩ = some (.string ⟨l.toArray⟩) := by rw [cell_of_row W Bt 0 _ _ _ hBt]; rfl
  refine callsIn_of_wp Tryz.func48 rfl trivial ?_ rfl
  simp only [Tryz.ntmps48, List.size_toArray, List.length_cons, List.length_nil, Nat.reduceAdd, Nat.reduceSub, Array.replicate_succ, Array.replicate_zero, List.push_toArray, List.append_toArray, List.nil_append, List.cons_append]
  gi_wp2_with (refine ⟨trivial, ?_⟩; gi_at_call 49; refine (callsIn_wide.2 (CC _)).mono ?_; rintro e w1 ⟨rfl, hb1⟩)
  have hb1' := hb1.symm
  clear hb1
  subst hb1'
  gi_wp2
  gi_loopw [3] (fun v wr => ∃ (pre : List Tok) (t : List UInt8) (f : Nat), v = .string ⟨t.toArray⟩ ∧ pre.length + t.length ≤ r.length ∧ t.length < f ∧ J pre wr ∧ Below n₀ W wr ∧ (∀ k, ownOf wr Bo = some k → k < wr.heap.size) ∧ ownOf wr Bo ≠ some Bt ∧ wr.heap[Bt]? = some (.cells #[.string ⟨l.toArray⟩] tb (0, 0)) ∧ Hid (lexL l = pre ++ toks l.length f t)) (fun v _ => strLen v)
  case atStart => exact ⟨[], r, r.length + 1, rfl, by simp, by omega, h0, Below.refl _ _, how, hob, hBt, hL0⟩
  case round =>
    clear hL0 CC h0 how hob hBt hBc
    obtain ⟨pre, t, f, rfl, hpt, hf, hJs, hbr, how, hob, hBh, hL⟩ := hrel
    have hzr := hbr.size
    have hzr' : n₀ ≤ wr.heap.size := by omega
    have hBlt := lt_of_heap hBh
    have hBtr : wr.cell? ⟨Bt, 0, none⟩ = some (.string ⟨l.toArray⟩) := by rw [cell_of_row wr Bt 0 _ _ _ hBh]; rfl
    obtain ⟨f, rfl⟩ : ∃ g, f = g + 1 := ⟨f - 1, by omega⟩
    obtain ⟨x, m, hx⟩ : ∃ x m, firstT (blank t) = (x, m) := ⟨_, _, rfl⟩
    have hbl := blank_le t
    have hstep : toks l.length (f + 1) t = x.put ((l.length : Int) - ((blank t).length : Int)) :: if x.last then [] else toks l.length f ((blank t).drop m) := by rw [toks, hx]
    have hsm : x.last = false → 1 ≤ m ∧ m ≤ (blank t).length := fun h => by
      have := first_small (blank t) (by rw [hx]; exact h)
      rwa [hx] at this
    have CT := ltrim_blank t
    have CF := lfirst_b t (by omega) x m hx
    rw [hstep] at hL
    clear hstep hx
    gi_wp2_with fail
    refine ⟨trivial, ?_⟩
    gi_at_call 50
    refine (callsIn_wide.2 (CT _)).mono ?_
    rintro e w2 ⟨rfl, hb2⟩
    gi_wp2_with fail
    refine ⟨trivial, ?_⟩
    gi_at_call 51
    refine (callsIn_wide.2 (CF _)).mono ?_
    rintro e w3 ⟨rfl, hb3⟩
    clear CT CF
    have hz2 := hb2.size
    have hz3 := hb3.size
    have hb23 : Below wr.heap.size wr w3 := hb2.trans (hb3.mono hz2)
    have hb4 : Below w3.heap.size w3 (w3.alloc (.cells #[.int .i64 x.kind, .int .i64 ((l.length : Int) - ((blank t).length : Int)), .int .i64 x.num, .string x.str, .int .i64 x.r, .int .i64 x.c, .int .i64 x.t, .int .i64 x.l, .int .i64 x.b, .int .i64 x.q, .int .i64 x.code] 77)) := (Below.refl w3.heap.size w3).alloc (Nat.le_refl _) _
    have hb24 : Below wr.heap.size wr (w3.alloc (.cells #[.int .i64 x.kind, .int .i64 ((l.length : Int) - ((blank t).length : Int)), .int .i64 x.num, .string x.str, .int .i64 x.r, .int .i64 x.c, .int .i64 x.t, .int .i64 x.l, .int .i64 x.b, .int .i64 x.q, .int .i64 x.code] 77)) := hb23.trans (hb4.mono (by omega))
    have hJ4 : J pre (w3.alloc (.cells #[.int .i64 x.kind, .int .i64 ((l.length : Int) - ((blank t).length : Int)), .int .i64 x.num, .string x.str, .int .i64 x.r, .int .i64 x.c, .int .i64 x.t, .int .i64 x.l, .int .i64 x.b, .int .i64 x.q, .int .i64 x.code] 77)) := hJ _ _ _ none hJs (grown_below hb24 none) (by simp)
    have hBt3 : w3.cell? ⟨Bt, 0, none⟩ = some (.string ⟨l.toArray⟩) := (hb23.cell (p := ⟨Bt, 0, none⟩) (by dsimp only; omega)).trans hBtr
    have hne3 : Bt ≠ w3.heap.size := by omega
    have hlt3 : Bt < w3.heap.size := by omega
    have hBh4 := (hb24.block Bt hBlt).trans hBh
    have hob4 : ownOf (w3.alloc (.cells #[.int .i64 x.kind, .int .i64 ((l.length : Int) - ((blank t).length : Int)), .int .i64 x.num, .string x.str, .int .i64 x.r, .int .i64 x.c, .int .i64 x.t, .int .i64 x.l, .int .i64 x.b, .int .i64 x.q, .int .i64 x.code] 77)) Bo ≠ some Bt := by rw [ownOf_eq (hb24.cell (p := ⟨Bo, 0, none⟩) (by dsimp only; omega))]; exact hob
    have how4 : ∀ k, ownOf (w3.alloc (.cells #[.int .i64 x.kind, .int .i64 ((l.length : Int) - ((blank t).length : Int)), .int .i64 x.num, .string x.str, .int .i64 x.r, .int .i64 x.c, .int .i64 x.t, .int .i64 x.l, .int .i64 x.b, .int .i64 x.q, .int .i64 x.code] 77)) Bo = some k → k < wr.heap.size := fun k hk => by
      rw [ownOf_eq (hb24.cell (p := ⟨Bo, 0, none⟩) (by dsimp only; omega))] at hk
      exact how k hk
    have hh4 : (w3.alloc (.cells #[.int .i64 x.kind, .int .i64 ((l.length : Int) - ((blank t).length : Int)), .int .i64 x.num, .string x.str, .int .i64 x.r, .int .i64 x.c, .int .i64 x.t, .int .i64 x.l, .int .i64 x.b, .int .i64 x.q, .int .i64 x.code] 77)).heap[w3.heap.size]? = some (.cells #[.int .i64 x.kind, .int .i64 ((l.length : Int) - ((blank t).length : Int)), .int .i64 x.num, .string x.str, .int .i64 x.r, .int .i64 x.c, .int .i64 x.t, .int .i64 x.l, .int .i64 x.b, .int .i64 x.q, .int .i64 x.code] 77 (0, 0)) := heap_alloc_new w3 _
    have hbr4 : Below n₀ W (w3.alloc (.cells #[.int .i64 x.kind, .int .i64 ((l.length : Int) - ((blank t).length : Int)), .int .i64 x.num, .string x.str, .int .i64 x.r, .int .i64 x.c, .int .i64 x.t, .int .i64 x.l, .int .i64 x.b, .int .i64 x.q, .int .i64 x.code] 77)) := hbr.trans (hb24.mono hzr')
    obtain ⟨fn, tmps, assign, body, hy, hR⟩ := hY pre (x.put ((l.length : Int) - ((blank t).length : Int))) _ hJ4 (by omega)
    simp only [Tok.enc, Tok.put] at hy
    have hcase : (x.last = true ∧ ((x.kind == 0) = true ∨ ((x.kind == 0) = false ∧ (x.kind == 8) = true))) ∨ (x.last = false ∧ (x.kind == 0) = false ∧ (x.kind == 8) = false) := by
      unfold Tok.last
      by_cases h0 : x.kind = 0
      · simp [h0]
      · by_cases h8 : x.kind = 8 <;> simp [h0, h8]
    rcases hcase with ⟨hl0, e0 | ⟨e0, e8⟩⟩ | ⟨hl0, e0, e8⟩
    · have hL1 : lexL l = pre ++ [x.put ((l.length : Int) - ((blank t).length : Int))] := by rw [hL.out, hl0, if_pos rfl]
      clear hL hsm hl0
      gi_wp2
      refine hR.mono ?_
      rintro e W5 (⟨rfl, hJ5, hk5⟩ | ⟨rfl, hJx5⟩)
      · have hb5 : Below n₀ W W5 := hbr4.trans hk5.1
        have hh5 := hk5.2.2 _ _ _ _ hh4 (by omega) (fun e => by have := how4 _ e; omega)
        have ck : W5.cell? ⟨w3.heap.size, 0, none⟩ = some (.int .i64 x.kind) := by rw [cell_of_row W5 w3.heap.size 0 _ _ _ hh5]; rfl
        gi_wp2
        refine bodyPost_ret (results_none rfl _ _ _) rfl ?_
        exact ⟨⟨_, rfl⟩, .inl ⟨_, hL1.symm, hJ5⟩⟩
      · gi_wp2
        refine bodyPost_ret (results_none rfl _ _ _) rfl ?_
        exact ⟨⟨_, rfl⟩, .inr ⟨_, by rw [hL1]; exact List.prefix_refl _, hJx5⟩⟩
    · have hL1 : lexL l = pre ++ [x.put ((l.length : Int) - ((blank t).length : Int))] := by rw [hL.out, hl0, if_pos rfl]
      clear hL hsm hl0
      gi_wp2
      refine hR.mono ?_
      rintro e W5 (⟨rfl, hJ5, hk5⟩ | ⟨rfl, hJx5⟩)
      · have hb5 : Below n₀ W W5 := hbr4.trans hk5.1
        have hh5 := hk5.2.2 _ _ _ _ hh4 (by omega) (fun e => by have := how4 _ e; omega)
        have ck : W5.cell? ⟨w3.heap.size, 0, none⟩ = some (.int .i64 x.kind) := by rw [cell_of_row W5 w3.heap.size 0 _ _ _ hh5]; rfl
        gi_wp2
        refine bodyPost_ret (results_none rfl _ _ _) rfl ?_
        exact ⟨⟨_, rfl⟩, .inl ⟨_, hL1.symm, hJ5⟩⟩
      · gi_wp2
        refine bodyPost_ret (results_none rfl _ _ _) rfl ?_
        exact ⟨⟨_, rfl⟩, .inr ⟨_, by rw [hL1]; exact List.prefix_refl _, hJx5⟩⟩
    · have hL1 : Hid (lexL l = (pre ++ [x.put ((l.length : Int) - ((blank t).length : Int))]) ++ toks l.length f ((blank t).drop m)) := Lib.hid (by rw [hL.out, hl0]; simp)
      obtain ⟨hm1, hm2⟩ := hsm hl0
      have hxd := ext_drop' (blank t) m (blank t).length (Nat.le_refl _)
      clear hL hsm hl0
      gi_wp2
      refine hR.mono ?_
      rintro e W5 (⟨rfl, hJ5, hk5⟩ | ⟨rfl, hJx5⟩)
      · have hb5 : Below n₀ W W5 := hbr4.trans hk5.1
        have hh5 := hk5.2.2 _ _ _ _ hh4 (by omega) (fun e => by have := how4 _ e; omega)
        have ck : W5.cell? ⟨w3.heap.size, 0, none⟩ = some (.int .i64 x.kind) := by rw [cell_of_row W5 w3.heap.size 0 _ _ _ hh5]; rfl
        have how5 : ∀ k, ownOf W5 Bo = some k → k < W5.heap.size := fun k hk => by
          rcases hk5.2.1 with h | ⟨g, h, _, h9⟩
          · rw [h] at hk; have := how4 k hk; have := hk5.1.size; simp at this; omega
          · rw [h] at hk; injection hk with hk; omega
        have hBh5 := hk5.2.2 _ _ _ _ hBh4 hbo hob4
        have hob5 : ownOf W5 Bo ≠ some Bt := by
          rcases hk5.2.1 with h | ⟨g, h, h8, _⟩
          · rw [h]; exact hob4
          · rw [h]; intro e; injection e with e; simp at h8; omega
        clear hk5 hh5
        gi_wp2
        go_roundw
        case rel => exact ⟨_, (blank t).drop m, f, by first | rfl | (rw [hxd]), by rw [List.length_append, List.length_drop]; simp; omega, by rw [List.length_drop]; omega, hJ5, hb5, how5, hob5, hBh5, hL1⟩
        case measure => simp [strLen, ByteArray.size]; omega
      · gi_wp2
        refine bodyPost_ret (results_none rfl _ _ _) rfl ?_
        exact ⟨⟨_, rfl⟩, .inr ⟨_, by rw [hL1.out]; exact List.prefix_append _ _, hJx5⟩⟩
theorem lex_any (l : List UInt8) (w : World) : Calls Tryz.prog 23 #[.string ⟨l.toArray⟩] w fun e w' => e = .returned (.func (.func 48) #[] #[.pointer (some ⟨w.heap.size, 0, none⟩)]) ∧ w' = w.alloc (.cells #[.string ⟨l.toArray⟩] 9) := by
  go_enter Tryz.func23, Tryz.ntmps23
  go_wp2
  go_ret
  exact ⟨rfl, rfl⟩
theorem lex_stops (n : Nat) (hn : 1 ≤ n) (Bt n₀ Bo : Nat) (l : List UInt8) (hl : l.length ≤ 140737488355327) (tb : TypeId) (hbo : Bt ≠ Bo) (w : World) (hn₀ : n₀ ≤ w.heap.size) (hBo : Bo < w.heap.size) (how : ∀ k, ownOf w Bo = some k → k < w.heap.size) (hob : ownOf w Bo ≠ some Bt) (hBt : w.heap[Bt]? = some (.cells #[.string ⟨l.toArray⟩] tb (0, 0))) :
    SeqStopsK Fence.wide n Tryz.prog 48 #[.pointer (some ⟨Bt, 0, none⟩)] Tok.enc (KpO Bo n₀) (fun ys => ys = lexL l) (fun pre => pre <+: lexL l) (l.length + 1) w := fun l₀ J Jx W hW hJ _ hY h0 => by
  have hBt' := (hW.block Bt (lt_of_heap hBt)).trans hBt
  have hoe : ownOf W Bo = ownOf w Bo := ownOf_eq (hW.cell (p := ⟨Bo, 0, none⟩) hBo)
  have hz := hW.size
  by_cases h61 : ∃ c r, l = c :: r ∧ c.toNat = 61
  · obtain ⟨c, r, hlr, hc⟩ := h61
    exact lex1_yes n hn l₀ Bt n₀ Bo W.heap.size l r c hlr hc hl tb hbo J Jx hJ hY W (by omega) (by omega) (fun k hk => by rw [hoe] at hk; have := how k hk; omega) (by rw [hoe]; exact hob) hBt' h0
  · refine lex1_no n hn l₀ Bt n₀ Bo l (fun b hb => ?_) J Jx hY W (by rw [cell_of_row W Bt 0 _ _ _ hBt']; rfl) h0
    intro hc
    cases l with
    | nil => simp at hb
    | cons c r => simp at hb; subst hb; exact h61 ⟨_, _, rfl, hc⟩
end Go.Proofs.YtfbkoieodflcpaaGreatDoor
