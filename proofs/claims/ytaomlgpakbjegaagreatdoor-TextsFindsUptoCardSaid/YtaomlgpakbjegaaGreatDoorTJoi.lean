/-
  The walk of the law TextsJoins.
-/
import Derived.Test.YtaomlgpakbjegaaGreatDoorRows
import Derived.Test.YtaomlgpakbjegaaGreatDoorBase
import Derived.Test.YtaomlgpakbjegaaGreatDoorMapK
import Derived.Test.YtaomlgpakbjegaaGreatDoorProg
import Derived.Test.YtaomlgpakbjegaaGreatDoorShelf
import Derived.Test.YtaomlgpakbjegaaGreatDoorTFind
import Derived.Test.YtaomlgpakbjegaaGreatDoorRowB
import Derived.Test.YtaomlgpakbjegaaGreatDoorDecA
import Derived.Test.YtaomlgpakbjegaaGreatDoorValA
import Derived.Test.YtaomlgpakbjegaaGreatDoorValB
import Derived.Test.YtaomlgpakbjegaaGreatDoorMg10
import Derived.Test.YtaomlgpakbjegaaGreatDoorValC
import Derived.Test.YtaomlgpakbjegaaGreatDoorAddrC
import Derived.Test.YtaomlgpakbjegaaGreatDoorAddrI
import Derived.Test.YtaomlgpakbjegaaGreatDoorMg14
import Derived.Test.YtaomlgpakbjegaaGreatDoorFmtU
import Derived.Test.YtaomlgpakbjegaaGreatDoorPrintL
import Derived.Test.YtaomlgpakbjegaaGreatDoorDPrint
import Derived.Test.YtaomlgpakbjegaaGreatDoorRPr
import Derived.Test.YtaomlgpakbjegaaGreatDoorNDoE
import Derived.Test.YtaomlgpakbjegaaGreatDoorTCall
import Derived.Test.YtaomlgpakbjegaaGreatDoorValD
import Derived.Test.YtaomlgpakbjegaaGreatDoorMg21
import Derived.Test.YtaomlgpakbjegaaGreatDoorValJ
import Derived.Test.YtaomlgpakbjegaaGreatDoorValL
import Derived.Test.YtaomlgpakbjegaaGreatDoorNCallK
import Derived.Test.YtaomlgpakbjegaaGreatDoorTCallK
import Derived.Test.YtaomlgpakbjegaaGreatDoorTDoA
import Derived.Test.YtaomlgpakbjegaaGreatDoorTCallB
import Derived.Test.YtaomlgpakbjegaaGreatDoorTDoB
import Derived.Test.YtaomlgpakbjegaaGreatDoorTDoC
import Derived.Test.YtaomlgpakbjegaaGreatDoorTDoD
import Derived.Test.YtaomlgpakbjegaaGreatDoorTArg
import Derived.Test.YtaomlgpakbjegaaGreatDoorTLaw
import Derived.Test.YtaomlgpakbjegaaGreatDoorTAt
import Derived.Test.YtaomlgpakbjegaaGreatDoorTDoF
import Derived.Test.YtaomlgpakbjegaaGreatDoorMg41
import Derived.Test.YtaomlgpakbjegaaGreatDoorTJoiL
import Derived.Test.YtaomlgpakbjegaaGreatDoorTDoG
import Derived.Test.YtaomlgpakbjegaaGreatDoorTAtB
import Derived.Test.YtaomlgpakbjegaaGreatDoorTParL
import Derived.Test.YtaomlgpakbjegaaGreatDoorTKn
import Derived.Test.YtaomlgpakbjegaaGreatDoorTPar
import Derived.WalkSpells
import Derived.WalkLawsBesides
import Derived.StillTactics
import Derived.Laws.Pointers
import Derived.Deep.RegionHeld3
import Derived.Deep.QuietTactic
import Derived.BigQuiet
import Derived.RowKit3
import Derived.Lib.Hide
import Derived.Lib.OthersKept
import Derived.OwnWalk
import Derived.Lib.IndexLaws
import Derived.Lib.ItoaMem
import Derived.WalkKit
import Derived.ProofKit
import Derived.OpenShut
import Derived.Carry
import Derived.ChangeSame
import Derived.Deep.Draws
import Derived.Maps.OwnSet
import Derived.Maps.AppendAt
import Derived.Shelf.Strings.Builder1
import Derived.Shelf.Strings.Builder2
import Derived.Shelf.Strings.OnBuilder
import Derived.Shelf.Strings.Trim
import Derived.Shelf.Small.Bits
import Derived.Shelf.Small.Strs
import Derived.Shelf.Small.Wraps
import Derived.Shelf.Strings.BuilderF
import Derived.Shelf.Strings.BuilderK
import Derived.Shelf.Strconv.Itoa0
import Derived.Shelf.Strconv.Itoa1
import Derived.Shelf.LaysM
import Derived.Shelf.Strconv.Itoa2
import Derived.Ground.MpProg
import Derived.Shelf.Pu.ParseUintPublic10
import Derived.Shelf.Strings.Search1
import Derived.Shelf.Strings.Search2
import Derived.Shelf.Strings.Search3
import Derived.Shelf.Strings.Cut
import Derived.Shelf.Strings.Prefix
import Derived.Shelf.Strings.Runes
import Derived.Shelf.Strings.AsciiSet
import Derived.Shelf.Bits.Mul64
import Derived.Shelf.Strings.Repeat
import Derived.Laws.EntriesVeiled
import Derived.Laws.BitsAllLaws
import Derived.Lib.TrimByte
import Derived.Lib.Bytealg
import Derived.Lib.SlTrimSet
import Derived.Lib.ParseIntB
import Derived.Shelf.Strings.SlTrimAscii
import Derived.Lib.SmallJoins
import Derived.Deep.RegionWith
import Derived.IntWalk
import Derived.Laws.IdiomStrings
import Derived.RegionTactic
import Derived.ChangeAlike
import Derived.Lib.Repeat
import Derived.Lib.IndexMore
namespace Go.Proofs.YtaomlgpakbjegaaGreatDoor
open Go.RowKit

theorem lst_ttt (a b c : ByteArray) (w : World) : Calls Tryz.prog 22 #[.agg #[.bool false, .int .i64 2, .int .i64 0, .string a, .bool false, .int .i64 0, .int .i64 0, .int .i64 0, .int .i64 0, .int .i64 0, .slice none 0 0], .agg #[.bool false, .int .i64 2, .int .i64 0, .string b, .bool false, .int .i64 0, .int .i64 0, .int .i64 0, .int .i64 0, .int .i64 0, .slice none 0 0], .agg #[.bool false, .int .i64 2, .int .i64 0, .string c, .bool false, .int .i64 0, .int .i64 0, .int .i64 0, .int .i64 0, .int .i64 0, .slice none 0 0], .int .i64 3] w fun e w' => (∃ v, e = .returned v ∧ ArgsAt w' v [txA a, txA b, txA c]) ∧ Below w.heap.size w w' := llist_any (txtL a) (txtL b) (txtL c) 3 (Nat.le_refl _) w
theorem joinS_repS (a : ByteArray) : repS a 3 = joinS [a, a, a] := (joinS_rep a).symm
theorem lfau_self (k : Int) (w : World) : Calls Tryz.prog 26 #[.agg #[.int .i64 4, .int .i64 0, .string ⟨#[]⟩, .bool false, .int .i64 k], .int .i64 k] w fun e w' => e = .returned (.bool true) ∧ Below w.heap.size w w' := by
  have := lfault_any ⟨4, 0, ⟨#[]⟩, false, k⟩ k w
  rwa [show vEq 4 0 ⟨#[]⟩ false k 4 0 ⟨#[]⟩ false k = true from vEq_self _ _ _ _ _] at this
set_option maxRecDepth 100000 in
set_option maxHeartbeats 4000000 in
theorem joins_neg (a b : ByteArray) (_ha : a.size ≤ 140737488355328) (_hb0 : b.size ≤ 140737488355328) (text : Int) (h0 : text < 0) (w : World) (ht : Tab w) : Calls Tryz.prog 7 #[.string a, .string b, .int .i64 text] w fun e w' => e = .returned (.bool true) ∧ Below w.heap.size w w' := by
  have h : text < 0 ∨ 1024 < text := by omega
  go_enter Tryz.func7, Tryz.ntmps7
  go_wp2_with fail
  refine (tkn_any _ ht).mono ?_
  rintro e w1 ⟨rfl, hb1⟩
  have q1 : Below w.heap.size w w1 := by (repeat (first | (with_reducible exact Below.refl _ _) | (with_reducible refine Below.alloc ?_ (by first | omega | (dsimp only; omega) | (simp <;> omega)) _) | (with_reducible refine Below.setCell ?_ (by first | omega | (dsimp only; omega) | (simp <;> omega)) _) | (with_reducible refine Below.drew ?_) | (with_reducible refine below_drewN ?_ _) | (with_reducible refine Below.trans ?_ (Below.mono (by assumption) (by first | omega | (dsimp only; omega) | (simp <;> omega))))))
  go_wp2_with fail
  refine (ltxt_any a _).mono ?_
  rintro e w2 ⟨rfl, hb2⟩
  have q2 : Below w.heap.size w w2 := by first | exact q1.trans (hb2.mono q1.size) | exact (q1.alloc q1.size _).trans (hb2.mono (by have := q1.size; simp; omega))
  go_wp2_with fail
  refine (ltxt_any b _).mono ?_
  rintro e w3 ⟨rfl, hb3⟩
  have q3 : Below w.heap.size w w3 := by first | exact q2.trans (hb3.mono q2.size) | exact (q2.alloc q2.size _).trans (hb3.mono (by have := q2.size; simp; omega))
  go_wp2_with fail
  refine (ltxt_any a _).mono ?_
  rintro e w4 ⟨rfl, hb4⟩
  have q4 : Below w.heap.size w w4 := by first | exact q3.trans (hb4.mono q3.size) | exact (q3.alloc q3.size _).trans (hb4.mono (by have := q3.size; simp; omega))
  go_wp2_with fail
  refine (lst_ttt a b a _).mono ?_
  rintro e w5 ⟨⟨v1, rfl, hv1⟩, hb5⟩
  have q5 : Below w.heap.size w w5 := by first | exact q4.trans (hb5.mono q4.size) | exact (q4.alloc q4.size _).trans (hb5.mono (by have := q4.size; simp; omega))
  go_wp2_with fail
  refine (lcall_bad (name := ⟨#[67, 79, 78, 67, 65, 84]⟩) (by decide) (by simp) text h _ hv1).mono ?_
  rintro e w6 ⟨rfl, hb6⟩
  have q6 : Below w.heap.size w w6 := by first | exact q5.trans (hb6.mono q5.size) | exact (q5.alloc q5.size _).trans (hb6.mono (by have := q5.size; simp; omega))
  go_wp2_with fail
  refine (lfau_self 8 _).mono ?_
  rintro e w7 ⟨rfl, hb7⟩
  have q7 : Below w.heap.size w w7 := by first | exact q6.trans (hb7.mono q6.size) | exact (q6.alloc q6.size _).trans (hb7.mono (by have := q6.size; simp; omega))
  go_wp2_with fail
  refine (ltxt_any a _).mono ?_
  rintro e w8 ⟨rfl, hb8⟩
  have q8 : Below w.heap.size w w8 := by first | exact q7.trans (hb8.mono q7.size) | exact (q7.alloc q7.size _).trans (hb8.mono (by have := q7.size; simp; omega))
  go_wp2_with fail
  refine (lwhole_any (3) (by omega) _).mono ?_
  rintro e w9 ⟨rfl, hb9⟩
  have q9 : Below w.heap.size w w9 := by first | exact q8.trans (hb9.mono q8.size) | exact (q8.alloc q8.size _).trans (hb9.mono (by have := q8.size; simp; omega))
  go_wp2_with fail
  refine (ltxt_any ⟨#[]⟩ _).mono ?_
  rintro e w10 ⟨rfl, hb10⟩
  have q10 : Below w.heap.size w w10 := by first | exact q9.trans (hb10.mono q9.size) | exact (q9.alloc q9.size _).trans (hb10.mono (by have := q9.size; simp; omega))
  go_wp2_with fail
  refine (lst_tn a 3 _).mono ?_
  rintro e w11 ⟨⟨v2, rfl, hv2⟩, hb11⟩
  have q11 : Below w.heap.size w w11 := by first | exact q10.trans (hb11.mono q10.size) | exact (q10.alloc q10.size _).trans (hb11.mono (by have := q10.size; simp; omega))
  go_wp2_with fail
  refine (lcall_bad (name := ⟨#[82, 69, 80, 84]⟩) (by decide) (by simp) text h _ hv2).mono ?_
  rintro e w12 ⟨rfl, hb12⟩
  have q12 : Below w.heap.size w w12 := by first | exact q11.trans (hb12.mono q11.size) | exact (q11.alloc q11.size _).trans (hb12.mono (by have := q11.size; simp; omega))
  go_wp2_with fail
  refine (lfau_self 8 _).mono ?_
  rintro e w13 ⟨rfl, hb13⟩
  have q13 : Below w.heap.size w w13 := by first | exact q12.trans (hb13.mono q12.size) | exact (q12.alloc q12.size _).trans (hb13.mono (by have := q12.size; simp; omega))
  go_wp2
  go_ret
  exact ⟨rfl, q13⟩
set_option maxRecDepth 100000 in
set_option maxHeartbeats 4000000 in
theorem joins_big (a b : ByteArray) (_ha : a.size ≤ 140737488355328) (_hb0 : b.size ≤ 140737488355328) (text : Int) (h0 : 1024 < text) (w : World) (ht : Tab w) : Calls Tryz.prog 7 #[.string a, .string b, .int .i64 text] w fun e w' => e = .returned (.bool true) ∧ Below w.heap.size w w' := by
  have h : text < 0 ∨ 1024 < text := by omega
  have h1 : ¬ text < 0 := by omega
  go_enter Tryz.func7, Tryz.ntmps7
  go_wp2_with fail
  refine (tkn_any _ ht).mono ?_
  rintro e w1 ⟨rfl, hb1⟩
  have q1 : Below w.heap.size w w1 := by (repeat (first | (with_reducible exact Below.refl _ _) | (with_reducible refine Below.alloc ?_ (by first | omega | (dsimp only; omega) | (simp <;> omega)) _) | (with_reducible refine Below.setCell ?_ (by first | omega | (dsimp only; omega) | (simp <;> omega)) _) | (with_reducible refine Below.drew ?_) | (with_reducible refine below_drewN ?_ _) | (with_reducible refine Below.trans ?_ (Below.mono (by assumption) (by first | omega | (dsimp only; omega) | (simp <;> omega))))))
  go_wp2_with fail
  refine (ltxt_any a _).mono ?_
  rintro e w2 ⟨rfl, hb2⟩
  have q2 : Below w.heap.size w w2 := by first | exact q1.trans (hb2.mono q1.size) | exact (q1.alloc q1.size _).trans (hb2.mono (by have := q1.size; simp; omega))
  go_wp2_with fail
  refine (ltxt_any b _).mono ?_
  rintro e w3 ⟨rfl, hb3⟩
  have q3 : Below w.heap.size w w3 := by first | exact q2.trans (hb3.mono q2.size) | exact (q2.alloc q2.size _).trans (hb3.mono (by have := q2.size; simp; omega))
  go_wp2_with fail
  refine (ltxt_any a _).mono ?_
  rintro e w4 ⟨rfl, hb4⟩
  have q4 : Below w.heap.size w w4 := by first | exact q3.trans (hb4.mono q3.size) | exact (q3.alloc q3.size _).trans (hb4.mono (by have := q3.size; simp; omega))
  go_wp2_with fail
  refine (lst_ttt a b a _).mono ?_
  rintro e w5 ⟨⟨v1, rfl, hv1⟩, hb5⟩
  have q5 : Below w.heap.size w w5 := by first | exact q4.trans (hb5.mono q4.size) | exact (q4.alloc q4.size _).trans (hb5.mono (by have := q4.size; simp; omega))
  go_wp2_with fail
  refine (lcall_bad (name := ⟨#[67, 79, 78, 67, 65, 84]⟩) (by decide) (by simp) text h _ hv1).mono ?_
  rintro e w6 ⟨rfl, hb6⟩
  have q6 : Below w.heap.size w w6 := by first | exact q5.trans (hb6.mono q5.size) | exact (q5.alloc q5.size _).trans (hb6.mono (by have := q5.size; simp; omega))
  go_wp2_with fail
  refine (lfau_self 8 _).mono ?_
  rintro e w7 ⟨rfl, hb7⟩
  have q7 : Below w.heap.size w w7 := by first | exact q6.trans (hb7.mono q6.size) | exact (q6.alloc q6.size _).trans (hb7.mono (by have := q6.size; simp; omega))
  go_wp2_with fail
  refine (ltxt_any a _).mono ?_
  rintro e w8 ⟨rfl, hb8⟩
  have q8 : Below w.heap.size w w8 := by first | exact q7.trans (hb8.mono q7.size) | exact (q7.alloc q7.size _).trans (hb8.mono (by have := q7.size; simp; omega))
  go_wp2_with fail
  refine (lwhole_any (3) (by omega) _).mono ?_
  rintro e w9 ⟨rfl, hb9⟩
  have q9 : Below w.heap.size w w9 := by first | exact q8.trans (hb9.mono q8.size) | exact (q8.alloc q8.size _).trans (hb9.mono (by have := q8.size; simp; omega))
  go_wp2_with fail
  refine (ltxt_any ⟨#[]⟩ _).mono ?_
  rintro e w10 ⟨rfl, hb10⟩
  have q10 : Below w.heap.size w w10 := by first | exact q9.trans (hb10.mono q9.size) | exact (q9.alloc q9.size _).trans (hb10.mono (by have := q9.size; simp; omega))
  go_wp2_with fail
  refine (lst_tn a 3 _).mono ?_
  rintro e w11 ⟨⟨v2, rfl, hv2⟩, hb11⟩
  have q11 : Below w.heap.size w w11 := by first | exact q10.trans (hb11.mono q10.size) | exact (q10.alloc q10.size _).trans (hb11.mono (by have := q10.size; simp; omega))
  go_wp2_with fail
  refine (lcall_bad (name := ⟨#[82, 69, 80, 84]⟩) (by decide) (by simp) text h _ hv2).mono ?_
  rintro e w12 ⟨rfl, hb12⟩
  have q12 : Below w.heap.size w w12 := by first | exact q11.trans (hb12.mono q11.size) | exact (q11.alloc q11.size _).trans (hb12.mono (by have := q11.size; simp; omega))
  go_wp2_with fail
  refine (lfau_self 8 _).mono ?_
  rintro e w13 ⟨rfl, hb13⟩
  have q13 : Below w.heap.size w w13 := by first | exact q12.trans (hb13.mono q12.size) | exact (q12.alloc q12.size _).trans (hb13.mono (by have := q12.size; simp; omega))
  go_wp2
  go_ret
  exact ⟨rfl, q13⟩
set_option maxRecDepth 100000 in
set_option maxHeartbeats 4000000 in
theorem joins_long (a b : ByteArray) (ha : a.size ≤ 140737488355328) (hb0 : b.size ≤ 140737488355328) (text : Int) (ht0 : 0 ≤ text ∧ text ≤ 1024) (hl : text < (a.size : Int) + (b.size : Int) + (a.size : Int)) (w : World) (ht : Tab w) : Calls Tryz.prog 7 #[.string a, .string b, .int .i64 text] w fun e w' => e = .returned (.bool true) ∧ Below w.heap.size w w' := by
  obtain ⟨d, hd⟩ : ∃ d, a ++ b ++ a = d := ⟨_, rfl⟩
  have hds : d.size = a.size + b.size + a.size := by rw [← hd, ByteArray.size_append, ByteArray.size_append]
  have hn0 : ¬ text < 0 := by omega
  have hn1 : ¬ 1024 < text := by omega
  have hs1 : ¬ 9223372036854775807 < a.size + b.size := by omega
  have hs2 : ¬ 9223372036854775807 < a.size + b.size + a.size := by omega
  obtain ⟨r, hr⟩ : ∃ r, toldT text (joinS [a, a, a]) = r := ⟨_, rfl⟩
  obtain ⟨rt, rn, rs, rb, rc⟩ := r
  have C1 : ∀ (w : World) (hTab : Tab w) (v : Value) (hv : ArgsAt w v [txA a, txA b, txA a]), Calls Tryz.prog 15 #[.string ⟨#[67, 79, 78, 67, 65, 84]⟩, v, .int .i64 text] w fun e w' => e = .returned (.agg #[.int .i64 4, .int .i64 0, .string ⟨#[]⟩, .bool false, .int .i64 7]) ∧ Below w.heap.size w w' := fun w hTab v hv => by
    have := lcall_CONCAT a b a text ht0 hTab hv
    rw [joinS_three, hd] at this
    rw [show toldT text d = errL 7 by unfold toldT; rw [if_pos (by omega)]] at this
    exact this
  have C2 : ∀ (w : World) (hTab : Tab w) (v : Value) (hv : ArgsAt w v [txA a, txA a, txA a]), Calls Tryz.prog 15 #[.string ⟨#[67, 79, 78, 67, 65, 84]⟩, v, .int .i64 text] w fun e w' => e = .returned (.agg #[.int .i64 rt, .int .i64 rn, .string rs, .bool rb, .int .i64 rc]) ∧ Below w.heap.size w w' := fun w hTab v hv => by
    have := lcall_CONCAT a a a text ht0 hTab hv
    rw [hr] at this
    exact this
  have C3 : ∀ (w : World) (hTab : Tab w) (v : Value) (hv : ArgsAt w v [txA a, whA 3]), Calls Tryz.prog 15 #[.string ⟨#[82, 69, 80, 84]⟩, v, .int .i64 text] w fun e w' => e = .returned (.agg #[.int .i64 rt, .int .i64 rn, .string rs, .bool rb, .int .i64 rc]) ∧ Below w.heap.size w w' := fun w hTab v hv => by
    have := lcall_REPT a 3 (by omega) text ht0 hTab hv
    rw [joinS_repS, hr] at this
    exact this
  have C1' := Lib.hid C1
  have C2' := Lib.hid C2
  have C3' := Lib.hid C3
  have hd' := Lib.hid hd
  have hve := vEq_self rt rn rs rb rc
  clear C1 C2 C3 hr hd
  go_enter Tryz.func7, Tryz.ntmps7
  go_wp2_with fail
  refine (tkn_any _ ht).mono ?_
  rintro e w1 ⟨rfl, hb1⟩
  have q1 : Below w.heap.size w w1 := by (repeat (first | (with_reducible exact Below.refl _ _) | (with_reducible refine Below.alloc ?_ (by first | omega | (dsimp only; omega) | (simp <;> omega)) _) | (with_reducible refine Below.setCell ?_ (by first | omega | (dsimp only; omega) | (simp <;> omega)) _) | (with_reducible refine Below.drew ?_) | (with_reducible refine below_drewN ?_ _) | (with_reducible refine Below.trans ?_ (Below.mono (by assumption) (by first | omega | (dsimp only; omega) | (simp <;> omega))))))
  go_wp2_with fail
  refine (ltxt_any a _).mono ?_
  rintro e w2 ⟨rfl, hb2⟩
  have q2 : Below w.heap.size w w2 := by first | exact q1.trans (hb2.mono q1.size) | exact (q1.alloc q1.size _).trans (hb2.mono (by have := q1.size; simp; omega))
  go_wp2_with fail
  refine (ltxt_any b _).mono ?_
  rintro e w3 ⟨rfl, hb3⟩
  have q3 : Below w.heap.size w w3 := by first | exact q2.trans (hb3.mono q2.size) | exact (q2.alloc q2.size _).trans (hb3.mono (by have := q2.size; simp; omega))
  go_wp2_with fail
  refine (ltxt_any a _).mono ?_
  rintro e w4 ⟨rfl, hb4⟩
  have q4 : Below w.heap.size w w4 := by first | exact q3.trans (hb4.mono q3.size) | exact (q3.alloc q3.size _).trans (hb4.mono (by have := q3.size; simp; omega))
  go_wp2_with fail
  refine (lst_ttt a b a _).mono ?_
  rintro e w5 ⟨⟨v1, rfl, hv1⟩, hb5⟩
  have q5 : Below w.heap.size w w5 := by first | exact q4.trans (hb5.mono q4.size) | exact (q4.alloc q4.size _).trans (hb5.mono (by have := q4.size; simp; omega))
  go_wp2_with fail
  refine (C1'.out _ (Tab.below ht q5) _ hv1).mono ?_
  rintro e w6 ⟨rfl, hb6⟩
  have q6 : Below w.heap.size w w6 := by first | exact q5.trans (hb6.mono q5.size) | exact (q5.alloc q5.size _).trans (hb6.mono (by have := q5.size; simp; omega))
  go_wp2_with fail
  rw [hd'.out]
  go_wp2_with fail
  refine (lfau_self 7 _).mono ?_
  rintro e w7 ⟨rfl, hb7⟩
  have q7 : Below w.heap.size w w7 := by first | exact q6.trans (hb7.mono q6.size) | exact (q6.alloc q6.size _).trans (hb7.mono (by have := q6.size; simp; omega))
  go_wp2_with fail
  refine (ltxt_any a _).mono ?_
  rintro e w8 ⟨rfl, hb8⟩
  have q8 : Below w.heap.size w w8 := by first | exact q7.trans (hb8.mono q7.size) | exact (q7.alloc q7.size _).trans (hb8.mono (by have := q7.size; simp; omega))
  go_wp2_with fail
  refine (lwhole_any (3) (by omega) _).mono ?_
  rintro e w9 ⟨rfl, hb9⟩
  have q9 : Below w.heap.size w w9 := by first | exact q8.trans (hb9.mono q8.size) | exact (q8.alloc q8.size _).trans (hb9.mono (by have := q8.size; simp; omega))
  go_wp2_with fail
  refine (ltxt_any ⟨#[]⟩ _).mono ?_
  rintro e w10 ⟨rfl, hb10⟩
  have q10 : Below w.heap.size w w10 := by first | exact q9.trans (hb10.mono q9.size) | exact (q9.alloc q9.size _).trans (hb10.mono (by have := q9.size; simp; omega))
  go_wp2_with fail
  refine (lst_tn a 3 _).mono ?_
  rintro e w11 ⟨⟨v2, rfl, hv2⟩, hb11⟩
  have q11 : Below w.heap.size w w11 := by first | exact q10.trans (hb11.mono q10.size) | exact (q10.alloc q10.size _).trans (hb11.mono (by have := q10.size; simp; omega))
  go_wp2_with fail
  refine (C3'.out _ (Tab.below ht q11) _ hv2).mono ?_
  rintro e w12 ⟨rfl, hb12⟩
  have q12 : Below w.heap.size w w12 := by first | exact q11.trans (hb12.mono q11.size) | exact (q11.alloc q11.size _).trans (hb12.mono (by have := q11.size; simp; omega))
  go_wp2_with fail
  refine (ltxt_any a _).mono ?_
  rintro e w13 ⟨rfl, hb13⟩
  have q13 : Below w.heap.size w w13 := by first | exact q12.trans (hb13.mono q12.size) | exact (q12.alloc q12.size _).trans (hb13.mono (by have := q12.size; simp; omega))
  go_wp2_with fail
  refine (ltxt_any a _).mono ?_
  rintro e w14 ⟨rfl, hb14⟩
  have q14 : Below w.heap.size w w14 := by first | exact q13.trans (hb14.mono q13.size) | exact (q13.alloc q13.size _).trans (hb14.mono (by have := q13.size; simp; omega))
  go_wp2_with fail
  refine (ltxt_any a _).mono ?_
  rintro e w15 ⟨rfl, hb15⟩
  have q15 : Below w.heap.size w w15 := by first | exact q14.trans (hb15.mono q14.size) | exact (q14.alloc q14.size _).trans (hb15.mono (by have := q14.size; simp; omega))
  go_wp2_with fail
  refine (lst_ttt a a a _).mono ?_
  rintro e w16 ⟨⟨v3, rfl, hv3⟩, hb16⟩
  have q16 : Below w.heap.size w w16 := by first | exact q15.trans (hb16.mono q15.size) | exact (q15.alloc q15.size _).trans (hb16.mono (by have := q15.size; simp; omega))
  go_wp2_with fail
  refine (C2'.out _ (Tab.below ht q16) _ hv3).mono ?_
  rintro e w17 ⟨rfl, hb17⟩
  have q17 : Below w.heap.size w w17 := by first | exact q16.trans (hb17.mono q16.size) | exact (q16.alloc q16.size _).trans (hb17.mono (by have := q16.size; simp; omega))
  go_wp2
  go_ret
  exact ⟨rfl, q17⟩
set_option maxRecDepth 100000 in
set_option maxHeartbeats 4000000 in
theorem joins_in (a b : ByteArray) (_ha : a.size ≤ 140737488355328) (hb0 : b.size ≤ 140737488355328) (text : Int) (ht0 : 0 ≤ text ∧ text ≤ 1024) (hl : ¬ text < (a.size : Int) + (b.size : Int) + (a.size : Int)) (w : World) (ht : Tab w) : Calls Tryz.prog 7 #[.string a, .string b, .int .i64 text] w fun e w' => e = .returned (.bool true) ∧ Below w.heap.size w w' := by
  obtain ⟨d, hd⟩ : ∃ d, a ++ b ++ a = d := ⟨_, rfl⟩
  have hds : d.size = a.size + b.size + a.size := by rw [← hd, ByteArray.size_append, ByteArray.size_append]
  have hn0 : ¬ text < 0 := by omega
  have hn1 : ¬ 1024 < text := by omega
  have hs1 : ¬ 9223372036854775807 < a.size + b.size := by omega
  have hs2 : ¬ 9223372036854775807 < a.size + b.size + a.size := by omega
  obtain ⟨r, hr⟩ : ∃ r, toldT text (joinS [a, a, a]) = r := ⟨_, rfl⟩
  obtain ⟨rt, rn, rs, rb, rc⟩ := r
  have C1 : ∀ (w : World) (hTab : Tab w) (v : Value) (hv : ArgsAt w v [txA a, txA b, txA a]), Calls Tryz.prog 15 #[.string ⟨#[67, 79, 78, 67, 65, 84]⟩, v, .int .i64 text] w fun e w' => e = .returned (.agg #[.int .i64 2, .int .i64 0, .string d, .bool false, .int .i64 0]) ∧ Below w.heap.size w w' := fun w hTab v hv => by
    have := lcall_CONCAT a b a text ht0 hTab hv
    rw [joinS_three, hd] at this
    rw [show toldT text d = txtL d by unfold toldT; rw [if_neg (by omega)]] at this
    exact this
  have C2 : ∀ (w : World) (hTab : Tab w) (v : Value) (hv : ArgsAt w v [txA a, txA a, txA a]), Calls Tryz.prog 15 #[.string ⟨#[67, 79, 78, 67, 65, 84]⟩, v, .int .i64 text] w fun e w' => e = .returned (.agg #[.int .i64 rt, .int .i64 rn, .string rs, .bool rb, .int .i64 rc]) ∧ Below w.heap.size w w' := fun w hTab v hv => by
    have := lcall_CONCAT a a a text ht0 hTab hv
    rw [hr] at this
    exact this
  have C3 : ∀ (w : World) (hTab : Tab w) (v : Value) (hv : ArgsAt w v [txA a, whA 3]), Calls Tryz.prog 15 #[.string ⟨#[82, 69, 80, 84]⟩, v, .int .i64 text] w fun e w' => e = .returned (.agg #[.int .i64 rt, .int .i64 rn, .string rs, .bool rb, .int .i64 rc]) ∧ Below w.heap.size w w' := fun w hTab v hv => by
    have := lcall_REPT a 3 (by omega) text ht0 hTab hv
    rw [joinS_repS, hr] at this
    exact this
  have C1' := Lib.hid C1
  have C2' := Lib.hid C2
  have C3' := Lib.hid C3
  have hd' := Lib.hid hd
  have hve := vEq_self rt rn rs rb rc
  clear C1 C2 C3 hr hd
  go_enter Tryz.func7, Tryz.ntmps7
  go_wp2_with fail
  refine (tkn_any _ ht).mono ?_
  rintro e w1 ⟨rfl, hb1⟩
  have q1 : Below w.heap.size w w1 := by (repeat (first | (with_reducible exact Below.refl _ _) | (with_reducible refine Below.alloc ?_ (by first | omega | (dsimp only; omega) | (simp <;> omega)) _) | (with_reducible refine Below.setCell ?_ (by first | omega | (dsimp only; omega) | (simp <;> omega)) _) | (with_reducible refine Below.drew ?_) | (with_reducible refine below_drewN ?_ _) | (with_reducible refine Below.trans ?_ (Below.mono (by assumption) (by first | omega | (dsimp only; omega) | (simp <;> omega))))))
  go_wp2_with fail
  refine (ltxt_any a _).mono ?_
  rintro e w2 ⟨rfl, hb2⟩
  have q2 : Below w.heap.size w w2 := by first | exact q1.trans (hb2.mono q1.size) | exact (q1.alloc q1.size _).trans (hb2.mono (by have := q1.size; simp; omega))
  go_wp2_with fail
  refine (ltxt_any b _).mono ?_
  rintro e w3 ⟨rfl, hb3⟩
  have q3 : Below w.heap.size w w3 := by first | exact q2.trans (hb3.mono q2.size) | exact (q2.alloc q2.size _).trans (hb3.mono (by have := q2.size; simp; omega))
  go_wp2_with fail
  refine (ltxt_any a _).mono ?_
  rintro e w4 ⟨rfl, hb4⟩
  have q4 : Below w.heap.size w w4 := by first | exact q3.trans (hb4.mono q3.size) | exact (q3.alloc q3.size _).trans (hb4.mono (by have := q3.size; simp; omega))
  go_wp2_with fail
  refine (lst_ttt a b a _).mono ?_
  rintro e w5 ⟨⟨v1, rfl, hv1⟩, hb5⟩
  have q5 : Below w.heap.size w w5 := by first | exact q4.trans (hb5.mono q4.size) | exact (q4.alloc q4.size _).trans (hb5.mono (by have := q4.size; simp; omega))
  go_wp2_with fail
  refine (C1'.out _ (Tab.below ht q5) _ hv1).mono ?_
  rintro e w6 ⟨rfl, hb6⟩
  have q6 : Below w.heap.size w w6 := by first | exact q5.trans (hb6.mono q5.size) | exact (q5.alloc q5.size _).trans (hb6.mono (by have := q5.size; simp; omega))
  go_wp2_with fail
  rw [hd'.out]
  go_wp2_with fail
  refine (lisu_self d _).mono ?_
  rintro e w7 ⟨rfl, hb7⟩
  have q7 : Below w.heap.size w w7 := by first | exact q6.trans (hb7.mono q6.size) | exact (q6.alloc q6.size _).trans (hb7.mono (by have := q6.size; simp; omega))
  go_wp2_with fail
  refine (ltxt_any a _).mono ?_
  rintro e w8 ⟨rfl, hb8⟩
  have q8 : Below w.heap.size w w8 := by first | exact q7.trans (hb8.mono q7.size) | exact (q7.alloc q7.size _).trans (hb8.mono (by have := q7.size; simp; omega))
  go_wp2_with fail
  refine (lwhole_any (3) (by omega) _).mono ?_
  rintro e w9 ⟨rfl, hb9⟩
  have q9 : Below w.heap.size w w9 := by first | exact q8.trans (hb9.mono q8.size) | exact (q8.alloc q8.size _).trans (hb9.mono (by have := q8.size; simp; omega))
  go_wp2_with fail
  refine (ltxt_any ⟨#[]⟩ _).mono ?_
  rintro e w10 ⟨rfl, hb10⟩
  have q10 : Below w.heap.size w w10 := by first | exact q9.trans (hb10.mono q9.size) | exact (q9.alloc q9.size _).trans (hb10.mono (by have := q9.size; simp; omega))
  go_wp2_with fail
  refine (lst_tn a 3 _).mono ?_
  rintro e w11 ⟨⟨v2, rfl, hv2⟩, hb11⟩
  have q11 : Below w.heap.size w w11 := by first | exact q10.trans (hb11.mono q10.size) | exact (q10.alloc q10.size _).trans (hb11.mono (by have := q10.size; simp; omega))
  go_wp2_with fail
  refine (C3'.out _ (Tab.below ht q11) _ hv2).mono ?_
  rintro e w12 ⟨rfl, hb12⟩
  have q12 : Below w.heap.size w w12 := by first | exact q11.trans (hb12.mono q11.size) | exact (q11.alloc q11.size _).trans (hb12.mono (by have := q11.size; simp; omega))
  go_wp2_with fail
  refine (ltxt_any a _).mono ?_
  rintro e w13 ⟨rfl, hb13⟩
  have q13 : Below w.heap.size w w13 := by first | exact q12.trans (hb13.mono q12.size) | exact (q12.alloc q12.size _).trans (hb13.mono (by have := q12.size; simp; omega))
  go_wp2_with fail
  refine (ltxt_any a _).mono ?_
  rintro e w14 ⟨rfl, hb14⟩
  have q14 : Below w.heap.size w w14 := by first | exact q13.trans (hb14.mono q13.size) | exact (q13.alloc q13.size _).trans (hb14.mono (by have := q13.size; simp; omega))
  go_wp2_with fail
  refine (ltxt_any a _).mono ?_
  rintro e w15 ⟨rfl, hb15⟩
  have q15 : Below w.heap.size w w15 := by first | exact q14.trans (hb15.mono q14.size) | exact (q14.alloc q14.size _).trans (hb15.mono (by have := q14.size; simp; omega))
  go_wp2_with fail
  refine (lst_ttt a a a _).mono ?_
  rintro e w16 ⟨⟨v3, rfl, hv3⟩, hb16⟩
  have q16 : Below w.heap.size w w16 := by first | exact q15.trans (hb16.mono q15.size) | exact (q15.alloc q15.size _).trans (hb16.mono (by have := q15.size; simp; omega))
  go_wp2_with fail
  refine (C2'.out _ (Tab.below ht q16) _ hv3).mono ?_
  rintro e w17 ⟨rfl, hb17⟩
  have q17 : Below w.heap.size w w17 := by first | exact q16.trans (hb17.mono q16.size) | exact (q16.alloc q16.size _).trans (hb17.mono (by have := q16.size; simp; omega))
  go_wp2
  go_ret
  exact ⟨rfl, q17⟩
theorem walk_TextsJoins (a : ByteArray) (ha : a.size ≤ 140737488355328) (b : ByteArray) (hb : b.size ≤ 140737488355328) (text : Int) (w : World) (ht : Tab w) : Calls Tryz.prog 7 #[.string a, .string b, .int .i64 text] w fun e w' => e = .returned (.bool true) ∧ Below w.heap.size w w' := by
  by_cases h0 : text < 0
  · exact joins_neg a b ha hb text h0 w ht
  · by_cases h1 : 1024 < text
    · exact joins_big a b ha hb text h1 w ht
    · by_cases h2 : text < (a.size : Int) + (b.size : Int) + (a.size : Int)
      · exact joins_long a b ha hb text (by omega) h2 w ht
      · exact joins_in a b ha hb text (by omega) h2 w ht
end Go.Proofs.YtaomlgpakbjegaaGreatDoor
