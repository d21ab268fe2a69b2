/-
  The walk of the law TextsSwaps.
-/
import Derived.Test.YtaomlgpakbjegaaGreatDoorRows
import Derived.Test.YtaomlgpakbjegaaGreatDoorBase
import Derived.Test.YtaomlgpakbjegaaGreatDoorMapK
import Derived.Test.YtaomlgpakbjegaaGreatDoorProg
import Derived.Test.YtaomlgpakbjegaaGreatDoorShelf
import Derived.Test.YtaomlgpakbjegaaGreatDoorTFind
import Derived.Test.YtaomlgpakbjegaaGreatDoorRowB
import Derived.Test.YtaomlgpakbjegaaGreatDoorDecA
import Derived.Test.YtaomlgpakbjegaaGreatDoorValA
import Derived.Test.YtaomlgpakbjegaaGreatDoorValB
import Derived.Test.YtaomlgpakbjegaaGreatDoorMg10
import Derived.Test.YtaomlgpakbjegaaGreatDoorValC
import Derived.Test.YtaomlgpakbjegaaGreatDoorAddrC
import Derived.Test.YtaomlgpakbjegaaGreatDoorAddrI
import Derived.Test.YtaomlgpakbjegaaGreatDoorMg14
import Derived.Test.YtaomlgpakbjegaaGreatDoorDFlo
import Derived.Test.YtaomlgpakbjegaaGreatDoorFmtU
import Derived.Test.YtaomlgpakbjegaaGreatDoorPrintL
import Derived.Test.YtaomlgpakbjegaaGreatDoorDPrint
import Derived.Test.YtaomlgpakbjegaaGreatDoorRPr
import Derived.Test.YtaomlgpakbjegaaGreatDoorNDoE
import Derived.Test.YtaomlgpakbjegaaGreatDoorTCall
import Derived.Test.YtaomlgpakbjegaaGreatDoorValD
import Derived.Test.YtaomlgpakbjegaaGreatDoorMg22
import Derived.Test.YtaomlgpakbjegaaGreatDoorValJ
import Derived.Test.YtaomlgpakbjegaaGreatDoorValL
import Derived.Test.YtaomlgpakbjegaaGreatDoorNCallK
import Derived.Test.YtaomlgpakbjegaaGreatDoorTCallK
import Derived.Test.YtaomlgpakbjegaaGreatDoorTDoA
import Derived.Test.YtaomlgpakbjegaaGreatDoorTCallB
import Derived.Test.YtaomlgpakbjegaaGreatDoorTDoB
import Derived.Test.YtaomlgpakbjegaaGreatDoorTDoC
import Derived.Test.YtaomlgpakbjegaaGreatDoorTDoD
import Derived.Test.YtaomlgpakbjegaaGreatDoorTArg
import Derived.Test.YtaomlgpakbjegaaGreatDoorTLaw
import Derived.Test.YtaomlgpakbjegaaGreatDoorTAt
import Derived.Test.YtaomlgpakbjegaaGreatDoorTJoiL
import Derived.Test.YtaomlgpakbjegaaGreatDoorTDoG
import Derived.Test.YtaomlgpakbjegaaGreatDoorTDoH
import Derived.Test.YtaomlgpakbjegaaGreatDoorTDoI
import Derived.Test.YtaomlgpakbjegaaGreatDoorTAtF
import Derived.Test.YtaomlgpakbjegaaGreatDoorTDoF
import Derived.Test.YtaomlgpakbjegaaGreatDoorTAtC
import Derived.Test.YtaomlgpakbjegaaGreatDoorTAtE
import Derived.Test.YtaomlgpakbjegaaGreatDoorTAtB
import Derived.Test.YtaomlgpakbjegaaGreatDoorTParL
import Derived.Test.YtaomlgpakbjegaaGreatDoorTKn
import Derived.Test.YtaomlgpakbjegaaGreatDoorTPar
import Derived.Test.YtaomlgpakbjegaaGreatDoorTJoi
import Derived.WalkSpells
import Derived.WalkLawsBesides
import Derived.StillTactics
import Derived.Laws.Pointers
import Derived.Deep.RegionHeld3
import Derived.Deep.QuietTactic
import Derived.BigQuiet
import Derived.RowKit3
import Derived.Lib.Hide
import Derived.Lib.OthersKept
import Derived.OwnWalk
import Derived.Lib.IndexLaws
import Derived.Lib.ItoaMem
import Derived.WalkKit
import Derived.ProofKit
import Derived.OpenShut
import Derived.Carry
import Derived.ChangeSame
import Derived.Deep.Draws
import Derived.Maps.OwnSet
import Derived.Maps.AppendAt
import Derived.Shelf.Strings.Builder1
import Derived.Shelf.Strings.Builder2
import Derived.Shelf.Strings.OnBuilder
import Derived.Shelf.Strings.Trim
import Derived.Shelf.Small.Bits
import Derived.Shelf.Small.Strs
import Derived.Shelf.Small.Wraps
import Derived.Shelf.Strings.BuilderF
import Derived.Shelf.Strings.BuilderK
import Derived.Shelf.Strconv.Itoa0
import Derived.Shelf.Strconv.Itoa1
import Derived.Shelf.LaysM
import Derived.Shelf.Strconv.Itoa2
import Derived.Ground.MpProg
import Derived.Shelf.Pu.ParseUintPublic10
import Derived.Shelf.Strings.Search1
import Derived.Shelf.Strings.Search2
import Derived.Shelf.Strings.Search3
import Derived.Shelf.Strings.Cut
import Derived.Shelf.Strings.Prefix
import Derived.Shelf.Strings.Runes
import Derived.Shelf.Strings.AsciiSet
import Derived.Shelf.Bits.Mul64
import Derived.Shelf.Strings.Repeat
import Derived.Laws.EntriesVeiled
import Derived.Laws.BitsAllLaws
import Derived.Lib.TrimByte
import Derived.Lib.Bytealg
import Derived.Lib.SlTrimSet
import Derived.Lib.ParseIntB
import Derived.Shelf.Strings.SlTrimAscii
import Derived.Lib.SmallJoins
import Derived.Deep.RegionWith
import Derived.IntWalk
import Derived.Laws.IdiomStrings
import Derived.RegionTactic
import Derived.ChangeAlike
import Derived.Lib.Repeat
import Derived.Lib.IndexMore
namespace Go.Proofs.YtaomlgpakbjegaaGreatDoor
open Go.RowKit

set_option maxRecDepth 100000 in
set_option maxHeartbeats 4000000 in
theorem swaps_none (s t u : ByteArray) (hn : t = ⟨#[]⟩) (w : World) (ht : Tab w) : Calls Tryz.prog 8 #[.string s, .string t, .string u] w fun e w' => e = .returned (.bool true) ∧ Below w.heap.size w w' := by
  subst hn
  go_enter Tryz.func8, Tryz.ntmps8
  go_wp2_with fail
  refine (tkn_any _ ht).mono ?_
  rintro e w1 ⟨rfl, hb1⟩
  have q1 : Below w.heap.size w w1 := by (repeat (first | (with_reducible exact Below.refl _ _) | (with_reducible refine Below.alloc ?_ (by first | omega | (dsimp only; omega) | (simp <;> omega)) _) | (with_reducible refine Below.setCell ?_ (by first | omega | (dsimp only; omega) | (simp <;> omega)) _) | (with_reducible refine Below.drew ?_) | (with_reducible refine below_drewN ?_ _) | (with_reducible refine Below.trans ?_ (Below.mono (by assumption) (by first | omega | (dsimp only; omega) | (simp <;> omega))))))
  go_wp2_with fail
  refine (tkn_any _ (Tab.below ht q1)).mono ?_
  rintro e w2 ⟨rfl, hb2⟩
  have q2 : Below w.heap.size w w2 := by first | exact q1.trans (hb2.mono q1.size) | exact (q1.alloc q1.size _).trans (hb2.mono (by have := q1.size; simp; omega))
  go_wp2
  go_ret
  exact ⟨rfl, q2⟩
set_option maxRecDepth 100000 in
set_option maxHeartbeats 4000000 in
theorem swaps_s (s t u : ByteArray) (hne : ¬ t = ⟨#[]⟩) (h : 1024 < s.size) (w : World) (ht : Tab w) : Calls Tryz.prog 8 #[.string s, .string t, .string u] w fun e w' => e = .returned (.bool true) ∧ Below w.heap.size w w' := by
  have h1 : (1024 : Int) < (s.size : Int) := by omega
  go_enter Tryz.func8, Tryz.ntmps8
  go_wp2_with fail
  refine (tkn_any _ ht).mono ?_
  rintro e w1 ⟨rfl, hb1⟩
  have q1 : Below w.heap.size w w1 := by (repeat (first | (with_reducible exact Below.refl _ _) | (with_reducible refine Below.alloc ?_ (by first | omega | (dsimp only; omega) | (simp <;> omega)) _) | (with_reducible refine Below.setCell ?_ (by first | omega | (dsimp only; omega) | (simp <;> omega)) _) | (with_reducible refine Below.drew ?_) | (with_reducible refine below_drewN ?_ _) | (with_reducible refine Below.trans ?_ (Below.mono (by assumption) (by first | omega | (dsimp only; omega) | (simp <;> omega))))))
  go_wp2
  go_ret
  exact ⟨rfl, q1⟩
set_option maxRecDepth 100000 in
set_option maxHeartbeats 4000000 in
theorem swaps_u (s t u : ByteArray) (hne : ¬ t = ⟨#[]⟩) (h0 : s.size ≤ 1024) (h : 1024 < u.size) (w : World) (ht : Tab w) : Calls Tryz.prog 8 #[.string s, .string t, .string u] w fun e w' => e = .returned (.bool true) ∧ Below w.heap.size w w' := by
  have h1 : (1024 : Int) < (u.size : Int) := by omega
  have h2 : ¬ (1024 : Int) < (s.size : Int) := by omega
  go_enter Tryz.func8, Tryz.ntmps8
  go_wp2_with fail
  refine (tkn_any _ ht).mono ?_
  rintro e w1 ⟨rfl, hb1⟩
  have q1 : Below w.heap.size w w1 := by (repeat (first | (with_reducible exact Below.refl _ _) | (with_reducible refine Below.alloc ?_ (by first | omega | (dsimp only; omega) | (simp <;> omega)) _) | (with_reducible refine Below.setCell ?_ (by first | omega | (dsimp only; omega) | (simp <;> omega)) _) | (with_reducible refine Below.drew ?_) | (with_reducible refine below_drewN ?_ _) | (with_reducible refine Below.trans ?_ (Below.mono (by assumption) (by first | omega | (dsimp only; omega) | (simp <;> omega))))))
  go_wp2
  go_ret
  exact ⟨rfl, q1⟩
set_option maxRecDepth 100000 in
set_option maxHeartbeats 4000000 in
theorem swaps_p (s t u : ByteArray) (hne : ¬ t = ⟨#[]⟩) (h0 : s.size ≤ 1024) (h1 : u.size ≤ 1024) (M : Nat) (hM : s.size * (u.size + 1) = M) (h : 1024 ≤ M) (w : World) (ht : Tab w) : Calls Tryz.prog 8 #[.string s, .string t, .string u] w fun e w' => e = .returned (.bool true) ∧ Below w.heap.size w w' := by
  have hMb : M ≤ 2000000 := by
    have := Nat.mul_le_mul h0 (show u.size + 1 ≤ 1025 by omega)
    omega
  have hw1 : IntKind.i64.wrap ((u.size : Int) + 1) = (u.size : Int) + 1 := IntWalk.i64_in _ (by omega)
  have hw2 : IntKind.i64.wrap ((s.size : Int) * ((u.size : Int) + 1)) = (M : Int) := by
    rw [show (s.size : Int) * ((u.size : Int) + 1) = (M : Int) by rw [← hM]; simp]
    exact IntWalk.i64_in _ (by omega)
  have h2 : ¬ (1024 : Int) < (s.size : Int) := by omega
  have h3 : ¬ (1024 : Int) < (u.size : Int) := by omega
  have h4 : (1024 : Int) ≤ (M : Int) := by omega
  clear hM
  go_enter Tryz.func8, Tryz.ntmps8
  go_wp2_with fail
  refine (tkn_any _ ht).mono ?_
  rintro e w1 ⟨rfl, hb1⟩
  have q1 : Below w.heap.size w w1 := by (repeat (first | (with_reducible exact Below.refl _ _) | (with_reducible refine Below.alloc ?_ (by first | omega | (dsimp only; omega) | (simp <;> omega)) _) | (with_reducible refine Below.setCell ?_ (by first | omega | (dsimp only; omega) | (simp <;> omega)) _) | (with_reducible refine Below.drew ?_) | (with_reducible refine below_drewN ?_ _) | (with_reducible refine Below.trans ?_ (Below.mono (by assumption) (by first | omega | (dsimp only; omega) | (simp <;> omega))))))
  go_wp2
  go_ret
  exact ⟨rfl, q1⟩
theorem size_sub (s t u : ByteArray) : (substS s t u).size + cntL t.data.toList (s.size + 1) s.data.toList * t.size = s.size + cntL t.data.toList (s.size + 1) s.data.toList * u.size := subst_len t.data.toList u.data.toList (s.size + 1) s.data.toList
theorem substS_same (s t : ByteArray) : substS s t t = s := by
  unfold substS; rw [subst_same]
set_option maxRecDepth 100000 in
set_option maxHeartbeats 4000000 in
theorem swaps_in (s t u : ByteArray) (hne : ¬ t = ⟨#[]⟩) (h0 : s.size ≤ 1024) (h1 : u.size ≤ 1024) (M : Nat) (hM : s.size * (u.size + 1) = M) (h : M < 1024) (w : World) (ht : Tab w) : Calls Tryz.prog 8 #[.string s, .string t, .string u] w fun e w' => e = .returned (.bool true) ∧ Below w.heap.size w w' := by
  have hMb : M ≤ 2000000 := by
    have := Nat.mul_le_mul h0 (show u.size + 1 ≤ 1025 by omega)
    omega
  obtain ⟨sb, hsb⟩ : ∃ sb, substS s t ⟨#[]⟩ = sb := ⟨_, rfl⟩
  obtain ⟨sc, hsc⟩ : ∃ sc, substS s t u = sc := ⟨_, rfl⟩
  obtain ⟨k, hk⟩ : ∃ k, cntL t.data.toList (s.size + 1) s.data.toList = k := ⟨_, rfl⟩
  have e1 := size_sub s t ⟨#[]⟩
  have e2 := size_sub s t u
  rw [hk, hsb] at e1
  rw [hk, hsc] at e2
  rw [show k * (⟨#[]⟩ : ByteArray).size = 0 from Nat.mul_zero k] at e1
  have htp : 0 < t.size := by
    rcases Nat.eq_zero_or_pos t.size with h | h
    · exact absurd (ByteArray.size_eq_zero_iff.1 h) hne
    · exact h
  have hkl : k ≤ s.size := by
    have := Nat.le_mul_of_pos_right k htp
    omega
  obtain ⟨Z, hZ⟩ : ∃ Z, k * u.size = Z := ⟨_, rfl⟩
  obtain ⟨X, hX⟩ : ∃ X, k * t.size = X := ⟨_, rfl⟩
  have hZM : s.size + Z ≤ M + 1 := by
    have h9 := Nat.mul_le_mul_right u.size hkl
    have h8 : s.size * (u.size + 1) = s.size * u.size + s.size := by rw [Nat.mul_add, Nat.mul_one]
    omega
  rw [hX] at e1 e2
  rw [hZ] at e2
  have hsM : s.size ≤ M := by rw [← hM, Nat.mul_add, Nat.mul_one]; omega
  have Ca : Hid (∀ (w : World) (hTab : Tab w) (v : Value) (hv : ArgsAt w v [txA s, txA t, txA t]), Calls Tryz.prog 15 #[.string ⟨#[83, 85, 66, 83, 84]⟩, v, .int .i64 ((M : Int) + 1)] w fun e w' => e = .returned (.agg #[.int .i64 2, .int .i64 0, .string s, .bool false, .int .i64 0]) ∧ Below w.heap.size w w') := Lib.hid fun w hTab v hv => by
    have := lcall_SUBST s t t (by omega) (fun _ => by omega) hne ((M : Int) + 1) (by omega) hTab hv
    rw [substS_same] at this
    rw [show toldT ((M : Int) + 1) s = txtL s by unfold toldT; rw [if_neg (by omega)]] at this
    exact this
  have Cb : Hid (∀ (w : World) (hTab : Tab w) (v : Value) (hv : ArgsAt w v [txA s, txA t, txA ⟨#[]⟩]), Calls Tryz.prog 15 #[.string ⟨#[83, 85, 66, 83, 84]⟩, v, .int .i64 ((M : Int) + 1)] w fun e w' => e = .returned (.agg #[.int .i64 2, .int .i64 0, .string sb, .bool false, .int .i64 0]) ∧ Below w.heap.size w w') := Lib.hid fun w hTab v hv => by
    have := lcall_SUBST s t ⟨#[]⟩ (by omega) (fun _ => by decide) hne ((M : Int) + 1) (by omega) hTab hv
    rw [hsb] at this
    rw [show toldT ((M : Int) + 1) sb = txtL sb by unfold toldT; rw [if_neg (by omega)]] at this
    exact this
  have Cc : Hid (∀ (w : World) (hTab : Tab w) (v : Value) (hv : ArgsAt w v [txA s, txA t, txA u]), Calls Tryz.prog 15 #[.string ⟨#[83, 85, 66, 83, 84]⟩, v, .int .i64 ((M : Int) + 1)] w fun e w' => e = .returned (.agg #[.int .i64 2, .int .i64 0, .string sc, .bool false, .int .i64 0]) ∧ Below w.heap.size w w') := Lib.hid fun w hTab v hv => by
    have := lcall_SUBST s t u (by omega) (fun _ => by omega) hne ((M : Int) + 1) (by omega) hTab hv
    rw [hsc] at this
    rw [show toldT ((M : Int) + 1) sc = txtL sc by unfold toldT; rw [if_neg (by omega)]] at this
    exact this
  have hw1 : IntKind.i64.wrap ((u.size : Int) + 1) = (u.size : Int) + 1 := IntWalk.i64_in _ (by omega)
  have hw2 : IntKind.i64.wrap ((s.size : Int) * ((u.size : Int) + 1)) = (M : Int) := by
    rw [show (s.size : Int) * ((u.size : Int) + 1) = (M : Int) by rw [← hM]; simp]
    exact IntWalk.i64_in _ (by omega)
  have h2 : ¬ (1024 : Int) < (s.size : Int) := by omega
  have h3 : ¬ (1024 : Int) < (u.size : Int) := by omega
  have hx1 : IntKind.i64.wrap ((s.size : Int) - (sb.size : Int)) = (X : Int) := by
    rw [show (s.size : Int) - (sb.size : Int) = (X : Int) by omega]
    exact IntWalk.i64_in _ (by omega)
  have hx2 : (X : Int).tmod (t.size : Int) = 0 := by rw [← hX]; simp
  have hx3 : (X : Int).tdiv (t.size : Int) = (k : Int) := by rw [← hX, Int.natCast_mul]; exact Int.mul_tdiv_cancel _ (by omega)
  have hx4 : (X : Int) % (t.size : Int) = 0 := by rw [← hX]; simp
  have hx5 : (X : Int) / (t.size : Int) = (k : Int) := by rw [← hX, Int.natCast_mul]; exact Int.mul_ediv_cancel _ (by omega)
  have hz1 : IntKind.i64.wrap ((sc.size : Int) - (sb.size : Int)) = (Z : Int) := by
    rw [show (sc.size : Int) - (sb.size : Int) = (Z : Int) by omega]
    exact IntWalk.i64_in _ (by omega)
  have hz2 : IntKind.i64.wrap ((k : Int) * (u.size : Int)) = (Z : Int) := by
    rw [show (k : Int) * (u.size : Int) = (Z : Int) by rw [← hZ]; simp]
    exact IntWalk.i64_in _ (by omega)
  have htn : ¬ t.size = 0 := by omega
  have hti : ¬ (t.size : Int) = 0 := by omega
  have hkw : wrap64 (k : Int) = (k : Int) := by rw [← IntWalk.i64_left]; exact IntWalk.i64_in _ (by omega)
  have h4 : ¬ (1024 : Int) ≤ (M : Int) := by omega
  have hw3 : IntKind.i64.wrap ((M : Int) + 1) = (M : Int) + 1 := IntWalk.i64_in _ (by omega)
  clear hM hX hZ hk hsb hsc
  go_enter Tryz.func8, Tryz.ntmps8
  go_wp2_with fail
  refine (tkn_any _ ht).mono ?_
  rintro e w1 ⟨rfl, hb1⟩
  have q1 : Below w.heap.size w w1 := by (repeat (first | (with_reducible exact Below.refl _ _) | (with_reducible refine Below.alloc ?_ (by first | omega | (dsimp only; omega) | (simp <;> omega)) _) | (with_reducible refine Below.setCell ?_ (by first | omega | (dsimp only; omega) | (simp <;> omega)) _) | (with_reducible refine Below.drew ?_) | (with_reducible refine below_drewN ?_ _) | (with_reducible refine Below.trans ?_ (Below.mono (by assumption) (by first | omega | (dsimp only; omega) | (simp <;> omega))))))
  go_wp2_with fail
  refine (ltxt_any s _).mono ?_
  rintro e w2 ⟨rfl, hb2⟩
  have q2 : Below w.heap.size w w2 := by first | exact q1.trans (hb2.mono q1.size) | exact (q1.alloc q1.size _).trans (hb2.mono (by have := q1.size; simp; omega))
  go_wp2_with fail
  refine (ltxt_any t _).mono ?_
  rintro e w3 ⟨rfl, hb3⟩
  have q3 : Below w.heap.size w w3 := by first | exact q2.trans (hb3.mono q2.size) | exact (q2.alloc q2.size _).trans (hb3.mono (by have := q2.size; simp; omega))
  go_wp2_with fail
  refine (ltxt_any t _).mono ?_
  rintro e w4 ⟨rfl, hb4⟩
  have q4 : Below w.heap.size w w4 := by first | exact q3.trans (hb4.mono q3.size) | exact (q3.alloc q3.size _).trans (hb4.mono (by have := q3.size; simp; omega))
  go_wp2_with fail
  refine (lst_ttt s t t _).mono ?_
  rintro e w5 ⟨⟨vaa, rfl, hva⟩, hb5⟩
  have q5 : Below w.heap.size w w5 := by first | exact q4.trans (hb5.mono q4.size) | exact (q4.alloc q4.size _).trans (hb5.mono (by have := q4.size; simp; omega))
  go_wp2_with fail
  refine (Ca.out _ (Tab.below ht q5) _ hva).mono ?_
  rintro e w6 ⟨rfl, hb6⟩
  have q6 : Below w.heap.size w w6 := by first | exact q5.trans (hb6.mono q5.size) | exact (q5.alloc q5.size _).trans (hb6.mono (by have := q5.size; simp; omega))
  go_wp2_with fail
  refine (ltxt_any s _).mono ?_
  rintro e w7 ⟨rfl, hb7⟩
  have q7 : Below w.heap.size w w7 := by first | exact q6.trans (hb7.mono q6.size) | exact (q6.alloc q6.size _).trans (hb7.mono (by have := q6.size; simp; omega))
  have va : VAt w7 w6.heap.size s := VAt.new hb7
  go_wp2_with fail
  refine (ltxt_any t _).mono ?_
  rintro e w8 ⟨rfl, hb8⟩
  have q8 : Below w.heap.size w w8 := by first | exact q7.trans (hb8.mono q7.size) | exact (q7.alloc q7.size _).trans (hb8.mono (by have := q7.size; simp; omega))
  replace va : VAt w8 w6.heap.size s := by first | exact va.step hb8 | exact va.stepA hb8 | exact VAt.new hb8
  go_wp2_with fail
  refine (ltxt_any ⟨#[]⟩ _).mono ?_
  rintro e w9 ⟨rfl, hb9⟩
  have q9 : Below w.heap.size w w9 := by first | exact q8.trans (hb9.mono q8.size) | exact (q8.alloc q8.size _).trans (hb9.mono (by have := q8.size; simp; omega))
  replace va : VAt w9 w6.heap.size s := by first | exact va.step hb9 | exact va.stepA hb9 | exact VAt.new hb9
  go_wp2_with fail
  refine (lst_ttt s t ⟨#[]⟩ _).mono ?_
  rintro e w10 ⟨⟨vbb, rfl, hvb⟩, hb10⟩
  have q10 : Below w.heap.size w w10 := by first | exact q9.trans (hb10.mono q9.size) | exact (q9.alloc q9.size _).trans (hb10.mono (by have := q9.size; simp; omega))
  replace va : VAt w10 w6.heap.size s := by first | exact va.step hb10 | exact va.stepA hb10 | exact VAt.new hb10
  go_wp2_with fail
  refine (Cb.out _ (Tab.below ht q10) _ hvb).mono ?_
  rintro e w11 ⟨rfl, hb11⟩
  have q11 : Below w.heap.size w w11 := by first | exact q10.trans (hb11.mono q10.size) | exact (q10.alloc q10.size _).trans (hb11.mono (by have := q10.size; simp; omega))
  replace va : VAt w11 w6.heap.size s := by first | exact va.step hb11 | exact va.stepA hb11 | exact VAt.new hb11
  go_wp2_with fail
  refine (ltxt_any s _).mono ?_
  rintro e w12 ⟨rfl, hb12⟩
  have q12 : Below w.heap.size w w12 := by first | exact q11.trans (hb12.mono q11.size) | exact (q11.alloc q11.size _).trans (hb12.mono (by have := q11.size; simp; omega))
  replace va : VAt w12 w6.heap.size s := by first | exact va.step hb12 | exact va.stepA hb12 | exact VAt.new hb12
  have vb : VAt w12 w11.heap.size sb := VAt.new hb12
  go_wp2_with fail
  refine (ltxt_any t _).mono ?_
  rintro e w13 ⟨rfl, hb13⟩
  have q13 : Below w.heap.size w w13 := by first | exact q12.trans (hb13.mono q12.size) | exact (q12.alloc q12.size _).trans (hb13.mono (by have := q12.size; simp; omega))
  replace va : VAt w13 w6.heap.size s := by first | exact va.step hb13 | exact va.stepA hb13 | exact VAt.new hb13
  replace vb : VAt w13 w11.heap.size sb := by first | exact vb.step hb13 | exact vb.stepA hb13 | exact VAt.new hb13
  go_wp2_with fail
  refine (ltxt_any u _).mono ?_
  rintro e w14 ⟨rfl, hb14⟩
  have q14 : Below w.heap.size w w14 := by first | exact q13.trans (hb14.mono q13.size) | exact (q13.alloc q13.size _).trans (hb14.mono (by have := q13.size; simp; omega))
  replace va : VAt w14 w6.heap.size s := by first | exact va.step hb14 | exact va.stepA hb14 | exact VAt.new hb14
  replace vb : VAt w14 w11.heap.size sb := by first | exact vb.step hb14 | exact vb.stepA hb14 | exact VAt.new hb14
  go_wp2_with fail
  refine (lst_ttt s t u _).mono ?_
  rintro e w15 ⟨⟨vcc, rfl, hvc⟩, hb15⟩
  have q15 : Below w.heap.size w w15 := by first | exact q14.trans (hb15.mono q14.size) | exact (q14.alloc q14.size _).trans (hb15.mono (by have := q14.size; simp; omega))
  replace va : VAt w15 w6.heap.size s := by first | exact va.step hb15 | exact va.stepA hb15 | exact VAt.new hb15
  replace vb : VAt w15 w11.heap.size sb := by first | exact vb.step hb15 | exact vb.stepA hb15 | exact VAt.new hb15
  go_wp2_with fail
  refine (Cc.out _ (Tab.below ht q15) _ hvc).mono ?_
  rintro e w16 ⟨rfl, hb16⟩
  have q16 : Below w.heap.size w w16 := by first | exact q15.trans (hb16.mono q15.size) | exact (q15.alloc q15.size _).trans (hb16.mono (by have := q15.size; simp; omega))
  replace va : VAt w16 w6.heap.size s := by first | exact va.step hb16 | exact va.stepA hb16 | exact VAt.new hb16
  replace vb : VAt w16 w11.heap.size sb := by first | exact vb.step hb16 | exact vb.stepA hb16 | exact VAt.new hb16
  have vc := VAt.here w16 sc
  replace va : VAt (w16.alloc (.cells #[.int .i64 2, .int .i64 0, .string sc, .bool false, .int .i64 0] 26)) w6.heap.size s := va.al
  replace vb : VAt (w16.alloc (.cells #[.int .i64 2, .int .i64 0, .string sc, .bool false, .int .i64 0] 26)) w11.heap.size sb := vb.al
  have qz16 : Below w.heap.size w (w16.alloc (.cells #[.int .i64 2, .int .i64 0, .string sc, .bool false, .int .i64 0] 26)) := q16.alloc q16.size _
  clear hb1 hb2 hb3 hb4 hb5 hb6 hb7 hb8 hb9 hb10 hb11 hb12 hb13 hb14 hb15 hb16 q1 q2 q3 q4 q5 q6 q7 q8 q9 q10 q11 q12 q13 q14 q15 q16 hva hvb hvc
  have la := cell_lt va.1
  obtain ⟨a0, a1, a2, a3, a4⟩ := va
  have lb := cell_lt vb.1
  obtain ⟨b0, b1, b2, b3, b4⟩ := vb
  have lc := cell_lt vc.1
  obtain ⟨c0, c1, c2, c3, c4⟩ := vc
  go_wp2_with fail
  refine (lisu_self s _).mono ?_
  rintro e w17 ⟨rfl, hb17⟩
  have qz17 : Below w.heap.size w w17 := qz16.trans (hb17.mono qz16.size)
  replace a0 : w17.cell? ⟨w6.heap.size, 0, none⟩ = some (.int .i64 2) := (hb17.cell (p := ⟨w6.heap.size, 0, none⟩) la).trans a0
  replace a1 : w17.cell? ⟨w6.heap.size, 1, none⟩ = some (.int .i64 0) := (hb17.cell (p := ⟨w6.heap.size, 1, none⟩) la).trans a1
  replace a2 : w17.cell? ⟨w6.heap.size, 2, none⟩ = some (.string s) := (hb17.cell (p := ⟨w6.heap.size, 2, none⟩) la).trans a2
  replace a3 : w17.cell? ⟨w6.heap.size, 3, none⟩ = some (.bool false) := (hb17.cell (p := ⟨w6.heap.size, 3, none⟩) la).trans a3
  replace a4 : w17.cell? ⟨w6.heap.size, 4, none⟩ = some (.int .i64 0) := (hb17.cell (p := ⟨w6.heap.size, 4, none⟩) la).trans a4
  replace la := cell_lt a0
  replace b0 : w17.cell? ⟨w11.heap.size, 0, none⟩ = some (.int .i64 2) := (hb17.cell (p := ⟨w11.heap.size, 0, none⟩) lb).trans b0
  replace b1 : w17.cell? ⟨w11.heap.size, 1, none⟩ = some (.int .i64 0) := (hb17.cell (p := ⟨w11.heap.size, 1, none⟩) lb).trans b1
  replace b2 : w17.cell? ⟨w11.heap.size, 2, none⟩ = some (.string sb) := (hb17.cell (p := ⟨w11.heap.size, 2, none⟩) lb).trans b2
  replace b3 : w17.cell? ⟨w11.heap.size, 3, none⟩ = some (.bool false) := (hb17.cell (p := ⟨w11.heap.size, 3, none⟩) lb).trans b3
  replace b4 : w17.cell? ⟨w11.heap.size, 4, none⟩ = some (.int .i64 0) := (hb17.cell (p := ⟨w11.heap.size, 4, none⟩) lb).trans b4
  replace lb := cell_lt b0
  replace c0 : w17.cell? ⟨w16.heap.size, 0, none⟩ = some (.int .i64 2) := (hb17.cell (p := ⟨w16.heap.size, 0, none⟩) lc).trans c0
  replace c1 : w17.cell? ⟨w16.heap.size, 1, none⟩ = some (.int .i64 0) := (hb17.cell (p := ⟨w16.heap.size, 1, none⟩) lc).trans c1
  replace c2 : w17.cell? ⟨w16.heap.size, 2, none⟩ = some (.string sc) := (hb17.cell (p := ⟨w16.heap.size, 2, none⟩) lc).trans c2
  replace c3 : w17.cell? ⟨w16.heap.size, 3, none⟩ = some (.bool false) := (hb17.cell (p := ⟨w16.heap.size, 3, none⟩) lc).trans c3
  replace c4 : w17.cell? ⟨w16.heap.size, 4, none⟩ = some (.int .i64 0) := (hb17.cell (p := ⟨w16.heap.size, 4, none⟩) lc).trans c4
  replace lc := cell_lt c0
  go_wp2_with fail
  go_quiet (fail)
  go_wp2
  go_ret
  exact ⟨rfl, below_drewN qz17 _⟩
theorem walk_TextsSwaps (s t u : ByteArray) (w : World) (ht : Tab w) : Calls Tryz.prog 8 #[.string s, .string t, .string u] w fun e w' => e = .returned (.bool true) ∧ Below w.heap.size w w' := by
  by_cases hn : t = ⟨#[]⟩
  · exact swaps_none s t u hn w ht
  · by_cases h0 : 1024 < s.size
    · exact swaps_s s t u hn h0 w ht
    · by_cases h1 : 1024 < u.size
      · exact swaps_u s t u hn (by omega) h1 w ht
      · by_cases h2 : 1024 ≤ s.size * (u.size + 1)
        · exact swaps_p s t u hn (by omega) (by omega) _ rfl h2 w ht
        · exact swaps_in s t u hn (by omega) (by omega) _ rfl (by omega) w ht
end Go.Proofs.YtaomlgpakbjegaaGreatDoor
