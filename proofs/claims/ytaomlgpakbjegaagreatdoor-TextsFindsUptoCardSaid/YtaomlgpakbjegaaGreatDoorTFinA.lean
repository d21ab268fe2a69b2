/-
  The walk of the law TextsFinds: where FIND finds none.
-/
import Derived.Test.YtaomlgpakbjegaaGreatDoorRows
import Derived.Test.YtaomlgpakbjegaaGreatDoorBase
import Derived.Test.YtaomlgpakbjegaaGreatDoorMapK
import Derived.Test.YtaomlgpakbjegaaGreatDoorProg
import Derived.Test.YtaomlgpakbjegaaGreatDoorShelf
import Derived.Test.YtaomlgpakbjegaaGreatDoorTFind
import Derived.Test.YtaomlgpakbjegaaGreatDoorRowB
import Derived.Test.YtaomlgpakbjegaaGreatDoorDecA
import Derived.Test.YtaomlgpakbjegaaGreatDoorValA
import Derived.Test.YtaomlgpakbjegaaGreatDoorValB
import Derived.Test.YtaomlgpakbjegaaGreatDoorMg10
import Derived.Test.YtaomlgpakbjegaaGreatDoorValC
import Derived.Test.YtaomlgpakbjegaaGreatDoorAddrC
import Derived.Test.YtaomlgpakbjegaaGreatDoorAddrI
import Derived.Test.YtaomlgpakbjegaaGreatDoorMg14
import Derived.Test.YtaomlgpakbjegaaGreatDoorFmtU
import Derived.Test.YtaomlgpakbjegaaGreatDoorPrintL
import Derived.Test.YtaomlgpakbjegaaGreatDoorDPrint
import Derived.Test.YtaomlgpakbjegaaGreatDoorRPr
import Derived.Test.YtaomlgpakbjegaaGreatDoorNDoE
import Derived.Test.YtaomlgpakbjegaaGreatDoorTCall
import Derived.Test.YtaomlgpakbjegaaGreatDoorValD
import Derived.Test.YtaomlgpakbjegaaGreatDoorMg21
import Derived.Test.YtaomlgpakbjegaaGreatDoorValJ
import Derived.Test.YtaomlgpakbjegaaGreatDoorValL
import Derived.Test.YtaomlgpakbjegaaGreatDoorNCallK
import Derived.Test.YtaomlgpakbjegaaGreatDoorTCallK
import Derived.Test.YtaomlgpakbjegaaGreatDoorTDoA
import Derived.Test.YtaomlgpakbjegaaGreatDoorTCallB
import Derived.Test.YtaomlgpakbjegaaGreatDoorTDoB
import Derived.Test.YtaomlgpakbjegaaGreatDoorTDoC
import Derived.Test.YtaomlgpakbjegaaGreatDoorTDoD
import Derived.Test.YtaomlgpakbjegaaGreatDoorTArg
import Derived.Test.YtaomlgpakbjegaaGreatDoorTLaw
import Derived.Test.YtaomlgpakbjegaaGreatDoorTAt
import Derived.Test.YtaomlgpakbjegaaGreatDoorTJoiL
import Derived.Test.YtaomlgpakbjegaaGreatDoorTDoG
import Derived.Test.YtaomlgpakbjegaaGreatDoorTDoH
import Derived.Test.YtaomlgpakbjegaaGreatDoorTDoI
import Derived.Test.YtaomlgpakbjegaaGreatDoorTAtF
import Derived.Test.YtaomlgpakbjegaaGreatDoorTFinL
import Derived.Test.YtaomlgpakbjegaaGreatDoorTDoF
import Derived.Test.YtaomlgpakbjegaaGreatDoorMg41
import Derived.Test.YtaomlgpakbjegaaGreatDoorTAtB
import Derived.Test.YtaomlgpakbjegaaGreatDoorTParL
import Derived.Test.YtaomlgpakbjegaaGreatDoorTKn
import Derived.Test.YtaomlgpakbjegaaGreatDoorTPar
import Derived.Test.YtaomlgpakbjegaaGreatDoorTJoi
import Derived.WalkSpells
import Derived.WalkLawsBesides
import Derived.StillTactics
import Derived.Laws.Pointers
import Derived.Deep.RegionHeld3
import Derived.Deep.QuietTactic
import Derived.BigQuiet
import Derived.RowKit3
import Derived.Lib.Hide
import Derived.Lib.OthersKept
import Derived.OwnWalk
import Derived.Lib.IndexLaws
import Derived.Lib.ItoaMem
import Derived.WalkKit
import Derived.ProofKit
import Derived.OpenShut
import Derived.Carry
import Derived.ChangeSame
import Derived.Deep.Draws
import Derived.Maps.OwnSet
import Derived.Maps.AppendAt
import Derived.Shelf.Strings.Builder1
import Derived.Shelf.Strings.Builder2
import Derived.Shelf.Strings.OnBuilder
import Derived.Shelf.Strings.Trim
import Derived.Shelf.Small.Bits
import Derived.Shelf.Small.Strs
import Derived.Shelf.Small.Wraps
import Derived.Shelf.Strings.BuilderF
import Derived.Shelf.Strings.BuilderK
import Derived.Shelf.Strconv.Itoa0
import Derived.Shelf.Strconv.Itoa1
import Derived.Shelf.LaysM
import Derived.Shelf.Strconv.Itoa2
import Derived.Ground.MpProg
import Derived.Shelf.Pu.ParseUintPublic10
import Derived.Shelf.Strings.Search1
import Derived.Shelf.Strings.Search2
import Derived.Shelf.Strings.Search3
import Derived.Shelf.Strings.Cut
import Derived.Shelf.Strings.Prefix
import Derived.Shelf.Strings.Runes
import Derived.Shelf.Strings.AsciiSet
import Derived.Shelf.Bits.Mul64
import Derived.Shelf.Strings.Repeat
import Derived.Laws.EntriesVeiled
import Derived.Laws.BitsAllLaws
import Derived.Lib.TrimByte
import Derived.Lib.Bytealg
import Derived.Lib.SlTrimSet
import Derived.Lib.ParseIntB
import Derived.Shelf.Strings.SlTrimAscii
import Derived.Lib.SmallJoins
import Derived.Deep.RegionWith
import Derived.IntWalk
import Derived.Laws.IdiomStrings
import Derived.RegionTactic
import Derived.ChangeAlike
import Derived.Lib.Repeat
import Derived.Lib.IndexMore
namespace Go.Proofs.YtaomlgpakbjegaaGreatDoor
open Go.RowKit

theorem lst_ttn (s u : ByteArray) (a : Int) (w : World) : Calls Tryz.prog 22 #[.agg #[.bool false, .int .i64 2, .int .i64 0, .string s, .bool false, .int .i64 0, .int .i64 0, .int .i64 0, .int .i64 0, .int .i64 0, .slice none 0 0], .agg #[.bool false, .int .i64 2, .int .i64 0, .string u, .bool false, .int .i64 0, .int .i64 0, .int .i64 0, .int .i64 0, .int .i64 0, .slice none 0 0], .agg #[.bool false, .int .i64 1, .int .i64 (a * 10000), .string ⟨#[]⟩, .bool false, .int .i64 0, .int .i64 0, .int .i64 0, .int .i64 0, .int .i64 0, .slice none 0 0], .int .i64 3] w fun e w' => (∃ v, e = .returned v ∧ ArgsAt w' v [txA s, txA u, whA a]) ∧ Below w.heap.size w w' := llist_any (txtL s) (txtL u) (whV a) 3 (Nat.le_refl _) w
set_option maxRecDepth 100000 in
set_option maxHeartbeats 4000000 in
theorem finds_lo (t s : ByteArray) (n : Int) (h : n < 1) (w : World) (ht : Tab w) : Calls Tryz.prog 6 #[.string t, .string s, .int .i64 n] w fun e w' => e = .returned (.bool true) ∧ Below w.heap.size w w' := by
  go_enter Tryz.func6, Tryz.ntmps6
  go_wp2_with fail
  refine (tkn_any _ ht).mono ?_
  rintro e w1 ⟨rfl, hb1⟩
  have q1 : Below w.heap.size w w1 := by (repeat (first | (with_reducible exact Below.refl _ _) | (with_reducible refine Below.alloc ?_ (by first | omega | (dsimp only; omega) | (simp <;> omega)) _) | (with_reducible refine Below.setCell ?_ (by first | omega | (dsimp only; omega) | (simp <;> omega)) _) | (with_reducible refine Below.drew ?_) | (with_reducible refine below_drewN ?_ _) | (with_reducible refine Below.trans ?_ (Below.mono (by assumption) (by first | omega | (dsimp only; omega) | (simp <;> omega))))))
  go_wp2
  go_ret
  exact ⟨rfl, q1⟩
set_option maxRecDepth 100000 in
set_option maxHeartbeats 4000000 in
theorem finds_hi (t s : ByteArray) (n : Int) (h : 1099511627776 < n) (w : World) (ht : Tab w) : Calls Tryz.prog 6 #[.string t, .string s, .int .i64 n] w fun e w' => e = .returned (.bool true) ∧ Below w.heap.size w w' := by
  have h0 : ¬ n < 1 := by omega
  go_enter Tryz.func6, Tryz.ntmps6
  go_wp2_with fail
  refine (tkn_any _ ht).mono ?_
  rintro e w1 ⟨rfl, hb1⟩
  have q1 : Below w.heap.size w w1 := by (repeat (first | (with_reducible exact Below.refl _ _) | (with_reducible refine Below.alloc ?_ (by first | omega | (dsimp only; omega) | (simp <;> omega)) _) | (with_reducible refine Below.setCell ?_ (by first | omega | (dsimp only; omega) | (simp <;> omega)) _) | (with_reducible refine Below.drew ?_) | (with_reducible refine below_drewN ?_ _) | (with_reducible refine Below.trans ?_ (Below.mono (by assumption) (by first | omega | (dsimp only; omega) | (simp <;> omega))))))
  go_wp2
  go_ret
  exact ⟨rfl, q1⟩
set_option maxRecDepth 100000 in
set_option maxHeartbeats 4000000 in
theorem finds_no (t s : ByteArray) (hts : t.size ≤ 1048576) (hss : s.size ≤ 1048576) (n : Nat) (hn : 0 ≤ n ∧ n < 1099511627776) (hno : ∀ m, n ≤ m → m + t.size ≤ s.size → ¬ s.extract m (m + t.size) = t) (hL : findL t s ((n : Int) + 1) = errL 6) (w : World) (ht : Tab w) : Calls Tryz.prog 6 #[.string t, .string s, .int .i64 ((n : Int) + 1)] w fun e w' => e = .returned (.bool true) ∧ Below w.heap.size w w' := by
  have C : Hid (∀ (w : World) (hTab : Tab w) (v : Value) (hv : ArgsAt w v [txA t, txA s, whA ((n : Int) + 1)]), Calls Tryz.prog 15 #[.string ⟨#[70, 73, 78, 68]⟩, v, .int .i64 0] w fun e w' => e = .returned (.agg #[.int .i64 4, .int .i64 0, .string ⟨#[]⟩, .bool false, .int .i64 6]) ∧ Below w.heap.size w w') := Lib.hid fun w hTab v hv => by
    have := lcall_FIND t s hss ((n : Int) + 1) (by omega) 0 (by omega) hTab hv
    rw [hL] at this
    exact this
  have hno' := Lib.hid hno
  have h1 : ¬ ((n : Int) + 1) < 1 := by omega
  have h2 : decide (1099511627776 < ((n : Int) + 1)) = false := decide_eq_false (by omega)
  have hs2 : IntKind.i64.wrap ((s.size : Int) + 2) = (s.size : Int) + 2 := IntWalk.i64_in _ (by omega)
  clear hL hno
  go_enter Tryz.func6, Tryz.ntmps6
  go_wp2_with fail
  refine (tkn_any _ ht).mono ?_
  rintro e w1 ⟨rfl, hb1⟩
  have q1 : Below w.heap.size w w1 := by (repeat (first | (with_reducible exact Below.refl _ _) | (with_reducible refine Below.alloc ?_ (by first | omega | (dsimp only; omega) | (simp <;> omega)) _) | (with_reducible refine Below.setCell ?_ (by first | omega | (dsimp only; omega) | (simp <;> omega)) _) | (with_reducible refine Below.drew ?_) | (with_reducible refine below_drewN ?_ _) | (with_reducible refine Below.trans ?_ (Below.mono (by assumption) (by first | omega | (dsimp only; omega) | (simp <;> omega))))))
  go_wp2_with fail
  refine (ltxt_any t _).mono ?_
  rintro e w2 ⟨rfl, hb2⟩
  have q2 : Below w.heap.size w w2 := by first | exact q1.trans (hb2.mono q1.size) | exact (q1.alloc q1.size _).trans (hb2.mono (by have := q1.size; simp; omega))
  go_wp2_with fail
  refine (ltxt_any s _).mono ?_
  rintro e w3 ⟨rfl, hb3⟩
  have q3 : Below w.heap.size w w3 := by first | exact q2.trans (hb3.mono q2.size) | exact (q2.alloc q2.size _).trans (hb3.mono (by have := q2.size; simp; omega))
  go_wp2_with fail
  refine (lwhole_any (((n : Int) + 1)) (by omega) _).mono ?_
  rintro e w4 ⟨rfl, hb4⟩
  have q4 : Below w.heap.size w w4 := by first | exact q3.trans (hb4.mono q3.size) | exact (q3.alloc q3.size _).trans (hb4.mono (by have := q3.size; simp; omega))
  go_wp2_with fail
  refine (lst_ttn t s ((n : Int) + 1) _).mono ?_
  rintro e w5 ⟨⟨v1, rfl, hv1⟩, hb5⟩
  have q5 : Below w.heap.size w w5 := by first | exact q4.trans (hb5.mono q4.size) | exact (q4.alloc q4.size _).trans (hb5.mono (by have := q4.size; simp; omega))
  go_wp2_with fail
  refine (C.out _ (Tab.below ht q5) _ hv1).mono ?_
  rintro e w6 ⟨rfl, hb6⟩
  have q6 : Below w.heap.size w w6 := by first | exact q5.trans (hb6.mono q5.size) | exact (q5.alloc q5.size _).trans (hb6.mono (by have := q5.size; simp; omega))
  go_wp2_with fail
  refine (lfau_self 6 _).mono ?_
  rintro e w7 ⟨rfl, hb7⟩
  have q7 : Below w.heap.size w w7 := by first | exact q6.trans (hb7.mono q6.size) | exact (q6.alloc q6.size _).trans (hb7.mono (by have := q6.size; simp; omega))
  clear C hv1 hb1 hb2 hb3 hb4 hb5 hb6 hb7 q1 q2 q3 q4 q5 q6
  go_wp2_with fail
  go_loopw [9] (fun v wr => ∃ m : Nat, v = .int .i64 ((m : Int) + 1) ∧ n ≤ m ∧ (m = n ∨ m + 1 ≤ s.size + 2) ∧ Below w.heap.size w wr) (fun v _ => s.size + 2 - (intOf v).toNat)
  case atStart => exact ⟨n, rfl, Nat.le_refl _, .inl rfl, by first | assumption | exact q6.alloc q6.size _ | (repeat (first | (with_reducible exact Below.refl _ _) | (with_reducible refine Below.alloc ?_ (by first | omega | (dsimp only; omega) | (simp <;> omega)) _) | (with_reducible refine Below.setCell ?_ (by first | omega | (dsimp only; omega) | (simp <;> omega)) _) | (with_reducible refine Below.drew ?_) | (with_reducible refine below_drewN ?_ _) | (with_reducible refine Below.trans ?_ (Below.mono (by assumption) (by first | omega | (dsimp only; omega) | (simp <;> omega))))))⟩
  case round =>
    obtain ⟨m, rfl, hnm, _, hbr⟩ := hrel
    by_cases hlt : m + 1 < s.size + 2
    · have g1 : (m : Int) + 1 < ((s.size : Int) + 2) := by omega
      have g2 : IntKind.i64.wrap (m : Int) = (m : Int) := IntWalk.i64_in _ (by omega)
      have g3 : IntKind.i64.wrap ((m : Int) + (t.size : Int)) = (m : Int) + (t.size : Int) := IntWalk.i64_in _ (by omega)
      have g7 : IntKind.i64.wrap ((m : Int) + 1 + 1) = (m : Int) + 1 + 1 := IntWalk.i64_in _ (by omega)
      by_cases hr : m + t.size ≤ s.size
      · have g4 : (m : Int) + (t.size : Int) ≤ (s.size : Int) := by omega
        have g5 : (0 : Int) ≤ (m : Int) := by omega
        have g6 : (m : Int) ≤ (m : Int) + (t.size : Int) := by omega
        have g8 := hno'.out m hnm hr
        go_wp2
        go_roundw
        case rel => exact ⟨m + 1, by go_num, by omega, .inr (by omega), hbr⟩
        case measure => simp [intOf]; omega
      · have g4 : ¬ (m : Int) + (t.size : Int) ≤ (s.size : Int) := by omega
        go_wp2
        go_roundw
        case rel => exact ⟨m + 1, by go_num, by omega, .inr (by omega), hbr⟩
        case measure => simp [intOf]; omega
    · have g1 : ¬ (m : Int) + 1 < ((s.size : Int) + 2) := by omega
      go_wp2
      go_ret
      exact ⟨rfl, hbr⟩
end Go.Proofs.YtaomlgpakbjegaaGreatDoor
