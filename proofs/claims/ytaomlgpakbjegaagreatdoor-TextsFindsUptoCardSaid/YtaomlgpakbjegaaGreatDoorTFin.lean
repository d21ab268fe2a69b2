/-
  The walk of the law TextsFinds.
-/
import Derived.Test.YtaomlgpakbjegaaGreatDoorRows
import Derived.Test.YtaomlgpakbjegaaGreatDoorBase
import Derived.Test.YtaomlgpakbjegaaGreatDoorMapK
import Derived.Test.YtaomlgpakbjegaaGreatDoorProg
import Derived.Test.YtaomlgpakbjegaaGreatDoorShelf
import Derived.Test.YtaomlgpakbjegaaGreatDoorTFind
import Derived.Test.YtaomlgpakbjegaaGreatDoorRowB
import Derived.Test.YtaomlgpakbjegaaGreatDoorDecA
import Derived.Test.YtaomlgpakbjegaaGreatDoorValA
import Derived.Test.YtaomlgpakbjegaaGreatDoorValB
import Derived.Test.YtaomlgpakbjegaaGreatDoorMg10
import Derived.Test.YtaomlgpakbjegaaGreatDoorValC
import Derived.Test.YtaomlgpakbjegaaGreatDoorAddrC
import Derived.Test.YtaomlgpakbjegaaGreatDoorAddrI
import Derived.Test.YtaomlgpakbjegaaGreatDoorMg14
import Derived.Test.YtaomlgpakbjegaaGreatDoorFmtU
import Derived.Test.YtaomlgpakbjegaaGreatDoorPrintL
import Derived.Test.YtaomlgpakbjegaaGreatDoorDPrint
import Derived.Test.YtaomlgpakbjegaaGreatDoorRPr
import Derived.Test.YtaomlgpakbjegaaGreatDoorNDoE
import Derived.Test.YtaomlgpakbjegaaGreatDoorTCall
import Derived.Test.YtaomlgpakbjegaaGreatDoorValD
import Derived.Test.YtaomlgpakbjegaaGreatDoorMg21
import Derived.Test.YtaomlgpakbjegaaGreatDoorValJ
import Derived.Test.YtaomlgpakbjegaaGreatDoorValL
import Derived.Test.YtaomlgpakbjegaaGreatDoorNCallK
import Derived.Test.YtaomlgpakbjegaaGreatDoorTCallK
import Derived.Test.YtaomlgpakbjegaaGreatDoorTDoA
import Derived.Test.YtaomlgpakbjegaaGreatDoorTCallB
import Derived.Test.YtaomlgpakbjegaaGreatDoorTDoB
import Derived.Test.YtaomlgpakbjegaaGreatDoorTDoC
import Derived.Test.YtaomlgpakbjegaaGreatDoorTDoD
import Derived.Test.YtaomlgpakbjegaaGreatDoorTArg
import Derived.Test.YtaomlgpakbjegaaGreatDoorTLaw
import Derived.Test.YtaomlgpakbjegaaGreatDoorTAt
import Derived.Test.YtaomlgpakbjegaaGreatDoorTJoiL
import Derived.Test.YtaomlgpakbjegaaGreatDoorTDoG
import Derived.Test.YtaomlgpakbjegaaGreatDoorTDoH
import Derived.Test.YtaomlgpakbjegaaGreatDoorTDoI
import Derived.Test.YtaomlgpakbjegaaGreatDoorTAtF
import Derived.Test.YtaomlgpakbjegaaGreatDoorTFinL
import Derived.Test.YtaomlgpakbjegaaGreatDoorTDoF
import Derived.Test.YtaomlgpakbjegaaGreatDoorMg41
import Derived.Test.YtaomlgpakbjegaaGreatDoorTAtB
import Derived.Test.YtaomlgpakbjegaaGreatDoorTParL
import Derived.Test.YtaomlgpakbjegaaGreatDoorTKn
import Derived.Test.YtaomlgpakbjegaaGreatDoorTPar
import Derived.Test.YtaomlgpakbjegaaGreatDoorTJoi
import Derived.Test.YtaomlgpakbjegaaGreatDoorTFinA
import Derived.WalkSpells
import Derived.WalkLawsBesides
import Derived.StillTactics
import Derived.Laws.Pointers
import Derived.Deep.RegionHeld3
import Derived.Deep.QuietTactic
import Derived.BigQuiet
import Derived.RowKit3
import Derived.Lib.Hide
import Derived.Lib.OthersKept
import Derived.OwnWalk
import Derived.Lib.IndexLaws
import Derived.Lib.ItoaMem
import Derived.WalkKit
import Derived.ProofKit
import Derived.OpenShut
import Derived.Carry
import Derived.ChangeSame
import Derived.Deep.Draws
import Derived.Maps.OwnSet
import Derived.Maps.AppendAt
import Derived.Shelf.Strings.Builder1
import Derived.Shelf.Strings.Builder2
import Derived.Shelf.Strings.OnBuilder
import Derived.Shelf.Strings.Trim
import Derived.Shelf.Small.Bits
import Derived.Shelf.Small.Strs
import Derived.Shelf.Small.Wraps
import Derived.Shelf.Strings.BuilderF
import Derived.Shelf.Strings.BuilderK
import Derived.Shelf.Strconv.Itoa0
import Derived.Shelf.Strconv.Itoa1
import Derived.Shelf.LaysM
import Derived.Shelf.Strconv.Itoa2
import Derived.Ground.MpProg
import Derived.Shelf.Pu.ParseUintPublic10
import Derived.Shelf.Strings.Search1
import Derived.Shelf.Strings.Search2
import Derived.Shelf.Strings.Search3
import Derived.Shelf.Strings.Cut
import Derived.Shelf.Strings.Prefix
import Derived.Shelf.Strings.Runes
import Derived.Shelf.Strings.AsciiSet
import Derived.Shelf.Bits.Mul64
import Derived.Shelf.Strings.Repeat
import Derived.Laws.EntriesVeiled
import Derived.Laws.BitsAllLaws
import Derived.Lib.TrimByte
import Derived.Lib.Bytealg
import Derived.Lib.SlTrimSet
import Derived.Lib.ParseIntB
import Derived.Shelf.Strings.SlTrimAscii
import Derived.Lib.SmallJoins
import Derived.Deep.RegionWith
import Derived.IntWalk
import Derived.Laws.IdiomStrings
import Derived.RegionTactic
import Derived.ChangeAlike
import Derived.Lib.Repeat
import Derived.Lib.IndexMore
namespace Go.Proofs.YtaomlgpakbjegaaGreatDoor
open Go.RowKit

set_option maxRecDepth 100000 in
set_option maxHeartbeats 4000000 in
theorem finds_yes (t s : ByteArray) (hts : t.size ≤ 1048576) (hss : s.size ≤ 1048576) (n : Nat) (hn : 0 ≤ n ∧ n < 1099511627776) (pl : Nat) (hne : n ≤ pl) (hes : pl + t.size ≤ s.size) (heq : s.extract pl (pl + t.size) = t) (hno : ∀ m, n ≤ m → m < pl → m + t.size ≤ s.size → ¬ s.extract m (m + t.size) = t) (hL : findL t s ((n : Int) + 1) = numL (((pl : Int) + 1) * 10000)) (w : World) (ht : Tab w) : Calls Tryz.prog 6 #[.string t, .string s, .int .i64 ((n : Int) + 1)] w fun e w' => e = .returned (.bool true) ∧ Below w.heap.size w w' := by
  have C : Hid (∀ (w : World) (hTab : Tab w) (v : Value) (hv : ArgsAt w v [txA t, txA s, whA ((n : Int) + 1)]), Calls Tryz.prog 15 #[.string ⟨#[70, 73, 78, 68]⟩, v, .int .i64 0] w fun e w' => e = .returned (.agg #[.int .i64 1, .int .i64 (((pl : Int) + 1) * 10000), .string ⟨#[]⟩, .bool false, .int .i64 0]) ∧ Below w.heap.size w w') := Lib.hid fun w hTab v hv => by
    have := lcall_FIND t s hss ((n : Int) + 1) (by omega) 0 (by omega) hTab hv
    rw [hL] at this
    exact this
  have hno' := Lib.hid hno
  have h1 : ¬ ((n : Int) + 1) < 1 := by omega
  have h2 : decide (1099511627776 < ((n : Int) + 1)) = false := decide_eq_false (by omega)
  have hs2 : IntKind.i64.wrap ((s.size : Int) + 2) = (s.size : Int) + 2 := IntWalk.i64_in _ (by omega)
  have heq' := Lib.hid heq
  have k1 : (((pl : Int) + 1) * 10000).tdiv 10000 = ((pl : Int) + 1) := Int.mul_tdiv_cancel _ (by omega)
  have k2 : (((pl : Int) + 1) * 10000).tmod 10000 = 0 := by simp
  have k3 : ((pl : Int) + 1) * 10000 / 10000 = ((pl : Int) + 1) := Int.mul_ediv_cancel _ (by omega)
  have k4 : ((pl : Int) + 1) * 10000 % 10000 = 0 := by simp
  have k5 : ¬ ((pl : Int) + 1) < ((n : Int) + 1) := by omega
  have k6 : ¬ (s.size : Int) + 1 < ((pl : Int) + 1) := by omega
  have k7 : IntKind.i64.wrap ((s.size : Int) + 1) = (s.size : Int) + 1 := IntWalk.i64_in _ (by omega)
  have k8 : IntKind.i64.wrap ((s.size : Int) - ((pl : Int) + 1)) = (s.size : Int) - ((pl : Int) + 1) := IntWalk.i64_in _ (by omega)
  have k9 : IntKind.i64.wrap ((s.size : Int) - ((pl : Int) + 1) + 1) = (s.size : Int) - ((pl : Int) + 1) + 1 := IntWalk.i64_in _ (by omega)
  have k10 : ¬ (s.size : Int) - ((pl : Int) + 1) + 1 < (t.size : Int) := by omega
  have k11 : IntKind.i64.wrap (pl : Int) = (pl : Int) := IntWalk.i64_in _ (by omega)
  have k12 : IntKind.i64.wrap ((pl : Int) + (t.size : Int)) = (pl : Int) + (t.size : Int) := IntWalk.i64_in _ (by omega)
  have k13 : (pl : Int) + (t.size : Int) ≤ (s.size : Int) := by omega
  have k14 : (0 : Int) ≤ (pl : Int) := by omega
  have k15 : (pl : Int) ≤ (pl : Int) + (t.size : Int) := by omega
  have k16 : wrap64 ((pl : Int) + 1) = ((pl : Int) + 1) := by rw [← IntWalk.i64_left]; exact IntWalk.i64_in _ (by omega)
  clear hL hno
  go_enter Tryz.func6, Tryz.ntmps6
  go_wp2_with fail
  refine (tkn_any _ ht).mono ?_
  rintro e w1 ⟨rfl, hb1⟩
  have q1 : Below w.heap.size w w1 := by (repeat (first | (with_reducible exact Below.refl _ _) | (with_reducible refine Below.alloc ?_ (by first | omega | (dsimp only; omega) | (simp <;> omega)) _) | (with_reducible refine Below.setCell ?_ (by first | omega | (dsimp only; omega) | (simp <;> omega)) _) | (with_reducible refine Below.drew ?_) | (with_reducible refine below_drewN ?_ _) | (with_reducible refine Below.trans ?_ (Below.mono (by assumption) (by first | omega | (dsimp only; omega) | (simp <;> omega))))))
  go_wp2_with fail
  refine (ltxt_any t _).mono ?_
  rintro e w2 ⟨rfl, hb2⟩
  have q2 : Below w.heap.size w w2 := by first | exact q1.trans (hb2.mono q1.size) | exact (q1.alloc q1.size _).trans (hb2.mono (by have := q1.size; simp; omega))
  go_wp2_with fail
  refine (ltxt_any s _).mono ?_
  rintro e w3 ⟨rfl, hb3⟩
  have q3 : Below w.heap.size w w3 := by first | exact q2.trans (hb3.mono q2.size) | exact (q2.alloc q2.size _).trans (hb3.mono (by have := q2.size; simp; omega))
  go_wp2_with fail
  refine (lwhole_any (((n : Int) + 1)) (by omega) _).mono ?_
  rintro e w4 ⟨rfl, hb4⟩
  have q4 : Below w.heap.size w w4 := by first | exact q3.trans (hb4.mono q3.size) | exact (q3.alloc q3.size _).trans (hb4.mono (by have := q3.size; simp; omega))
  go_wp2_with fail
  refine (lst_ttn t s ((n : Int) + 1) _).mono ?_
  rintro e w5 ⟨⟨v1, rfl, hv1⟩, hb5⟩
  have q5 : Below w.heap.size w w5 := by first | exact q4.trans (hb5.mono q4.size) | exact (q4.alloc q4.size _).trans (hb5.mono (by have := q4.size; simp; omega))
  go_wp2_with fail
  refine (C.out _ (Tab.below ht q5) _ hv1).mono ?_
  rintro e w6 ⟨rfl, hb6⟩
  have q6 : Below w.heap.size w w6 := by first | exact q5.trans (hb6.mono q5.size) | exact (q5.alloc q5.size _).trans (hb6.mono (by have := q5.size; simp; omega))
  clear C hv1 hb1 hb2 hb3 hb4 hb5 hb6 q1 q2 q3 q4 q5
  go_wp2_with fail
  · clear h2 hn k1 k2 k3 k4 k7 k8 k9 k11 k12 k16 hs2; exfalso; omega
  clear heq' heq k1 k2 k3 k4 k5 k6 k7 k8 k9 k10 k11 k12 k13 k14 k15 k16
  go_loopw [9] (fun v wr => ∃ m : Nat, v = .int .i64 ((m : Int) + 1) ∧ n ≤ m ∧ (m = n ∨ m + 1 ≤ pl + 1) ∧ Below w.heap.size w wr) (fun v _ => pl + 1 - (intOf v).toNat)
  case atStart => exact ⟨n, rfl, Nat.le_refl _, .inl rfl, by first | assumption | exact q6.alloc q6.size _ | (repeat (first | (with_reducible exact Below.refl _ _) | (with_reducible refine Below.alloc ?_ (by first | omega | (dsimp only; omega) | (simp <;> omega)) _) | (with_reducible refine Below.setCell ?_ (by first | omega | (dsimp only; omega) | (simp <;> omega)) _) | (with_reducible refine Below.drew ?_) | (with_reducible refine below_drewN ?_ _) | (with_reducible refine Below.trans ?_ (Below.mono (by assumption) (by first | omega | (dsimp only; omega) | (simp <;> omega))))))⟩
  case round =>
    obtain ⟨m, rfl, hnm, _, hbr⟩ := hrel
    by_cases hlt : m + 1 < pl + 1
    · have g1 : (m : Int) + 1 < ((pl : Int) + 1) := by omega
      have g2 : IntKind.i64.wrap (m : Int) = (m : Int) := IntWalk.i64_in _ (by omega)
      have g3 : IntKind.i64.wrap ((m : Int) + (t.size : Int)) = (m : Int) + (t.size : Int) := IntWalk.i64_in _ (by omega)
      have g7 : IntKind.i64.wrap ((m : Int) + 1 + 1) = (m : Int) + 1 + 1 := IntWalk.i64_in _ (by omega)
      by_cases hr : m + t.size ≤ s.size
      · have g4 : (m : Int) + (t.size : Int) ≤ (s.size : Int) := by omega
        have g5 : (0 : Int) ≤ (m : Int) := by omega
        have g6 : (m : Int) ≤ (m : Int) + (t.size : Int) := by omega
        have g8 := hno'.out m hnm (by omega) hr
        go_wp2
        go_roundw
        case rel => exact ⟨m + 1, by go_num, by omega, .inr (by omega), hbr⟩
        case measure => simp [intOf]; omega
      · have g4 : ¬ (m : Int) + (t.size : Int) ≤ (s.size : Int) := by omega
        go_wp2
        go_roundw
        case rel => exact ⟨m + 1, by go_num, by omega, .inr (by omega), hbr⟩
        case measure => simp [intOf]; omega
    · have g1 : ¬ (m : Int) + 1 < ((pl : Int) + 1) := by omega
      go_wp2
      go_ret
      exact ⟨rfl, hbr⟩
theorem walk_TextsFinds (t s : ByteArray) (hts : t.size ≤ 1048576) (hss : s.size ≤ 1048576) (n : Int) (w : World) (ht : Tab w) : Calls Tryz.prog 6 #[.string t, .string s, .int .i64 n] w fun e w' => e = .returned (.bool true) ∧ Below w.heap.size w w' := by
  by_cases h0 : n < 1
  · exact finds_lo t s n h0 w ht
  · by_cases h1 : 1099511627776 < n
    · exact finds_hi t s n h1 w ht
    · obtain ⟨k, rfl⟩ : ∃ k : Nat, n = (k : Int) + 1 := ⟨(n - 1).toNat, by omega⟩
      by_cases h2 : s.size < k
      · exact finds_no t s hts hss k ⟨Nat.zero_le _, by omega⟩ (fun m h3 h4 => by omega) (find_far t s k h2) w ht
      · by_cases h3 : Lib.index (s.extract k s.size).data.toList t.data.toList < 0
        · have h4 := find_no t s k (by omega) h3
          exact finds_no t s hts hss k ⟨Nat.zero_le _, by omega⟩ h4.2 h4.1 w ht
        · obtain ⟨e, e1, e2, e3, e4, e5⟩ := find_yes t s k (by omega) (by omega)
          exact finds_yes t s hts hss k ⟨Nat.zero_le _, by omega⟩ e e2 e3 e4 e5 e1 w ht
end Go.Proofs.YtaomlgpakbjegaaGreatDoor
