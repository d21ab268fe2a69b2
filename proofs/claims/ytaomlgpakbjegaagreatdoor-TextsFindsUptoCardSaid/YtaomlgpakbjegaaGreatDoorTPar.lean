/-
  The walk of the law TextsParts: n within the text, or the text too long.
-/
import Derived.Test.YtaomlgpakbjegaaGreatDoorRows
import Derived.Test.YtaomlgpakbjegaaGreatDoorBase
import Derived.Test.YtaomlgpakbjegaaGreatDoorMapK
import Derived.Test.YtaomlgpakbjegaaGreatDoorProg
import Derived.Test.YtaomlgpakbjegaaGreatDoorShelf
import Derived.Test.YtaomlgpakbjegaaGreatDoorTFind
import Derived.Test.YtaomlgpakbjegaaGreatDoorRowB
import Derived.Test.YtaomlgpakbjegaaGreatDoorDecA
import Derived.Test.YtaomlgpakbjegaaGreatDoorValA
import Derived.Test.YtaomlgpakbjegaaGreatDoorValB
import Derived.Test.YtaomlgpakbjegaaGreatDoorMg10
import Derived.Test.YtaomlgpakbjegaaGreatDoorValC
import Derived.Test.YtaomlgpakbjegaaGreatDoorAddrC
import Derived.Test.YtaomlgpakbjegaaGreatDoorAddrI
import Derived.Test.YtaomlgpakbjegaaGreatDoorMg14
import Derived.Test.YtaomlgpakbjegaaGreatDoorFmtU
import Derived.Test.YtaomlgpakbjegaaGreatDoorPrintL
import Derived.Test.YtaomlgpakbjegaaGreatDoorDPrint
import Derived.Test.YtaomlgpakbjegaaGreatDoorRPr
import Derived.Test.YtaomlgpakbjegaaGreatDoorNDoE
import Derived.Test.YtaomlgpakbjegaaGreatDoorTCall
import Derived.Test.YtaomlgpakbjegaaGreatDoorValD
import Derived.Test.YtaomlgpakbjegaaGreatDoorMg21
import Derived.Test.YtaomlgpakbjegaaGreatDoorValJ
import Derived.Test.YtaomlgpakbjegaaGreatDoorValL
import Derived.Test.YtaomlgpakbjegaaGreatDoorNCallK
import Derived.Test.YtaomlgpakbjegaaGreatDoorTCallK
import Derived.Test.YtaomlgpakbjegaaGreatDoorTDoA
import Derived.Test.YtaomlgpakbjegaaGreatDoorTCallB
import Derived.Test.YtaomlgpakbjegaaGreatDoorTDoB
import Derived.Test.YtaomlgpakbjegaaGreatDoorTDoC
import Derived.Test.YtaomlgpakbjegaaGreatDoorTDoD
import Derived.Test.YtaomlgpakbjegaaGreatDoorTArg
import Derived.Test.YtaomlgpakbjegaaGreatDoorTLaw
import Derived.Test.YtaomlgpakbjegaaGreatDoorTAt
import Derived.Test.YtaomlgpakbjegaaGreatDoorTAtB
import Derived.Test.YtaomlgpakbjegaaGreatDoorTParL
import Derived.Test.YtaomlgpakbjegaaGreatDoorTKn
import Derived.WalkSpells
import Derived.WalkLawsBesides
import Derived.StillTactics
import Derived.Laws.Pointers
import Derived.Deep.RegionHeld3
import Derived.Deep.QuietTactic
import Derived.BigQuiet
import Derived.RowKit3
import Derived.Lib.Hide
import Derived.Lib.OthersKept
import Derived.OwnWalk
import Derived.Lib.IndexLaws
import Derived.Lib.ItoaMem
import Derived.WalkKit
import Derived.ProofKit
import Derived.OpenShut
import Derived.Carry
import Derived.ChangeSame
import Derived.Deep.Draws
import Derived.Maps.OwnSet
import Derived.Maps.AppendAt
import Derived.Shelf.Strings.Builder1
import Derived.Shelf.Strings.Builder2
import Derived.Shelf.Strings.OnBuilder
import Derived.Shelf.Strings.Trim
import Derived.Shelf.Small.Bits
import Derived.Shelf.Small.Strs
import Derived.Shelf.Small.Wraps
import Derived.Shelf.Strings.BuilderF
import Derived.Shelf.Strings.BuilderK
import Derived.Shelf.Strconv.Itoa0
import Derived.Shelf.Strconv.Itoa1
import Derived.Shelf.LaysM
import Derived.Shelf.Strconv.Itoa2
import Derived.Ground.MpProg
import Derived.Shelf.Pu.ParseUintPublic10
import Derived.Shelf.Strings.Search1
import Derived.Shelf.Strings.Search2
import Derived.Shelf.Strings.Search3
import Derived.Shelf.Strings.Cut
import Derived.Shelf.Strings.Prefix
import Derived.Shelf.Strings.Runes
import Derived.Shelf.Strings.AsciiSet
import Derived.Shelf.Bits.Mul64
import Derived.Shelf.Strings.Repeat
import Derived.Laws.EntriesVeiled
import Derived.Laws.BitsAllLaws
import Derived.Lib.TrimByte
import Derived.Lib.Bytealg
import Derived.Lib.SlTrimSet
import Derived.Lib.ParseIntB
import Derived.Shelf.Strings.SlTrimAscii
import Derived.Lib.SmallJoins
import Derived.Deep.RegionWith
import Derived.IntWalk
import Derived.Laws.IdiomStrings
import Derived.RegionTactic
import Derived.ChangeAlike
namespace Go.Proofs.YtaomlgpakbjegaaGreatDoor
open Go.RowKit

theorem lst_tn (s : ByteArray) (a : Int) (w : World) : Calls Tryz.prog 22 #[.agg #[.bool false, .int .i64 2, .int .i64 0, .string s, .bool false, .int .i64 0, .int .i64 0, .int .i64 0, .int .i64 0, .int .i64 0, .slice none 0 0], .agg #[.bool false, .int .i64 1, .int .i64 (a * 10000), .string ⟨#[]⟩, .bool false, .int .i64 0, .int .i64 0, .int .i64 0, .int .i64 0, .int .i64 0, .slice none 0 0], .agg #[.bool false, .int .i64 2, .int .i64 0, .string ⟨#[]⟩, .bool false, .int .i64 0, .int .i64 0, .int .i64 0, .int .i64 0, .int .i64 0, .slice none 0 0], .int .i64 2] w fun e w' => (∃ v, e = .returned v ∧ ArgsAt w' v [txA s, whA a]) ∧ Below w.heap.size w w' := llist_any (txtL s) (whV a) (txtL ⟨#[]⟩) 2 (by omega) w
theorem lst_tnn (s : ByteArray) (a b : Int) (w : World) : Calls Tryz.prog 22 #[.agg #[.bool false, .int .i64 2, .int .i64 0, .string s, .bool false, .int .i64 0, .int .i64 0, .int .i64 0, .int .i64 0, .int .i64 0, .slice none 0 0], .agg #[.bool false, .int .i64 1, .int .i64 (a * 10000), .string ⟨#[]⟩, .bool false, .int .i64 0, .int .i64 0, .int .i64 0, .int .i64 0, .int .i64 0, .slice none 0 0], .agg #[.bool false, .int .i64 1, .int .i64 (b * 10000), .string ⟨#[]⟩, .bool false, .int .i64 0, .int .i64 0, .int .i64 0, .int .i64 0, .int .i64 0, .slice none 0 0], .int .i64 3] w fun e w' => (∃ v, e = .returned v ∧ ArgsAt w' v [txA s, whA a, whA b]) ∧ Below w.heap.size w w' := llist_any (txtL s) (whV a) (whV b) 3 (Nat.le_refl _) w
theorem lst_t (s : ByteArray) (w : World) : Calls Tryz.prog 22 #[.agg #[.bool false, .int .i64 2, .int .i64 0, .string s, .bool false, .int .i64 0, .int .i64 0, .int .i64 0, .int .i64 0, .int .i64 0, .slice none 0 0], .agg #[.bool false, .int .i64 2, .int .i64 0, .string ⟨#[]⟩, .bool false, .int .i64 0, .int .i64 0, .int .i64 0, .int .i64 0, .int .i64 0, .slice none 0 0], .agg #[.bool false, .int .i64 2, .int .i64 0, .string ⟨#[]⟩, .bool false, .int .i64 0, .int .i64 0, .int .i64 0, .int .i64 0, .int .i64 0, .slice none 0 0], .int .i64 1] w fun e w' => (∃ v, e = .returned v ∧ ArgsAt w' v [txA s]) ∧ Below w.heap.size w w' := llist_any (txtL s) (txtL ⟨#[]⟩) (txtL ⟨#[]⟩) 1 (by omega) w
theorem pc_a (s : ByteArray) (hs : s.size ≤ 1024) (k : Nat) (hk : k ≤ s.size) {w : World} (hTab : Tab w) {v : Value} (hv : ArgsAt w v [txA s, whA (k : Int)]) : Calls Tryz.prog 15 #[.string ⟨#[76, 69, 70, 84]⟩, v, .int .i64 (s.size : Int)] w fun e w' => e = .returned (.agg #[.int .i64 2, .int .i64 0, .string (s.extract 0 k), .bool false, .int .i64 0]) ∧ Below w.heap.size w w' := by
  have := lcall_LEFT s hs (k : Int) (by omega) (by omega) (s.size : Int) (by omega) hTab hv
  rw [cutD_is s k hk, told_in (s.size : Int) _ (by rw [ba_size s 0 k hk]; omega)] at this
  exact this
theorem pc_b (s : ByteArray) (hs : s.size ≤ 1024) (k : Nat) (hk : k ≤ s.size) {w : World} (hTab : Tab w) {v : Value} (hv : ArgsAt w v [txA s, whA ((k : Int) + 1), whA (s.size : Int)]) : Calls Tryz.prog 15 #[.string ⟨#[77, 73, 68]⟩, v, .int .i64 (s.size : Int)] w fun e w' => e = .returned (.agg #[.int .i64 2, .int .i64 0, .string (s.extract k s.size), .bool false, .int .i64 0]) ∧ Below w.heap.size w w' := by
  have := lcall_MID s hs ((k : Int) + 1) (s.size : Int) (by omega) (by omega) (by omega) (by omega) (s.size : Int) (by omega) hTab hv
  rw [mid_back s k hk, told_in (s.size : Int) _ (by rw [ba_size s k s.size (Nat.le_refl _)]; omega)] at this
  exact this
theorem pc_c (s : ByteArray) (hs : s.size ≤ 1024) (k : Nat) (hk : k ≤ s.size) {w : World} (hTab : Tab w) {v : Value} (hv : ArgsAt w v [txA s, whA 1, whA (k : Int)]) : Calls Tryz.prog 15 #[.string ⟨#[77, 73, 68]⟩, v, .int .i64 (s.size : Int)] w fun e w' => e = .returned (.agg #[.int .i64 2, .int .i64 0, .string (s.extract 0 k), .bool false, .int .i64 0]) ∧ Below w.heap.size w w' := by
  have := lcall_MID s hs 1 (k : Int) (by omega) (by omega) (by omega) (by omega) (s.size : Int) (by omega) hTab hv
  rw [mid_one, cutD_is s k hk, told_in (s.size : Int) _ (by rw [ba_size s 0 k hk]; omega)] at this
  exact this
theorem pc_d (s : ByteArray) (hs : s.size ≤ 1024) (k : Nat) (hk : k ≤ s.size) {w : World} (hTab : Tab w) {v : Value} (hv : ArgsAt w v [txA s, whA ((s.size : Int) - (k : Int))]) : Calls Tryz.prog 15 #[.string ⟨#[82, 73, 71, 72, 84]⟩, v, .int .i64 (s.size : Int)] w fun e w' => e = .returned (.agg #[.int .i64 2, .int .i64 0, .string (s.extract k s.size), .bool false, .int .i64 0]) ∧ Below w.heap.size w w' := by
  have := lcall_RIGHT s hs ((s.size : Int) - (k : Int)) (by omega) (by omega) (s.size : Int) (by omega) hTab hv
  rw [right_is s k hk, told_in (s.size : Int) _ (by rw [ba_size s k s.size (Nat.le_refl _)]; omega)] at this
  exact this
theorem pc_r (s : ByteArray) (hs : s.size ≤ 1024) {w : World} (hTab : Tab w) {v : Value} (hv : ArgsAt w v [txA s]) : Calls Tryz.prog 15 #[.string ⟨#[82, 69, 86]⟩, v, .int .i64 (s.size : Int)] w fun e w' => e = .returned (.agg #[.int .i64 2, .int .i64 0, .string (revS s), .bool false, .int .i64 0]) ∧ Below w.heap.size w w' := by
  have := lcall_REV s hs (s.size : Int) (by omega) hTab hv
  rw [told_in (s.size : Int) _ (by rw [revS_size]; omega)] at this
  exact this
theorem pc_t (s : ByteArray) (hs : s.size ≤ 1024) {w : World} (hTab : Tab w) {v : Value} (hv : ArgsAt w v [txA (revS s)]) : Calls Tryz.prog 15 #[.string ⟨#[82, 69, 86]⟩, v, .int .i64 (s.size : Int)] w fun e w' => e = .returned (.agg #[.int .i64 2, .int .i64 0, .string s, .bool false, .int .i64 0]) ∧ Below w.heap.size w w' := by
  have := lcall_REV (revS s) (by rw [revS_size]; exact hs) (s.size : Int) (by omega) hTab hv
  rw [revS_revS, told_in (s.size : Int) _ (by omega)] at this
  exact this
theorem pc_l (s : ByteArray) (hs : s.size ≤ 1024) {w : World} (hTab : Tab w) {v : Value} (hv : ArgsAt w v [txA s]) : Calls Tryz.prog 15 #[.string ⟨#[76, 79, 87, 69, 82]⟩, v, .int .i64 (s.size : Int)] w fun e w' => e = .returned (.agg #[.int .i64 2, .int .i64 0, .string (caseS 65 97 s), .bool false, .int .i64 0]) ∧ Below w.heap.size w w' := by
  have := lcall_LOWER s hs (s.size : Int) (by omega) hTab hv
  rw [told_in (s.size : Int) _ (by rw [caseS_size]; omega)] at this
  exact this
theorem pc_u (s : ByteArray) (hs : s.size ≤ 1024) {w : World} (hTab : Tab w) {v : Value} (hv : ArgsAt w v [txA (caseS 65 97 s)]) : Calls Tryz.prog 15 #[.string ⟨#[85, 80, 80, 69, 82]⟩, v, .int .i64 (s.size : Int)] w fun e w' => e = .returned (.agg #[.int .i64 2, .int .i64 0, .string (caseS 97 65 s), .bool false, .int .i64 0]) ∧ Below w.heap.size w w' := by
  have := lcall_UPPER (caseS 65 97 s) (by rw [caseS_size]; exact hs) (s.size : Int) (by omega) hTab hv
  rw [case_case, told_in (s.size : Int) _ (by rw [caseS_size]; omega)] at this
  exact this
theorem pc_v (s : ByteArray) (hs : s.size ≤ 1024) {w : World} (hTab : Tab w) {v : Value} (hv : ArgsAt w v [txA s]) : Calls Tryz.prog 15 #[.string ⟨#[85, 80, 80, 69, 82]⟩, v, .int .i64 (s.size : Int)] w fun e w' => e = .returned (.agg #[.int .i64 2, .int .i64 0, .string (caseS 97 65 s), .bool false, .int .i64 0]) ∧ Below w.heap.size w w' := by
  have := lcall_UPPER s hs (s.size : Int) (by omega) hTab hv
  rw [told_in (s.size : Int) _ (by rw [caseS_size]; omega)] at this
  exact this
theorem pc_n (s : ByteArray) (hs : s.size ≤ 1024) {w : World} (hTab : Tab w) {v : Value} (hv : ArgsAt w v [txA s]) : Calls Tryz.prog 15 #[.string ⟨#[76, 69, 78]⟩, v, .int .i64 0] w fun e w' => e = .returned (.agg #[.int .i64 1, .int .i64 ((s.size : Int) * 10000), .string ⟨#[]⟩, .bool false, .int .i64 0]) ∧ Below w.heap.size w w' := by
  exact lcall_LEN s hs 0 (by omega) hTab hv
set_option maxRecDepth 100000 in
set_option maxHeartbeats 4000000 in
theorem parts_long (s : ByteArray) (hs : 1024 < s.size) (hs2 : s.size ≤ 9223372036854775807) (n : Int) (w : World) (ht : Tab w) : Calls Tryz.prog 5 #[.string s, .int .i64 n] w fun e w' => e = .returned (.bool true) ∧ Below w.heap.size w w' := by
  have hl : (1024 : Int) < (s.size : Int) := by omega
  go_enter Tryz.func5, Tryz.ntmps5
  go_wp2_with fail
  refine (tkn_any _ ht).mono ?_
  rintro e w1 ⟨rfl, hb1⟩
  have q1 : Below w.heap.size w w1 := by (repeat (first | (with_reducible exact Below.refl _ _) | (with_reducible refine Below.alloc ?_ (by first | omega | (dsimp only; omega) | (simp <;> omega)) _) | (with_reducible refine Below.setCell ?_ (by first | omega | (dsimp only; omega) | (simp <;> omega)) _) | (with_reducible refine Below.drew ?_) | (with_reducible refine below_drewN ?_ _) | (with_reducible refine Below.trans ?_ (Below.mono (by assumption) (by first | omega | (dsimp only; omega) | (simp <;> omega))))))
  go_wp2
  go_ret
  exact ⟨rfl, q1⟩
/-- a text's value in a block of its own -/
def VAt (w : World) (b : Nat) (u : ByteArray) : Prop := w.cell? ⟨b, 0, none⟩ = some (.int .i64 2) ∧ w.cell? ⟨b, 1, none⟩ = some (.int .i64 0) ∧ w.cell? ⟨b, 2, none⟩ = some (.string u) ∧ w.cell? ⟨b, 3, none⟩ = some (.bool false) ∧ w.cell? ⟨b, 4, none⟩ = some (.int .i64 0)
theorem VAt.step {w w' : World} {b : Nat} {u : ByteArray} (h : VAt w b u) (hb : Below w.heap.size w w') : VAt w' b u := by
  have hl := cell_lt h.1
  obtain ⟨h0, h1, h2, h3, h4⟩ := h
  exact ⟨(hb.cell (p := ⟨b, 0, none⟩) hl).trans h0, (hb.cell (p := ⟨b, 1, none⟩) hl).trans h1, (hb.cell (p := ⟨b, 2, none⟩) hl).trans h2, (hb.cell (p := ⟨b, 3, none⟩) hl).trans h3, (hb.cell (p := ⟨b, 4, none⟩) hl).trans h4⟩
theorem VAt.al {w : World} {o : Obj} {b : Nat} {u : ByteArray} (h : VAt w b u) : VAt (w.alloc o) b u := h.step ((Below.refl _ _).alloc (Nat.le_refl _) _)
theorem VAt.stepA {w w' : World} {o : Obj} {b : Nat} {u : ByteArray} (h : VAt w b u) (hb : Below (w.alloc o).heap.size (w.alloc o) w') : VAt w' b u := h.al.step hb
theorem VAt.here (w : World) (u : ByteArray) : VAt (w.alloc (.cells #[.int .i64 2, .int .i64 0, .string u, .bool false, .int .i64 0] 26)) w.heap.size u := by
  refine ⟨?_, ?_, ?_, ?_, ?_⟩ <;> simp
theorem VAt.new {w w' : World} {u : ByteArray} (hb : Below (w.alloc (.cells #[.int .i64 2, .int .i64 0, .string u, .bool false, .int .i64 0] 26)).heap.size (w.alloc (.cells #[.int .i64 2, .int .i64 0, .string u, .bool false, .int .i64 0] 26)) w') : VAt w' w.heap.size u := (VAt.here w u).step hb
theorem lisu_self (u : ByteArray) (w : World) : Calls Tryz.prog 25 #[.agg #[.int .i64 2, .int .i64 0, .string u, .bool false, .int .i64 0], .string u] w fun e w' => e = .returned (.bool true) ∧ Below w.heap.size w w' := by
  have := lis_any (txtL u) u w
  rw [show vEq (txtL u).t (txtL u).n (txtL u).s (txtL u).b (txtL u).c 2 0 u false 0 = true from vEq_self _ _ _ _ _] at this
  exact this
set_option maxRecDepth 100000 in
set_option maxHeartbeats 4000000 in
theorem parts_in (s : ByteArray) (hs : s.size ≤ 1024) (k : Nat) (hk : k ≤ s.size) (w : World) (ht : Tab w) : Calls Tryz.prog 5 #[.string s, .int .i64 (k : Int)] w fun e w' => e = .returned (.bool true) ∧ Below w.heap.size w w' := by
  have hl : (s.size : Int) ≤ 1024 := by omega
  have hk0 : ¬ (k : Int) < 0 := by omega
  have hk1 : ¬ (s.size : Int) < (k : Int) := by omega
  have hw1 : IntKind.i64.wrap ((k : Int) + 1) = (k : Int) + 1 := IntWalk.i64_in _ (by omega)
  have hw2 : IntKind.i64.wrap ((s.size : Int) - (k : Int)) = (s.size : Int) - (k : Int) := IntWalk.i64_in _ (by omega)
  go_enter Tryz.func5, Tryz.ntmps5
  go_wp2_with fail
  refine (tkn_any _ ht).mono ?_
  rintro e w1 ⟨rfl, hb1⟩
  have q1 : Below w.heap.size w w1 := by (repeat (first | (with_reducible exact Below.refl _ _) | (with_reducible refine Below.alloc ?_ (by first | omega | (dsimp only; omega) | (simp <;> omega)) _) | (with_reducible refine Below.setCell ?_ (by first | omega | (dsimp only; omega) | (simp <;> omega)) _) | (with_reducible refine Below.drew ?_) | (with_reducible refine below_drewN ?_ _) | (with_reducible refine Below.trans ?_ (Below.mono (by assumption) (by first | omega | (dsimp only; omega) | (simp <;> omega))))))
  go_wp2_with fail
  refine (ltxt_any s _).mono ?_
  rintro e w2 ⟨rfl, hb2⟩
  have q2 : Below w.heap.size w w2 := by first | exact q1.trans (hb2.mono q1.size) | exact (q1.alloc q1.size _).trans (hb2.mono (by have := q1.size; simp; omega))
  go_wp2_with fail
  refine (lwhole_any ((k : Int)) (by omega) _).mono ?_
  rintro e w3 ⟨rfl, hb3⟩
  have q3 : Below w.heap.size w w3 := by first | exact q2.trans (hb3.mono q2.size) | exact (q2.alloc q2.size _).trans (hb3.mono (by have := q2.size; simp; omega))
  go_wp2_with fail
  refine (ltxt_any ⟨#[]⟩ _).mono ?_
  rintro e w4 ⟨rfl, hb4⟩
  have q4 : Below w.heap.size w w4 := by first | exact q3.trans (hb4.mono q3.size) | exact (q3.alloc q3.size _).trans (hb4.mono (by have := q3.size; simp; omega))
  go_wp2_with fail
  refine (lst_tn s (k : Int) _).mono ?_
  rintro e w5 ⟨⟨vaa, rfl, hva⟩, hb5⟩
  have q5 : Below w.heap.size w w5 := by first | exact q4.trans (hb5.mono q4.size) | exact (q4.alloc q4.size _).trans (hb5.mono (by have := q4.size; simp; omega))
  go_wp2_with fail
  refine (pc_a s hs k hk (Tab.below ht q5) hva).mono ?_
  rintro e w6 ⟨rfl, hb6⟩
  have q6 : Below w.heap.size w w6 := by first | exact q5.trans (hb6.mono q5.size) | exact (q5.alloc q5.size _).trans (hb6.mono (by have := q5.size; simp; omega))
  go_wp2_with fail
  refine (ltxt_any s _).mono ?_
  rintro e w7 ⟨rfl, hb7⟩
  have q7 : Below w.heap.size w w7 := by first | exact q6.trans (hb7.mono q6.size) | exact (q6.alloc q6.size _).trans (hb7.mono (by have := q6.size; simp; omega))
  have va : VAt w7 w6.heap.size (s.extract 0 k) := VAt.new hb7
  go_wp2_with fail
  refine (lwhole_any ((k : Int) + 1) (by omega) _).mono ?_
  rintro e w8 ⟨rfl, hb8⟩
  have q8 : Below w.heap.size w w8 := by first | exact q7.trans (hb8.mono q7.size) | exact (q7.alloc q7.size _).trans (hb8.mono (by have := q7.size; simp; omega))
  replace va : VAt w8 w6.heap.size (s.extract 0 k) := by first | exact va.step hb8 | exact va.stepA hb8 | exact VAt.new hb8
  go_wp2_with fail
  refine (lwhole_any ((s.size : Int)) (by omega) _).mono ?_
  rintro e w9 ⟨rfl, hb9⟩
  have q9 : Below w.heap.size w w9 := by first | exact q8.trans (hb9.mono q8.size) | exact (q8.alloc q8.size _).trans (hb9.mono (by have := q8.size; simp; omega))
  replace va : VAt w9 w6.heap.size (s.extract 0 k) := by first | exact va.step hb9 | exact va.stepA hb9 | exact VAt.new hb9
  go_wp2_with fail
  refine (lst_tnn s ((k : Int) + 1) (s.size : Int) _).mono ?_
  rintro e w10 ⟨⟨vbb, rfl, hvb⟩, hb10⟩
  have q10 : Below w.heap.size w w10 := by first | exact q9.trans (hb10.mono q9.size) | exact (q9.alloc q9.size _).trans (hb10.mono (by have := q9.size; simp; omega))
  replace va : VAt w10 w6.heap.size (s.extract 0 k) := by first | exact va.step hb10 | exact va.stepA hb10 | exact VAt.new hb10
  go_wp2_with fail
  refine (pc_b s hs k hk (Tab.below ht q10) hvb).mono ?_
  rintro e w11 ⟨rfl, hb11⟩
  have q11 : Below w.heap.size w w11 := by first | exact q10.trans (hb11.mono q10.size) | exact (q10.alloc q10.size _).trans (hb11.mono (by have := q10.size; simp; omega))
  replace va : VAt w11 w6.heap.size (s.extract 0 k) := by first | exact va.step hb11 | exact va.stepA hb11 | exact VAt.new hb11
  go_wp2_with fail
  refine (ltxt_any s _).mono ?_
  rintro e w12 ⟨rfl, hb12⟩
  have q12 : Below w.heap.size w w12 := by first | exact q11.trans (hb12.mono q11.size) | exact (q11.alloc q11.size _).trans (hb12.mono (by have := q11.size; simp; omega))
  replace va : VAt w12 w6.heap.size (s.extract 0 k) := by first | exact va.step hb12 | exact va.stepA hb12 | exact VAt.new hb12
  have vb : VAt w12 w11.heap.size (s.extract k s.size) := VAt.new hb12
  go_wp2_with fail
  refine (lwhole_any (1) (by omega) _).mono ?_
  rintro e w13 ⟨rfl, hb13⟩
  have q13 : Below w.heap.size w w13 := by first | exact q12.trans (hb13.mono q12.size) | exact (q12.alloc q12.size _).trans (hb13.mono (by have := q12.size; simp; omega))
  replace va : VAt w13 w6.heap.size (s.extract 0 k) := by first | exact va.step hb13 | exact va.stepA hb13 | exact VAt.new hb13
  replace vb : VAt w13 w11.heap.size (s.extract k s.size) := by first | exact vb.step hb13 | exact vb.stepA hb13 | exact VAt.new hb13
  go_wp2_with fail
  refine (lwhole_any ((k : Int)) (by omega) _).mono ?_
  rintro e w14 ⟨rfl, hb14⟩
  have q14 : Below w.heap.size w w14 := by first | exact q13.trans (hb14.mono q13.size) | exact (q13.alloc q13.size _).trans (hb14.mono (by have := q13.size; simp; omega))
  replace va : VAt w14 w6.heap.size (s.extract 0 k) := by first | exact va.step hb14 | exact va.stepA hb14 | exact VAt.new hb14
  replace vb : VAt w14 w11.heap.size (s.extract k s.size) := by first | exact vb.step hb14 | exact vb.stepA hb14 | exact VAt.new hb14
  go_wp2_with fail
  refine (lst_tnn s 1 (k : Int) _).mono ?_
  rintro e w15 ⟨⟨vcc, rfl, hvc⟩, hb15⟩
  have q15 : Below w.heap.size w w15 := by first | exact q14.trans (hb15.mono q14.size) | exact (q14.alloc q14.size _).trans (hb15.mono (by have := q14.size; simp; omega))
  replace va : VAt w15 w6.heap.size (s.extract 0 k) := by first | exact va.step hb15 | exact va.stepA hb15 | exact VAt.new hb15
  replace vb : VAt w15 w11.heap.size (s.extract k s.size) := by first | exact vb.step hb15 | exact vb.stepA hb15 | exact VAt.new hb15
  go_wp2_with fail
  refine (pc_c s hs k hk (Tab.below ht q15) hvc).mono ?_
  rintro e w16 ⟨rfl, hb16⟩
  have q16 : Below w.heap.size w w16 := by first | exact q15.trans (hb16.mono q15.size) | exact (q15.alloc q15.size _).trans (hb16.mono (by have := q15.size; simp; omega))
  replace va : VAt w16 w6.heap.size (s.extract 0 k) := by first | exact va.step hb16 | exact va.stepA hb16 | exact VAt.new hb16
  replace vb : VAt w16 w11.heap.size (s.extract k s.size) := by first | exact vb.step hb16 | exact vb.stepA hb16 | exact VAt.new hb16
  go_wp2_with fail
  refine (ltxt_any s _).mono ?_
  rintro e w17 ⟨rfl, hb17⟩
  have q17 : Below w.heap.size w w17 := by first | exact q16.trans (hb17.mono q16.size) | exact (q16.alloc q16.size _).trans (hb17.mono (by have := q16.size; simp; omega))
  replace va : VAt w17 w6.heap.size (s.extract 0 k) := by first | exact va.step hb17 | exact va.stepA hb17 | exact VAt.new hb17
  replace vb : VAt w17 w11.heap.size (s.extract k s.size) := by first | exact vb.step hb17 | exact vb.stepA hb17 | exact VAt.new hb17
  have vc : VAt w17 w16.heap.size (s.extract 0 k) := VAt.new hb17
  go_wp2_with fail
  refine (lwhole_any (((s.size : Int) - (k : Int))) (by omega) _).mono ?_
  rintro e w18 ⟨rfl, hb18⟩
  have q18 : Below w.heap.size w w18 := by first | exact q17.trans (hb18.mono q17.size) | exact (q17.alloc q17.size _).trans (hb18.mono (by have := q17.size; simp; omega))
  replace va : VAt w18 w6.heap.size (s.extract 0 k) := by first | exact va.step hb18 | exact va.stepA hb18 | exact VAt.new hb18
  replace vb : VAt w18 w11.heap.size (s.extract k s.size) := by first | exact vb.step hb18 | exact vb.stepA hb18 | exact VAt.new hb18
  replace vc : VAt w18 w16.heap.size (s.extract 0 k) := by first | exact vc.step hb18 | exact vc.stepA hb18 | exact VAt.new hb18
  go_wp2_with fail
  refine (ltxt_any ⟨#[]⟩ _).mono ?_
  rintro e w19 ⟨rfl, hb19⟩
  have q19 : Below w.heap.size w w19 := by first | exact q18.trans (hb19.mono q18.size) | exact (q18.alloc q18.size _).trans (hb19.mono (by have := q18.size; simp; omega))
  replace va : VAt w19 w6.heap.size (s.extract 0 k) := by first | exact va.step hb19 | exact va.stepA hb19 | exact VAt.new hb19
  replace vb : VAt w19 w11.heap.size (s.extract k s.size) := by first | exact vb.step hb19 | exact vb.stepA hb19 | exact VAt.new hb19
  replace vc : VAt w19 w16.heap.size (s.extract 0 k) := by first | exact vc.step hb19 | exact vc.stepA hb19 | exact VAt.new hb19
  go_wp2_with fail
  refine (lst_tn s ((s.size : Int) - (k : Int)) _).mono ?_
  rintro e w20 ⟨⟨vdd, rfl, hvd⟩, hb20⟩
  have q20 : Below w.heap.size w w20 := by first | exact q19.trans (hb20.mono q19.size) | exact (q19.alloc q19.size _).trans (hb20.mono (by have := q19.size; simp; omega))
  replace va : VAt w20 w6.heap.size (s.extract 0 k) := by first | exact va.step hb20 | exact va.stepA hb20 | exact VAt.new hb20
  replace vb : VAt w20 w11.heap.size (s.extract k s.size) := by first | exact vb.step hb20 | exact vb.stepA hb20 | exact VAt.new hb20
  replace vc : VAt w20 w16.heap.size (s.extract 0 k) := by first | exact vc.step hb20 | exact vc.stepA hb20 | exact VAt.new hb20
  go_wp2_with fail
  refine (pc_d s hs k hk (Tab.below ht q20) hvd).mono ?_
  rintro e w21 ⟨rfl, hb21⟩
  have q21 : Below w.heap.size w w21 := by first | exact q20.trans (hb21.mono q20.size) | exact (q20.alloc q20.size _).trans (hb21.mono (by have := q20.size; simp; omega))
  replace va : VAt w21 w6.heap.size (s.extract 0 k) := by first | exact va.step hb21 | exact va.stepA hb21 | exact VAt.new hb21
  replace vb : VAt w21 w11.heap.size (s.extract k s.size) := by first | exact vb.step hb21 | exact vb.stepA hb21 | exact VAt.new hb21
  replace vc : VAt w21 w16.heap.size (s.extract 0 k) := by first | exact vc.step hb21 | exact vc.stepA hb21 | exact VAt.new hb21
  have vd := VAt.here w21 (s.extract k s.size)
  replace va : VAt (w21.alloc (.cells #[.int .i64 2, .int .i64 0, .string (s.extract k s.size), .bool false, .int .i64 0] 26)) w6.heap.size (s.extract 0 k) := va.al
  replace vb : VAt (w21.alloc (.cells #[.int .i64 2, .int .i64 0, .string (s.extract k s.size), .bool false, .int .i64 0] 26)) w11.heap.size (s.extract k s.size) := vb.al
  replace vc : VAt (w21.alloc (.cells #[.int .i64 2, .int .i64 0, .string (s.extract k s.size), .bool false, .int .i64 0] 26)) w16.heap.size (s.extract 0 k) := vc.al
  have qz : Below w.heap.size w (w21.alloc (.cells #[.int .i64 2, .int .i64 0, .string (s.extract k s.size), .bool false, .int .i64 0] 26)) := q21.alloc q21.size _
  clear hb1 hb2 hb3 hb4 hb5 hb6 hb7 hb8 hb9 hb10 hb11 hb12 hb13 hb14 hb15 hb16 hb17 hb18 hb19 hb20 hb21 q1 q2 q3 q4 q5 q6 q7 q8 q9 q10 q11 q12 q13 q14 q15 q16 q17 q18 q19 q20 q21 hva hvb hvc hvd
  have la := cell_lt va.1
  obtain ⟨a0, a1, a2, a3, a4⟩ := va
  have lb := cell_lt vb.1
  obtain ⟨b0, b1, b2, b3, b4⟩ := vb
  have lc := cell_lt vc.1
  obtain ⟨c0, c1, c2, c3, c4⟩ := vc
  have ld := cell_lt vd.1
  obtain ⟨d0, d1, d2, d3, d4⟩ := vd
  have e0 : vEq 2 0 (s.extract 0 k) false 0 2 0 (s.extract 0 k) false 0 = true := vEq_self _ _ _ _ _
  have e1 : vEq 2 0 (s.extract k s.size) false 0 2 0 (s.extract k s.size) false 0 = true := vEq_self _ _ _ _ _
  go_wp2_with fail
  refine wp_region_held_drew (S := fun w' => w'.cell? ⟨w6.heap.size, 0, none⟩ = some (.int .i64 2) ∧ w'.cell? ⟨w6.heap.size, 1, none⟩ = some (.int .i64 0) ∧ w'.cell? ⟨w6.heap.size, 2, none⟩ = some (.string (s.extract 0 k)) ∧ w'.cell? ⟨w6.heap.size, 3, none⟩ = some (.bool false) ∧ w'.cell? ⟨w6.heap.size, 4, none⟩ = some (.int .i64 0) ∧ w'.cell? ⟨w11.heap.size, 0, none⟩ = some (.int .i64 2) ∧ w'.cell? ⟨w11.heap.size, 1, none⟩ = some (.int .i64 0) ∧ w'.cell? ⟨w11.heap.size, 2, none⟩ = some (.string (s.extract k s.size)) ∧ w'.cell? ⟨w11.heap.size, 3, none⟩ = some (.bool false) ∧ w'.cell? ⟨w11.heap.size, 4, none⟩ = some (.int .i64 0) ∧ w'.cell? ⟨w16.heap.size, 0, none⟩ = some (.int .i64 2) ∧ w'.cell? ⟨w16.heap.size, 1, none⟩ = some (.int .i64 0) ∧ w'.cell? ⟨w16.heap.size, 2, none⟩ = some (.string (s.extract 0 k)) ∧ w'.cell? ⟨w16.heap.size, 3, none⟩ = some (.bool false) ∧ w'.cell? ⟨w16.heap.size, 4, none⟩ = some (.int .i64 0) ∧ w'.cell? ⟨w21.heap.size, 0, none⟩ = some (.int .i64 2) ∧ w'.cell? ⟨w21.heap.size, 1, none⟩ = some (.int .i64 0) ∧ w'.cell? ⟨w21.heap.size, 2, none⟩ = some (.string (s.extract k s.size)) ∧ w'.cell? ⟨w21.heap.size, 3, none⟩ = some (.bool false) ∧ w'.cell? ⟨w21.heap.size, 4, none⟩ = some (.int .i64 0) ∧ Below w.heap.size w w' ∧ w6.heap.size < w'.heap.size ∧ w11.heap.size < w'.heap.size ∧ w16.heap.size < w'.heap.size ∧ w21.heap.size < w'.heap.size ∧ w.heap.size ≤ w'.heap.size) (by kernel_rfl) ?_ (fun hHeld => ?_)
  · ((try dsimp only); refine ⟨?_, ?_, ?_, ?_, ?_, ?_, ?_, ?_, ?_, ?_, ?_, ?_, ?_, ?_, ?_, ?_, ?_, ?_, ?_, ?_, ?_, ?_, ?_, ?_, ?_, ?_⟩ <;> first | assumption | exact qz.drew | exact la | exact lb | exact lc | exact ld | exact qz.size | (simp [go_sem, *]; done) | (simp; omega))
  refine wpAnyH_take (i := 0) (oi := ⟨_, _, _, _, _, _⟩) (v := (.agg #[.int .i64 2, .int .i64 0, .string (s.extract 0 k), .bool false, .int .i64 0])) rfl (by kernel_rfl) (by kernel_rfl) (by kernel_rfl) (fun _ _ _ h => h) (Or.inl ⟨by rfl, ?_⟩) hHeld ?_
  · intro w2 hSw
    go_split_ands
    go_simp
  try simp only [Act.put, List.setIfInBounds_toArray, List.set_cons_zero, List.set_cons_succ]
  refine wpAnyH_take (i := 1) (oi := ⟨_, _, _, _, _, _⟩) (v := (.string s)) rfl (by kernel_rfl) (by kernel_rfl) (by kernel_rfl) (fun _ _ _ h => h) (Or.inl ⟨by rfl, ?_⟩) hHeld ?_
  · intro w2 hSw
    go_split_ands
    go_simp
  try simp only [Act.put, List.setIfInBounds_toArray, List.set_cons_zero, List.set_cons_succ]
  refine wpAnyH_take (i := 2) (oi := ⟨_, _, _, _, _, _⟩) (v := (.int .i64 (k : Int))) rfl (by kernel_rfl) (by kernel_rfl) (by kernel_rfl) (fun _ _ _ h => h) (Or.inl ⟨by rfl, ?_⟩) hHeld ?_
  · intro w2 hSw
    go_split_ands
    go_simp
  try simp only [Act.put, List.setIfInBounds_toArray, List.set_cons_zero, List.set_cons_succ]
  refine wpAnyH_take (i := 3) (oi := ⟨_, _, _, _, _, _⟩) (v := (.string (s.extract 0 k))) rfl (by kernel_rfl) (by kernel_rfl) (by kernel_rfl) (fun _ _ _ h => h) (Or.inl ⟨by rfl, ?_⟩) hHeld ?_
  · intro w2 hSw
    go_split_ands
    go_simp
  try simp only [Act.put, List.setIfInBounds_toArray, List.set_cons_zero, List.set_cons_succ]
  refine wpAnyH_ready (rs := [4]) (by kernel_rfl) (by simp) ?_
  refine AllReadyH.cons (o := ⟨_, _, _, _, _, _⟩) rfl (fun K hK => ?_) AllReadyH.nil
  go_simp
  refine (lisu_self (s.extract 0 k) _).mono ?_
  rintro e w1 ⟨rfl, hb⟩
  refine hK.out _ _ ?_ (fun hHeld2 => ?_)
  · ((try dsimp only); go_split_ands; refine ⟨?_, ?_, ?_, ?_, ?_, ?_, ?_, ?_, ?_, ?_, ?_, ?_, ?_, ?_, ?_, ?_, ?_, ?_, ?_, ?_, ?_, ?_, ?_, ?_, ?_, ?_⟩ <;> first | (rw [hb.cell (by dsimp only; omega)]; assumption) | exact Below.trans (by assumption) (hb.mono (by omega)) | (have := hb.size; omega))
  clear hK K hHeld
  have hHeld := hHeld2
  clear hHeld2
  try simp only [Act.put, List.setIfInBounds_toArray, List.set_cons_zero, List.set_cons_succ]
  refine wpAnyH_take (i := 5) (oi := ⟨_, _, _, _, _, _⟩) (v := (.bool false)) rfl (by kernel_rfl) (by kernel_rfl) (by kernel_rfl) (fun _ _ _ h => h) (Or.inl ⟨by rfl, ?_⟩) hHeld ?_
  · intro w2 hSw
    go_split_ands
    go_simp
  try simp only [Act.put, List.setIfInBounds_toArray, List.set_cons_zero, List.set_cons_succ]
  refine wpAnyH_take (i := 6) (oi := ⟨_, _, _, _, _, _⟩) (v := (.bool false)) rfl (by kernel_rfl) (by kernel_rfl) (by kernel_rfl) (fun _ _ _ h => h) (Or.inl ⟨by rfl, ?_⟩) hHeld ?_
  · intro w2 hSw
    go_split_ands
    go_simp
  try simp only [Act.put, List.setIfInBounds_toArray, List.set_cons_zero, List.set_cons_succ]
  refine wpAnyH_take (i := 7) (oi := ⟨_, _, _, _, _, _⟩) (v := (.agg #[.int .i64 2, .int .i64 0, .string (s.extract k s.size), .bool false, .int .i64 0])) rfl (by kernel_rfl) (by kernel_rfl) (by kernel_rfl) (fun _ _ _ h => h) (Or.inl ⟨by rfl, ?_⟩) hHeld ?_
  · intro w2 hSw
    go_split_ands
    go_simp
  try simp only [Act.put, List.setIfInBounds_toArray, List.set_cons_zero, List.set_cons_succ]
  refine wpAnyH_take (i := 8) (oi := ⟨_, _, _, _, _, _⟩) (v := (.string s)) rfl (by kernel_rfl) (by kernel_rfl) (by kernel_rfl) (fun _ _ _ h => h) (Or.inl ⟨by rfl, ?_⟩) hHeld ?_
  · intro w2 hSw
    go_split_ands
    go_simp
  try simp only [Act.put, List.setIfInBounds_toArray, List.set_cons_zero, List.set_cons_succ]
  refine wpAnyH_take (i := 9) (oi := ⟨_, _, _, _, _, _⟩) (v := (.int .i64 (k : Int))) rfl (by kernel_rfl) (by kernel_rfl) (by kernel_rfl) (fun _ _ _ h => h) (Or.inl ⟨by rfl, ?_⟩) hHeld ?_
  · intro w2 hSw
    go_split_ands
    go_simp
  try simp only [Act.put, List.setIfInBounds_toArray, List.set_cons_zero, List.set_cons_succ]
  refine wpAnyH_take (i := 10) (oi := ⟨_, _, _, _, _, _⟩) (v := (.string (s.extract k s.size))) rfl (by kernel_rfl) (by kernel_rfl) (by kernel_rfl) (fun _ _ _ h => h) (Or.inl ⟨by rfl, ?_⟩) hHeld ?_
  · intro w2 hSw
    go_split_ands
    go_simp
  try simp only [Act.put, List.setIfInBounds_toArray, List.set_cons_zero, List.set_cons_succ]
  refine wpAnyH_ready (rs := [11]) (by kernel_rfl) (by simp) ?_
  refine AllReadyH.cons (o := ⟨_, _, _, _, _, _⟩) rfl (fun K hK => ?_) AllReadyH.nil
  go_simp
  refine (lisu_self (s.extract k s.size) _).mono ?_
  rintro e w1 ⟨rfl, hb⟩
  refine hK.out _ _ ?_ (fun hHeld2 => ?_)
  · ((try dsimp only); go_split_ands; refine ⟨?_, ?_, ?_, ?_, ?_, ?_, ?_, ?_, ?_, ?_, ?_, ?_, ?_, ?_, ?_, ?_, ?_, ?_, ?_, ?_, ?_, ?_, ?_, ?_, ?_, ?_⟩ <;> first | (rw [hb.cell (by dsimp only; omega)]; assumption) | exact Below.trans (by assumption) (hb.mono (by omega)) | (have := hb.size; omega))
  clear hK K hHeld
  have hHeld := hHeld2
  clear hHeld2
  try simp only [Act.put, List.setIfInBounds_toArray, List.set_cons_zero, List.set_cons_succ]
  refine wpAnyH_take (i := 12) (oi := ⟨_, _, _, _, _, _⟩) (v := (.bool false)) rfl (by kernel_rfl) (by kernel_rfl) (by kernel_rfl) (fun _ _ _ h => h) (Or.inl ⟨by rfl, ?_⟩) hHeld ?_
  · intro w2 hSw
    go_split_ands
    go_simp
  try simp only [Act.put, List.setIfInBounds_toArray, List.set_cons_zero, List.set_cons_succ]
  refine wpAnyH_take (i := 13) (oi := ⟨_, _, _, _, _, _⟩) (v := (.bool false)) rfl (by kernel_rfl) (by kernel_rfl) (by kernel_rfl) (fun _ _ _ h => h) (Or.inl ⟨by rfl, ?_⟩) hHeld ?_
  · intro w2 hSw
    go_split_ands
    go_simp
  try simp only [Act.put, List.setIfInBounds_toArray, List.set_cons_zero, List.set_cons_succ]
  refine wpAnyH_take (i := 14) (oi := ⟨_, _, _, _, _, _⟩) (v := (.bool false)) rfl (by kernel_rfl) (by kernel_rfl) (by kernel_rfl) (fun _ _ _ h => h) (Or.inl ⟨by rfl, ?_⟩) hHeld ?_
  · intro w2 hSw
    go_split_ands
    go_simp
  try simp only [Act.put, List.setIfInBounds_toArray, List.set_cons_zero, List.set_cons_succ]
  refine wpAnyH_take (i := 15) (oi := ⟨_, _, _, _, _, _⟩) (v := (.agg #[.int .i64 2, .int .i64 0, .string (s.extract 0 k), .bool false, .int .i64 0])) rfl (by kernel_rfl) (by kernel_rfl) (by kernel_rfl) (fun _ _ _ h => h) (Or.inl ⟨by rfl, ?_⟩) hHeld ?_
  · intro w2 hSw
    go_split_ands
    go_simp
  try simp only [Act.put, List.setIfInBounds_toArray, List.set_cons_zero, List.set_cons_succ]
  refine wpAnyH_take (i := 16) (oi := ⟨_, _, _, _, _, _⟩) (v := (.agg #[.int .i64 2, .int .i64 0, .string (s.extract 0 k), .bool false, .int .i64 0])) rfl (by kernel_rfl) (by kernel_rfl) (by kernel_rfl) (fun _ _ _ h => h) (Or.inl ⟨by rfl, ?_⟩) hHeld ?_
  · intro w2 hSw
    go_split_ands
    go_simp
  try simp only [Act.put, List.setIfInBounds_toArray, List.set_cons_zero, List.set_cons_succ]
  refine wpAnyH_take (i := 17) (oi := ⟨_, _, _, _, _, _⟩) (v := (.bool false)) rfl (by kernel_rfl) (by kernel_rfl) (by kernel_rfl) (fun _ _ _ h => h) (Or.inl ⟨by rfl, ?_⟩) hHeld ?_
  · intro w2 hSw
    go_split_ands
    go_simp
  try simp only [Act.put, List.setIfInBounds_toArray, List.set_cons_zero, List.set_cons_succ]
  refine wpAnyH_take (i := 18) (oi := ⟨_, _, _, _, _, _⟩) (v := (.bool false)) rfl (by kernel_rfl) (by kernel_rfl) (by kernel_rfl) (fun _ _ _ h => h) (Or.inl ⟨by rfl, ?_⟩) hHeld ?_
  · intro w2 hSw
    go_split_ands
    go_simp
  try simp only [Act.put, List.setIfInBounds_toArray, List.set_cons_zero, List.set_cons_succ]
  refine wpAnyH_take (i := 19) (oi := ⟨_, _, _, _, _, _⟩) (v := (.bool false)) rfl (by kernel_rfl) (by kernel_rfl) (by kernel_rfl) (fun _ _ _ h => h) (Or.inl ⟨by rfl, ?_⟩) hHeld ?_
  · intro w2 hSw
    go_split_ands
    go_simp
  try simp only [Act.put, List.setIfInBounds_toArray, List.set_cons_zero, List.set_cons_succ]
  refine wpAnyH_take (i := 20) (oi := ⟨_, _, _, _, _, _⟩) (v := (.agg #[.int .i64 2, .int .i64 0, .string (s.extract k s.size), .bool false, .int .i64 0])) rfl (by kernel_rfl) (by kernel_rfl) (by kernel_rfl) (fun _ _ _ h => h) (Or.inl ⟨by rfl, ?_⟩) hHeld ?_
  · intro w2 hSw
    go_split_ands
    go_simp
  try simp only [Act.put, List.setIfInBounds_toArray, List.set_cons_zero, List.set_cons_succ]
  refine wpAnyH_take (i := 21) (oi := ⟨_, _, _, _, _, _⟩) (v := (.agg #[.int .i64 2, .int .i64 0, .string (s.extract k s.size), .bool false, .int .i64 0])) rfl (by kernel_rfl) (by kernel_rfl) (by kernel_rfl) (fun _ _ _ h => h) (Or.inl ⟨by rfl, ?_⟩) hHeld ?_
  · intro w2 hSw
    go_split_ands
    go_simp
  try simp only [Act.put, List.setIfInBounds_toArray, List.set_cons_zero, List.set_cons_succ]
  refine wpAnyH_take (i := 22) (oi := ⟨_, _, _, _, _, _⟩) (v := (.bool false)) rfl (by kernel_rfl) (by kernel_rfl) (by kernel_rfl) (fun _ _ _ h => h) (Or.inl ⟨by rfl, ?_⟩) hHeld ?_
  · intro w2 hSw
    go_split_ands
    go_simp
  try simp only [Act.put, List.setIfInBounds_toArray, List.set_cons_zero, List.set_cons_succ]
  refine wpAnyH_take (i := 23) (oi := ⟨_, _, _, _, _, _⟩) (v := (.bool false)) rfl (by kernel_rfl) (by kernel_rfl) (by kernel_rfl) (fun _ _ _ h => h) (Or.inl ⟨by rfl, ?_⟩) hHeld ?_
  · intro w2 hSw
    go_split_ands
    go_simp
  try simp only [Act.put, List.setIfInBounds_toArray, List.set_cons_zero, List.set_cons_succ]
  refine wpAnyH_done (by kernel_rfl) ?_ _
  have q30 : Below w.heap.size w w1 := by
    go_split_ands
    assumption
  clear hHeld
  clear a0 a1 a2 a3 a4 b0 b1 b2 b3 b4 c0 c1 c2 c3 c4 d0 d1 d2 d3 d4 la lb lc ld qz e0 e1 hw1 hw2
  go_wp2_with fail
  refine (ltxt_any s _).mono ?_
  rintro e w31 ⟨rfl, hb31⟩
  have q31 : Below w.heap.size w w31 := by first | exact q30.trans (hb31.mono q30.size) | exact (q30.alloc q30.size _).trans (hb31.mono (by have := q30.size; simp; omega))
  go_wp2_with fail
  refine (ltxt_any ⟨#[]⟩ _).mono ?_
  rintro e w32 ⟨rfl, hb32⟩
  have q32 : Below w.heap.size w w32 := by first | exact q31.trans (hb32.mono q31.size) | exact (q31.alloc q31.size _).trans (hb32.mono (by have := q31.size; simp; omega))
  go_wp2_with fail
  refine (ltxt_any ⟨#[]⟩ _).mono ?_
  rintro e w33 ⟨rfl, hb33⟩
  have q33 : Below w.heap.size w w33 := by first | exact q32.trans (hb33.mono q32.size) | exact (q32.alloc q32.size _).trans (hb33.mono (by have := q32.size; simp; omega))
  go_wp2_with fail
  refine (lst_t s _).mono ?_
  rintro e w34 ⟨⟨vrr, rfl, hvr⟩, hb34⟩
  have q34 : Below w.heap.size w w34 := by first | exact q33.trans (hb34.mono q33.size) | exact (q33.alloc q33.size _).trans (hb34.mono (by have := q33.size; simp; omega))
  go_wp2_with fail
  refine (pc_r s hs (Tab.below ht q34) hvr).mono ?_
  rintro e w35 ⟨rfl, hb35⟩
  have q35 : Below w.heap.size w w35 := by first | exact q34.trans (hb35.mono q34.size) | exact (q34.alloc q34.size _).trans (hb35.mono (by have := q34.size; simp; omega))
  go_wp2_with fail
  refine (ltxt_any (revS s) _).mono ?_
  rintro e w36 ⟨rfl, hb36⟩
  have q36 : Below w.heap.size w w36 := by first | exact q35.trans (hb36.mono q35.size) | exact (q35.alloc q35.size _).trans (hb36.mono (by have := q35.size; simp; omega))
  have vr : VAt w36 w35.heap.size (revS s) := VAt.new hb36
  go_wp2_with fail
  refine (ltxt_any ⟨#[]⟩ _).mono ?_
  rintro e w37 ⟨rfl, hb37⟩
  have q37 : Below w.heap.size w w37 := by first | exact q36.trans (hb37.mono q36.size) | exact (q36.alloc q36.size _).trans (hb37.mono (by have := q36.size; simp; omega))
  replace vr : VAt w37 w35.heap.size (revS s) := by first | exact vr.step hb37 | exact vr.stepA hb37 | exact VAt.new hb37
  go_wp2_with fail
  refine (ltxt_any ⟨#[]⟩ _).mono ?_
  rintro e w38 ⟨rfl, hb38⟩
  have q38 : Below w.heap.size w w38 := by first | exact q37.trans (hb38.mono q37.size) | exact (q37.alloc q37.size _).trans (hb38.mono (by have := q37.size; simp; omega))
  replace vr : VAt w38 w35.heap.size (revS s) := by first | exact vr.step hb38 | exact vr.stepA hb38 | exact VAt.new hb38
  go_wp2_with fail
  refine (lst_t (revS s) _).mono ?_
  rintro e w39 ⟨⟨vtt, rfl, hvt⟩, hb39⟩
  have q39 : Below w.heap.size w w39 := by first | exact q38.trans (hb39.mono q38.size) | exact (q38.alloc q38.size _).trans (hb39.mono (by have := q38.size; simp; omega))
  replace vr : VAt w39 w35.heap.size (revS s) := by first | exact vr.step hb39 | exact vr.stepA hb39 | exact VAt.new hb39
  go_wp2_with fail
  refine (pc_t s hs (Tab.below ht q39) hvt).mono ?_
  rintro e w40 ⟨rfl, hb40⟩
  have q40 : Below w.heap.size w w40 := by first | exact q39.trans (hb40.mono q39.size) | exact (q39.alloc q39.size _).trans (hb40.mono (by have := q39.size; simp; omega))
  replace vr : VAt w40 w35.heap.size (revS s) := by first | exact vr.step hb40 | exact vr.stepA hb40 | exact VAt.new hb40
  go_wp2_with fail
  refine (ltxt_any s _).mono ?_
  rintro e w41 ⟨rfl, hb41⟩
  have q41 : Below w.heap.size w w41 := by first | exact q40.trans (hb41.mono q40.size) | exact (q40.alloc q40.size _).trans (hb41.mono (by have := q40.size; simp; omega))
  replace vr : VAt w41 w35.heap.size (revS s) := by first | exact vr.step hb41 | exact vr.stepA hb41 | exact VAt.new hb41
  have vt : VAt w41 w40.heap.size s := VAt.new hb41
  go_wp2_with fail
  refine (ltxt_any ⟨#[]⟩ _).mono ?_
  rintro e w42 ⟨rfl, hb42⟩
  have q42 : Below w.heap.size w w42 := by first | exact q41.trans (hb42.mono q41.size) | exact (q41.alloc q41.size _).trans (hb42.mono (by have := q41.size; simp; omega))
  replace vr : VAt w42 w35.heap.size (revS s) := by first | exact vr.step hb42 | exact vr.stepA hb42 | exact VAt.new hb42
  replace vt : VAt w42 w40.heap.size s := by first | exact vt.step hb42 | exact vt.stepA hb42 | exact VAt.new hb42
  go_wp2_with fail
  refine (ltxt_any ⟨#[]⟩ _).mono ?_
  rintro e w43 ⟨rfl, hb43⟩
  have q43 : Below w.heap.size w w43 := by first | exact q42.trans (hb43.mono q42.size) | exact (q42.alloc q42.size _).trans (hb43.mono (by have := q42.size; simp; omega))
  replace vr : VAt w43 w35.heap.size (revS s) := by first | exact vr.step hb43 | exact vr.stepA hb43 | exact VAt.new hb43
  replace vt : VAt w43 w40.heap.size s := by first | exact vt.step hb43 | exact vt.stepA hb43 | exact VAt.new hb43
  go_wp2_with fail
  refine (lst_t s _).mono ?_
  rintro e w44 ⟨⟨vll, rfl, hvl⟩, hb44⟩
  have q44 : Below w.heap.size w w44 := by first | exact q43.trans (hb44.mono q43.size) | exact (q43.alloc q43.size _).trans (hb44.mono (by have := q43.size; simp; omega))
  replace vr : VAt w44 w35.heap.size (revS s) := by first | exact vr.step hb44 | exact vr.stepA hb44 | exact VAt.new hb44
  replace vt : VAt w44 w40.heap.size s := by first | exact vt.step hb44 | exact vt.stepA hb44 | exact VAt.new hb44
  go_wp2_with fail
  refine (pc_l s hs (Tab.below ht q44) hvl).mono ?_
  rintro e w45 ⟨rfl, hb45⟩
  have q45 : Below w.heap.size w w45 := by first | exact q44.trans (hb45.mono q44.size) | exact (q44.alloc q44.size _).trans (hb45.mono (by have := q44.size; simp; omega))
  replace vr : VAt w45 w35.heap.size (revS s) := by first | exact vr.step hb45 | exact vr.stepA hb45 | exact VAt.new hb45
  replace vt : VAt w45 w40.heap.size s := by first | exact vt.step hb45 | exact vt.stepA hb45 | exact VAt.new hb45
  go_wp2_with fail
  refine (ltxt_any (caseS 65 97 s) _).mono ?_
  rintro e w46 ⟨rfl, hb46⟩
  have q46 : Below w.heap.size w w46 := by first | exact q45.trans (hb46.mono q45.size) | exact (q45.alloc q45.size _).trans (hb46.mono (by have := q45.size; simp; omega))
  replace vr : VAt w46 w35.heap.size (revS s) := by first | exact vr.step hb46 | exact vr.stepA hb46 | exact VAt.new hb46
  replace vt : VAt w46 w40.heap.size s := by first | exact vt.step hb46 | exact vt.stepA hb46 | exact VAt.new hb46
  have vl : VAt w46 w45.heap.size (caseS 65 97 s) := VAt.new hb46
  go_wp2_with fail
  refine (ltxt_any ⟨#[]⟩ _).mono ?_
  rintro e w47 ⟨rfl, hb47⟩
  have q47 : Below w.heap.size w w47 := by first | exact q46.trans (hb47.mono q46.size) | exact (q46.alloc q46.size _).trans (hb47.mono (by have := q46.size; simp; omega))
  replace vr : VAt w47 w35.heap.size (revS s) := by first | exact vr.step hb47 | exact vr.stepA hb47 | exact VAt.new hb47
  replace vt : VAt w47 w40.heap.size s := by first | exact vt.step hb47 | exact vt.stepA hb47 | exact VAt.new hb47
  replace vl : VAt w47 w45.heap.size (caseS 65 97 s) := by first | exact vl.step hb47 | exact vl.stepA hb47 | exact VAt.new hb47
  go_wp2_with fail
  refine (ltxt_any ⟨#[]⟩ _).mono ?_
  rintro e w48 ⟨rfl, hb48⟩
  have q48 : Below w.heap.size w w48 := by first | exact q47.trans (hb48.mono q47.size) | exact (q47.alloc q47.size _).trans (hb48.mono (by have := q47.size; simp; omega))
  replace vr : VAt w48 w35.heap.size (revS s) := by first | exact vr.step hb48 | exact vr.stepA hb48 | exact VAt.new hb48
  replace vt : VAt w48 w40.heap.size s := by first | exact vt.step hb48 | exact vt.stepA hb48 | exact VAt.new hb48
  replace vl : VAt w48 w45.heap.size (caseS 65 97 s) := by first | exact vl.step hb48 | exact vl.stepA hb48 | exact VAt.new hb48
  go_wp2_with fail
  refine (lst_t (caseS 65 97 s) _).mono ?_
  rintro e w49 ⟨⟨vuu, rfl, hvu⟩, hb49⟩
  have q49 : Below w.heap.size w w49 := by first | exact q48.trans (hb49.mono q48.size) | exact (q48.alloc q48.size _).trans (hb49.mono (by have := q48.size; simp; omega))
  replace vr : VAt w49 w35.heap.size (revS s) := by first | exact vr.step hb49 | exact vr.stepA hb49 | exact VAt.new hb49
  replace vt : VAt w49 w40.heap.size s := by first | exact vt.step hb49 | exact vt.stepA hb49 | exact VAt.new hb49
  replace vl : VAt w49 w45.heap.size (caseS 65 97 s) := by first | exact vl.step hb49 | exact vl.stepA hb49 | exact VAt.new hb49
  go_wp2_with fail
  refine (pc_u s hs (Tab.below ht q49) hvu).mono ?_
  rintro e w50 ⟨rfl, hb50⟩
  have q50 : Below w.heap.size w w50 := by first | exact q49.trans (hb50.mono q49.size) | exact (q49.alloc q49.size _).trans (hb50.mono (by have := q49.size; simp; omega))
  replace vr : VAt w50 w35.heap.size (revS s) := by first | exact vr.step hb50 | exact vr.stepA hb50 | exact VAt.new hb50
  replace vt : VAt w50 w40.heap.size s := by first | exact vt.step hb50 | exact vt.stepA hb50 | exact VAt.new hb50
  replace vl : VAt w50 w45.heap.size (caseS 65 97 s) := by first | exact vl.step hb50 | exact vl.stepA hb50 | exact VAt.new hb50
  go_wp2_with fail
  refine (ltxt_any s _).mono ?_
  rintro e w51 ⟨rfl, hb51⟩
  have q51 : Below w.heap.size w w51 := by first | exact q50.trans (hb51.mono q50.size) | exact (q50.alloc q50.size _).trans (hb51.mono (by have := q50.size; simp; omega))
  replace vr : VAt w51 w35.heap.size (revS s) := by first | exact vr.step hb51 | exact vr.stepA hb51 | exact VAt.new hb51
  replace vt : VAt w51 w40.heap.size s := by first | exact vt.step hb51 | exact vt.stepA hb51 | exact VAt.new hb51
  replace vl : VAt w51 w45.heap.size (caseS 65 97 s) := by first | exact vl.step hb51 | exact vl.stepA hb51 | exact VAt.new hb51
  have vu : VAt w51 w50.heap.size (caseS 97 65 s) := VAt.new hb51
  go_wp2_with fail
  refine (ltxt_any ⟨#[]⟩ _).mono ?_
  rintro e w52 ⟨rfl, hb52⟩
  have q52 : Below w.heap.size w w52 := by first | exact q51.trans (hb52.mono q51.size) | exact (q51.alloc q51.size _).trans (hb52.mono (by have := q51.size; simp; omega))
  replace vr : VAt w52 w35.heap.size (revS s) := by first | exact vr.step hb52 | exact vr.stepA hb52 | exact VAt.new hb52
  replace vt : VAt w52 w40.heap.size s := by first | exact vt.step hb52 | exact vt.stepA hb52 | exact VAt.new hb52
  replace vl : VAt w52 w45.heap.size (caseS 65 97 s) := by first | exact vl.step hb52 | exact vl.stepA hb52 | exact VAt.new hb52
  replace vu : VAt w52 w50.heap.size (caseS 97 65 s) := by first | exact vu.step hb52 | exact vu.stepA hb52 | exact VAt.new hb52
  go_wp2_with fail
  refine (ltxt_any ⟨#[]⟩ _).mono ?_
  rintro e w53 ⟨rfl, hb53⟩
  have q53 : Below w.heap.size w w53 := by first | exact q52.trans (hb53.mono q52.size) | exact (q52.alloc q52.size _).trans (hb53.mono (by have := q52.size; simp; omega))
  replace vr : VAt w53 w35.heap.size (revS s) := by first | exact vr.step hb53 | exact vr.stepA hb53 | exact VAt.new hb53
  replace vt : VAt w53 w40.heap.size s := by first | exact vt.step hb53 | exact vt.stepA hb53 | exact VAt.new hb53
  replace vl : VAt w53 w45.heap.size (caseS 65 97 s) := by first | exact vl.step hb53 | exact vl.stepA hb53 | exact VAt.new hb53
  replace vu : VAt w53 w50.heap.size (caseS 97 65 s) := by first | exact vu.step hb53 | exact vu.stepA hb53 | exact VAt.new hb53
  go_wp2_with fail
  refine (lst_t s _).mono ?_
  rintro e w54 ⟨⟨vvv, rfl, hvv⟩, hb54⟩
  have q54 : Below w.heap.size w w54 := by first | exact q53.trans (hb54.mono q53.size) | exact (q53.alloc q53.size _).trans (hb54.mono (by have := q53.size; simp; omega))
  replace vr : VAt w54 w35.heap.size (revS s) := by first | exact vr.step hb54 | exact vr.stepA hb54 | exact VAt.new hb54
  replace vt : VAt w54 w40.heap.size s := by first | exact vt.step hb54 | exact vt.stepA hb54 | exact VAt.new hb54
  replace vl : VAt w54 w45.heap.size (caseS 65 97 s) := by first | exact vl.step hb54 | exact vl.stepA hb54 | exact VAt.new hb54
  replace vu : VAt w54 w50.heap.size (caseS 97 65 s) := by first | exact vu.step hb54 | exact vu.stepA hb54 | exact VAt.new hb54
  go_wp2_with fail
  refine (pc_v s hs (Tab.below ht q54) hvv).mono ?_
  rintro e w55 ⟨rfl, hb55⟩
  have q55 : Below w.heap.size w w55 := by first | exact q54.trans (hb55.mono q54.size) | exact (q54.alloc q54.size _).trans (hb55.mono (by have := q54.size; simp; omega))
  replace vr : VAt w55 w35.heap.size (revS s) := by first | exact vr.step hb55 | exact vr.stepA hb55 | exact VAt.new hb55
  replace vt : VAt w55 w40.heap.size s := by first | exact vt.step hb55 | exact vt.stepA hb55 | exact VAt.new hb55
  replace vl : VAt w55 w45.heap.size (caseS 65 97 s) := by first | exact vl.step hb55 | exact vl.stepA hb55 | exact VAt.new hb55
  replace vu : VAt w55 w50.heap.size (caseS 97 65 s) := by first | exact vu.step hb55 | exact vu.stepA hb55 | exact VAt.new hb55
  have vv := VAt.here w55 (caseS 97 65 s)
  replace vr : VAt (w55.alloc (.cells #[.int .i64 2, .int .i64 0, .string (caseS 97 65 s), .bool false, .int .i64 0] 26)) w35.heap.size (revS s) := vr.al
  replace vt : VAt (w55.alloc (.cells #[.int .i64 2, .int .i64 0, .string (caseS 97 65 s), .bool false, .int .i64 0] 26)) w40.heap.size s := vt.al
  replace vl : VAt (w55.alloc (.cells #[.int .i64 2, .int .i64 0, .string (caseS 97 65 s), .bool false, .int .i64 0] 26)) w45.heap.size (caseS 65 97 s) := vl.al
  replace vu : VAt (w55.alloc (.cells #[.int .i64 2, .int .i64 0, .string (caseS 97 65 s), .bool false, .int .i64 0] 26)) w50.heap.size (caseS 97 65 s) := vu.al
  have qz : Below w.heap.size w (w55.alloc (.cells #[.int .i64 2, .int .i64 0, .string (caseS 97 65 s), .bool false, .int .i64 0] 26)) := q55.alloc q55.size _
  have htz := Tab.below ht qz
  clear hb31 hb32 hb33 hb34 hb35 hb36 hb37 hb38 hb39 hb40 hb41 hb42 hb43 hb44 hb45 hb46 hb47 hb48 hb49 hb50 hb51 hb52 hb53 hb54 hb55 q30 q31 q32 q33 q34 q35 q36 q37 q38 q39 q40 q41 q42 q43 q44 q45 q46 q47 q48 q49 q50 q51 q52 q53 q54 q55 hvr hvt hvl hvu hvv
  have lr := cell_lt vr.1
  obtain ⟨r0, r1, r2, r3, r4⟩ := vr
  have lt := cell_lt vt.1
  obtain ⟨t0, t1, t2, t3, t4⟩ := vt
  have ll := cell_lt vl.1
  obtain ⟨l0, l1, l2, l3, l4⟩ := vl
  have lu := cell_lt vu.1
  obtain ⟨u0, u1, u2, u3, u4⟩ := vu
  have lv := cell_lt vv.1
  obtain ⟨v0, v1, v2, v3, v4⟩ := vv
  have e0 : vEq 2 0 (caseS 97 65 s) false 0 2 0 (caseS 97 65 s) false 0 = true := vEq_self _ _ _ _ _
  have qz55 := qz
  have hr1 : ((revS s).size : Int) = (s.size : Int) := by rw [revS_size]
  have hl1 : ((caseS 65 97 s).size : Int) = (s.size : Int) := by rw [caseS_size]
  have hfv := field_value 1 ((s.size : Int) * 10000) ⟨#[]⟩
  have hve := vEq_self 1 ((s.size : Int) * 10000) ⟨#[]⟩ false 0
  go_wp2_with fail
  refine (lisu_self s _).mono ?_
  rintro e w56 ⟨rfl, hb56⟩
  have qz56 : Below w.heap.size w w56 := qz55.trans (hb56.mono qz55.size)
  replace r0 : w56.cell? ⟨w35.heap.size, 0, none⟩ = some (.int .i64 2) := (hb56.cell (p := ⟨w35.heap.size, 0, none⟩) lr).trans r0
  replace r1 : w56.cell? ⟨w35.heap.size, 1, none⟩ = some (.int .i64 0) := (hb56.cell (p := ⟨w35.heap.size, 1, none⟩) lr).trans r1
  replace r2 : w56.cell? ⟨w35.heap.size, 2, none⟩ = some (.string (revS s)) := (hb56.cell (p := ⟨w35.heap.size, 2, none⟩) lr).trans r2
  replace r3 : w56.cell? ⟨w35.heap.size, 3, none⟩ = some (.bool false) := (hb56.cell (p := ⟨w35.heap.size, 3, none⟩) lr).trans r3
  replace r4 : w56.cell? ⟨w35.heap.size, 4, none⟩ = some (.int .i64 0) := (hb56.cell (p := ⟨w35.heap.size, 4, none⟩) lr).trans r4
  replace lr := cell_lt r0
  replace t0 : w56.cell? ⟨w40.heap.size, 0, none⟩ = some (.int .i64 2) := (hb56.cell (p := ⟨w40.heap.size, 0, none⟩) lt).trans t0
  replace t1 : w56.cell? ⟨w40.heap.size, 1, none⟩ = some (.int .i64 0) := (hb56.cell (p := ⟨w40.heap.size, 1, none⟩) lt).trans t1
  replace t2 : w56.cell? ⟨w40.heap.size, 2, none⟩ = some (.string s) := (hb56.cell (p := ⟨w40.heap.size, 2, none⟩) lt).trans t2
  replace t3 : w56.cell? ⟨w40.heap.size, 3, none⟩ = some (.bool false) := (hb56.cell (p := ⟨w40.heap.size, 3, none⟩) lt).trans t3
  replace t4 : w56.cell? ⟨w40.heap.size, 4, none⟩ = some (.int .i64 0) := (hb56.cell (p := ⟨w40.heap.size, 4, none⟩) lt).trans t4
  replace lt := cell_lt t0
  replace l0 : w56.cell? ⟨w45.heap.size, 0, none⟩ = some (.int .i64 2) := (hb56.cell (p := ⟨w45.heap.size, 0, none⟩) ll).trans l0
  replace l1 : w56.cell? ⟨w45.heap.size, 1, none⟩ = some (.int .i64 0) := (hb56.cell (p := ⟨w45.heap.size, 1, none⟩) ll).trans l1
  replace l2 : w56.cell? ⟨w45.heap.size, 2, none⟩ = some (.string (caseS 65 97 s)) := (hb56.cell (p := ⟨w45.heap.size, 2, none⟩) ll).trans l2
  replace l3 : w56.cell? ⟨w45.heap.size, 3, none⟩ = some (.bool false) := (hb56.cell (p := ⟨w45.heap.size, 3, none⟩) ll).trans l3
  replace l4 : w56.cell? ⟨w45.heap.size, 4, none⟩ = some (.int .i64 0) := (hb56.cell (p := ⟨w45.heap.size, 4, none⟩) ll).trans l4
  replace ll := cell_lt l0
  replace u0 : w56.cell? ⟨w50.heap.size, 0, none⟩ = some (.int .i64 2) := (hb56.cell (p := ⟨w50.heap.size, 0, none⟩) lu).trans u0
  replace u1 : w56.cell? ⟨w50.heap.size, 1, none⟩ = some (.int .i64 0) := (hb56.cell (p := ⟨w50.heap.size, 1, none⟩) lu).trans u1
  replace u2 : w56.cell? ⟨w50.heap.size, 2, none⟩ = some (.string (caseS 97 65 s)) := (hb56.cell (p := ⟨w50.heap.size, 2, none⟩) lu).trans u2
  replace u3 : w56.cell? ⟨w50.heap.size, 3, none⟩ = some (.bool false) := (hb56.cell (p := ⟨w50.heap.size, 3, none⟩) lu).trans u3
  replace u4 : w56.cell? ⟨w50.heap.size, 4, none⟩ = some (.int .i64 0) := (hb56.cell (p := ⟨w50.heap.size, 4, none⟩) lu).trans u4
  replace lu := cell_lt u0
  replace v0 : w56.cell? ⟨w55.heap.size, 0, none⟩ = some (.int .i64 2) := (hb56.cell (p := ⟨w55.heap.size, 0, none⟩) lv).trans v0
  replace v1 : w56.cell? ⟨w55.heap.size, 1, none⟩ = some (.int .i64 0) := (hb56.cell (p := ⟨w55.heap.size, 1, none⟩) lv).trans v1
  replace v2 : w56.cell? ⟨w55.heap.size, 2, none⟩ = some (.string (caseS 97 65 s)) := (hb56.cell (p := ⟨w55.heap.size, 2, none⟩) lv).trans v2
  replace v3 : w56.cell? ⟨w55.heap.size, 3, none⟩ = some (.bool false) := (hb56.cell (p := ⟨w55.heap.size, 3, none⟩) lv).trans v3
  replace v4 : w56.cell? ⟨w55.heap.size, 4, none⟩ = some (.int .i64 0) := (hb56.cell (p := ⟨w55.heap.size, 4, none⟩) lv).trans v4
  replace lv := cell_lt v0
  go_wp2_with fail
  refine (ltxt_any s _).mono ?_
  rintro e w57 ⟨rfl, hb57⟩
  have qz57 : Below w.heap.size w w57 := qz56.trans (hb57.mono qz56.size)
  go_wp2_with fail
  refine (ltxt_any ⟨#[]⟩ _).mono ?_
  rintro e w58 ⟨rfl, hb58⟩
  have qz58 : Below w.heap.size w w58 := qz57.trans (hb58.mono qz57.size)
  go_wp2_with fail
  refine (ltxt_any ⟨#[]⟩ _).mono ?_
  rintro e w59 ⟨rfl, hb59⟩
  have qz59 : Below w.heap.size w w59 := qz58.trans (hb59.mono qz58.size)
  go_wp2_with fail
  refine (lst_t s _).mono ?_
  rintro e w60 ⟨⟨vn, rfl, hvn⟩, hb60⟩
  have qz60 : Below w.heap.size w w60 := qz59.trans (hb60.mono qz59.size)
  go_wp2_with fail
  refine (pc_n s hs (Tab.below ht qz60) hvn).mono ?_
  rintro e w61 ⟨rfl, hb61⟩
  have qz61 : Below w.heap.size w w61 := qz60.trans (hb61.mono qz60.size)
  go_wp2_with fail
  refine (lwhole_any (s.size : Int) (by omega) _).mono ?_
  rintro e w62 ⟨rfl, hb62⟩
  have qz62 : Below w.heap.size w w62 := qz61.trans (hb62.mono qz61.size)
  go_wp2
  go_ret
  exact ⟨rfl, qz62⟩
end Go.Proofs.YtaomlgpakbjegaaGreatDoor
