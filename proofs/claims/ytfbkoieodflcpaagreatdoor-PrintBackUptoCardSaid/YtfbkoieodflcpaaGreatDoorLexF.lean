/-
  lex: first.
-/
import Derived.Test.YtfbkoieodflcpaaGreatDoorMg3
import Derived.Test.YtfbkoieodflcpaaGreatDoorRows
import Derived.Test.YtfbkoieodflcpaaGreatDoorMg0
import Derived.Test.YtfbkoieodflcpaaGreatDoorProg
import Derived.Test.YtfbkoieodflcpaaGreatDoorShelf
import Derived.Test.YtfbkoieodflcpaaGreatDoorMg4
import Derived.Test.YtfbkoieodflcpaaGreatDoorAddrC
import Derived.Test.YtfbkoieodflcpaaGreatDoorMg6
import Derived.Test.YtfbkoieodflcpaaGreatDoorValA
import Derived.Test.YtfbkoieodflcpaaGreatDoorValB
import Derived.Test.YtfbkoieodflcpaaGreatDoorMg9
import Derived.Test.YtfbkoieodflcpaaGreatDoorMg26
import Derived.Test.YtfbkoieodflcpaaGreatDoorMg11
import Derived.Test.YtfbkoieodflcpaaGreatDoorLexWd
import Derived.Test.YtfbkoieodflcpaaGreatDoorLexS
import Derived.Test.YtfbkoieodflcpaaGreatDoorDParse
import Derived.WalkSpells
import Derived.WalkLawsBesides
import Derived.StillTactics
import Derived.Laws.Pointers
import Derived.Deep.RegionHeld3
import Derived.Deep.QuietTactic
import Derived.BigQuiet
import Derived.RowKit3
import Derived.Lib.Hide
import Derived.Lib.OthersKept
import Derived.OwnWalk
import Derived.Lib.IndexLaws
import Derived.Lib.ItoaMem
import Derived.Lib.TrimByte
import Derived.Lib.SlTrimSet
import Derived.Lib.ParseIntB
import Derived.WalkKit
import Derived.ProofKit
import Derived.OpenShut
import Derived.Carry
import Derived.ChangeSame
import Derived.Deep.Draws
import Derived.Shelf.Strings.Builder1
import Derived.Shelf.Strings.Builder2
import Derived.Shelf.Strings.Trim
import Derived.Shelf.Small.Utf8
import Derived.Shelf.Small.Strs
import Derived.Shelf.Small.Wraps
import Derived.Shelf.Strings.BuilderF
import Derived.Shelf.Strings.BuilderK
import Derived.Shelf.Utf8.RuneCount
import Derived.Shelf.Strconv.Itoa0
import Derived.Shelf.Strconv.Itoa1
import Derived.Shelf.LaysM
import Derived.Shelf.Strconv.Itoa2
import Derived.Shelf.Strconv.Itoa3
import Derived.Ground.MpProg
import Derived.Shelf.Pu.ParseUintPublic10
import Derived.Shelf.Strings.Search1
import Derived.Shelf.Strings.Search2
import Derived.Shelf.Strings.Search3
import Derived.Shelf.Strings.Cut
import Derived.Shelf.Strings.Count
import Derived.Shelf.Strings.Shaped
import Derived.Shelf.Strings.Prefix
import Derived.Shelf.Strings.Split
import Derived.Shelf.Strings.Replace
import Derived.Shelf.Strings.SplitShaped
import Derived.Shelf.Unicode.Decode
import Derived.Shelf.Strings.Runes
import Derived.Shelf.Strings.RuneCount
import Derived.Shelf.Strings.AsciiSet
import Derived.Shelf.Unicode.DecodeSlow
import Derived.Shelf.Unicode.DecodeAny
import Derived.Shelf.Unicode.DecodeLast
import Derived.Lib.ItoaNum
import Derived.Shelf.Strings.SlTrimAscii
import Derived.Lib.SmallJoins
namespace Go.Proofs.YtfbkoieodflcpaaGreatDoor
open Go.RowKit

set_option maxHeartbeats 400000 in
theorem lfirst_end (w : World) : Calls Tryz.prog 51 #[.string ⟨#[]⟩] w fun e w' => e = .returned (.tuple #[.agg #[.int .i64 0, .int .i64 0, .int .i64 0, .string ⟨#[]⟩, .int .i64 0, .int .i64 0, .int .i64 0, .int .i64 0, .int .i64 0, .int .i64 0, .int .i64 0], .int .i64 0]) ∧ Below w.heap.size w w' := by
  go_enter Tryz.func51, Tryz.ntmps51
  go_wp2
  refine bodyPost_ret (v := _) ?_ rfl ⟨rfl, by (repeat (first | (with_reducible exact Below.refl _ _) | (with_reducible refine Below.alloc ?_ (by first | omega | (dsimp only; omega) | (simp <;> omega)) _) | (with_reducible refine Below.setCell ?_ (by first | omega | (dsimp only; omega) | (simp <;> omega)) _) | (with_reducible refine Below.drew ?_) | (with_reducible refine below_drewN ?_ _) | (with_reducible refine Below.trans ?_ (Below.mono (by assumption) (by first | omega | (dsimp only; omega) | (simp <;> omega))))))⟩
  first | (simp [results, Tryz.results51, go_sem, *]; done) | (simp [results, Tryz.results51, go_sem, *]; omega)
set_option maxHeartbeats 1000000 in
theorem lfirst_num_true (l : List UInt8) (c : UInt8) (r : List UInt8) (hlc : l = c :: r) (hl : l.length ≤ 140737488355327) (c1 : isDig c = true) (a : List UInt8) (ha : l.takeWhile numB = a) (v : Int) (hv : numV a = v) (hok : numOk a = true) (w : World) : Calls Tryz.prog 51 #[.string ⟨l.toArray⟩] w fun e w' => e = .returned (.tuple #[.agg #[.int .i64 1, .int .i64 0, .int .i64 v, .string ⟨#[]⟩, .int .i64 0, .int .i64 0, .int .i64 0, .int .i64 0, .int .i64 0, .int .i64 0, .int .i64 0], .int .i64 (a.length : Int)]) ∧ Below w.heap.size w w' := by
  have hb0 : 0 < (⟨l.toArray⟩ : ByteArray).size := by show 0 < l.toArray.size; rw [hlc]; simp
  have hbe : (⟨l.toArray⟩ : ByteArray)[0]'hb0 = c := by subst hlc; rfl
  have hne : ((⟨l.toArray⟩ : ByteArray) = ⟨#[]⟩) = False := by rw [show (⟨#[]⟩ : ByteArray) = ⟨([] : List UInt8).toArray⟩ from rfl, list_bytes, hlc]; exact eq_false (by simp)
  have d1 : 48 ≤ c.toNat := by simp [isDig] at c1; exact c1.1
  have d2 : c.toNat ≤ 57 := by simp [isDig] at c1; exact c1.2
  have hal : a.length ≤ l.length := by rw [← ha]; exact takeWhile_le numB l
  have C1 := lrun_num l a.length (by omega) (by rw [ha])
  have hx := ext_mid l a 0 a.length (by rw [List.drop_zero, ← ha, ← takeWhile_take])
  rw [Nat.zero_add] at hx
  have C2 := dparse_any ⟨a.toArray⟩ (by show a.toArray.size ≤ _; unfold maxLen; rw [List.size_toArray]; omega)
  rw [show (⟨a.toArray⟩ : ByteArray).data.toList = a from by simp, hv, hok] at C2
  clear ha hv hok
  clear hlc
  go_enter Tryz.func51, Tryz.ntmps51
  go_wp2_with fail
  try rw [hbe]
  go_wp2_with fail
  refine (C1 _).mono ?_
  rintro e w1 ⟨rfl, hb1⟩
  obtain ⟨hc1, hf1, hz1⟩ := bkeep hb1 (w.heap.size + 1) (by first | omega | (simp <;> omega))
  go_wp2_with fail
  try rw [hx]
  go_wp2_with fail
  refine (C2 _).mono ?_
  rintro e w2 ⟨rfl, hb2⟩
  obtain ⟨hc2, hf2, hz2⟩ := bkeep hb2 (w.heap.size + 1) (by first | omega | (simp <;> omega))
  go_wp2
  refine bodyPost_ret (v := _) ?_ rfl ⟨rfl, by (repeat (first | (with_reducible exact Below.refl _ _) | (with_reducible refine Below.alloc ?_ (by first | omega | (dsimp only; omega) | (simp <;> omega)) _) | (with_reducible refine Below.setCell ?_ (by first | omega | (dsimp only; omega) | (simp <;> omega)) _) | (with_reducible refine Below.drew ?_) | (with_reducible refine below_drewN ?_ _) | (with_reducible refine Below.trans ?_ (Below.mono (by assumption) (by first | omega | (dsimp only; omega) | (simp <;> omega))))))⟩
  first | (simp [results, Tryz.results51, go_sem, *]; done) | (simp [results, Tryz.results51, go_sem, *]; omega)
set_option maxHeartbeats 1000000 in
theorem lfirst_num_false (l : List UInt8) (c : UInt8) (r : List UInt8) (hlc : l = c :: r) (hl : l.length ≤ 140737488355327) (c1 : isDig c = true) (a : List UInt8) (ha : l.takeWhile numB = a) (v : Int) (hv : numV a = v) (hok : numOk a = false) (w : World) : Calls Tryz.prog 51 #[.string ⟨l.toArray⟩] w fun e w' => e = .returned (.tuple #[.agg #[.int .i64 8, .int .i64 0, .int .i64 0, .string ⟨#[]⟩, .int .i64 0, .int .i64 0, .int .i64 0, .int .i64 0, .int .i64 0, .int .i64 0, .int .i64 0], .int .i64 0]) ∧ Below w.heap.size w w' := by
  have hb0 : 0 < (⟨l.toArray⟩ : ByteArray).size := by show 0 < l.toArray.size; rw [hlc]; simp
  have hbe : (⟨l.toArray⟩ : ByteArray)[0]'hb0 = c := by subst hlc; rfl
  have hne : ((⟨l.toArray⟩ : ByteArray) = ⟨#[]⟩) = False := by rw [show (⟨#[]⟩ : ByteArray) = ⟨([] : List UInt8).toArray⟩ from rfl, list_bytes, hlc]; exact eq_false (by simp)
  have d1 : 48 ≤ c.toNat := by simp [isDig] at c1; exact c1.1
  have d2 : c.toNat ≤ 57 := by simp [isDig] at c1; exact c1.2
  have hal : a.length ≤ l.length := by rw [← ha]; exact takeWhile_le numB l
  have C1 := lrun_num l a.length (by omega) (by rw [ha])
  have hx := ext_mid l a 0 a.length (by rw [List.drop_zero, ← ha, ← takeWhile_take])
  rw [Nat.zero_add] at hx
  have C2 := dparse_any ⟨a.toArray⟩ (by show a.toArray.size ≤ _; unfold maxLen; rw [List.size_toArray]; omega)
  rw [show (⟨a.toArray⟩ : ByteArray).data.toList = a from by simp, hv, hok] at C2
  clear ha hv hok
  clear hlc
  go_enter Tryz.func51, Tryz.ntmps51
  go_wp2_with fail
  try rw [hbe]
  go_wp2_with fail
  refine (C1 _).mono ?_
  rintro e w1 ⟨rfl, hb1⟩
  obtain ⟨hc1, hf1, hz1⟩ := bkeep hb1 (w.heap.size + 1) (by first | omega | (simp <;> omega))
  go_wp2_with fail
  try rw [hx]
  go_wp2_with fail
  refine (C2 _).mono ?_
  rintro e w2 ⟨rfl, hb2⟩
  obtain ⟨hc2, hf2, hz2⟩ := bkeep hb2 (w.heap.size + 1) (by first | omega | (simp <;> omega))
  go_wp2
  refine bodyPost_ret (v := _) ?_ rfl ⟨rfl, by (repeat (first | (with_reducible exact Below.refl _ _) | (with_reducible refine Below.alloc ?_ (by first | omega | (dsimp only; omega) | (simp <;> omega)) _) | (with_reducible refine Below.setCell ?_ (by first | omega | (dsimp only; omega) | (simp <;> omega)) _) | (with_reducible refine Below.drew ?_) | (with_reducible refine below_drewN ?_ _) | (with_reducible refine Below.trans ?_ (Below.mono (by assumption) (by first | omega | (dsimp only; omega) | (simp <;> omega))))))⟩
  first | (simp [results, Tryz.results51, go_sem, *]; done) | (simp [results, Tryz.results51, go_sem, *]; omega)
set_option maxHeartbeats 1000000 in
theorem lfirst_text (l : List UInt8) (c : UInt8) (r : List UInt8) (hlc : l = c :: r) (hl : l.length ≤ 140737488355327) (c1 : isDig c = false) (c2 : c.toNat = 34) (x : Tok) (n : Nat) (hx : textT l = (x, n)) (w : World) : Calls Tryz.prog 51 #[.string ⟨l.toArray⟩] w fun e w' => e = .returned (.tuple #[.agg #[.int .i64 x.kind, .int .i64 x.place, .int .i64 x.num, .string x.str, .int .i64 x.r, .int .i64 x.c, .int .i64 x.t, .int .i64 x.l, .int .i64 x.b, .int .i64 x.q, .int .i64 x.code], .int .i64 (n : Int)]) ∧ Below w.heap.size w w' := by
  have hb0 : 0 < (⟨l.toArray⟩ : ByteArray).size := by show 0 < l.toArray.size; rw [hlc]; simp
  have hbe : (⟨l.toArray⟩ : ByteArray)[0]'hb0 = c := by subst hlc; rfl
  have hne : ((⟨l.toArray⟩ : ByteArray) = ⟨#[]⟩) = False := by rw [show (⟨#[]⟩ : ByteArray) = ⟨([] : List UInt8).toArray⟩ from rfl, list_bytes, hlc]; exact eq_false (by simp)
  have d1 : c.toNat < 48 := by omega
  have C1 := lquoted l hl (by rw [hlc]; simp) x n hx
  clear c1
  clear hlc
  go_enter Tryz.func51, Tryz.ntmps51
  go_wp2_with fail
  try rw [hbe]
  go_wp2_with (go_at_call 90; refine (C1 _).mono ?_; rintro e w1 ⟨rfl, hb1⟩; obtain ⟨hc1, hf1, hz1⟩ := bkeep hb1 (w.heap.size + 1) (by first | omega | (simp <;> omega)))
  refine bodyPost_ret (v := _) ?_ rfl ⟨rfl, by (repeat (first | (with_reducible exact Below.refl _ _) | (with_reducible refine Below.alloc ?_ (by first | omega | (dsimp only; omega) | (simp <;> omega)) _) | (with_reducible refine Below.setCell ?_ (by first | omega | (dsimp only; omega) | (simp <;> omega)) _) | (with_reducible refine Below.drew ?_) | (with_reducible refine below_drewN ?_ _) | (with_reducible refine Below.trans ?_ (Below.mono (by assumption) (by first | omega | (dsimp only; omega) | (simp <;> omega))))))⟩
  first | (simp [results, Tryz.results51, go_sem, *]; done) | (simp [results, Tryz.results51, go_sem, *]; omega)
set_option maxHeartbeats 1000000 in
theorem lfirst_word (l : List UInt8) (c : UInt8) (r : List UInt8) (hlc : l = c :: r) (hl : l.length ≤ 140737488355327) (c1 : isDig c = false) (_c2 : ¬ c.toNat = 34) (_c3 : ¬ c.toNat = 35) (c4 : upB c = true) (x : Tok) (n : Nat) (hx : wordT l = (x, n)) (w : World) : Calls Tryz.prog 51 #[.string ⟨l.toArray⟩] w fun e w' => e = .returned (.tuple #[.agg #[.int .i64 x.kind, .int .i64 x.place, .int .i64 x.num, .string x.str, .int .i64 x.r, .int .i64 x.c, .int .i64 x.t, .int .i64 x.l, .int .i64 x.b, .int .i64 x.q, .int .i64 x.code], .int .i64 (n : Int)]) ∧ Below w.heap.size w w' := by
  have hb0 : 0 < (⟨l.toArray⟩ : ByteArray).size := by show 0 < l.toArray.size; rw [hlc]; simp
  have hbe : (⟨l.toArray⟩ : ByteArray)[0]'hb0 = c := by subst hlc; rfl
  have hne : ((⟨l.toArray⟩ : ByteArray) = ⟨#[]⟩) = False := by rw [show (⟨#[]⟩ : ByteArray) = ⟨([] : List UInt8).toArray⟩ from rfl, list_bytes, hlc]; exact eq_false (by simp)
  have d1 : 57 < c.toNat := by simp [upB] at c4; omega
  have u1 : 65 ≤ c.toNat := by simp [upB] at c4; exact c4.1
  have u2 : c.toNat ≤ 90 := by simp [upB] at c4; exact c4.2
  have C1 := lword l c r hlc c4 (by omega) x n hx
  clear c1 c4
  clear hlc
  go_enter Tryz.func51, Tryz.ntmps51
  go_wp2_with fail
  try rw [hbe]
  go_wp2_with (go_at_call 93; refine (C1 _).mono ?_; rintro e w1 ⟨rfl, hb1⟩; obtain ⟨hc1, hf1, hz1⟩ := bkeep hb1 (w.heap.size + 1) (by first | omega | (simp <;> omega)))
  refine bodyPost_ret (v := _) ?_ rfl ⟨rfl, by (repeat (first | (with_reducible exact Below.refl _ _) | (with_reducible refine Below.alloc ?_ (by first | omega | (dsimp only; omega) | (simp <;> omega)) _) | (with_reducible refine Below.setCell ?_ (by first | omega | (dsimp only; omega) | (simp <;> omega)) _) | (with_reducible refine Below.drew ?_) | (with_reducible refine below_drewN ?_ _) | (with_reducible refine Below.trans ?_ (Below.mono (by assumption) (by first | omega | (dsimp only; omega) | (simp <;> omega))))))⟩
  first | (simp [results, Tryz.results51, go_sem, *]; done) | (simp [results, Tryz.results51, go_sem, *]; omega)
set_option maxHeartbeats 1000000 in
theorem lfirst_sign (l : List UInt8) (c : UInt8) (r : List UInt8) (hlc : l = c :: r) (hl : l.length ≤ 140737488355327) (c1 : isDig c = false) (c2 : ¬ c.toNat = 34) (c3 : ¬ c.toNat = 35) (c4 : upB c = false) (x : Tok) (n : Nat) (hx : signT l = (x, n)) (w : World) : Calls Tryz.prog 51 #[.string ⟨l.toArray⟩] w fun e w' => e = .returned (.tuple #[.agg #[.int .i64 x.kind, .int .i64 x.place, .int .i64 x.num, .string x.str, .int .i64 x.r, .int .i64 x.c, .int .i64 x.t, .int .i64 x.l, .int .i64 x.b, .int .i64 x.q, .int .i64 x.code], .int .i64 (n : Int)]) ∧ Below w.heap.size w w' := by
  have hb0 : 0 < (⟨l.toArray⟩ : ByteArray).size := by show 0 < l.toArray.size; rw [hlc]; simp
  have hbe : (⟨l.toArray⟩ : ByteArray)[0]'hb0 = c := by subst hlc; rfl
  have hne : ((⟨l.toArray⟩ : ByteArray) = ⟨#[]⟩) = False := by rw [show (⟨#[]⟩ : ByteArray) = ⟨([] : List UInt8).toArray⟩ from rfl, list_bytes, hlc]; exact eq_false (by simp)
  have d1 : c.toNat < 48 ∨ (57 < c.toNat ∧ c.toNat < 65) ∨ 90 < c.toNat := by simp [isDig] at c1; simp [upB] at c4; omega
  have C1 := lsign l c r hlc (by omega) x n hx
  clear c1 c4
  clear hlc
  rcases d1 with d1 | ⟨d1, d2⟩ | d1
  · go_enter Tryz.func51, Tryz.ntmps51
    go_wp2_with fail
    try rw [hbe]
    go_wp2_with (go_at_call 94; refine (C1 _).mono ?_; rintro e w1 ⟨rfl, hb1⟩; obtain ⟨hc1, hf1, hz1⟩ := bkeep hb1 (w.heap.size + 1) (by first | omega | (simp <;> omega)))
    refine bodyPost_ret (v := _) ?_ rfl ⟨rfl, by (repeat (first | (with_reducible exact Below.refl _ _) | (with_reducible refine Below.alloc ?_ (by first | omega | (dsimp only; omega) | (simp <;> omega)) _) | (with_reducible refine Below.setCell ?_ (by first | omega | (dsimp only; omega) | (simp <;> omega)) _) | (with_reducible refine Below.drew ?_) | (with_reducible refine below_drewN ?_ _) | (with_reducible refine Below.trans ?_ (Below.mono (by assumption) (by first | omega | (dsimp only; omega) | (simp <;> omega))))))⟩
    first | (simp [results, Tryz.results51, go_sem, *]; done) | (simp [results, Tryz.results51, go_sem, *]; omega)
  · go_enter Tryz.func51, Tryz.ntmps51
    go_wp2_with fail
    try rw [hbe]
    go_wp2_with (go_at_call 94; refine (C1 _).mono ?_; rintro e w1 ⟨rfl, hb1⟩; obtain ⟨hc1, hf1, hz1⟩ := bkeep hb1 (w.heap.size + 1) (by first | omega | (simp <;> omega)))
    refine bodyPost_ret (v := _) ?_ rfl ⟨rfl, by (repeat (first | (with_reducible exact Below.refl _ _) | (with_reducible refine Below.alloc ?_ (by first | omega | (dsimp only; omega) | (simp <;> omega)) _) | (with_reducible refine Below.setCell ?_ (by first | omega | (dsimp only; omega) | (simp <;> omega)) _) | (with_reducible refine Below.drew ?_) | (with_reducible refine below_drewN ?_ _) | (with_reducible refine Below.trans ?_ (Below.mono (by assumption) (by first | omega | (dsimp only; omega) | (simp <;> omega))))))⟩
    first | (simp [results, Tryz.results51, go_sem, *]; done) | (simp [results, Tryz.results51, go_sem, *]; omega)
  · go_enter Tryz.func51, Tryz.ntmps51
    go_wp2_with fail
    try rw [hbe]
    go_wp2_with (go_at_call 94; refine (C1 _).mono ?_; rintro e w1 ⟨rfl, hb1⟩; obtain ⟨hc1, hf1, hz1⟩ := bkeep hb1 (w.heap.size + 1) (by first | omega | (simp <;> omega)))
    refine bodyPost_ret (v := _) ?_ rfl ⟨rfl, by (repeat (first | (with_reducible exact Below.refl _ _) | (with_reducible refine Below.alloc ?_ (by first | omega | (dsimp only; omega) | (simp <;> omega)) _) | (with_reducible refine Below.setCell ?_ (by first | omega | (dsimp only; omega) | (simp <;> omega)) _) | (with_reducible refine Below.drew ?_) | (with_reducible refine below_drewN ?_ _) | (with_reducible refine Below.trans ?_ (Below.mono (by assumption) (by first | omega | (dsimp only; omega) | (simp <;> omega))))))⟩
    first | (simp [results, Tryz.results51, go_sem, *]; done) | (simp [results, Tryz.results51, go_sem, *]; omega)
set_option maxHeartbeats 1000000 in
theorem lfirst_code_zero_end (l : List UInt8) (c : UInt8) (r : List UInt8) (hlc : l = c :: r) (hl : l.length ≤ 140737488355327) (c1 : isDig c = false) (_c2 : ¬ c.toNat = 34) (c3 : c.toNat = 35) (a : List UInt8) (ha : l.takeWhile bangB = a) (hend : a.length = l.length) (hcd : codeOf ⟨(a ++ [33]).toArray⟩ = 0) (w : World) : Calls Tryz.prog 51 #[.string ⟨l.toArray⟩] w fun e w' => e = .returned (.tuple #[.agg #[.int .i64 8, .int .i64 0, .int .i64 0, .string ⟨#[]⟩, .int .i64 0, .int .i64 0, .int .i64 0, .int .i64 0, .int .i64 0, .int .i64 0, .int .i64 0], .int .i64 0]) ∧ Below w.heap.size w w' := by
  have hb0 : 0 < (⟨l.toArray⟩ : ByteArray).size := by show 0 < l.toArray.size; rw [hlc]; simp
  have hbe : (⟨l.toArray⟩ : ByteArray)[0]'hb0 = c := by subst hlc; rfl
  have hne : ((⟨l.toArray⟩ : ByteArray) = ⟨#[]⟩) = False := by rw [show (⟨#[]⟩ : ByteArray) = ⟨([] : List UInt8).toArray⟩ from rfl, list_bytes, hlc]; exact eq_false (by simp)
  have d1 : c.toNat < 48 := by omega
  have hal : a.length ≤ l.length := by rw [← ha]; exact takeWhile_le bangB l
  have happ := Lib.hid (show (⟨a.toArray⟩ : ByteArray) ++ ⟨#[33]⟩ = ⟨(a ++ [33]).toArray⟩ from bytes_append a [33])
  have C2 := named_any ⟨(a ++ [33]).toArray⟩
  have hi : Lib.indexByte l 33 = -1 := idx_absent l 33 (fun hm => by
    have : l.takeWhile bangB = l := by
      have h1 := takeWhile_take bangB l
      rw [ha, hend, List.take_length] at h1
      rw [ha]; exact h1
    have h2 := takeWhile_all bangB l
    rw [this] at h2
    have := List.all_eq_true.1 h2 33 hm
    simp [bangB] at this)
  have C1 := scut0 l 33 hi
  have hal2 : l = a := by
    have h1 := takeWhile_take bangB l
    rw [ha, hend, List.take_length] at h1
    exact h1.symm
  have hal3 := hal2.symm
  clear hal2
  subst hal3
  rw [hcd, decide_eq_true rfl, Bool.not_true] at C2
  clear c1 ha
  clear hlc
  go_enter Tryz.func51, Tryz.ntmps51
  go_wp2_with fail
  try rw [hbe]
  go_wp2_with fail
  refine (C1 _).mono ?_
  rintro e w1 ⟨rfl, hb1⟩
  obtain ⟨hc1, hf1, hz1⟩ := bkeep hb1 (w.heap.size + 1) (by first | omega | (simp <;> omega))
  go_wp2_with fail
  rw [happ.out]
  go_wp2_with fail
  refine (C2 _).mono ?_
  rintro e w2 ⟨rfl, hb2⟩
  obtain ⟨hc2, hf2, hz2⟩ := bkeep hb2 (w.heap.size + 1) (by first | omega | (simp <;> omega))
  go_wp2
  refine bodyPost_ret (v := _) ?_ rfl ⟨rfl, by (repeat (first | (with_reducible exact Below.refl _ _) | (with_reducible refine Below.alloc ?_ (by first | omega | (dsimp only; omega) | (simp <;> omega)) _) | (with_reducible refine Below.setCell ?_ (by first | omega | (dsimp only; omega) | (simp <;> omega)) _) | (with_reducible refine Below.drew ?_) | (with_reducible refine below_drewN ?_ _) | (with_reducible refine Below.trans ?_ (Below.mono (by assumption) (by first | omega | (dsimp only; omega) | (simp <;> omega))))))⟩
  first | (simp [results, Tryz.results51, go_sem, *]; done) | (simp [results, Tryz.results51, go_sem, *]; omega)
set_option maxHeartbeats 1000000 in
theorem lfirst_code_zero_more (l : List UInt8) (c : UInt8) (r : List UInt8) (hlc : l = c :: r) (hl : l.length ≤ 140737488355327) (c1 : isDig c = false) (_c2 : ¬ c.toNat = 34) (c3 : c.toNat = 35) (a : List UInt8) (ha : l.takeWhile bangB = a) (hend : a.length < l.length) (hcd : codeOf ⟨(a ++ [33]).toArray⟩ = 0) (w : World) : Calls Tryz.prog 51 #[.string ⟨l.toArray⟩] w fun e w' => e = .returned (.tuple #[.agg #[.int .i64 8, .int .i64 0, .int .i64 0, .string ⟨#[]⟩, .int .i64 0, .int .i64 0, .int .i64 0, .int .i64 0, .int .i64 0, .int .i64 0, .int .i64 0], .int .i64 0]) ∧ Below w.heap.size w w' := by
  have hb0 : 0 < (⟨l.toArray⟩ : ByteArray).size := by show 0 < l.toArray.size; rw [hlc]; simp
  have hbe : (⟨l.toArray⟩ : ByteArray)[0]'hb0 = c := by subst hlc; rfl
  have hne : ((⟨l.toArray⟩ : ByteArray) = ⟨#[]⟩) = False := by rw [show (⟨#[]⟩ : ByteArray) = ⟨([] : List UInt8).toArray⟩ from rfl, list_bytes, hlc]; exact eq_false (by simp)
  have d1 : c.toNat < 48 := by omega
  have hal : a.length ≤ l.length := by rw [← ha]; exact takeWhile_le bangB l
  have happ := Lib.hid (show (⟨a.toArray⟩ : ByteArray) ++ ⟨#[33]⟩ = ⟨(a ++ [33]).toArray⟩ from bytes_append a [33])
  have C2 := named_any ⟨(a ++ [33]).toArray⟩
  have hgt : l[a.length].toNat = 33 := by
    have := twg_out bangB l (by rw [ha]; exact hend)
    simp only [ha] at this
    simpa [bangB] using this
  have hi : Lib.indexByte l 33 = (a.length : Int) := idx_of (by rw [List.getElem?_eq_getElem hend, ← UInt8.toNat_inj.1 (show l[a.length].toNat = (33 : UInt8).toNat from hgt)]) (fun k hk => by
    rw [List.getElem?_eq_getElem (by omega)]
    have := twg_in bangB l k (by rw [ha]; exact hk) (by omega)
    intro h
    injection h with h
    rw [h] at this
    simp [bangB] at this)
  have hta : l.take a.length = a := by rw [← ha, ← takeWhile_take]
  have C1 := scut1 l 33 a.length hi hend (by omega)
  rw [hta] at C1
  rw [hcd, decide_eq_true rfl, Bool.not_true] at C2
  clear c1 ha
  clear hlc
  go_enter Tryz.func51, Tryz.ntmps51
  go_wp2_with fail
  try rw [hbe]
  go_wp2_with fail
  refine (C1 _).mono ?_
  rintro e w1 ⟨rfl, hb1⟩
  obtain ⟨hc1, hf1, hz1⟩ := bkeep hb1 (w.heap.size + 1) (by first | omega | (simp <;> omega))
  go_wp2_with fail
  rw [happ.out]
  go_wp2_with fail
  refine (C2 _).mono ?_
  rintro e w2 ⟨rfl, hb2⟩
  obtain ⟨hc2, hf2, hz2⟩ := bkeep hb2 (w.heap.size + 1) (by first | omega | (simp <;> omega))
  go_wp2
  refine bodyPost_ret (v := _) ?_ rfl ⟨rfl, by (repeat (first | (with_reducible exact Below.refl _ _) | (with_reducible refine Below.alloc ?_ (by first | omega | (dsimp only; omega) | (simp <;> omega)) _) | (with_reducible refine Below.setCell ?_ (by first | omega | (dsimp only; omega) | (simp <;> omega)) _) | (with_reducible refine Below.drew ?_) | (with_reducible refine below_drewN ?_ _) | (with_reducible refine Below.trans ?_ (Below.mono (by assumption) (by first | omega | (dsimp only; omega) | (simp <;> omega))))))⟩
  first | (simp [results, Tryz.results51, go_sem, *]; done) | (simp [results, Tryz.results51, go_sem, *]; omega)
set_option maxHeartbeats 1000000 in
theorem lfirst_code_one_end (l : List UInt8) (c : UInt8) (r : List UInt8) (hlc : l = c :: r) (hl : l.length ≤ 140737488355327) (c1 : isDig c = false) (_c2 : ¬ c.toNat = 34) (c3 : c.toNat = 35) (a : List UInt8) (ha : l.takeWhile bangB = a) (hend : a.length = l.length) (hcd : codeOf ⟨(a ++ [33]).toArray⟩ = 1) (w : World) : Calls Tryz.prog 51 #[.string ⟨l.toArray⟩] w fun e w' => e = .returned (.tuple #[.agg #[.int .i64 8, .int .i64 0, .int .i64 0, .string ⟨#[]⟩, .int .i64 0, .int .i64 0, .int .i64 0, .int .i64 0, .int .i64 0, .int .i64 0, .int .i64 0], .int .i64 0]) ∧ Below w.heap.size w w' := by
  have hb0 : 0 < (⟨l.toArray⟩ : ByteArray).size := by show 0 < l.toArray.size; rw [hlc]; simp
  have hbe : (⟨l.toArray⟩ : ByteArray)[0]'hb0 = c := by subst hlc; rfl
  have hne : ((⟨l.toArray⟩ : ByteArray) = ⟨#[]⟩) = False := by rw [show (⟨#[]⟩ : ByteArray) = ⟨([] : List UInt8).toArray⟩ from rfl, list_bytes, hlc]; exact eq_false (by simp)
  have d1 : c.toNat < 48 := by omega
  have hal : a.length ≤ l.length := by rw [← ha]; exact takeWhile_le bangB l
  have happ := Lib.hid (show (⟨a.toArray⟩ : ByteArray) ++ ⟨#[33]⟩ = ⟨(a ++ [33]).toArray⟩ from bytes_append a [33])
  have C2 := named_any ⟨(a ++ [33]).toArray⟩
  have hi : Lib.indexByte l 33 = -1 := idx_absent l 33 (fun hm => by
    have : l.takeWhile bangB = l := by
      have h1 := takeWhile_take bangB l
      rw [ha, hend, List.take_length] at h1
      rw [ha]; exact h1
    have h2 := takeWhile_all bangB l
    rw [this] at h2
    have := List.all_eq_true.1 h2 33 hm
    simp [bangB] at this)
  have C1 := scut0 l 33 hi
  have hal2 : l = a := by
    have h1 := takeWhile_take bangB l
    rw [ha, hend, List.take_length] at h1
    exact h1.symm
  have hal3 := hal2.symm
  clear hal2
  subst hal3
  rw [hcd, decide_eq_false (by decide : ¬ (1 : Int) = 0), Bool.not_false] at C2
  clear c1 ha
  clear hlc
  go_enter Tryz.func51, Tryz.ntmps51
  go_wp2_with fail
  try rw [hbe]
  go_wp2_with fail
  refine (C1 _).mono ?_
  rintro e w1 ⟨rfl, hb1⟩
  obtain ⟨hc1, hf1, hz1⟩ := bkeep hb1 (w.heap.size + 1) (by first | omega | (simp <;> omega))
  go_wp2_with fail
  rw [happ.out]
  go_wp2_with fail
  refine (C2 _).mono ?_
  rintro e w2 ⟨rfl, hb2⟩
  obtain ⟨hc2, hf2, hz2⟩ := bkeep hb2 (w.heap.size + 1) (by first | omega | (simp <;> omega))
  go_wp2
  refine bodyPost_ret (v := _) ?_ rfl ⟨rfl, by (repeat (first | (with_reducible exact Below.refl _ _) | (with_reducible refine Below.alloc ?_ (by first | omega | (dsimp only; omega) | (simp <;> omega)) _) | (with_reducible refine Below.setCell ?_ (by first | omega | (dsimp only; omega) | (simp <;> omega)) _) | (with_reducible refine Below.drew ?_) | (with_reducible refine below_drewN ?_ _) | (with_reducible refine Below.trans ?_ (Below.mono (by assumption) (by first | omega | (dsimp only; omega) | (simp <;> omega))))))⟩
  first | (simp [results, Tryz.results51, go_sem, *]; done) | (simp [results, Tryz.results51, go_sem, *]; omega)
set_option maxHeartbeats 1000000 in
theorem lfirst_code_one_more (l : List UInt8) (c : UInt8) (r : List UInt8) (hlc : l = c :: r) (hl : l.length ≤ 140737488355327) (c1 : isDig c = false) (_c2 : ¬ c.toNat = 34) (c3 : c.toNat = 35) (a : List UInt8) (ha : l.takeWhile bangB = a) (hend : a.length < l.length) (hcd : codeOf ⟨(a ++ [33]).toArray⟩ = 1) (w : World) : Calls Tryz.prog 51 #[.string ⟨l.toArray⟩] w fun e w' => e = .returned (.tuple #[.agg #[.int .i64 8, .int .i64 0, .int .i64 0, .string ⟨#[]⟩, .int .i64 0, .int .i64 0, .int .i64 0, .int .i64 0, .int .i64 0, .int .i64 0, .int .i64 0], .int .i64 0]) ∧ Below w.heap.size w w' := by
  have hb0 : 0 < (⟨l.toArray⟩ : ByteArray).size := by show 0 < l.toArray.size; rw [hlc]; simp
  have hbe : (⟨l.toArray⟩ : ByteArray)[0]'hb0 = c := by subst hlc; rfl
  have hne : ((⟨l.toArray⟩ : ByteArray) = ⟨#[]⟩) = False := by rw [show (⟨#[]⟩ : ByteArray) = ⟨([] : List UInt8).toArray⟩ from rfl, list_bytes, hlc]; exact eq_false (by simp)
  have d1 : c.toNat < 48 := by omega
  have hal : a.length ≤ l.length := by rw [← ha]; exact takeWhile_le bangB l
  have happ := Lib.hid (show (⟨a.toArray⟩ : ByteArray) ++ ⟨#[33]⟩ = ⟨(a ++ [33]).toArray⟩ from bytes_append a [33])
  have C2 := named_any ⟨(a ++ [33]).toArray⟩
  have hgt : l[a.length].toNat = 33 := by
    have := twg_out bangB l (by rw [ha]; exact hend)
    simp only [ha] at this
    simpa [bangB] using this
  have hi : Lib.indexByte l 33 = (a.length : Int) := idx_of (by rw [List.getElem?_eq_getElem hend, ← UInt8.toNat_inj.1 (show l[a.length].toNat = (33 : UInt8).toNat from hgt)]) (fun k hk => by
    rw [List.getElem?_eq_getElem (by omega)]
    have := twg_in bangB l k (by rw [ha]; exact hk) (by omega)
    intro h
    injection h with h
    rw [h] at this
    simp [bangB] at this)
  have hta : l.take a.length = a := by rw [← ha, ← takeWhile_take]
  have C1 := scut1 l 33 a.length hi hend (by omega)
  rw [hta] at C1
  rw [hcd, decide_eq_false (by decide : ¬ (1 : Int) = 0), Bool.not_false] at C2
  clear c1 ha
  clear hlc
  go_enter Tryz.func51, Tryz.ntmps51
  go_wp2_with fail
  try rw [hbe]
  go_wp2_with fail
  refine (C1 _).mono ?_
  rintro e w1 ⟨rfl, hb1⟩
  obtain ⟨hc1, hf1, hz1⟩ := bkeep hb1 (w.heap.size + 1) (by first | omega | (simp <;> omega))
  go_wp2_with fail
  rw [happ.out]
  go_wp2_with fail
  refine (C2 _).mono ?_
  rintro e w2 ⟨rfl, hb2⟩
  obtain ⟨hc2, hf2, hz2⟩ := bkeep hb2 (w.heap.size + 1) (by first | omega | (simp <;> omega))
  go_wp2
  refine bodyPost_ret (v := _) ?_ rfl ⟨rfl, by (repeat (first | (with_reducible exact Below.refl _ _) | (with_reducible refine Below.alloc ?_ (by first | omega | (dsimp only; omega) | (simp <;> omega)) _) | (with_reducible refine Below.setCell ?_ (by first | omega | (dsimp only; omega) | (simp <;> omega)) _) | (with_reducible refine Below.drew ?_) | (with_reducible refine below_drewN ?_ _) | (with_reducible refine Below.trans ?_ (Below.mono (by assumption) (by first | omega | (dsimp only; omega) | (simp <;> omega))))))⟩
  first | (simp [results, Tryz.results51, go_sem, *]; done) | (simp [results, Tryz.results51, go_sem, *]; omega)
set_option maxHeartbeats 1000000 in
theorem lfirst_code_some_end (l : List UInt8) (c : UInt8) (r : List UInt8) (hlc : l = c :: r) (hl : l.length ≤ 140737488355327) (c1 : isDig c = false) (_c2 : ¬ c.toNat = 34) (c3 : c.toNat = 35) (a : List UInt8) (ha : l.takeWhile bangB = a) (hend : a.length = l.length) (k : Int) (hcd : codeOf ⟨(a ++ [33]).toArray⟩ = k) (hk0 : k ≠ 0) (hk1 : k ≠ 1) (w : World) : Calls Tryz.prog 51 #[.string ⟨l.toArray⟩] w fun e w' => e = .returned (.tuple #[.agg #[.int .i64 8, .int .i64 0, .int .i64 0, .string ⟨#[]⟩, .int .i64 0, .int .i64 0, .int .i64 0, .int .i64 0, .int .i64 0, .int .i64 0, .int .i64 0], .int .i64 0]) ∧ Below w.heap.size w w' := by
  have hb0 : 0 < (⟨l.toArray⟩ : ByteArray).size := by show 0 < l.toArray.size; rw [hlc]; simp
  have hbe : (⟨l.toArray⟩ : ByteArray)[0]'hb0 = c := by subst hlc; rfl
  have hne : ((⟨l.toArray⟩ : ByteArray) = ⟨#[]⟩) = False := by rw [show (⟨#[]⟩ : ByteArray) = ⟨([] : List UInt8).toArray⟩ from rfl, list_bytes, hlc]; exact eq_false (by simp)
  have d1 : c.toNat < 48 := by omega
  have hal : a.length ≤ l.length := by rw [← ha]; exact takeWhile_le bangB l
  have happ := Lib.hid (show (⟨a.toArray⟩ : ByteArray) ++ ⟨#[33]⟩ = ⟨(a ++ [33]).toArray⟩ from bytes_append a [33])
  have C2 := named_any ⟨(a ++ [33]).toArray⟩
  have hi : Lib.indexByte l 33 = -1 := idx_absent l 33 (fun hm => by
    have : l.takeWhile bangB = l := by
      have h1 := takeWhile_take bangB l
      rw [ha, hend, List.take_length] at h1
      rw [ha]; exact h1
    have h2 := takeWhile_all bangB l
    rw [this] at h2
    have := List.all_eq_true.1 h2 33 hm
    simp [bangB] at this)
  have C1 := scut0 l 33 hi
  have hal2 : l = a := by
    have h1 := takeWhile_take bangB l
    rw [ha, hend, List.take_length] at h1
    exact h1.symm
  have hal3 := hal2.symm
  clear hal2
  subst hal3
  rw [hcd, decide_eq_false hk0, Bool.not_false] at C2
  clear c1 ha
  clear hlc
  go_enter Tryz.func51, Tryz.ntmps51
  go_wp2_with fail
  try rw [hbe]
  go_wp2_with fail
  refine (C1 _).mono ?_
  rintro e w1 ⟨rfl, hb1⟩
  obtain ⟨hc1, hf1, hz1⟩ := bkeep hb1 (w.heap.size + 1) (by first | omega | (simp <;> omega))
  go_wp2_with fail
  rw [happ.out]
  go_wp2_with fail
  refine (C2 _).mono ?_
  rintro e w2 ⟨rfl, hb2⟩
  obtain ⟨hc2, hf2, hz2⟩ := bkeep hb2 (w.heap.size + 1) (by first | omega | (simp <;> omega))
  go_wp2
  refine bodyPost_ret (v := _) ?_ rfl ⟨rfl, by (repeat (first | (with_reducible exact Below.refl _ _) | (with_reducible refine Below.alloc ?_ (by first | omega | (dsimp only; omega) | (simp <;> omega)) _) | (with_reducible refine Below.setCell ?_ (by first | omega | (dsimp only; omega) | (simp <;> omega)) _) | (with_reducible refine Below.drew ?_) | (with_reducible refine below_drewN ?_ _) | (with_reducible refine Below.trans ?_ (Below.mono (by assumption) (by first | omega | (dsimp only; omega) | (simp <;> omega))))))⟩
  first | (simp [results, Tryz.results51, go_sem, *]; done) | (simp [results, Tryz.results51, go_sem, *]; omega)
set_option maxHeartbeats 1000000 in
theorem lfirst_code_some_more (l : List UInt8) (c : UInt8) (r : List UInt8) (hlc : l = c :: r) (hl : l.length ≤ 140737488355327) (c1 : isDig c = false) (_c2 : ¬ c.toNat = 34) (c3 : c.toNat = 35) (a : List UInt8) (ha : l.takeWhile bangB = a) (hend : a.length < l.length) (k : Int) (hcd : codeOf ⟨(a ++ [33]).toArray⟩ = k) (hk0 : k ≠ 0) (hk1 : k ≠ 1) (w : World) : Calls Tryz.prog 51 #[.string ⟨l.toArray⟩] w fun e w' => e = .returned (.tuple #[.agg #[.int .i64 6, .int .i64 0, .int .i64 0, .string ⟨#[]⟩, .int .i64 0, .int .i64 0, .int .i64 0, .int .i64 0, .int .i64 0, .int .i64 0, .int .i64 k], .int .i64 ((a.length + 1 : Nat) : Int)]) ∧ Below w.heap.size w w' := by
  have hb0 : 0 < (⟨l.toArray⟩ : ByteArray).size := by show 0 < l.toArray.size; rw [hlc]; simp
  have hbe : (⟨l.toArray⟩ : ByteArray)[0]'hb0 = c := by subst hlc; rfl
  have hne : ((⟨l.toArray⟩ : ByteArray) = ⟨#[]⟩) = False := by rw [show (⟨#[]⟩ : ByteArray) = ⟨([] : List UInt8).toArray⟩ from rfl, list_bytes, hlc]; exact eq_false (by simp)
  have d1 : c.toNat < 48 := by omega
  have hal : a.length ≤ l.length := by rw [← ha]; exact takeWhile_le bangB l
  have happ := Lib.hid (show (⟨a.toArray⟩ : ByteArray) ++ ⟨#[33]⟩ = ⟨(a ++ [33]).toArray⟩ from bytes_append a [33])
  have C2 := named_any ⟨(a ++ [33]).toArray⟩
  have hgt : l[a.length].toNat = 33 := by
    have := twg_out bangB l (by rw [ha]; exact hend)
    simp only [ha] at this
    simpa [bangB] using this
  have hi : Lib.indexByte l 33 = (a.length : Int) := idx_of (by rw [List.getElem?_eq_getElem hend, ← UInt8.toNat_inj.1 (show l[a.length].toNat = (33 : UInt8).toNat from hgt)]) (fun k hk => by
    rw [List.getElem?_eq_getElem (by omega)]
    have := twg_in bangB l k (by rw [ha]; exact hk) (by omega)
    intro h
    injection h with h
    rw [h] at this
    simp [bangB] at this)
  have hta : l.take a.length = a := by rw [← ha, ← takeWhile_take]
  have C1 := scut1 l 33 a.length hi hend (by omega)
  rw [hta] at C1
  rw [hcd, decide_eq_false hk0, Bool.not_false] at C2
  clear c1 ha
  clear hlc
  go_enter Tryz.func51, Tryz.ntmps51
  go_wp2_with fail
  try rw [hbe]
  go_wp2_with fail
  refine (C1 _).mono ?_
  rintro e w1 ⟨rfl, hb1⟩
  obtain ⟨hc1, hf1, hz1⟩ := bkeep hb1 (w.heap.size + 1) (by first | omega | (simp <;> omega))
  go_wp2_with fail
  rw [happ.out]
  go_wp2_with fail
  refine (C2 _).mono ?_
  rintro e w2 ⟨rfl, hb2⟩
  obtain ⟨hc2, hf2, hz2⟩ := bkeep hb2 (w.heap.size + 1) (by first | omega | (simp <;> omega))
  go_wp2
  refine bodyPost_ret (v := _) ?_ rfl ⟨rfl, by (repeat (first | (with_reducible exact Below.refl _ _) | (with_reducible refine Below.alloc ?_ (by first | omega | (dsimp only; omega) | (simp <;> omega)) _) | (with_reducible refine Below.setCell ?_ (by first | omega | (dsimp only; omega) | (simp <;> omega)) _) | (with_reducible refine Below.drew ?_) | (with_reducible refine below_drewN ?_ _) | (with_reducible refine Below.trans ?_ (Below.mono (by assumption) (by first | omega | (dsimp only; omega) | (simp <;> omega))))))⟩
  first | (simp [results, Tryz.results51, go_sem, *]; done) | (simp [results, Tryz.results51, go_sem, *]; omega)
theorem lfirst (l : List UInt8) (hl : l.length ≤ 140737488355327) (x : Tok) (n : Nat) (hx : firstT l = (x, n)) (w : World) : Calls Tryz.prog 51 #[.string ⟨l.toArray⟩] w fun e w' => e = .returned (.tuple #[.agg #[.int .i64 x.kind, .int .i64 x.place, .int .i64 x.num, .string x.str, .int .i64 x.r, .int .i64 x.c, .int .i64 x.t, .int .i64 x.l, .int .i64 x.b, .int .i64 x.q, .int .i64 x.code], .int .i64 (n : Int)]) ∧ Below w.heap.size w w' := by
  obtain ⟨l', hl'⟩ : ∃ l', l' = l := ⟨_, rfl⟩
  cases l with
  | nil => cases hx; exact lfirst_end w
  | cons c r =>
    simp only [firstT] at hx
    rw [← hl'] at hx hl ⊢
    split at hx
    · rename_i c1
      unfold nuT at hx
      split at hx
      · rename_i h; cases hx; exact lfirst_num_true l' c r hl' hl c1 _ rfl _ rfl h w
      · rename_i h; cases hx; exact lfirst_num_false l' c r hl' hl c1 _ rfl _ rfl (by simpa using h) w
    rename_i c1
    have c1 : isDig c = false := by simpa using c1
    split at hx
    · rename_i c2; exact lfirst_text l' c r hl' hl c1 c2 x n hx w
    rename_i c2
    split at hx
    · rename_i c3
      have hle := takeWhile_le bangB l'
      unfold codeT at hx
      split at hx
      · rename_i h
        cases hx
        exact lfirst_code_some_more l' c r hl' hl c1 c2 c3 _ rfl h.2.2 _ rfl h.1 h.2.1 w
      · rename_i h
        cases hx
        by_cases h3 : (l'.takeWhile bangB).length < l'.length
        · by_cases h1 : codeOf ⟨(l'.takeWhile bangB ++ [33]).toArray⟩ = 0
          · exact lfirst_code_zero_more l' c r hl' hl c1 c2 c3 _ rfl h3 h1 w
          · by_cases h2 : codeOf ⟨(l'.takeWhile bangB ++ [33]).toArray⟩ = 1
            · exact lfirst_code_one_more l' c r hl' hl c1 c2 c3 _ rfl h3 h2 w
            · exact absurd ⟨h1, h2, h3⟩ h
        · by_cases h1 : codeOf ⟨(l'.takeWhile bangB ++ [33]).toArray⟩ = 0
          · exact lfirst_code_zero_end l' c r hl' hl c1 c2 c3 _ rfl (by omega) h1 w
          · by_cases h2 : codeOf ⟨(l'.takeWhile bangB ++ [33]).toArray⟩ = 1
            · exact lfirst_code_one_end l' c r hl' hl c1 c2 c3 _ rfl (by omega) h2 w
            · exact lfirst_code_some_end l' c r hl' hl c1 c2 c3 _ rfl (by omega) _ rfl h1 h2 w
    rename_i c3
    split at hx
    · rename_i c4; exact lfirst_word l' c r hl' hl c1 c2 c3 c4 x n hx w
    · rename_i c4; exact lfirst_sign l' c r hl' hl c1 c2 c3 (by simpa using c4) x n hx w
end Go.Proofs.YtfbkoieodflcpaaGreatDoor
