/-
  lex: word.
-/
import Derived.Test.YtfbkoieodflcpaaGreatDoorMg3
import Derived.Test.YtfbkoieodflcpaaGreatDoorRows
import Derived.Test.YtfbkoieodflcpaaGreatDoorMg0
import Derived.Test.YtfbkoieodflcpaaGreatDoorProg
import Derived.Test.YtfbkoieodflcpaaGreatDoorShelf
import Derived.Test.YtfbkoieodflcpaaGreatDoorMg4
import Derived.Test.YtfbkoieodflcpaaGreatDoorAddrC
import Derived.Test.YtfbkoieodflcpaaGreatDoorMg6
import Derived.Test.YtfbkoieodflcpaaGreatDoorValA
import Derived.Test.YtfbkoieodflcpaaGreatDoorValB
import Derived.Test.YtfbkoieodflcpaaGreatDoorMg9
import Derived.Test.YtfbkoieodflcpaaGreatDoorMg26
import Derived.Test.YtfbkoieodflcpaaGreatDoorMg11
import Derived.WalkSpells
import Derived.WalkLawsBesides
import Derived.StillTactics
import Derived.Laws.Pointers
import Derived.Deep.RegionHeld3
import Derived.Deep.QuietTactic
import Derived.BigQuiet
import Derived.RowKit3
import Derived.Lib.Hide
import Derived.Lib.OthersKept
import Derived.OwnWalk
import Derived.Lib.IndexLaws
import Derived.Lib.ItoaMem
import Derived.Lib.TrimByte
import Derived.Lib.SlTrimSet
import Derived.Lib.ParseIntB
import Derived.WalkKit
import Derived.ProofKit
import Derived.OpenShut
import Derived.Carry
import Derived.ChangeSame
import Derived.Deep.Draws
import Derived.Shelf.Strings.Builder1
import Derived.Shelf.Strings.Builder2
import Derived.Shelf.Strings.Trim
import Derived.Shelf.Small.Utf8
import Derived.Shelf.Small.Strs
import Derived.Shelf.Small.Wraps
import Derived.Shelf.Strings.BuilderF
import Derived.Shelf.Strings.BuilderK
import Derived.Shelf.Utf8.RuneCount
import Derived.Shelf.Strconv.Itoa0
import Derived.Shelf.Strconv.Itoa1
import Derived.Shelf.LaysM
import Derived.Shelf.Strconv.Itoa2
import Derived.Shelf.Strconv.Itoa3
import Derived.Ground.MpProg
import Derived.Shelf.Pu.ParseUintPublic10
import Derived.Shelf.Strings.Search1
import Derived.Shelf.Strings.Search2
import Derived.Shelf.Strings.Search3
import Derived.Shelf.Strings.Cut
import Derived.Shelf.Strings.Count
import Derived.Shelf.Strings.Shaped
import Derived.Shelf.Strings.Prefix
import Derived.Shelf.Strings.Split
import Derived.Shelf.Strings.Replace
import Derived.Shelf.Strings.SplitShaped
import Derived.Shelf.Unicode.Decode
import Derived.Shelf.Strings.Runes
import Derived.Shelf.Strings.RuneCount
import Derived.Shelf.Strings.AsciiSet
import Derived.Shelf.Unicode.DecodeSlow
import Derived.Shelf.Unicode.DecodeAny
import Derived.Shelf.Unicode.DecodeLast
import Derived.Lib.ItoaNum
import Derived.Shelf.Strings.SlTrimAscii
namespace Go.Proofs.YtfbkoieodflcpaaGreatDoor
open Go.RowKit

theorem addrparse_l (l : List UInt8) (hm : l.length ≤ 140737488355328) (w : World) : Calls Tryz.prog 124 #[.string ⟨l.toArray⟩] w fun e w' => e = .returned (.tuple #[.agg #[.int .i64 (pRow l), .int .i64 (pCol l)], .bool (pOk l)]) ∧ Below w.heap.size w w' := by
  by_cases h : 6 < l.length
  · have := parse_long ⟨l.toArray⟩ (by show 6 < l.toArray.size; simpa using h) (by show l.toArray.size ≤ _; unfold maxLen; rw [List.size_toArray]; omega) w
    simpa using this
  · have := parse_short ⟨l.toArray⟩ (by show l.toArray.size ≤ 6; rw [List.size_toArray]; omega) w
    simpa using this
set_option maxHeartbeats 1000000 in
theorem lword_all (l W : List UInt8) (k u : Nat) (hl : l.length ≤ 140737488355328) (hW : l.takeWhile partB = W) (hk : W.length = k) (hu : (W.takeWhile upB).length = u) (h : u = k) (w : World) : Calls Tryz.prog 93 #[.string ⟨l.toArray⟩] w fun e w' => e = .returned (.tuple #[.agg #[.int .i64 3, .int .i64 0, .int .i64 0, .string ⟨W.toArray⟩, .int .i64 0, .int .i64 0, .int .i64 0, .int .i64 0, .int .i64 0, .int .i64 0, .int .i64 0], .int .i64 (k : Int)]) ∧ Below w.heap.size w w' := by
  have hkl : k ≤ l.length := by
    have := takeWhile_le partB l
    rw [hW, hk] at this; exact this
  have hWl : W.length ≤ 9223372036854775807 := by omega
  have huk : u ≤ k := by have := takeWhile_le upB W; omega
  have C1 := lrun_part l k (by omega) (by rw [hW, hk])
  have C2 := lrun_up W u hWl hu
  have hx := ext_mid l W 0 k (by rw [List.drop_zero, ← hW, takeWhile_take, hW, hk])
  rw [Nat.zero_add] at hx
  clear hW hu
  go_enter Tryz.func93, Tryz.ntmps93
  go_wp2_with fail
  refine (C1 _).mono ?_
  rintro e w1 ⟨rfl, hb1⟩
  obtain ⟨hc1, hf1, hz1⟩ := bkeep hb1 (w.heap.size + 1) (by first | omega | (simp <;> omega))
  go_wp2_with fail
  try rw [hx]
  go_wp2_with fail
  refine (C2 _).mono ?_
  rintro e w2 ⟨rfl, hb2⟩
  obtain ⟨hc2, hf2, hz2⟩ := bkeep hb2 (w.heap.size + 1) (by first | omega | (simp <;> omega))
  go_wp2
  refine bodyPost_ret (v := _) ?_ rfl ⟨rfl, by (repeat (first | (with_reducible exact Below.refl _ _) | (with_reducible refine Below.alloc ?_ (by first | omega | (dsimp only; omega) | (simp <;> omega)) _) | (with_reducible refine Below.setCell ?_ (by first | omega | (dsimp only; omega) | (simp <;> omega)) _) | (with_reducible refine Below.drew ?_) | (with_reducible refine below_drewN ?_ _) | (with_reducible refine Below.trans ?_ (Below.mono (by assumption) (by first | omega | (dsimp only; omega) | (simp <;> omega))))))⟩
  first | (simp [results, Tryz.results93, go_sem, *]; done) | (simp [results, Tryz.results93, go_sem, *]; omega)
set_option maxHeartbeats 1000000 in
theorem lword_part (l W : List UInt8) (k u : Nat) (hl : l.length ≤ 140737488355328) (hW : l.takeWhile partB = W) (hk : W.length = k) (hu : (W.takeWhile upB).length = u) (q : Nat) (hq : ((W.drop u).takeWhile isDig).length = q) (h : u < k) (h2 : u + q < k) (w : World) : Calls Tryz.prog 93 #[.string ⟨l.toArray⟩] w fun e w' => e = .returned (.tuple #[.agg #[.int .i64 3, .int .i64 0, .int .i64 0, .string ⟨W.toArray⟩, .int .i64 0, .int .i64 0, .int .i64 0, .int .i64 0, .int .i64 0, .int .i64 0, .int .i64 0], .int .i64 (k : Int)]) ∧ Below w.heap.size w w' := by
  have hkl : k ≤ l.length := by
    have := takeWhile_le partB l
    rw [hW, hk] at this; exact this
  have hWl : W.length ≤ 9223372036854775807 := by omega
  have huk : u ≤ k := by have := takeWhile_le upB W; omega
  have C1 := lrun_part l k (by omega) (by rw [hW, hk])
  have C2 := lrun_up W u hWl hu
  have hx := ext_mid l W 0 k (by rw [List.drop_zero, ← hW, takeWhile_take, hW, hk])
  rw [Nat.zero_add] at hx
  have hql : u + q ≤ k := by have := takeWhile_le isDig (W.drop u); rw [hq, List.length_drop] at this; omega
  have C3 := lrun_dig (W.drop u) q (by rw [List.length_drop]; omega) hq
  have hx3 := ext_drop' W u k (by omega)
  have hz0 : ((u : Int) == (k : Int)) = false := by simp; omega
  have hz1 : decide ((u : Int) + (q : Int) < (k : Int)) = true := by simp; omega
  clear hq
  clear hW hu
  go_enter Tryz.func93, Tryz.ntmps93
  go_wp2_with fail
  refine (C1 _).mono ?_
  rintro e w1 ⟨rfl, hb1⟩
  obtain ⟨hc1, hf1, hz1⟩ := bkeep hb1 (w.heap.size + 1) (by first | omega | (simp <;> omega))
  go_wp2_with fail
  try rw [hx]
  go_wp2_with fail
  refine (C2 _).mono ?_
  rintro e w2 ⟨rfl, hb2⟩
  obtain ⟨hc2, hf2, hz2⟩ := bkeep hb2 (w.heap.size + 1) (by first | omega | (simp <;> omega))
  go_wp2_with fail
  try rw [hx3]
  go_wp2_with fail
  refine (C3 _).mono ?_
  rintro e w3 ⟨rfl, hb3⟩
  obtain ⟨hc3, hf3, hz3⟩ := bkeep hb3 (w.heap.size + 1) (by first | omega | (simp <;> omega))
  go_wp2
  refine bodyPost_ret (v := _) ?_ rfl ⟨rfl, by (repeat (first | (with_reducible exact Below.refl _ _) | (with_reducible refine Below.alloc ?_ (by first | omega | (dsimp only; omega) | (simp <;> omega)) _) | (with_reducible refine Below.setCell ?_ (by first | omega | (dsimp only; omega) | (simp <;> omega)) _) | (with_reducible refine Below.drew ?_) | (with_reducible refine below_drewN ?_ _) | (with_reducible refine Below.trans ?_ (Below.mono (by assumption) (by first | omega | (dsimp only; omega) | (simp <;> omega))))))⟩
  first | (simp [results, Tryz.results93, go_sem, *]; done) | (simp [results, Tryz.results93, go_sem, *]; omega)
set_option maxHeartbeats 1000000 in
theorem lword_rect_true (l W : List UInt8) (k u : Nat) (hl : l.length ≤ 140737488355328) (hW : l.takeWhile partB = W) (hk : W.length = k) (hu : (W.takeWhile upB).length = u) (q : Nat) (hq : ((W.drop u).takeWhile isDig).length = q) (h : u < k) (h2 : u + q = k) (k2 : Nat) (hb : k < l.length) (hc : l[k].toNat = 58) (hk2 : ((l.drop (k + 1)).takeWhile partB).length = k2) (Q : List UInt8) (hQ : l.take (k + 1 + k2) = Q) (hqq : qOk Q = true) (w : World) : Calls Tryz.prog 93 #[.string ⟨l.toArray⟩] w fun e w' => e = .returned (.tuple #[.agg #[.int .i64 5, .int .i64 0, .int .i64 0, .string ⟨#[]⟩, .int .i64 0, .int .i64 0, .int .i64 (qT Q), .int .i64 (qL Q), .int .i64 (qB Q), .int .i64 (qR Q), .int .i64 0], .int .i64 ((k + 1 + k2 : Nat) : Int)]) ∧ Below w.heap.size w w' := by
  have hkl : k ≤ l.length := by
    have := takeWhile_le partB l
    rw [hW, hk] at this; exact this
  have hWl : W.length ≤ 9223372036854775807 := by omega
  have huk : u ≤ k := by have := takeWhile_le upB W; omega
  have C1 := lrun_part l k (by omega) (by rw [hW, hk])
  have C2 := lrun_up W u hWl hu
  have hx := ext_mid l W 0 k (by rw [List.drop_zero, ← hW, takeWhile_take, hW, hk])
  rw [Nat.zero_add] at hx
  have hql : u + q ≤ k := by have := takeWhile_le isDig (W.drop u); rw [hq, List.length_drop] at this; omega
  have C3 := lrun_dig (W.drop u) q (by rw [List.length_drop]; omega) hq
  have hx3 := ext_drop' W u k (by omega)
  have hz0 : ((u : Int) == (k : Int)) = false := by simp; omega
  have hz1 : decide ((u : Int) + (q : Int) < (k : Int)) = false := by simp; omega
  have h2' : k ≤ u + q := by omega
  clear h2
  have hbb : k < (⟨l.toArray⟩ : ByteArray).size := by show k < l.toArray.size; simpa using hb
  have hcc : ((⟨l.toArray⟩ : ByteArray)[k]'hbb).toNat = 58 := hc
  have hk2l : k + 1 + k2 ≤ l.length := by
    have := takeWhile_le partB (l.drop (k + 1))
    rw [hk2, List.length_drop] at this; omega
  have C4 := lrun_part (l.drop (k + 1)) k2 (by rw [List.length_drop]; omega) hk2
  have hx4 := ext_drop' l (k + 1) l.length (Nat.le_refl _)
  have hx5 := ext_mid l Q 0 (k + 1 + k2) (by rw [List.drop_zero, hQ])
  rw [Nat.zero_add, Nat.add_assoc] at hx5
  have hQl : Q.length ≤ 9223372036854775807 := by rw [← hQ, List.length_take]; omega
  have C5 := prect_any Q hQl
  rw [hqq] at C5
  clear hq hQ hk2 hc hqq
  clear hW hu
  go_enter Tryz.func93, Tryz.ntmps93
  go_wp2_with fail
  refine (C1 _).mono ?_
  rintro e w1 ⟨rfl, hb1⟩
  obtain ⟨hc1, hf1, hz1⟩ := bkeep hb1 (w.heap.size + 1) (by first | omega | (simp <;> omega))
  go_wp2_with fail
  try rw [hx]
  go_wp2_with fail
  refine (C2 _).mono ?_
  rintro e w2 ⟨rfl, hb2⟩
  obtain ⟨hc2, hf2, hz2⟩ := bkeep hb2 (w.heap.size + 1) (by first | omega | (simp <;> omega))
  go_wp2_with fail
  try rw [hx3]
  go_wp2_with fail
  refine (C3 _).mono ?_
  rintro e w3 ⟨rfl, hb3⟩
  obtain ⟨hc3, hf3, hz3⟩ := bkeep hb3 (w.heap.size + 1) (by first | omega | (simp <;> omega))
  go_wp2_with fail
  try rw [hx4]
  go_wp2_with fail
  refine (C4 _).mono ?_
  rintro e w4 ⟨rfl, hb4⟩
  obtain ⟨hc4, hf4, hz4⟩ := bkeep hb4 (w.heap.size + 1) (by first | omega | (simp <;> omega))
  go_wp2_with fail

  try rw [hx5]
  go_wp2_with fail
  refine (C5 _).mono ?_
  rintro e w5 ⟨rfl, hb5⟩
  obtain ⟨hc5, hf5, hz5⟩ := bkeep hb5 (w.heap.size + 1) (by first | omega | (simp <;> omega))
  have y5 : w.heap.size < w5.heap.size := by omega
  go_wp2
  refine bodyPost_ret (v := _) ?_ rfl ⟨rfl, by (repeat (first | (with_reducible exact Below.refl _ _) | (with_reducible refine Below.alloc ?_ (by first | omega | (dsimp only; omega) | (simp <;> omega)) _) | (with_reducible refine Below.setCell ?_ (by first | omega | (dsimp only; omega) | (simp <;> omega)) _) | (with_reducible refine Below.drew ?_) | (with_reducible refine below_drewN ?_ _) | (with_reducible refine Below.trans ?_ (Below.mono (by assumption) (by first | omega | (dsimp only; omega) | (simp <;> omega))))))⟩
  first | (simp [results, Tryz.results93, go_sem, *]; done) | (simp [results, Tryz.results93, go_sem, *]; omega)
set_option maxHeartbeats 1000000 in
theorem lword_rect_false (l W : List UInt8) (k u : Nat) (hl : l.length ≤ 140737488355328) (hW : l.takeWhile partB = W) (hk : W.length = k) (hu : (W.takeWhile upB).length = u) (q : Nat) (hq : ((W.drop u).takeWhile isDig).length = q) (h : u < k) (h2 : u + q = k) (k2 : Nat) (hb : k < l.length) (hc : l[k].toNat = 58) (hk2 : ((l.drop (k + 1)).takeWhile partB).length = k2) (Q : List UInt8) (hQ : l.take (k + 1 + k2) = Q) (hqq : qOk Q = false) (w : World) : Calls Tryz.prog 93 #[.string ⟨l.toArray⟩] w fun e w' => e = .returned (.tuple #[.agg #[.int .i64 8, .int .i64 0, .int .i64 0, .string ⟨#[]⟩, .int .i64 0, .int .i64 0, .int .i64 0, .int .i64 0, .int .i64 0, .int .i64 0, .int .i64 0], .int .i64 0]) ∧ Below w.heap.size w w' := by
  have hkl : k ≤ l.length := by
    have := takeWhile_le partB l
    rw [hW, hk] at this; exact this
  have hWl : W.length ≤ 9223372036854775807 := by omega
  have huk : u ≤ k := by have := takeWhile_le upB W; omega
  have C1 := lrun_part l k (by omega) (by rw [hW, hk])
  have C2 := lrun_up W u hWl hu
  have hx := ext_mid l W 0 k (by rw [List.drop_zero, ← hW, takeWhile_take, hW, hk])
  rw [Nat.zero_add] at hx
  have hql : u + q ≤ k := by have := takeWhile_le isDig (W.drop u); rw [hq, List.length_drop] at this; omega
  have C3 := lrun_dig (W.drop u) q (by rw [List.length_drop]; omega) hq
  have hx3 := ext_drop' W u k (by omega)
  have hz0 : ((u : Int) == (k : Int)) = false := by simp; omega
  have hz1 : decide ((u : Int) + (q : Int) < (k : Int)) = false := by simp; omega
  have h2' : k ≤ u + q := by omega
  clear h2
  have hbb : k < (⟨l.toArray⟩ : ByteArray).size := by show k < l.toArray.size; simpa using hb
  have hcc : ((⟨l.toArray⟩ : ByteArray)[k]'hbb).toNat = 58 := hc
  have hk2l : k + 1 + k2 ≤ l.length := by
    have := takeWhile_le partB (l.drop (k + 1))
    rw [hk2, List.length_drop] at this; omega
  have C4 := lrun_part (l.drop (k + 1)) k2 (by rw [List.length_drop]; omega) hk2
  have hx4 := ext_drop' l (k + 1) l.length (Nat.le_refl _)
  have hx5 := ext_mid l Q 0 (k + 1 + k2) (by rw [List.drop_zero, hQ])
  rw [Nat.zero_add, Nat.add_assoc] at hx5
  have hQl : Q.length ≤ 9223372036854775807 := by rw [← hQ, List.length_take]; omega
  have C5 := prect_any Q hQl
  rw [hqq] at C5
  clear hq hQ hk2 hc hqq
  clear hW hu
  go_enter Tryz.func93, Tryz.ntmps93
  go_wp2_with fail
  refine (C1 _).mono ?_
  rintro e w1 ⟨rfl, hb1⟩
  obtain ⟨hc1, hf1, hz1⟩ := bkeep hb1 (w.heap.size + 1) (by first | omega | (simp <;> omega))
  go_wp2_with fail
  try rw [hx]
  go_wp2_with fail
  refine (C2 _).mono ?_
  rintro e w2 ⟨rfl, hb2⟩
  obtain ⟨hc2, hf2, hz2⟩ := bkeep hb2 (w.heap.size + 1) (by first | omega | (simp <;> omega))
  go_wp2_with fail
  try rw [hx3]
  go_wp2_with fail
  refine (C3 _).mono ?_
  rintro e w3 ⟨rfl, hb3⟩
  obtain ⟨hc3, hf3, hz3⟩ := bkeep hb3 (w.heap.size + 1) (by first | omega | (simp <;> omega))
  go_wp2_with fail
  try rw [hx4]
  go_wp2_with fail
  refine (C4 _).mono ?_
  rintro e w4 ⟨rfl, hb4⟩
  obtain ⟨hc4, hf4, hz4⟩ := bkeep hb4 (w.heap.size + 1) (by first | omega | (simp <;> omega))
  go_wp2_with fail

  try rw [hx5]
  go_wp2_with fail
  refine (C5 _).mono ?_
  rintro e w5 ⟨rfl, hb5⟩
  obtain ⟨hc5, hf5, hz5⟩ := bkeep hb5 (w.heap.size + 1) (by first | omega | (simp <;> omega))
  have y5 : w.heap.size < w5.heap.size := by omega
  go_wp2
  refine bodyPost_ret (v := _) ?_ rfl ⟨rfl, by (repeat (first | (with_reducible exact Below.refl _ _) | (with_reducible refine Below.alloc ?_ (by first | omega | (dsimp only; omega) | (simp <;> omega)) _) | (with_reducible refine Below.setCell ?_ (by first | omega | (dsimp only; omega) | (simp <;> omega)) _) | (with_reducible refine Below.drew ?_) | (with_reducible refine below_drewN ?_ _) | (with_reducible refine Below.trans ?_ (Below.mono (by assumption) (by first | omega | (dsimp only; omega) | (simp <;> omega))))))⟩
  first | (simp [results, Tryz.results93, go_sem, *]; done) | (simp [results, Tryz.results93, go_sem, *]; omega)
set_option maxHeartbeats 1000000 in
theorem lword_cell_end_true (l W : List UInt8) (k u : Nat) (hl : l.length ≤ 140737488355328) (hW : l.takeWhile partB = W) (hk : W.length = k) (hu : (W.takeWhile upB).length = u) (q : Nat) (hq : ((W.drop u).takeWhile isDig).length = q) (h : u < k) (h2 : u + q = k) (hb : k = l.length) (hqq : pOk W = true) (w : World) : Calls Tryz.prog 93 #[.string ⟨l.toArray⟩] w fun e w' => e = .returned (.tuple #[.agg #[.int .i64 4, .int .i64 0, .int .i64 0, .string ⟨#[]⟩, .int .i64 (pRow W), .int .i64 (pCol W), .int .i64 0, .int .i64 0, .int .i64 0, .int .i64 0, .int .i64 0], .int .i64 (k : Int)]) ∧ Below w.heap.size w w' := by
  have hkl : k ≤ l.length := by
    have := takeWhile_le partB l
    rw [hW, hk] at this; exact this
  have hWl : W.length ≤ 9223372036854775807 := by omega
  have huk : u ≤ k := by have := takeWhile_le upB W; omega
  have C1 := lrun_part l k (by omega) (by rw [hW, hk])
  have C2 := lrun_up W u hWl hu
  have hx := ext_mid l W 0 k (by rw [List.drop_zero, ← hW, takeWhile_take, hW, hk])
  rw [Nat.zero_add] at hx
  have hql : u + q ≤ k := by have := takeWhile_le isDig (W.drop u); rw [hq, List.length_drop] at this; omega
  have C3 := lrun_dig (W.drop u) q (by rw [List.length_drop]; omega) hq
  have hx3 := ext_drop' W u k (by omega)
  have hz0 : ((u : Int) == (k : Int)) = false := by simp; omega
  have hz1 : decide ((u : Int) + (q : Int) < (k : Int)) = false := by simp; omega
  have h2' : k ≤ u + q := by omega
  clear h2
  have hb' : l.length ≤ k := by omega
  clear hb
  have C5 := addrparse_l W (by omega)
  rw [hqq] at C5
  clear hq hqq
  clear hW hu
  go_enter Tryz.func93, Tryz.ntmps93
  go_wp2_with fail
  refine (C1 _).mono ?_
  rintro e w1 ⟨rfl, hb1⟩
  obtain ⟨hc1, hf1, hz1⟩ := bkeep hb1 (w.heap.size + 1) (by first | omega | (simp <;> omega))
  go_wp2_with fail
  try rw [hx]
  go_wp2_with fail
  refine (C2 _).mono ?_
  rintro e w2 ⟨rfl, hb2⟩
  obtain ⟨hc2, hf2, hz2⟩ := bkeep hb2 (w.heap.size + 1) (by first | omega | (simp <;> omega))
  go_wp2_with fail
  try rw [hx3]
  go_wp2_with fail
  refine (C3 _).mono ?_
  rintro e w3 ⟨rfl, hb3⟩
  obtain ⟨hc3, hf3, hz3⟩ := bkeep hb3 (w.heap.size + 1) (by first | omega | (simp <;> omega))
  go_wp2_with fail
  refine (C5 _).mono ?_
  rintro e w5 ⟨rfl, hb5⟩
  obtain ⟨hc5, hf5, hz5⟩ := bkeep hb5 (w.heap.size + 1) (by first | omega | (simp <;> omega))
  have y5 : w.heap.size < w5.heap.size := by omega
  go_wp2
  refine bodyPost_ret (v := _) ?_ rfl ⟨rfl, by (repeat (first | (with_reducible exact Below.refl _ _) | (with_reducible refine Below.alloc ?_ (by first | omega | (dsimp only; omega) | (simp <;> omega)) _) | (with_reducible refine Below.setCell ?_ (by first | omega | (dsimp only; omega) | (simp <;> omega)) _) | (with_reducible refine Below.drew ?_) | (with_reducible refine below_drewN ?_ _) | (with_reducible refine Below.trans ?_ (Below.mono (by assumption) (by first | omega | (dsimp only; omega) | (simp <;> omega))))))⟩
  first | (simp [results, Tryz.results93, go_sem, *]; done) | (simp [results, Tryz.results93, go_sem, *]; omega)
set_option maxHeartbeats 1000000 in
theorem lword_cell_end_false (l W : List UInt8) (k u : Nat) (hl : l.length ≤ 140737488355328) (hW : l.takeWhile partB = W) (hk : W.length = k) (hu : (W.takeWhile upB).length = u) (q : Nat) (hq : ((W.drop u).takeWhile isDig).length = q) (h : u < k) (h2 : u + q = k) (hb : k = l.length) (hqq : pOk W = false) (w : World) : Calls Tryz.prog 93 #[.string ⟨l.toArray⟩] w fun e w' => e = .returned (.tuple #[.agg #[.int .i64 8, .int .i64 0, .int .i64 0, .string ⟨#[]⟩, .int .i64 0, .int .i64 0, .int .i64 0, .int .i64 0, .int .i64 0, .int .i64 0, .int .i64 0], .int .i64 0]) ∧ Below w.heap.size w w' := by
  have hkl : k ≤ l.length := by
    have := takeWhile_le partB l
    rw [hW, hk] at this; exact this
  have hWl : W.length ≤ 9223372036854775807 := by omega
  have huk : u ≤ k := by have := takeWhile_le upB W; omega
  have C1 := lrun_part l k (by omega) (by rw [hW, hk])
  have C2 := lrun_up W u hWl hu
  have hx := ext_mid l W 0 k (by rw [List.drop_zero, ← hW, takeWhile_take, hW, hk])
  rw [Nat.zero_add] at hx
  have hql : u + q ≤ k := by have := takeWhile_le isDig (W.drop u); rw [hq, List.length_drop] at this; omega
  have C3 := lrun_dig (W.drop u) q (by rw [List.length_drop]; omega) hq
  have hx3 := ext_drop' W u k (by omega)
  have hz0 : ((u : Int) == (k : Int)) = false := by simp; omega
  have hz1 : decide ((u : Int) + (q : Int) < (k : Int)) = false := by simp; omega
  have h2' : k ≤ u + q := by omega
  clear h2
  have hb' : l.length ≤ k := by omega
  clear hb
  have C5 := addrparse_l W (by omega)
  rw [hqq] at C5
  clear hq hqq
  clear hW hu
  go_enter Tryz.func93, Tryz.ntmps93
  go_wp2_with fail
  refine (C1 _).mono ?_
  rintro e w1 ⟨rfl, hb1⟩
  obtain ⟨hc1, hf1, hz1⟩ := bkeep hb1 (w.heap.size + 1) (by first | omega | (simp <;> omega))
  go_wp2_with fail
  try rw [hx]
  go_wp2_with fail
  refine (C2 _).mono ?_
  rintro e w2 ⟨rfl, hb2⟩
  obtain ⟨hc2, hf2, hz2⟩ := bkeep hb2 (w.heap.size + 1) (by first | omega | (simp <;> omega))
  go_wp2_with fail
  try rw [hx3]
  go_wp2_with fail
  refine (C3 _).mono ?_
  rintro e w3 ⟨rfl, hb3⟩
  obtain ⟨hc3, hf3, hz3⟩ := bkeep hb3 (w.heap.size + 1) (by first | omega | (simp <;> omega))
  go_wp2_with fail
  refine (C5 _).mono ?_
  rintro e w5 ⟨rfl, hb5⟩
  obtain ⟨hc5, hf5, hz5⟩ := bkeep hb5 (w.heap.size + 1) (by first | omega | (simp <;> omega))
  have y5 : w.heap.size < w5.heap.size := by omega
  go_wp2
  refine bodyPost_ret (v := _) ?_ rfl ⟨rfl, by (repeat (first | (with_reducible exact Below.refl _ _) | (with_reducible refine Below.alloc ?_ (by first | omega | (dsimp only; omega) | (simp <;> omega)) _) | (with_reducible refine Below.setCell ?_ (by first | omega | (dsimp only; omega) | (simp <;> omega)) _) | (with_reducible refine Below.drew ?_) | (with_reducible refine below_drewN ?_ _) | (with_reducible refine Below.trans ?_ (Below.mono (by assumption) (by first | omega | (dsimp only; omega) | (simp <;> omega))))))⟩
  first | (simp [results, Tryz.results93, go_sem, *]; done) | (simp [results, Tryz.results93, go_sem, *]; omega)
set_option maxHeartbeats 1000000 in
theorem lword_cell_more_true (l W : List UInt8) (k u : Nat) (hl : l.length ≤ 140737488355328) (hW : l.takeWhile partB = W) (hk : W.length = k) (hu : (W.takeWhile upB).length = u) (q : Nat) (hq : ((W.drop u).takeWhile isDig).length = q) (h : u < k) (h2 : u + q = k) (hb : k < l.length) (hc : l[k].toNat ≠ 58) (hqq : pOk W = true) (w : World) : Calls Tryz.prog 93 #[.string ⟨l.toArray⟩] w fun e w' => e = .returned (.tuple #[.agg #[.int .i64 4, .int .i64 0, .int .i64 0, .string ⟨#[]⟩, .int .i64 (pRow W), .int .i64 (pCol W), .int .i64 0, .int .i64 0, .int .i64 0, .int .i64 0, .int .i64 0], .int .i64 (k : Int)]) ∧ Below w.heap.size w w' := by
  have hkl : k ≤ l.length := by
    have := takeWhile_le partB l
    rw [hW, hk] at this; exact this
  have hWl : W.length ≤ 9223372036854775807 := by omega
  have huk : u ≤ k := by have := takeWhile_le upB W; omega
  have C1 := lrun_part l k (by omega) (by rw [hW, hk])
  have C2 := lrun_up W u hWl hu
  have hx := ext_mid l W 0 k (by rw [List.drop_zero, ← hW, takeWhile_take, hW, hk])
  rw [Nat.zero_add] at hx
  have hql : u + q ≤ k := by have := takeWhile_le isDig (W.drop u); rw [hq, List.length_drop] at this; omega
  have C3 := lrun_dig (W.drop u) q (by rw [List.length_drop]; omega) hq
  have hx3 := ext_drop' W u k (by omega)
  have hz0 : ((u : Int) == (k : Int)) = false := by simp; omega
  have hz1 : decide ((u : Int) + (q : Int) < (k : Int)) = false := by simp; omega
  have h2' : k ≤ u + q := by omega
  clear h2
  have hbb : k < (⟨l.toArray⟩ : ByteArray).size := by show k < l.toArray.size; simpa using hb
  have hcc : ((⟨l.toArray⟩ : ByteArray)[k]'hbb).toNat ≠ 58 := hc
  have C5 := addrparse_l W (by omega)
  rw [hqq] at C5
  clear hq hqq hc
  clear hW hu
  go_enter Tryz.func93, Tryz.ntmps93
  go_wp2_with fail
  refine (C1 _).mono ?_
  rintro e w1 ⟨rfl, hb1⟩
  obtain ⟨hc1, hf1, hz1⟩ := bkeep hb1 (w.heap.size + 1) (by first | omega | (simp <;> omega))
  go_wp2_with fail
  try rw [hx]
  go_wp2_with fail
  refine (C2 _).mono ?_
  rintro e w2 ⟨rfl, hb2⟩
  obtain ⟨hc2, hf2, hz2⟩ := bkeep hb2 (w.heap.size + 1) (by first | omega | (simp <;> omega))
  go_wp2_with fail
  try rw [hx3]
  go_wp2_with fail
  refine (C3 _).mono ?_
  rintro e w3 ⟨rfl, hb3⟩
  obtain ⟨hc3, hf3, hz3⟩ := bkeep hb3 (w.heap.size + 1) (by first | omega | (simp <;> omega))
  go_wp2_with fail
  refine (C5 _).mono ?_
  rintro e w5 ⟨rfl, hb5⟩
  obtain ⟨hc5, hf5, hz5⟩ := bkeep hb5 (w.heap.size + 1) (by first | omega | (simp <;> omega))
  have y5 : w.heap.size < w5.heap.size := by omega
  go_wp2
  refine bodyPost_ret (v := _) ?_ rfl ⟨rfl, by (repeat (first | (with_reducible exact Below.refl _ _) | (with_reducible refine Below.alloc ?_ (by first | omega | (dsimp only; omega) | (simp <;> omega)) _) | (with_reducible refine Below.setCell ?_ (by first | omega | (dsimp only; omega) | (simp <;> omega)) _) | (with_reducible refine Below.drew ?_) | (with_reducible refine below_drewN ?_ _) | (with_reducible refine Below.trans ?_ (Below.mono (by assumption) (by first | omega | (dsimp only; omega) | (simp <;> omega))))))⟩
  first | (simp [results, Tryz.results93, go_sem, *]; done) | (simp [results, Tryz.results93, go_sem, *]; omega)
set_option maxHeartbeats 1000000 in
theorem lword_cell_more_false (l W : List UInt8) (k u : Nat) (hl : l.length ≤ 140737488355328) (hW : l.takeWhile partB = W) (hk : W.length = k) (hu : (W.takeWhile upB).length = u) (q : Nat) (hq : ((W.drop u).takeWhile isDig).length = q) (h : u < k) (h2 : u + q = k) (hb : k < l.length) (hc : l[k].toNat ≠ 58) (hqq : pOk W = false) (w : World) : Calls Tryz.prog 93 #[.string ⟨l.toArray⟩] w fun e w' => e = .returned (.tuple #[.agg #[.int .i64 8, .int .i64 0, .int .i64 0, .string ⟨#[]⟩, .int .i64 0, .int .i64 0, .int .i64 0, .int .i64 0, .int .i64 0, .int .i64 0, .int .i64 0], .int .i64 0]) ∧ Below w.heap.size w w' := by
  have hkl : k ≤ l.length := by
    have := takeWhile_le partB l
    rw [hW, hk] at this; exact this
  have hWl : W.length ≤ 9223372036854775807 := by omega
  have huk : u ≤ k := by have := takeWhile_le upB W; omega
  have C1 := lrun_part l k (by omega) (by rw [hW, hk])
  have C2 := lrun_up W u hWl hu
  have hx := ext_mid l W 0 k (by rw [List.drop_zero, ← hW, takeWhile_take, hW, hk])
  rw [Nat.zero_add] at hx
  have hql : u + q ≤ k := by have := takeWhile_le isDig (W.drop u); rw [hq, List.length_drop] at this; omega
  have C3 := lrun_dig (W.drop u) q (by rw [List.length_drop]; omega) hq
  have hx3 := ext_drop' W u k (by omega)
  have hz0 : ((u : Int) == (k : Int)) = false := by simp; omega
  have hz1 : decide ((u : Int) + (q : Int) < (k : Int)) = false := by simp; omega
  have h2' : k ≤ u + q := by omega
  clear h2
  have hbb : k < (⟨l.toArray⟩ : ByteArray).size := by show k < l.toArray.size; simpa using hb
  have hcc : ((⟨l.toArray⟩ : ByteArray)[k]'hbb).toNat ≠ 58 := hc
  have C5 := addrparse_l W (by omega)
  rw [hqq] at C5
  clear hq hqq hc
  clear hW hu
  go_enter Tryz.func93, Tryz.ntmps93
  go_wp2_with fail
  refine (C1 _).mono ?_
  rintro e w1 ⟨rfl, hb1⟩
  obtain ⟨hc1, hf1, hz1⟩ := bkeep hb1 (w.heap.size + 1) (by first | omega | (simp <;> omega))
  go_wp2_with fail
  try rw [hx]
  go_wp2_with fail
  refine (C2 _).mono ?_
  rintro e w2 ⟨rfl, hb2⟩
  obtain ⟨hc2, hf2, hz2⟩ := bkeep hb2 (w.heap.size + 1) (by first | omega | (simp <;> omega))
  go_wp2_with fail
  try rw [hx3]
  go_wp2_with fail
  refine (C3 _).mono ?_
  rintro e w3 ⟨rfl, hb3⟩
  obtain ⟨hc3, hf3, hz3⟩ := bkeep hb3 (w.heap.size + 1) (by first | omega | (simp <;> omega))
  go_wp2_with fail
  refine (C5 _).mono ?_
  rintro e w5 ⟨rfl, hb5⟩
  obtain ⟨hc5, hf5, hz5⟩ := bkeep hb5 (w.heap.size + 1) (by first | omega | (simp <;> omega))
  have y5 : w.heap.size < w5.heap.size := by omega
  go_wp2
  refine bodyPost_ret (v := _) ?_ rfl ⟨rfl, by (repeat (first | (with_reducible exact Below.refl _ _) | (with_reducible refine Below.alloc ?_ (by first | omega | (dsimp only; omega) | (simp <;> omega)) _) | (with_reducible refine Below.setCell ?_ (by first | omega | (dsimp only; omega) | (simp <;> omega)) _) | (with_reducible refine Below.drew ?_) | (with_reducible refine below_drewN ?_ _) | (with_reducible refine Below.trans ?_ (Below.mono (by assumption) (by first | omega | (dsimp only; omega) | (simp <;> omega))))))⟩
  first | (simp [results, Tryz.results93, go_sem, *]; done) | (simp [results, Tryz.results93, go_sem, *]; omega)
theorem lword (l : List UInt8) (c : UInt8) (r : List UInt8) (hlc : l = c :: r) (hu : upB c = true) (hl : l.length ≤ 140737488355328) (x : Tok) (n : Nat) (hx : wordT l = (x, n)) (w : World) : Calls Tryz.prog 93 #[.string ⟨l.toArray⟩] w fun e w' => e = .returned (.tuple #[.agg #[.int .i64 x.kind, .int .i64 x.place, .int .i64 x.num, .string x.str, .int .i64 x.r, .int .i64 x.c, .int .i64 x.t, .int .i64 x.l, .int .i64 x.b, .int .i64 x.q, .int .i64 x.code], .int .i64 (n : Int)]) ∧ Below w.heap.size w w' := by
  have hle := takeWhile_le partB l
  have hf := meant_form (l.takeWhile partB) _ _ rfl rfl
  have h0 : 0 < ((l.takeWhile partB).takeWhile upB).length := by
    rw [hlc, List.takeWhile_cons, if_pos (by simp [partB, hu]), List.takeWhile_cons, if_pos hu]; simp
  have hul := takeWhile_le upB (l.takeWhile partB)
  have hql := takeWhile_le isDig ((l.takeWhile partB).drop ((l.takeWhile partB).takeWhile upB).length)
  rw [List.length_drop] at hql
  unfold wordT at hx
  split at hx
  · rename_i hm
    rw [hf] at hm
    simp only [Bool.and_eq_true, decide_eq_true_eq] at hm
    split at hx
    · rename_i hc
      have hb : (l.takeWhile partB).length < l.length := by
        refine Nat.lt_of_not_le fun h => ?_
        unfold colonB at hc
        rw [List.drop_eq_nil_of_le h] at hc
        simp at hc
      have hc' : l[(l.takeWhile partB).length].toNat = 58 := by
        unfold colonB at hc
        rw [List.head?_drop, List.getElem?_eq_getElem hb] at hc
        simpa using hc
      split at hx
      · rename_i hq; cases hx
        exact lword_rect_true l _ _ _ hl rfl rfl rfl _ rfl hm.1 hm.2 _ hb hc' rfl _ rfl hq w
      · rename_i hq; cases hx
        exact lword_rect_false l _ _ _ hl rfl rfl rfl _ rfl hm.1 hm.2 _ hb hc' rfl _ rfl (Bool.not_eq_true _ ▸ hq) w
    · rename_i hc
      by_cases hb : (l.takeWhile partB).length < l.length
      · have hc' : l[(l.takeWhile partB).length].toNat ≠ 58 := fun h => hc (by
          unfold colonB
          rw [List.head?_drop, List.getElem?_eq_getElem hb]
          simpa using h)
        split at hx
        · rename_i hq; cases hx; exact lword_cell_more_true l _ _ _ hl rfl rfl rfl _ rfl hm.1 hm.2 hb hc' hq w
        · rename_i hq; cases hx; exact lword_cell_more_false l _ _ _ hl rfl rfl rfl _ rfl hm.1 hm.2 hb hc' (by simpa using hq) w
      · split at hx
        · rename_i hq; cases hx; exact lword_cell_end_true l _ _ _ hl rfl rfl rfl _ rfl hm.1 hm.2 (by omega) hq w
        · rename_i hq; cases hx; exact lword_cell_end_false l _ _ _ hl rfl rfl rfl _ rfl hm.1 hm.2 (by omega) (by simpa using hq) w
  · rename_i hm
    cases hx
    rw [hf] at hm
    simp only [Bool.and_eq_true, decide_eq_true_eq, not_and] at hm
    by_cases h1 : ((l.takeWhile partB).takeWhile upB).length < (l.takeWhile partB).length
    · exact lword_part l _ _ _ hl rfl rfl rfl _ rfl h1 (by have := hm h1; omega) w
    · exact lword_all l _ _ _ hl rfl rfl rfl (by omega) w
end Go.Proofs.YtfbkoieodflcpaaGreatDoor
