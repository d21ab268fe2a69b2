/-
  orielref04: name.
-/
import Derived.Test.YtiekhbagpmnboaaGreatDoorPrintL
import Derived.Test.YtiekhbagpmnboaaGreatDoorNumL
import Derived.Test.YtiekhbagpmnboaaGreatDoorRows
import Derived.Test.YtiekhbagpmnboaaGreatDoorBase
import Derived.Test.YtiekhbagpmnboaaGreatDoorProg
import Derived.Test.YtiekhbagpmnboaaGreatDoorShelf
import Derived.Test.YtiekhbagpmnboaaGreatDoorCutW
import Derived.Test.YtiekhbagpmnboaaGreatDoorAddrC
import Derived.Test.YtiekhbagpmnboaaGreatDoorNames
import Derived.Test.YtiekhbagpmnboaaGreatDoorParseW
import Derived.Test.YtiekhbagpmnboaaGreatDoorPRect
import Derived.Test.YtiekhbagpmnboaaGreatDoorDecA
import Derived.Test.YtiekhbagpmnboaaGreatDoorValA
import Derived.Test.YtiekhbagpmnboaaGreatDoorValB
import Derived.Test.YtiekhbagpmnboaaGreatDoorValD
import Derived.Test.YtiekhbagpmnboaaGreatDoorLexP
import Derived.Test.YtiekhbagpmnboaaGreatDoorRefName
import Derived.Test.YtiekhbagpmnboaaGreatDoorLexR
import Derived.Test.YtiekhbagpmnboaaGreatDoorRParse
import Derived.Test.YtiekhbagpmnboaaGreatDoorRPRect
import Derived.WalkSpells
import Derived.WalkLawsBesides
import Derived.StillTactics
import Derived.Laws.Pointers
import Derived.Deep.RegionHeld3
import Derived.Deep.QuietTactic
import Derived.BigQuiet
import Derived.RowKit3
import Derived.Lib.Hide
import Derived.Lib.OthersKept
import Derived.OwnWalk
import Derived.Lib.IndexLaws
import Derived.Lib.ItoaMem
import Derived.Lib.TrimByte
import Derived.Lib.SlTrimSet
import Derived.Lib.ParseIntB
import Derived.WalkKit
import Derived.ProofKit
import Derived.OpenShut
import Derived.Carry
import Derived.ChangeSame
import Derived.Deep.Draws
import Derived.Shelf.Strings.Builder1
import Derived.Shelf.Strings.Trim
import Derived.Shelf.Small.Utf8
import Derived.Shelf.Small.Strs
import Derived.Shelf.Small.Wraps
import Derived.Shelf.Strings.BuilderF
import Derived.Shelf.Strings.BuilderK
import Derived.Shelf.Strconv.Itoa0
import Derived.Shelf.Strconv.Itoa1
import Derived.Shelf.LaysM
import Derived.Shelf.Strconv.Itoa2
import Derived.Shelf.Strconv.Itoa3
import Derived.Ground.MpProg
import Derived.Shelf.Pu.ParseUintPublic10
import Derived.Shelf.Strings.Search1
import Derived.Shelf.Strings.Search2
import Derived.Shelf.Strings.Cut
import Derived.Shelf.Strings.Shaped
import Derived.Shelf.Strings.Prefix
import Derived.Shelf.Strings.Runes
import Derived.Shelf.Strings.AsciiSet
import Derived.Shelf.Unicode.DecodeSlow
import Derived.Lib.ItoaNum
namespace Go.Proofs.YtiekhbagpmnboaaGreatDoor
open Go.RowKit

set_option maxHeartbeats 1000000 in
theorem r4name_word (l W : List UInt8) (at' k : Nat) (hl : l.length ≤ 9223372036854775000) (ha : at' ≤ l.length) (hW : (l.drop at').takeWhile partB = W) (hk : W.length = k) (h0 : 0 < (W.takeWhile upB).length) (hm : meantB W = false) (w : World) : Calls Tryz.prog 37 #[.string ⟨l.toArray⟩, .int .i64 (at' : Int)] w fun e w' => e = .returned (.tuple #[.agg #[.int .i64 3, .int .i64 (at' : Int), .int .i64 0, .string ⟨W.toArray⟩, .int .i64 0, .int .i64 0, .int .i64 0, .int .i64 0, .int .i64 0, .int .i64 0, .int .i64 0], .int .i64 ((at' + k : Nat) : Int)]) ∧ Below w.heap.size w w' := by
  have hWl : W.length ≤ 9223372036854775807 := by have := takeWhile_le partB (l.drop at'); rw [hW, List.length_drop] at this; omega
  have hkl : at' + k ≤ l.length := by
    have := takeWhile_le partB (l.drop at')
    rw [hW, hk] at this
    simp at this; omega
  have CW := r4word l at' k (by omega) ha (by rw [hW, hk])
  have hx := ext_mid l W at' k (by rw [← hW, takeWhile_take, hW, hk])
  have CM := r4meant W false hWl h0 hm
  clear hW hk h0 hm
  go_enter Tryz.func37, Tryz.ntmps37
  go_wp2_with fail
  refine (CW _).mono ?_
  rintro e w1 ⟨rfl, rfl⟩
  go_wp2_with fail
  rw [hx]
  refine (CM _).mono ?_
  rintro e w1 ⟨rfl, rfl⟩
  go_wp2
  refine bodyPost_ret (v := _) ?_ rfl ⟨rfl, by (repeat (first | (with_reducible exact Below.refl _ _) | (with_reducible refine Below.alloc ?_ (by first | omega | (dsimp only; omega) | (simp <;> omega)) _) | (with_reducible refine Below.setCell ?_ (by first | omega | (dsimp only; omega) | (simp <;> omega)) _) | (with_reducible refine Below.drew ?_) | (with_reducible refine below_drewN ?_ _) | (with_reducible refine Below.trans ?_ (Below.mono (by assumption) (by first | omega | (dsimp only; omega) | (simp <;> omega))))))⟩
  first | (simp [results, Tryz.results37, go_sem, *]; done) | (simp [results, Tryz.results37, go_sem, *]; omega)
set_option maxHeartbeats 1000000 in
theorem r4name_rect_true (l W : List UInt8) (at' k : Nat) (hl : l.length ≤ 9223372036854775000) (ha : at' ≤ l.length) (hW : (l.drop at').takeWhile partB = W) (hk : W.length = k) (h0 : 0 < (W.takeWhile upB).length) (hm : meantB W = true) (k2 : Nat) (hb : at' + k < l.length) (hc : l[at' + k].toNat = 58) (hk2 : ((l.drop (at' + k + 1)).takeWhile partB).length = k2) (Q : List UInt8) (hQ : (l.drop at').take (k + 1 + k2) = Q) (hq : qOk Q = true) (w : World) : Calls Tryz.prog 37 #[.string ⟨l.toArray⟩, .int .i64 (at' : Int)] w fun e w' => e = .returned (.tuple #[.agg #[.int .i64 5, .int .i64 (at' : Int), .int .i64 0, .string ⟨#[]⟩, .int .i64 0, .int .i64 0, .int .i64 (qT Q), .int .i64 (qL Q), .int .i64 (qB Q), .int .i64 (qR Q), .int .i64 0], .int .i64 ((at' + (k + 1 + k2) : Nat) : Int)]) ∧ Below w.heap.size w w' := by
  have hWl : W.length ≤ 9223372036854775807 := by have := takeWhile_le partB (l.drop at'); rw [hW, List.length_drop] at this; omega
  have hkl : at' + k ≤ l.length := by
    have := takeWhile_le partB (l.drop at')
    rw [hW, hk] at this
    simp at this; omega
  have CW := r4word l at' k (by omega) ha (by rw [hW, hk])
  have hx := ext_mid l W at' k (by rw [← hW, takeWhile_take, hW, hk])
  have CM := r4meant W true hWl h0 hm
  have hbb : at' + k < (⟨l.toArray⟩ : ByteArray).size := by show at' + k < l.toArray.size; simpa using hb
  have hcc : ((⟨l.toArray⟩ : ByteArray)[at' + k]'hbb).toNat = 58 := hc
  have hk2l : at' + k + 1 + k2 ≤ l.length := by
    have := takeWhile_le partB (l.drop (at' + k + 1))
    rw [hk2, List.length_drop] at this; omega
  have CW2 := r4word l (at' + k + 1) k2 (by omega) (by omega) hk2
  have hx2 := ext_mid l Q at' (k + 1 + k2) hQ
  rw [show at' + (k + 1 + k2) = at' + k + 1 + k2 by omega] at hx2
  have hQl : Q.length ≤ 9223372036854775807 := by rw [← hQ, List.length_take, List.length_drop]; omega
  have CQ := rprect_any Q hQl
  rw [hq] at CQ
  try rw [show at' + (k + 1 + k2) = at' + k + 1 + k2 by omega]
  clear hW hk h0 hm hQ hk2 hc hq
  go_enter Tryz.func37, Tryz.ntmps37
  go_wp2_with fail
  refine (CW _).mono ?_
  rintro e w1 ⟨rfl, rfl⟩
  go_wp2_with fail
  rw [hx]
  refine (CM _).mono ?_
  rintro e w1 ⟨rfl, rfl⟩
  go_wp2_with fail
  refine (CW2 _).mono ?_
  rintro e w1 ⟨rfl, rfl⟩
  go_wp2_with fail
  rw [hx2]
  refine (CQ _).mono ?_
  rintro e w1 ⟨rfl, hb1⟩
  obtain ⟨hc1, hf1, hz1⟩ := bkeep hb1 (w.heap.size + 1) (by first | omega | (simp <;> omega))
  have y1 : w.heap.size < w1.heap.size := by omega
  go_wp2
  refine bodyPost_ret (v := _) ?_ rfl ⟨rfl, by (repeat (first | (with_reducible exact Below.refl _ _) | (with_reducible refine Below.alloc ?_ (by first | omega | (dsimp only; omega) | (simp <;> omega)) _) | (with_reducible refine Below.setCell ?_ (by first | omega | (dsimp only; omega) | (simp <;> omega)) _) | (with_reducible refine Below.drew ?_) | (with_reducible refine below_drewN ?_ _) | (with_reducible refine Below.trans ?_ (Below.mono (by assumption) (by first | omega | (dsimp only; omega) | (simp <;> omega))))))⟩
  first | (simp [results, Tryz.results37, go_sem, *]; done) | (simp [results, Tryz.results37, go_sem, *]; omega)
set_option maxHeartbeats 1000000 in
theorem r4name_rect_false (l W : List UInt8) (at' k : Nat) (hl : l.length ≤ 9223372036854775000) (ha : at' ≤ l.length) (hW : (l.drop at').takeWhile partB = W) (hk : W.length = k) (h0 : 0 < (W.takeWhile upB).length) (hm : meantB W = true) (k2 : Nat) (hb : at' + k < l.length) (hc : l[at' + k].toNat = 58) (hk2 : ((l.drop (at' + k + 1)).takeWhile partB).length = k2) (Q : List UInt8) (hQ : (l.drop at').take (k + 1 + k2) = Q) (hq : qOk Q = false) (w : World) : Calls Tryz.prog 37 #[.string ⟨l.toArray⟩, .int .i64 (at' : Int)] w fun e w' => e = .returned (.tuple #[.agg #[.int .i64 8, .int .i64 (at' : Int), .int .i64 0, .string ⟨#[]⟩, .int .i64 0, .int .i64 0, .int .i64 0, .int .i64 0, .int .i64 0, .int .i64 0, .int .i64 0], .int .i64 (at' : Int)]) ∧ Below w.heap.size w w' := by
  have hWl : W.length ≤ 9223372036854775807 := by have := takeWhile_le partB (l.drop at'); rw [hW, List.length_drop] at this; omega
  have hkl : at' + k ≤ l.length := by
    have := takeWhile_le partB (l.drop at')
    rw [hW, hk] at this
    simp at this; omega
  have CW := r4word l at' k (by omega) ha (by rw [hW, hk])
  have hx := ext_mid l W at' k (by rw [← hW, takeWhile_take, hW, hk])
  have CM := r4meant W true hWl h0 hm
  have hbb : at' + k < (⟨l.toArray⟩ : ByteArray).size := by show at' + k < l.toArray.size; simpa using hb
  have hcc : ((⟨l.toArray⟩ : ByteArray)[at' + k]'hbb).toNat = 58 := hc
  have hk2l : at' + k + 1 + k2 ≤ l.length := by
    have := takeWhile_le partB (l.drop (at' + k + 1))
    rw [hk2, List.length_drop] at this; omega
  have CW2 := r4word l (at' + k + 1) k2 (by omega) (by omega) hk2
  have hx2 := ext_mid l Q at' (k + 1 + k2) hQ
  rw [show at' + (k + 1 + k2) = at' + k + 1 + k2 by omega] at hx2
  have hQl : Q.length ≤ 9223372036854775807 := by rw [← hQ, List.length_take, List.length_drop]; omega
  have CQ := rprect_any Q hQl
  rw [hq] at CQ
  try rw [show at' + (k + 1 + k2) = at' + k + 1 + k2 by omega]
  clear hW hk h0 hm hQ hk2 hc hq
  go_enter Tryz.func37, Tryz.ntmps37
  go_wp2_with fail
  refine (CW _).mono ?_
  rintro e w1 ⟨rfl, rfl⟩
  go_wp2_with fail
  rw [hx]
  refine (CM _).mono ?_
  rintro e w1 ⟨rfl, rfl⟩
  go_wp2_with fail
  refine (CW2 _).mono ?_
  rintro e w1 ⟨rfl, rfl⟩
  go_wp2_with fail
  rw [hx2]
  refine (CQ _).mono ?_
  rintro e w1 ⟨rfl, hb1⟩
  obtain ⟨hc1, hf1, hz1⟩ := bkeep hb1 (w.heap.size + 1) (by first | omega | (simp <;> omega))
  have y1 : w.heap.size < w1.heap.size := by omega
  go_wp2_with (go_at_call 66; refine (r4wrong _ _).mono ?_; rintro e w2 ⟨rfl, hb2⟩; obtain ⟨hc2, hf2, hz2⟩ := bkeep hb2 (w.heap.size + 1) (by first | omega | (simp <;> omega)))
  refine bodyPost_ret (v := _) ?_ rfl ⟨rfl, by (repeat (first | (with_reducible exact Below.refl _ _) | (with_reducible refine Below.alloc ?_ (by first | omega | (dsimp only; omega) | (simp <;> omega)) _) | (with_reducible refine Below.setCell ?_ (by first | omega | (dsimp only; omega) | (simp <;> omega)) _) | (with_reducible refine Below.drew ?_) | (with_reducible refine below_drewN ?_ _) | (with_reducible refine Below.trans ?_ (Below.mono (by assumption) (by first | omega | (dsimp only; omega) | (simp <;> omega))))))⟩
  first | (simp [results, Tryz.results37, go_sem, *]; done) | (simp [results, Tryz.results37, go_sem, *]; omega)
set_option maxHeartbeats 1000000 in
theorem r4name_cell_end_true (l W : List UInt8) (at' k : Nat) (hl : l.length ≤ 9223372036854775000) (ha : at' ≤ l.length) (hW : (l.drop at').takeWhile partB = W) (hk : W.length = k) (h0 : 0 < (W.takeWhile upB).length) (hm : meantB W = true) (hb : at' + k = l.length) (hq : pOk W = true) (w : World) : Calls Tryz.prog 37 #[.string ⟨l.toArray⟩, .int .i64 (at' : Int)] w fun e w' => e = .returned (.tuple #[.agg #[.int .i64 4, .int .i64 (at' : Int), .int .i64 0, .string ⟨#[]⟩, .int .i64 (pRow W), .int .i64 (pCol W), .int .i64 0, .int .i64 0, .int .i64 0, .int .i64 0, .int .i64 0], .int .i64 ((at' + k : Nat) : Int)]) ∧ Below w.heap.size w w' := by
  have hWl : W.length ≤ 9223372036854775807 := by have := takeWhile_le partB (l.drop at'); rw [hW, List.length_drop] at this; omega
  have hkl : at' + k ≤ l.length := by
    have := takeWhile_le partB (l.drop at')
    rw [hW, hk] at this
    simp at this; omega
  have CW := r4word l at' k (by omega) ha (by rw [hW, hk])
  have hx := ext_mid l W at' k (by rw [← hW, takeWhile_take, hW, hk])
  have CM := r4meant W true hWl h0 hm
  have hb' : l.length ≤ at' + k := by omega
  clear hb
  have CP := rparse_any ⟨W.toArray⟩ (by show W.toArray.size ≤ _; simpa using hWl)
  rw [show (⟨W.toArray⟩ : ByteArray).data.toList = W from by simp, hq] at CP
  clear hW hk h0 hm hq
  go_enter Tryz.func37, Tryz.ntmps37
  go_wp2_with fail
  refine (CW _).mono ?_
  rintro e w1 ⟨rfl, rfl⟩
  go_wp2_with fail
  rw [hx]
  refine (CM _).mono ?_
  rintro e w1 ⟨rfl, rfl⟩
  go_wp2_with fail
  refine (CP _).mono ?_
  rintro e w1 ⟨rfl, hb1⟩
  obtain ⟨hc1, hf1, hz1⟩ := bkeep hb1 (w.heap.size + 1) (by first | omega | (simp <;> omega))
  have y1 : w.heap.size < w1.heap.size := by omega
  go_wp2
  refine bodyPost_ret (v := _) ?_ rfl ⟨rfl, by (repeat (first | (with_reducible exact Below.refl _ _) | (with_reducible refine Below.alloc ?_ (by first | omega | (dsimp only; omega) | (simp <;> omega)) _) | (with_reducible refine Below.setCell ?_ (by first | omega | (dsimp only; omega) | (simp <;> omega)) _) | (with_reducible refine Below.drew ?_) | (with_reducible refine below_drewN ?_ _) | (with_reducible refine Below.trans ?_ (Below.mono (by assumption) (by first | omega | (dsimp only; omega) | (simp <;> omega))))))⟩
  first | (simp [results, Tryz.results37, go_sem, *]; done) | (simp [results, Tryz.results37, go_sem, *]; omega)
set_option maxHeartbeats 1000000 in
theorem r4name_cell_end_false (l W : List UInt8) (at' k : Nat) (hl : l.length ≤ 9223372036854775000) (ha : at' ≤ l.length) (hW : (l.drop at').takeWhile partB = W) (hk : W.length = k) (h0 : 0 < (W.takeWhile upB).length) (hm : meantB W = true) (hb : at' + k = l.length) (hq : pOk W = false) (w : World) : Calls Tryz.prog 37 #[.string ⟨l.toArray⟩, .int .i64 (at' : Int)] w fun e w' => e = .returned (.tuple #[.agg #[.int .i64 8, .int .i64 (at' : Int), .int .i64 0, .string ⟨#[]⟩, .int .i64 0, .int .i64 0, .int .i64 0, .int .i64 0, .int .i64 0, .int .i64 0, .int .i64 0], .int .i64 (at' : Int)]) ∧ Below w.heap.size w w' := by
  have hWl : W.length ≤ 9223372036854775807 := by have := takeWhile_le partB (l.drop at'); rw [hW, List.length_drop] at this; omega
  have hkl : at' + k ≤ l.length := by
    have := takeWhile_le partB (l.drop at')
    rw [hW, hk] at this
    simp at this; omega
  have CW := r4word l at' k (by omega) ha (by rw [hW, hk])
  have hx := ext_mid l W at' k (by rw [← hW, takeWhile_take, hW, hk])
  have CM := r4meant W true hWl h0 hm
  have hb' : l.length ≤ at' + k := by omega
  clear hb
  have CP := rparse_any ⟨W.toArray⟩ (by show W.toArray.size ≤ _; simpa using hWl)
  rw [show (⟨W.toArray⟩ : ByteArray).data.toList = W from by simp, hq] at CP
  clear hW hk h0 hm hq
  go_enter Tryz.func37, Tryz.ntmps37
  go_wp2_with fail
  refine (CW _).mono ?_
  rintro e w1 ⟨rfl, rfl⟩
  go_wp2_with fail
  rw [hx]
  refine (CM _).mono ?_
  rintro e w1 ⟨rfl, rfl⟩
  go_wp2_with fail
  refine (CP _).mono ?_
  rintro e w1 ⟨rfl, hb1⟩
  obtain ⟨hc1, hf1, hz1⟩ := bkeep hb1 (w.heap.size + 1) (by first | omega | (simp <;> omega))
  have y1 : w.heap.size < w1.heap.size := by omega
  go_wp2_with (go_at_call 66; refine (r4wrong _ _).mono ?_; rintro e w2 ⟨rfl, hb2⟩; obtain ⟨hc2, hf2, hz2⟩ := bkeep hb2 (w.heap.size + 1) (by first | omega | (simp <;> omega)))
  refine bodyPost_ret (v := _) ?_ rfl ⟨rfl, by (repeat (first | (with_reducible exact Below.refl _ _) | (with_reducible refine Below.alloc ?_ (by first | omega | (dsimp only; omega) | (simp <;> omega)) _) | (with_reducible refine Below.setCell ?_ (by first | omega | (dsimp only; omega) | (simp <;> omega)) _) | (with_reducible refine Below.drew ?_) | (with_reducible refine below_drewN ?_ _) | (with_reducible refine Below.trans ?_ (Below.mono (by assumption) (by first | omega | (dsimp only; omega) | (simp <;> omega))))))⟩
  first | (simp [results, Tryz.results37, go_sem, *]; done) | (simp [results, Tryz.results37, go_sem, *]; omega)
set_option maxHeartbeats 1000000 in
theorem r4name_cell_more_true (l W : List UInt8) (at' k : Nat) (hl : l.length ≤ 9223372036854775000) (ha : at' ≤ l.length) (hW : (l.drop at').takeWhile partB = W) (hk : W.length = k) (h0 : 0 < (W.takeWhile upB).length) (hm : meantB W = true) (hb : at' + k < l.length) (hc : l[at' + k].toNat ≠ 58) (hq : pOk W = true) (w : World) : Calls Tryz.prog 37 #[.string ⟨l.toArray⟩, .int .i64 (at' : Int)] w fun e w' => e = .returned (.tuple #[.agg #[.int .i64 4, .int .i64 (at' : Int), .int .i64 0, .string ⟨#[]⟩, .int .i64 (pRow W), .int .i64 (pCol W), .int .i64 0, .int .i64 0, .int .i64 0, .int .i64 0, .int .i64 0], .int .i64 ((at' + k : Nat) : Int)]) ∧ Below w.heap.size w w' := by
  have hWl : W.length ≤ 9223372036854775807 := by have := takeWhile_le partB (l.drop at'); rw [hW, List.length_drop] at this; omega
  have hkl : at' + k ≤ l.length := by
    have := takeWhile_le partB (l.drop at')
    rw [hW, hk] at this
    simp at this; omega
  have CW := r4word l at' k (by omega) ha (by rw [hW, hk])
  have hx := ext_mid l W at' k (by rw [← hW, takeWhile_take, hW, hk])
  have CM := r4meant W true hWl h0 hm
  have hbb : at' + k < (⟨l.toArray⟩ : ByteArray).size := by show at' + k < l.toArray.size; simpa using hb
  have hcc : ((⟨l.toArray⟩ : ByteArray)[at' + k]'hbb).toNat ≠ 58 := hc
  have CP := rparse_any ⟨W.toArray⟩ (by show W.toArray.size ≤ _; simpa using hWl)
  rw [show (⟨W.toArray⟩ : ByteArray).data.toList = W from by simp, hq] at CP
  clear hW hk h0 hm hq
  go_enter Tryz.func37, Tryz.ntmps37
  go_wp2_with fail
  refine (CW _).mono ?_
  rintro e w1 ⟨rfl, rfl⟩
  go_wp2_with fail
  rw [hx]
  refine (CM _).mono ?_
  rintro e w1 ⟨rfl, rfl⟩
  go_wp2_with fail
  refine (CP _).mono ?_
  rintro e w1 ⟨rfl, hb1⟩
  obtain ⟨hc1, hf1, hz1⟩ := bkeep hb1 (w.heap.size + 1) (by first | omega | (simp <;> omega))
  have y1 : w.heap.size < w1.heap.size := by omega
  go_wp2
  refine bodyPost_ret (v := _) ?_ rfl ⟨rfl, by (repeat (first | (with_reducible exact Below.refl _ _) | (with_reducible refine Below.alloc ?_ (by first | omega | (dsimp only; omega) | (simp <;> omega)) _) | (with_reducible refine Below.setCell ?_ (by first | omega | (dsimp only; omega) | (simp <;> omega)) _) | (with_reducible refine Below.drew ?_) | (with_reducible refine below_drewN ?_ _) | (with_reducible refine Below.trans ?_ (Below.mono (by assumption) (by first | omega | (dsimp only; omega) | (simp <;> omega))))))⟩
  first | (simp [results, Tryz.results37, go_sem, *]; done) | (simp [results, Tryz.results37, go_sem, *]; omega)
set_option maxHeartbeats 1000000 in
theorem r4name_cell_more_false (l W : List UInt8) (at' k : Nat) (hl : l.length ≤ 9223372036854775000) (ha : at' ≤ l.length) (hW : (l.drop at').takeWhile partB = W) (hk : W.length = k) (h0 : 0 < (W.takeWhile upB).length) (hm : meantB W = true) (hb : at' + k < l.length) (hc : l[at' + k].toNat ≠ 58) (hq : pOk W = false) (w : World) : Calls Tryz.prog 37 #[.string ⟨l.toArray⟩, .int .i64 (at' : Int)] w fun e w' => e = .returned (.tuple #[.agg #[.int .i64 8, .int .i64 (at' : Int), .int .i64 0, .string ⟨#[]⟩, .int .i64 0, .int .i64 0, .int .i64 0, .int .i64 0, .int .i64 0, .int .i64 0, .int .i64 0], .int .i64 (at' : Int)]) ∧ Below w.heap.size w w' := by
  have hWl : W.length ≤ 9223372036854775807 := by have := takeWhile_le partB (l.drop at'); rw [hW, List.length_drop] at this; omega
  have hkl : at' + k ≤ l.length := by
    have := takeWhile_le partB (l.drop at')
    rw [hW, hk] at this
    simp at this; omega
  have CW := r4word l at' k (by omega) ha (by rw [hW, hk])
  have hx := ext_mid l W at' k (by rw [← hW, takeWhile_take, hW, hk])
  have CM := r4meant W true hWl h0 hm
  have hbb : at' + k < (⟨l.toArray⟩ : ByteArray).size := by show at' + k < l.toArray.size; simpa using hb
  have hcc : ((⟨l.toArray⟩ : ByteArray)[at' + k]'hbb).toNat ≠ 58 := hc
  have CP := rparse_any ⟨W.toArray⟩ (by show W.toArray.size ≤ _; simpa using hWl)
  rw [show (⟨W.toArray⟩ : ByteArray).data.toList = W from by simp, hq] at CP
  clear hW hk h0 hm hq
  go_enter Tryz.func37, Tryz.ntmps37
  go_wp2_with fail
  refine (CW _).mono ?_
  rintro e w1 ⟨rfl, rfl⟩
  go_wp2_with fail
  rw [hx]
  refine (CM _).mono ?_
  rintro e w1 ⟨rfl, rfl⟩
  go_wp2_with fail
  refine (CP _).mono ?_
  rintro e w1 ⟨rfl, hb1⟩
  obtain ⟨hc1, hf1, hz1⟩ := bkeep hb1 (w.heap.size + 1) (by first | omega | (simp <;> omega))
  have y1 : w.heap.size < w1.heap.size := by omega
  go_wp2_with (go_at_call 66; refine (r4wrong _ _).mono ?_; rintro e w2 ⟨rfl, hb2⟩; obtain ⟨hc2, hf2, hz2⟩ := bkeep hb2 (w.heap.size + 1) (by first | omega | (simp <;> omega)))
  refine bodyPost_ret (v := _) ?_ rfl ⟨rfl, by (repeat (first | (with_reducible exact Below.refl _ _) | (with_reducible refine Below.alloc ?_ (by first | omega | (dsimp only; omega) | (simp <;> omega)) _) | (with_reducible refine Below.setCell ?_ (by first | omega | (dsimp only; omega) | (simp <;> omega)) _) | (with_reducible refine Below.drew ?_) | (with_reducible refine below_drewN ?_ _) | (with_reducible refine Below.trans ?_ (Below.mono (by assumption) (by first | omega | (dsimp only; omega) | (simp <;> omega))))))⟩
  first | (simp [results, Tryz.results37, go_sem, *]; done) | (simp [results, Tryz.results37, go_sem, *]; omega)
end Go.Proofs.YtiekhbagpmnboaaGreatDoor
