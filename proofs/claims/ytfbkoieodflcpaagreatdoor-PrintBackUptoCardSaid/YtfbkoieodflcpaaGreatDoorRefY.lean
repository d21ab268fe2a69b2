/-
  refs: may.
-/
import Derived.Test.YtfbkoieodflcpaaGreatDoorMg3
import Derived.Test.YtfbkoieodflcpaaGreatDoorRows
import Derived.Test.YtfbkoieodflcpaaGreatDoorMg0
import Derived.Test.YtfbkoieodflcpaaGreatDoorProg
import Derived.Test.YtfbkoieodflcpaaGreatDoorShelf
import Derived.Test.YtfbkoieodflcpaaGreatDoorMg4
import Derived.Test.YtfbkoieodflcpaaGreatDoorAddrC
import Derived.Test.YtfbkoieodflcpaaGreatDoorMg6
import Derived.Test.YtfbkoieodflcpaaGreatDoorValA
import Derived.Test.YtfbkoieodflcpaaGreatDoorValB
import Derived.Test.YtfbkoieodflcpaaGreatDoorMg9
import Derived.Test.YtfbkoieodflcpaaGreatDoorMg10
import Derived.Test.YtfbkoieodflcpaaGreatDoorMg11
import Derived.Test.YtfbkoieodflcpaaGreatDoorLexS
import Derived.Test.YtfbkoieodflcpaaGreatDoorRefN
import Derived.Test.YtfbkoieodflcpaaGreatDoorRefM
import Derived.WalkSpells
import Derived.WalkLawsBesides
import Derived.StillTactics
import Derived.Laws.Pointers
import Derived.Deep.RegionHeld3
import Derived.Deep.QuietTactic
import Derived.BigQuiet
import Derived.RowKit3
import Derived.Lib.Hide
import Derived.Lib.OthersKept
import Derived.OwnWalk
import Derived.Lib.IndexLaws
import Derived.Lib.ItoaMem
import Derived.Lib.TrimByte
import Derived.Lib.SlTrimSet
import Derived.Lib.ParseIntB
import Derived.WalkKit
import Derived.ProofKit
import Derived.OpenShut
import Derived.Carry
import Derived.ChangeSame
import Derived.Deep.Draws
import Derived.Shelf.Strings.Builder1
import Derived.Shelf.Strings.Builder2
import Derived.Shelf.Strings.Trim
import Derived.Shelf.Small.Utf8
import Derived.Shelf.Small.Strs
import Derived.Shelf.Small.Wraps
import Derived.Shelf.Strings.BuilderF
import Derived.Shelf.Strings.BuilderK
import Derived.Shelf.Utf8.RuneCount
import Derived.Shelf.Strconv.Itoa0
import Derived.Shelf.Strconv.Itoa1
import Derived.Shelf.LaysM
import Derived.Shelf.Strconv.Itoa2
import Derived.Shelf.Strconv.Itoa3
import Derived.Ground.MpProg
import Derived.Shelf.Pu.ParseUintPublic10
import Derived.Shelf.Strings.Search1
import Derived.Shelf.Strings.Search2
import Derived.Shelf.Strings.Search3
import Derived.Shelf.Strings.Cut
import Derived.Shelf.Strings.Count
import Derived.Shelf.Strings.Shaped
import Derived.Shelf.Strings.Prefix
import Derived.Shelf.Strings.Split
import Derived.Shelf.Strings.Replace
import Derived.Shelf.Strings.SplitShaped
import Derived.Shelf.Unicode.Decode
import Derived.Shelf.Strings.Runes
import Derived.Shelf.Strings.RuneCount
import Derived.Shelf.Strings.AsciiSet
import Derived.Shelf.Unicode.DecodeSlow
import Derived.Shelf.Unicode.DecodeAny
import Derived.Shelf.Unicode.DecodeLast
import Derived.Lib.ItoaNum
import Derived.Maps.OwnSet
import Derived.Maps.AppendAt
namespace Go.Proofs.YtfbkoieodflcpaaGreatDoor
open Go.RowKit

theorem rfm_may (a b : Int) (z : Bool) (h : mayB a b = z) (w : World) : Calls Tryz.prog 31 #[.agg #[.int .i64 a, .int .i64 b]] w
      fun e w' => e = .returned (.bool z) ∧ Below w.heap.size w w' := by
  subst h; exact may_any a b w
theorem rfm_rect (a b c d : Int) (z : Bool) (h : mayRectB a b c d = z) (w : World) : Calls Tryz.prog 34 #[.agg #[.int .i64 a, .int .i64 b, .int .i64 c, .int .i64 d]] w
      fun e w' => e = .returned (.bool z) ∧ Below w.heap.size w w' := by
  subst h; exact mayRect_any a b c d w
set_option maxHeartbeats 1000000 in
theorem rmay_v0 (t n : Int) (s : ByteArray) (b : Bool) (c : Int) (r k : Int) (rt rl rb rr : Int) (op : Int) (nm : List UInt8) (ag : Int) (hn : -9223372036854775808 ≤ n ∧ n ≤ 9223372036854775807) (h1 : vMay t n s b c = false) (w : World) : Calls Tryz.prog 57 #[.agg #[.int .i64 1, .int .i64 t, .int .i64 n, .string s, .bool b, .int .i64 c, .int .i64 r, .int .i64 k, .int .i64 rt, .int .i64 rl, .int .i64 rb, .int .i64 rr, .int .i64 op, .string ⟨nm.toArray⟩, .int .i64 ag]] w fun e w' => e = .returned (.bool false) ∧ Below w.heap.size w w' := by
  go_enter Tryz.func57, Tryz.ntmps57
  go_wp2_with ((go_at_call 66; refine (vmay_is _ n _ b _ hn _ h1 _).mono ?_; rintro e w1 ⟨rfl, hb⟩; obtain ⟨hc, hf, hz⟩ := bkeep hb (w.heap.size + 2) (by first | omega | (simp <;> omega))))
  all_goals go_ret
  all_goals exact ⟨rfl, by (repeat (first | (with_reducible exact Below.refl _ _) | (with_reducible refine Below.alloc ?_ (by first | omega | (dsimp only; omega) | (simp <;> omega)) _) | (with_reducible refine Below.setCell ?_ (by first | omega | (dsimp only; omega) | (simp <;> omega)) _) | (with_reducible refine Below.drew ?_) | (with_reducible refine below_drewN ?_ _) | (with_reducible refine Below.trans ?_ (Below.mono (by assumption) (by first | omega | (dsimp only; omega) | (simp <;> omega))))))⟩
set_option maxHeartbeats 1000000 in
theorem rmay_v1a (t n : Int) (s : ByteArray) (b : Bool) (c : Int) (r k : Int) (rt rl rb rr : Int) (op : Int) (nm : List UInt8) (ag : Int) (hn : -9223372036854775808 ≤ n ∧ n ≤ 9223372036854775807) (h1 : vMay t n s b c = true) (h2 : t = 0) (w : World) : Calls Tryz.prog 57 #[.agg #[.int .i64 1, .int .i64 t, .int .i64 n, .string s, .bool b, .int .i64 c, .int .i64 r, .int .i64 k, .int .i64 rt, .int .i64 rl, .int .i64 rb, .int .i64 rr, .int .i64 op, .string ⟨nm.toArray⟩, .int .i64 ag]] w fun e w' => e = .returned (.bool false) ∧ Below w.heap.size w w' := by
  subst h2
  go_enter Tryz.func57, Tryz.ntmps57
  go_wp2_with ((go_at_call 66; refine (vmay_is _ n _ b _ hn _ h1 _).mono ?_; rintro e w1 ⟨rfl, hb⟩; obtain ⟨hc, hf, hz⟩ := bkeep hb (w.heap.size + 2) (by first | omega | (simp <;> omega))))
  all_goals go_ret
  all_goals exact ⟨rfl, by (repeat (first | (with_reducible exact Below.refl _ _) | (with_reducible refine Below.alloc ?_ (by first | omega | (dsimp only; omega) | (simp <;> omega)) _) | (with_reducible refine Below.setCell ?_ (by first | omega | (dsimp only; omega) | (simp <;> omega)) _) | (with_reducible refine Below.drew ?_) | (with_reducible refine below_drewN ?_ _) | (with_reducible refine Below.trans ?_ (Below.mono (by assumption) (by first | omega | (dsimp only; omega) | (simp <;> omega))))))⟩
set_option maxHeartbeats 1000000 in
theorem rmay_v1b (t n : Int) (s : ByteArray) (b : Bool) (c : Int) (r k : Int) (rt rl rb rr : Int) (op : Int) (nm : List UInt8) (ag : Int) (hn : -9223372036854775808 ≤ n ∧ n ≤ 9223372036854775807) (h1 : vMay t n s b c = true) (h2 : t ≠ 0) (h3 : n < 0) (w : World) : Calls Tryz.prog 57 #[.agg #[.int .i64 1, .int .i64 t, .int .i64 n, .string s, .bool b, .int .i64 c, .int .i64 r, .int .i64 k, .int .i64 rt, .int .i64 rl, .int .i64 rb, .int .i64 rr, .int .i64 op, .string ⟨nm.toArray⟩, .int .i64 ag]] w fun e w' => e = .returned (.bool false) ∧ Below w.heap.size w w' := by
  have f1 : (t == 0) = false := by simp; omega
  go_enter Tryz.func57, Tryz.ntmps57
  go_wp2_with ((go_at_call 66; refine (vmay_is _ n _ b _ hn _ h1 _).mono ?_; rintro e w1 ⟨rfl, hb⟩; obtain ⟨hc, hf, hz⟩ := bkeep hb (w.heap.size + 2) (by first | omega | (simp <;> omega))))
  all_goals go_ret
  all_goals exact ⟨rfl, by (repeat (first | (with_reducible exact Below.refl _ _) | (with_reducible refine Below.alloc ?_ (by first | omega | (dsimp only; omega) | (simp <;> omega)) _) | (with_reducible refine Below.setCell ?_ (by first | omega | (dsimp only; omega) | (simp <;> omega)) _) | (with_reducible refine Below.drew ?_) | (with_reducible refine below_drewN ?_ _) | (with_reducible refine Below.trans ?_ (Below.mono (by assumption) (by first | omega | (dsimp only; omega) | (simp <;> omega))))))⟩
set_option maxHeartbeats 1000000 in
theorem rmay_v1c (t n : Int) (s : ByteArray) (b : Bool) (c : Int) (r k : Int) (rt rl rb rr : Int) (op : Int) (nm : List UInt8) (ag : Int) (hn : -9223372036854775808 ≤ n ∧ n ≤ 9223372036854775807) (h1 : vMay t n s b c = true) (h2 : t ≠ 0) (h3 : 0 ≤ n) (h4 : c = 1) (w : World) : Calls Tryz.prog 57 #[.agg #[.int .i64 1, .int .i64 t, .int .i64 n, .string s, .bool b, .int .i64 c, .int .i64 r, .int .i64 k, .int .i64 rt, .int .i64 rl, .int .i64 rb, .int .i64 rr, .int .i64 op, .string ⟨nm.toArray⟩, .int .i64 ag]] w fun e w' => e = .returned (.bool false) ∧ Below w.heap.size w w' := by
  subst h4
  have f1 : (t == 0) = false := by simp; omega
  have f2 : (decide (n < 0)) = false := by simp; omega
  go_enter Tryz.func57, Tryz.ntmps57
  go_wp2_with ((go_at_call 66; refine (vmay_is _ n _ b _ hn _ h1 _).mono ?_; rintro e w1 ⟨rfl, hb⟩; obtain ⟨hc, hf, hz⟩ := bkeep hb (w.heap.size + 2) (by first | omega | (simp <;> omega))))
  all_goals go_ret
  all_goals exact ⟨rfl, by (repeat (first | (with_reducible exact Below.refl _ _) | (with_reducible refine Below.alloc ?_ (by first | omega | (dsimp only; omega) | (simp <;> omega)) _) | (with_reducible refine Below.setCell ?_ (by first | omega | (dsimp only; omega) | (simp <;> omega)) _) | (with_reducible refine Below.drew ?_) | (with_reducible refine below_drewN ?_ _) | (with_reducible refine Below.trans ?_ (Below.mono (by assumption) (by first | omega | (dsimp only; omega) | (simp <;> omega))))))⟩
set_option maxHeartbeats 1000000 in
theorem rmay_v2 (t n : Int) (s : ByteArray) (b : Bool) (c : Int) (r k : Int) (rt rl rb rr : Int) (op : Int) (nm : List UInt8) (ag : Int) (hn : -9223372036854775808 ≤ n ∧ n ≤ 9223372036854775807) (h1 : vMay t n s b c = true) (h2 : t ≠ 0) (h3 : 0 ≤ n) (h4 : c ≠ 1) (w : World) : Calls Tryz.prog 57 #[.agg #[.int .i64 1, .int .i64 t, .int .i64 n, .string s, .bool b, .int .i64 c, .int .i64 r, .int .i64 k, .int .i64 rt, .int .i64 rl, .int .i64 rb, .int .i64 rr, .int .i64 op, .string ⟨nm.toArray⟩, .int .i64 ag]] w fun e w' => e = .returned (.bool ((decide (r = 0) && decide (k = 0)) && (decide (rt = 0) && decide (rl = 0) && decide (rb = 0) && decide (rr = 0)) && decide (op = 0) && (decide ((⟨nm.toArray⟩ : ByteArray) = ⟨#[]⟩) && decide (ag = 0)))) ∧ Below w.heap.size w w' := by
  have f1 : (t == 0) = false := by simp; omega
  have f2 : (decide (n < 0)) = false := by simp; omega
  have f3 : (c == 1) = false := by simp; omega
  obtain ⟨sl, rfl⟩ : ∃ sl : List UInt8, s = ⟨sl.toArray⟩ := ⟨s.data.toList, by cases s; simp⟩
  go_enter Tryz.func57, Tryz.ntmps57
  go_wp2_with ((go_at_call 66; refine (vmay_is _ n _ b _ hn _ h1 _).mono ?_; rintro e w1 ⟨rfl, hb⟩; obtain ⟨hc, hf, hz⟩ := bkeep hb (w.heap.size + 2) (by first | omega | (simp <;> omega))))
  all_goals go_ret
  all_goals refine ⟨ret_b ?_, by (repeat (first | (with_reducible exact Below.refl _ _) | (with_reducible refine Below.alloc ?_ (by first | omega | (dsimp only; omega) | (simp <;> omega)) _) | (with_reducible refine Below.setCell ?_ (by first | omega | (dsimp only; omega) | (simp <;> omega)) _) | (with_reducible refine Below.drew ?_) | (with_reducible refine below_drewN ?_ _) | (with_reducible refine Below.trans ?_ (Below.mono (by assumption) (by first | omega | (dsimp only; omega) | (simp <;> omega))))))⟩
  all_goals simp [*]
set_option maxHeartbeats 1000000 in
theorem rmay_c0 (t n : Int) (s : ByteArray) (b : Bool) (c : Int) (r k : Int) (rt rl rb rr : Int) (op : Int) (nm : List UInt8) (ag : Int) (h1 : mayB r k = false) (w : World) : Calls Tryz.prog 57 #[.agg #[.int .i64 2, .int .i64 t, .int .i64 n, .string s, .bool b, .int .i64 c, .int .i64 r, .int .i64 k, .int .i64 rt, .int .i64 rl, .int .i64 rb, .int .i64 rr, .int .i64 op, .string ⟨nm.toArray⟩, .int .i64 ag]] w fun e w' => e = .returned (.bool false) ∧ Below w.heap.size w w' := by
  go_enter Tryz.func57, Tryz.ntmps57
  go_wp2_with ((go_at_call 31; refine (rfm_may r k _ h1 _).mono ?_; rintro e w1 ⟨rfl, hb⟩; obtain ⟨hc, hf, hz⟩ := bkeep hb (w.heap.size + 1) (by first | omega | (simp <;> omega))))
  all_goals go_ret
  all_goals exact ⟨rfl, by (repeat (first | (with_reducible exact Below.refl _ _) | (with_reducible refine Below.alloc ?_ (by first | omega | (dsimp only; omega) | (simp <;> omega)) _) | (with_reducible refine Below.setCell ?_ (by first | omega | (dsimp only; omega) | (simp <;> omega)) _) | (with_reducible refine Below.drew ?_) | (with_reducible refine below_drewN ?_ _) | (with_reducible refine Below.trans ?_ (Below.mono (by assumption) (by first | omega | (dsimp only; omega) | (simp <;> omega))))))⟩
set_option maxHeartbeats 1000000 in
theorem rmay_c1 (t n : Int) (s : ByteArray) (b : Bool) (c : Int) (r k : Int) (rt rl rb rr : Int) (op : Int) (nm : List UInt8) (ag : Int) (h1 : mayB r k = true) (w : World) : Calls Tryz.prog 57 #[.agg #[.int .i64 2, .int .i64 t, .int .i64 n, .string s, .bool b, .int .i64 c, .int .i64 r, .int .i64 k, .int .i64 rt, .int .i64 rl, .int .i64 rb, .int .i64 rr, .int .i64 op, .string ⟨nm.toArray⟩, .int .i64 ag]] w fun e w' => e = .returned (.bool ((decide (t = 0) && decide (n = 0) && decide (s = ⟨#[]⟩) && !b && decide (c = 0)) && (decide (rt = 0) && decide (rl = 0) && decide (rb = 0) && decide (rr = 0)) && decide (op = 0) && (decide ((⟨nm.toArray⟩ : ByteArray) = ⟨#[]⟩) && decide (ag = 0)))) ∧ Below w.heap.size w w' := by
  obtain ⟨sl, rfl⟩ : ∃ sl : List UInt8, s = ⟨sl.toArray⟩ := ⟨s.data.toList, by cases s; simp⟩
  go_enter Tryz.func57, Tryz.ntmps57
  go_wp2_with ((go_at_call 31; refine (rfm_may r k _ h1 _).mono ?_; rintro e w1 ⟨rfl, hb⟩; obtain ⟨hc, hf, hz⟩ := bkeep hb (w.heap.size + 1) (by first | omega | (simp <;> omega))))
  all_goals go_ret
  all_goals refine ⟨ret_b ?_, by (repeat (first | (with_reducible exact Below.refl _ _) | (with_reducible refine Below.alloc ?_ (by first | omega | (dsimp only; omega) | (simp <;> omega)) _) | (with_reducible refine Below.setCell ?_ (by first | omega | (dsimp only; omega) | (simp <;> omega)) _) | (with_reducible refine Below.drew ?_) | (with_reducible refine below_drewN ?_ _) | (with_reducible refine Below.trans ?_ (Below.mono (by assumption) (by first | omega | (dsimp only; omega) | (simp <;> omega))))))⟩
  all_goals simp [*]
set_option maxHeartbeats 1000000 in
theorem rmay_r0 (t n : Int) (s : ByteArray) (b : Bool) (c : Int) (r k : Int) (rt rl rb rr : Int) (op : Int) (nm : List UInt8) (ag : Int) (h1 : mayRectB rt rl rb rr = false) (w : World) : Calls Tryz.prog 57 #[.agg #[.int .i64 3, .int .i64 t, .int .i64 n, .string s, .bool b, .int .i64 c, .int .i64 r, .int .i64 k, .int .i64 rt, .int .i64 rl, .int .i64 rb, .int .i64 rr, .int .i64 op, .string ⟨nm.toArray⟩, .int .i64 ag]] w fun e w' => e = .returned (.bool false) ∧ Below w.heap.size w w' := by
  go_enter Tryz.func57, Tryz.ntmps57
  go_wp2_with ((go_at_call 34; refine (rfm_rect rt rl rb rr _ h1 _).mono ?_; rintro e w1 ⟨rfl, hb⟩; obtain ⟨hc, hf, hz⟩ := bkeep hb (w.heap.size + 1) (by first | omega | (simp <;> omega))))
  all_goals go_ret
  all_goals exact ⟨rfl, by (repeat (first | (with_reducible exact Below.refl _ _) | (with_reducible refine Below.alloc ?_ (by first | omega | (dsimp only; omega) | (simp <;> omega)) _) | (with_reducible refine Below.setCell ?_ (by first | omega | (dsimp only; omega) | (simp <;> omega)) _) | (with_reducible refine Below.drew ?_) | (with_reducible refine below_drewN ?_ _) | (with_reducible refine Below.trans ?_ (Below.mono (by assumption) (by first | omega | (dsimp only; omega) | (simp <;> omega))))))⟩
set_option maxHeartbeats 1000000 in
theorem rmay_r1 (t n : Int) (s : ByteArray) (b : Bool) (c : Int) (r k : Int) (rt rl rb rr : Int) (op : Int) (nm : List UInt8) (ag : Int) (h1 : mayRectB rt rl rb rr = true) (w : World) : Calls Tryz.prog 57 #[.agg #[.int .i64 3, .int .i64 t, .int .i64 n, .string s, .bool b, .int .i64 c, .int .i64 r, .int .i64 k, .int .i64 rt, .int .i64 rl, .int .i64 rb, .int .i64 rr, .int .i64 op, .string ⟨nm.toArray⟩, .int .i64 ag]] w fun e w' => e = .returned (.bool ((decide (t = 0) && decide (n = 0) && decide (s = ⟨#[]⟩) && !b && decide (c = 0)) && (decide (r = 0) && decide (k = 0)) && decide (op = 0) && (decide ((⟨nm.toArray⟩ : ByteArray) = ⟨#[]⟩) && decide (ag = 0)))) ∧ Below w.heap.size w w' := by
  obtain ⟨sl, rfl⟩ : ∃ sl : List UInt8, s = ⟨sl.toArray⟩ := ⟨s.data.toList, by cases s; simp⟩
  go_enter Tryz.func57, Tryz.ntmps57
  go_wp2_with ((go_at_call 34; refine (rfm_rect rt rl rb rr _ h1 _).mono ?_; rintro e w1 ⟨rfl, hb⟩; obtain ⟨hc, hf, hz⟩ := bkeep hb (w.heap.size + 1) (by first | omega | (simp <;> omega))))
  all_goals go_ret
  all_goals refine ⟨ret_b ?_, by (repeat (first | (with_reducible exact Below.refl _ _) | (with_reducible refine Below.alloc ?_ (by first | omega | (dsimp only; omega) | (simp <;> omega)) _) | (with_reducible refine Below.setCell ?_ (by first | omega | (dsimp only; omega) | (simp <;> omega)) _) | (with_reducible refine Below.drew ?_) | (with_reducible refine below_drewN ?_ _) | (with_reducible refine Below.trans ?_ (Below.mono (by assumption) (by first | omega | (dsimp only; omega) | (simp <;> omega))))))⟩
  all_goals simp [*]
set_option maxHeartbeats 1000000 in
theorem rmay_o0 (t n : Int) (s : ByteArray) (b : Bool) (c : Int) (r k : Int) (rt rl rb rr : Int) (op : Int) (nm : List UInt8) (ag : Int) (h1 : op < 1) (w : World) : Calls Tryz.prog 57 #[.agg #[.int .i64 4, .int .i64 t, .int .i64 n, .string s, .bool b, .int .i64 c, .int .i64 r, .int .i64 k, .int .i64 rt, .int .i64 rl, .int .i64 rb, .int .i64 rr, .int .i64 op, .string ⟨nm.toArray⟩, .int .i64 ag]] w fun e w' => e = .returned (.bool false) ∧ Below w.heap.size w w' := by
  go_enter Tryz.func57, Tryz.ntmps57
  go_wp2_with (fail)
  all_goals go_ret
  all_goals exact ⟨rfl, by (repeat (first | (with_reducible exact Below.refl _ _) | (with_reducible refine Below.alloc ?_ (by first | omega | (dsimp only; omega) | (simp <;> omega)) _) | (with_reducible refine Below.setCell ?_ (by first | omega | (dsimp only; omega) | (simp <;> omega)) _) | (with_reducible refine Below.drew ?_) | (with_reducible refine below_drewN ?_ _) | (with_reducible refine Below.trans ?_ (Below.mono (by assumption) (by first | omega | (dsimp only; omega) | (simp <;> omega))))))⟩
set_option maxHeartbeats 1000000 in
theorem rmay_o1 (t n : Int) (s : ByteArray) (b : Bool) (c : Int) (r k : Int) (rt rl rb rr : Int) (op : Int) (nm : List UInt8) (ag : Int) (h1 : ¬ op < 1) (h2 : op > 13) (w : World) : Calls Tryz.prog 57 #[.agg #[.int .i64 4, .int .i64 t, .int .i64 n, .string s, .bool b, .int .i64 c, .int .i64 r, .int .i64 k, .int .i64 rt, .int .i64 rl, .int .i64 rb, .int .i64 rr, .int .i64 op, .string ⟨nm.toArray⟩, .int .i64 ag]] w fun e w' => e = .returned (.bool false) ∧ Below w.heap.size w w' := by
  go_enter Tryz.func57, Tryz.ntmps57
  go_wp2_with (fail)
  all_goals go_ret
  all_goals exact ⟨rfl, by (repeat (first | (with_reducible exact Below.refl _ _) | (with_reducible refine Below.alloc ?_ (by first | omega | (dsimp only; omega) | (simp <;> omega)) _) | (with_reducible refine Below.setCell ?_ (by first | omega | (dsimp only; omega) | (simp <;> omega)) _) | (with_reducible refine Below.drew ?_) | (with_reducible refine below_drewN ?_ _) | (with_reducible refine Below.trans ?_ (Below.mono (by assumption) (by first | omega | (dsimp only; omega) | (simp <;> omega))))))⟩
set_option maxHeartbeats 1000000 in
theorem rmay_o2 (t n : Int) (s : ByteArray) (b : Bool) (c : Int) (r k : Int) (rt rl rb rr : Int) (op : Int) (nm : List UInt8) (ag : Int) (h1 : ¬ op < 1) (h2 : ¬ op > 13) (w : World) : Calls Tryz.prog 57 #[.agg #[.int .i64 4, .int .i64 t, .int .i64 n, .string s, .bool b, .int .i64 c, .int .i64 r, .int .i64 k, .int .i64 rt, .int .i64 rl, .int .i64 rb, .int .i64 rr, .int .i64 op, .string ⟨nm.toArray⟩, .int .i64 ag]] w fun e w' => e = .returned (.bool ((decide (t = 0) && decide (n = 0) && decide (s = ⟨#[]⟩) && !b && decide (c = 0)) && (decide (r = 0) && decide (k = 0)) && (decide (rt = 0) && decide (rl = 0) && decide (rb = 0) && decide (rr = 0)) && (decide ((⟨nm.toArray⟩ : ByteArray) = ⟨#[]⟩) && decide (ag = 0)))) ∧ Below w.heap.size w w' := by
  obtain ⟨sl, rfl⟩ : ∃ sl : List UInt8, s = ⟨sl.toArray⟩ := ⟨s.data.toList, by cases s; simp⟩
  go_enter Tryz.func57, Tryz.ntmps57
  go_wp2_with (fail)
  all_goals go_ret
  all_goals refine ⟨ret_b ?_, by (repeat (first | (with_reducible exact Below.refl _ _) | (with_reducible refine Below.alloc ?_ (by first | omega | (dsimp only; omega) | (simp <;> omega)) _) | (with_reducible refine Below.setCell ?_ (by first | omega | (dsimp only; omega) | (simp <;> omega)) _) | (with_reducible refine Below.drew ?_) | (with_reducible refine below_drewN ?_ _) | (with_reducible refine Below.trans ?_ (Below.mono (by assumption) (by first | omega | (dsimp only; omega) | (simp <;> omega))))))⟩
  all_goals simp [*]
set_option maxHeartbeats 1000000 in
theorem rmay_n0 (t n : Int) (s : ByteArray) (b : Bool) (c : Int) (r k : Int) (rt rl rb rr : Int) (op : Int) (nm : List UInt8) (ag : Int) (hl : nm.length ≤ 9223372036854775807) (h1 : namedB nm = false) (w : World) : Calls Tryz.prog 57 #[.agg #[.int .i64 5, .int .i64 t, .int .i64 n, .string s, .bool b, .int .i64 c, .int .i64 r, .int .i64 k, .int .i64 rt, .int .i64 rl, .int .i64 rb, .int .i64 rr, .int .i64 op, .string ⟨nm.toArray⟩, .int .i64 ag]] w fun e w' => e = .returned (.bool false) ∧ Below w.heap.size w w' := by
  go_enter Tryz.func57, Tryz.ntmps57
  go_wp2_with ((go_at_call 98; refine (refnamed nm _ hl h1 _).mono ?_; rintro e w1 ⟨rfl, rfl⟩))
  all_goals go_ret
  all_goals exact ⟨rfl, by (repeat (first | (with_reducible exact Below.refl _ _) | (with_reducible refine Below.alloc ?_ (by first | omega | (dsimp only; omega) | (simp <;> omega)) _) | (with_reducible refine Below.setCell ?_ (by first | omega | (dsimp only; omega) | (simp <;> omega)) _) | (with_reducible refine Below.drew ?_) | (with_reducible refine below_drewN ?_ _) | (with_reducible refine Below.trans ?_ (Below.mono (by assumption) (by first | omega | (dsimp only; omega) | (simp <;> omega))))))⟩
set_option maxHeartbeats 1000000 in
theorem rmay_n1 (t n : Int) (s : ByteArray) (b : Bool) (c : Int) (r k : Int) (rt rl rb rr : Int) (op : Int) (nm : List UInt8) (ag : Int) (hl : nm.length ≤ 9223372036854775807) (h1 : namedB nm = true) (h2 : ag < 0) (w : World) : Calls Tryz.prog 57 #[.agg #[.int .i64 5, .int .i64 t, .int .i64 n, .string s, .bool b, .int .i64 c, .int .i64 r, .int .i64 k, .int .i64 rt, .int .i64 rl, .int .i64 rb, .int .i64 rr, .int .i64 op, .string ⟨nm.toArray⟩, .int .i64 ag]] w fun e w' => e = .returned (.bool false) ∧ Below w.heap.size w w' := by
  go_enter Tryz.func57, Tryz.ntmps57
  go_wp2_with ((go_at_call 98; refine (refnamed nm _ hl h1 _).mono ?_; rintro e w1 ⟨rfl, rfl⟩))
  all_goals go_ret
  all_goals exact ⟨rfl, by (repeat (first | (with_reducible exact Below.refl _ _) | (with_reducible refine Below.alloc ?_ (by first | omega | (dsimp only; omega) | (simp <;> omega)) _) | (with_reducible refine Below.setCell ?_ (by first | omega | (dsimp only; omega) | (simp <;> omega)) _) | (with_reducible refine Below.drew ?_) | (with_reducible refine below_drewN ?_ _) | (with_reducible refine Below.trans ?_ (Below.mono (by assumption) (by first | omega | (dsimp only; omega) | (simp <;> omega))))))⟩
set_option maxHeartbeats 1000000 in
theorem rmay_n2 (t n : Int) (s : ByteArray) (b : Bool) (c : Int) (r k : Int) (rt rl rb rr : Int) (op : Int) (nm : List UInt8) (ag : Int) (hl : nm.length ≤ 9223372036854775807) (h1 : namedB nm = true) (h2 : ¬ ag < 0) (h3 : ag > 16) (w : World) : Calls Tryz.prog 57 #[.agg #[.int .i64 5, .int .i64 t, .int .i64 n, .string s, .bool b, .int .i64 c, .int .i64 r, .int .i64 k, .int .i64 rt, .int .i64 rl, .int .i64 rb, .int .i64 rr, .int .i64 op, .string ⟨nm.toArray⟩, .int .i64 ag]] w fun e w' => e = .returned (.bool false) ∧ Below w.heap.size w w' := by
  go_enter Tryz.func57, Tryz.ntmps57
  go_wp2_with ((go_at_call 98; refine (refnamed nm _ hl h1 _).mono ?_; rintro e w1 ⟨rfl, rfl⟩))
  all_goals go_ret
  all_goals exact ⟨rfl, by (repeat (first | (with_reducible exact Below.refl _ _) | (with_reducible refine Below.alloc ?_ (by first | omega | (dsimp only; omega) | (simp <;> omega)) _) | (with_reducible refine Below.setCell ?_ (by first | omega | (dsimp only; omega) | (simp <;> omega)) _) | (with_reducible refine Below.drew ?_) | (with_reducible refine below_drewN ?_ _) | (with_reducible refine Below.trans ?_ (Below.mono (by assumption) (by first | omega | (dsimp only; omega) | (simp <;> omega))))))⟩
set_option maxHeartbeats 1000000 in
theorem rmay_n3 (t n : Int) (s : ByteArray) (b : Bool) (c : Int) (r k : Int) (rt rl rb rr : Int) (op : Int) (nm : List UInt8) (ag : Int) (hl : nm.length ≤ 9223372036854775807) (h1 : namedB nm = true) (h2 : ¬ ag < 0) (h3 : ¬ ag > 16) (w : World) : Calls Tryz.prog 57 #[.agg #[.int .i64 5, .int .i64 t, .int .i64 n, .string s, .bool b, .int .i64 c, .int .i64 r, .int .i64 k, .int .i64 rt, .int .i64 rl, .int .i64 rb, .int .i64 rr, .int .i64 op, .string ⟨nm.toArray⟩, .int .i64 ag]] w fun e w' => e = .returned (.bool ((decide (t = 0) && decide (n = 0) && decide (s = ⟨#[]⟩) && !b && decide (c = 0)) && (decide (r = 0) && decide (k = 0)) && (decide (rt = 0) && decide (rl = 0) && decide (rb = 0) && decide (rr = 0)) && decide (op = 0))) ∧ Below w.heap.size w w' := by
  obtain ⟨sl, rfl⟩ : ∃ sl : List UInt8, s = ⟨sl.toArray⟩ := ⟨s.data.toList, by cases s; simp⟩
  go_enter Tryz.func57, Tryz.ntmps57
  go_wp2_with ((go_at_call 98; refine (refnamed nm _ hl h1 _).mono ?_; rintro e w1 ⟨rfl, rfl⟩))
  all_goals go_ret
  all_goals refine ⟨ret_b ?_, by (repeat (first | (with_reducible exact Below.refl _ _) | (with_reducible refine Below.alloc ?_ (by first | omega | (dsimp only; omega) | (simp <;> omega)) _) | (with_reducible refine Below.setCell ?_ (by first | omega | (dsimp only; omega) | (simp <;> omega)) _) | (with_reducible refine Below.drew ?_) | (with_reducible refine below_drewN ?_ _) | (with_reducible refine Below.trans ?_ (Below.mono (by assumption) (by first | omega | (dsimp only; omega) | (simp <;> omega))))))⟩
  all_goals simp [*]
set_option maxHeartbeats 1000000 in
theorem rmay_no (t n : Int) (s : ByteArray) (b : Bool) (c : Int) (r k : Int) (rt rl rb rr : Int) (op : Int) (nm : List UInt8) (ag : Int) (kd : Int) (h1 : kd ≠ 1) (h2 : kd ≠ 2) (h3 : kd ≠ 3) (h4 : kd ≠ 4) (h5 : kd ≠ 5) (w : World) : Calls Tryz.prog 57 #[.agg #[.int .i64 kd, .int .i64 t, .int .i64 n, .string s, .bool b, .int .i64 c, .int .i64 r, .int .i64 k, .int .i64 rt, .int .i64 rl, .int .i64 rb, .int .i64 rr, .int .i64 op, .string ⟨nm.toArray⟩, .int .i64 ag]] w fun e w' => e = .returned (.bool false) ∧ Below w.heap.size w w' := by
  have f1 : (kd == 1) = false := by simp; omega
  have f2 : (kd == 2) = false := by simp; omega
  have f3 : (kd == 3) = false := by simp; omega
  have f4 : (kd == 4) = false := by simp; omega
  have f5 : (kd == 5) = false := by simp; omega
  go_enter Tryz.func57, Tryz.ntmps57
  go_wp2_with (fail)
  all_goals go_ret
  all_goals exact ⟨rfl, by (repeat (first | (with_reducible exact Below.refl _ _) | (with_reducible refine Below.alloc ?_ (by first | omega | (dsimp only; omega) | (simp <;> omega)) _) | (with_reducible refine Below.setCell ?_ (by first | omega | (dsimp only; omega) | (simp <;> omega)) _) | (with_reducible refine Below.drew ?_) | (with_reducible refine below_drewN ?_ _) | (with_reducible refine Below.trans ?_ (Below.mono (by assumption) (by first | omega | (dsimp only; omega) | (simp <;> omega))))))⟩
end Go.Proofs.YtfbkoieodflcpaaGreatDoor
