/-
  The walk of the law of order, by cases.
-/
import Derived.Test.YtjnjklcnccfgaaaDoorDecK
import Derived.Test.YtjnjklcnccfgaaaDoorDOrdL
import Derived.WalkSpells
import Derived.WalkLawsBesides
import Derived.StillTactics
import Derived.Laws.Pointers
import Derived.Deep.RegionHeld3
import Derived.Deep.QuietTactic
import Derived.BigQuiet
import Derived.RowKit3
import Derived.Lib.Hide
import Derived.Lib.OthersKept
import Derived.OwnWalk
import Derived.Lib.IndexLaws
import Derived.Lib.ItoaMem
namespace Go.Proofs.YtjnjklcnccfgaaaDoor
open Go.RowKit

set_option maxRecDepth 100000 in
set_option maxHeartbeats 4000000 in
theorem order_000 (a b p : Int) (ha : -9223372036854775808 ≤ a ∧ a ≤ 9223372036854775807) (hb : -9223372036854775808 ≤ b ∧ b ≤ 9223372036854775807) (hp : -9223372036854775808 ≤ p ∧ p ≤ 9223372036854775807) (hab : a ≤ b) (x y : Int) (c : Int) (d : Int) (z e : Int) (hx : -9223372036854775808 ≤ x ∧ x ≤ 9223372036854775807) (R1 : Hid (roundV a p = x ∧ roundC a p = c)) (R2 : Hid (roundV b p = y ∧ roundC b p = d)) (R3 : Hid (roundV x p = z ∧ roundC x p = e)) (hc : (c == 0) = false) (fx fy : Int) (fc : Int) (fd : Int) (F1 : Hid (floorV a = fx ∧ floorC a = fc)) (F2 : Hid (floorV b = fy ∧ floorC b = fd)) (hfc : (fc == 0) = false) (sx sy : Int) (sc sd : Int) (S1 : Hid (sqrtV a = sx ∧ sqrtC a = sc)) (S2 : Hid (sqrtV b = sy ∧ sqrtC b = sd)) (hsc : (sc != 0) = true) (w : World) (ht : Tab w) :
    Calls Tryd.prog 16 #[.int .i64 a, .int .i64 b, .int .i64 p] w
      fun e w' => e = .returned (.bool true) ∧ Below w.heap.size w w' := by
  go_enter Tryd.func16, Tryd.ntmps16
  go_wp2_with fail
  have C := round_any a ha p hp w
  rw [R1.out.1, R1.out.2] at C
  refine C.mono ?_
  clear C
  rintro e' w1 ⟨rfl, hb1⟩
  have q1 : Below w.heap.size w w1 := hb1
  go_wp2_with fail
  have C := round_any b hb p hp w1
  rw [R2.out.1, R2.out.2] at C
  refine C.mono ?_
  clear C
  rintro e' w2 ⟨rfl, hb2⟩
  have q2 : Below w.heap.size w w2 := q1.trans (hb2.mono q1.size)
  go_wp2_with fail
  have C := round_any x hx p hp w2
  rw [R3.out.1, R3.out.2] at C
  refine C.mono ?_
  clear C
  rintro e' w3 ⟨rfl, hb3⟩
  have q3 : Below w.heap.size w w3 := q2.trans (hb3.mono q2.size)
  go_wp2_with fail
  refine (dknown_any _ (Tab.below ht q3)).mono ?_
  rintro e' w4 ⟨rfl, hb4⟩
  have q4 : Below w.heap.size w w4 := q3.trans (hb4.mono q3.size)
  go_wp2_with fail
  have C := floor_any a ha w4
  rw [F1.out.1, F1.out.2] at C
  refine C.mono ?_
  clear C
  rintro e' w' ⟨rfl, rfl⟩
  go_wp2_with fail
  have C := floor_any b hb w4
  rw [F2.out.1, F2.out.2] at C
  refine C.mono ?_
  clear C
  rintro e' w' ⟨rfl, rfl⟩
  go_wp2_with fail
  have C := sqrt_any a ha w4
  rw [S1.out.1, S1.out.2] at C
  refine C.mono ?_
  clear C
  rintro e' w' ⟨rfl, rfl⟩
  go_wp2_with fail
  have C := sqrt_any b hb w4
  rw [S2.out.1, S2.out.2] at C
  refine C.mono ?_
  clear C
  rintro e' w' ⟨rfl, rfl⟩
  go_wp2
  go_ret
  exact ⟨rfl, q4⟩
set_option maxRecDepth 100000 in
set_option maxHeartbeats 4000000 in
theorem order_001 (a b p : Int) (ha : -9223372036854775808 ≤ a ∧ a ≤ 9223372036854775807) (hb : -9223372036854775808 ≤ b ∧ b ≤ 9223372036854775807) (hp : -9223372036854775808 ≤ p ∧ p ≤ 9223372036854775807) (hab : a ≤ b) (x y : Int) (c : Int) (d : Int) (z e : Int) (hx : -9223372036854775808 ≤ x ∧ x ≤ 9223372036854775807) (R1 : Hid (roundV a p = x ∧ roundC a p = c)) (R2 : Hid (roundV b p = y ∧ roundC b p = d)) (R3 : Hid (roundV x p = z ∧ roundC x p = e)) (hc : (c == 0) = false) (fx fy : Int) (fc : Int) (fd : Int) (F1 : Hid (floorV a = fx ∧ floorC a = fc)) (F2 : Hid (floorV b = fy ∧ floorC b = fd)) (hfc : (fc == 0) = false) (sx sy : Int) (S1 : Hid (sqrtV a = sx ∧ sqrtC a = 0)) (S2 : Hid (sqrtV b = sy ∧ sqrtC b = 0)) (hs1 : sx ≤ sy) (hs2 : 0 ≤ sx) (w : World) (ht : Tab w) :
    Calls Tryd.prog 16 #[.int .i64 a, .int .i64 b, .int .i64 p] w
      fun e w' => e = .returned (.bool true) ∧ Below w.heap.size w w' := by
  go_enter Tryd.func16, Tryd.ntmps16
  go_wp2_with fail
  have C := round_any a ha p hp w
  rw [R1.out.1, R1.out.2] at C
  refine C.mono ?_
  clear C
  rintro e' w1 ⟨rfl, hb1⟩
  have q1 : Below w.heap.size w w1 := hb1
  go_wp2_with fail
  have C := round_any b hb p hp w1
  rw [R2.out.1, R2.out.2] at C
  refine C.mono ?_
  clear C
  rintro e' w2 ⟨rfl, hb2⟩
  have q2 : Below w.heap.size w w2 := q1.trans (hb2.mono q1.size)
  go_wp2_with fail
  have C := round_any x hx p hp w2
  rw [R3.out.1, R3.out.2] at C
  refine C.mono ?_
  clear C
  rintro e' w3 ⟨rfl, hb3⟩
  have q3 : Below w.heap.size w w3 := q2.trans (hb3.mono q2.size)
  go_wp2_with fail
  refine (dknown_any _ (Tab.below ht q3)).mono ?_
  rintro e' w4 ⟨rfl, hb4⟩
  have q4 : Below w.heap.size w w4 := q3.trans (hb4.mono q3.size)
  go_wp2_with fail
  have C := floor_any a ha w4
  rw [F1.out.1, F1.out.2] at C
  refine C.mono ?_
  clear C
  rintro e' w' ⟨rfl, rfl⟩
  go_wp2_with fail
  have C := floor_any b hb w4
  rw [F2.out.1, F2.out.2] at C
  refine C.mono ?_
  clear C
  rintro e' w' ⟨rfl, rfl⟩
  go_wp2_with fail
  have C := sqrt_any a ha w4
  rw [S1.out.1, S1.out.2] at C
  refine C.mono ?_
  clear C
  rintro e' w' ⟨rfl, rfl⟩
  go_wp2_with fail
  have C := sqrt_any b hb w4
  rw [S2.out.1, S2.out.2] at C
  refine C.mono ?_
  clear C
  rintro e' w' ⟨rfl, rfl⟩
  go_wp2
  go_ret
  exact ⟨rfl, q4⟩
set_option maxRecDepth 100000 in
set_option maxHeartbeats 4000000 in
theorem order_010 (a b p : Int) (ha : -9223372036854775808 ≤ a ∧ a ≤ 9223372036854775807) (hb : -9223372036854775808 ≤ b ∧ b ≤ 9223372036854775807) (hp : -9223372036854775808 ≤ p ∧ p ≤ 9223372036854775807) (hab : a ≤ b) (x y : Int) (c : Int) (d : Int) (z e : Int) (hx : -9223372036854775808 ≤ x ∧ x ≤ 9223372036854775807) (R1 : Hid (roundV a p = x ∧ roundC a p = c)) (R2 : Hid (roundV b p = y ∧ roundC b p = d)) (R3 : Hid (roundV x p = z ∧ roundC x p = e)) (hc : (c == 0) = false) (fx fy : Int) (fd : Int) (F1 : Hid (floorV a = fx ∧ floorC a = 0)) (F2 : Hid (floorV b = fy ∧ floorC b = fd)) (hfd : (fd == 0) = false) (hf1 : fx ≤ a) (hf2 : a - fx < 10000) (sx sy : Int) (sc sd : Int) (S1 : Hid (sqrtV a = sx ∧ sqrtC a = sc)) (S2 : Hid (sqrtV b = sy ∧ sqrtC b = sd)) (hsc : (sc != 0) = true) (w : World) (ht : Tab w) :
    Calls Tryd.prog 16 #[.int .i64 a, .int .i64 b, .int .i64 p] w
      fun e w' => e = .returned (.bool true) ∧ Below w.heap.size w w' := by
  go_enter Tryd.func16, Tryd.ntmps16
  go_wp2_with fail
  have C := round_any a ha p hp w
  rw [R1.out.1, R1.out.2] at C
  refine C.mono ?_
  clear C
  rintro e' w1 ⟨rfl, hb1⟩
  have q1 : Below w.heap.size w w1 := hb1
  go_wp2_with fail
  have C := round_any b hb p hp w1
  rw [R2.out.1, R2.out.2] at C
  refine C.mono ?_
  clear C
  rintro e' w2 ⟨rfl, hb2⟩
  have q2 : Below w.heap.size w w2 := q1.trans (hb2.mono q1.size)
  go_wp2_with fail
  have C := round_any x hx p hp w2
  rw [R3.out.1, R3.out.2] at C
  refine C.mono ?_
  clear C
  rintro e' w3 ⟨rfl, hb3⟩
  have q3 : Below w.heap.size w w3 := q2.trans (hb3.mono q2.size)
  go_wp2_with fail
  refine (dknown_any _ (Tab.below ht q3)).mono ?_
  rintro e' w4 ⟨rfl, hb4⟩
  have q4 : Below w.heap.size w w4 := q3.trans (hb4.mono q3.size)
  go_wp2_with fail
  have C := floor_any a ha w4
  rw [F1.out.1, F1.out.2] at C
  refine C.mono ?_
  clear C
  rintro e' w' ⟨rfl, rfl⟩
  go_wp2_with fail
  have C := floor_any b hb w4
  rw [F2.out.1, F2.out.2] at C
  refine C.mono ?_
  clear C
  rintro e' w' ⟨rfl, rfl⟩
  go_wp2_with fail
  have C := sqrt_any a ha w4
  rw [S1.out.1, S1.out.2] at C
  refine C.mono ?_
  clear C
  rintro e' w' ⟨rfl, rfl⟩
  go_wp2_with fail
  have C := sqrt_any b hb w4
  rw [S2.out.1, S2.out.2] at C
  refine C.mono ?_
  clear C
  rintro e' w' ⟨rfl, rfl⟩
  go_wp2
  go_ret
  exact ⟨rfl, q4⟩
set_option maxRecDepth 100000 in
set_option maxHeartbeats 4000000 in
theorem order_011 (a b p : Int) (ha : -9223372036854775808 ≤ a ∧ a ≤ 9223372036854775807) (hb : -9223372036854775808 ≤ b ∧ b ≤ 9223372036854775807) (hp : -9223372036854775808 ≤ p ∧ p ≤ 9223372036854775807) (hab : a ≤ b) (x y : Int) (c : Int) (d : Int) (z e : Int) (hx : -9223372036854775808 ≤ x ∧ x ≤ 9223372036854775807) (R1 : Hid (roundV a p = x ∧ roundC a p = c)) (R2 : Hid (roundV b p = y ∧ roundC b p = d)) (R3 : Hid (roundV x p = z ∧ roundC x p = e)) (hc : (c == 0) = false) (fx fy : Int) (fd : Int) (F1 : Hid (floorV a = fx ∧ floorC a = 0)) (F2 : Hid (floorV b = fy ∧ floorC b = fd)) (hfd : (fd == 0) = false) (hf1 : fx ≤ a) (hf2 : a - fx < 10000) (sx sy : Int) (S1 : Hid (sqrtV a = sx ∧ sqrtC a = 0)) (S2 : Hid (sqrtV b = sy ∧ sqrtC b = 0)) (hs1 : sx ≤ sy) (hs2 : 0 ≤ sx) (w : World) (ht : Tab w) :
    Calls Tryd.prog 16 #[.int .i64 a, .int .i64 b, .int .i64 p] w
      fun e w' => e = .returned (.bool true) ∧ Below w.heap.size w w' := by
  go_enter Tryd.func16, Tryd.ntmps16
  go_wp2_with fail
  have C := round_any a ha p hp w
  rw [R1.out.1, R1.out.2] at C
  refine C.mono ?_
  clear C
  rintro e' w1 ⟨rfl, hb1⟩
  have q1 : Below w.heap.size w w1 := hb1
  go_wp2_with fail
  have C := round_any b hb p hp w1
  rw [R2.out.1, R2.out.2] at C
  refine C.mono ?_
  clear C
  rintro e' w2 ⟨rfl, hb2⟩
  have q2 : Below w.heap.size w w2 := q1.trans (hb2.mono q1.size)
  go_wp2_with fail
  have C := round_any x hx p hp w2
  rw [R3.out.1, R3.out.2] at C
  refine C.mono ?_
  clear C
  rintro e' w3 ⟨rfl, hb3⟩
  have q3 : Below w.heap.size w w3 := q2.trans (hb3.mono q2.size)
  go_wp2_with fail
  refine (dknown_any _ (Tab.below ht q3)).mono ?_
  rintro e' w4 ⟨rfl, hb4⟩
  have q4 : Below w.heap.size w w4 := q3.trans (hb4.mono q3.size)
  go_wp2_with fail
  have C := floor_any a ha w4
  rw [F1.out.1, F1.out.2] at C
  refine C.mono ?_
  clear C
  rintro e' w' ⟨rfl, rfl⟩
  go_wp2_with fail
  have C := floor_any b hb w4
  rw [F2.out.1, F2.out.2] at C
  refine C.mono ?_
  clear C
  rintro e' w' ⟨rfl, rfl⟩
  go_wp2_with fail
  have C := sqrt_any a ha w4
  rw [S1.out.1, S1.out.2] at C
  refine C.mono ?_
  clear C
  rintro e' w' ⟨rfl, rfl⟩
  go_wp2_with fail
  have C := sqrt_any b hb w4
  rw [S2.out.1, S2.out.2] at C
  refine C.mono ?_
  clear C
  rintro e' w' ⟨rfl, rfl⟩
  go_wp2
  go_ret
  exact ⟨rfl, q4⟩
set_option maxRecDepth 100000 in
set_option maxHeartbeats 4000000 in
theorem order_020 (a b p : Int) (ha : -9223372036854775808 ≤ a ∧ a ≤ 9223372036854775807) (hb : -9223372036854775808 ≤ b ∧ b ≤ 9223372036854775807) (hp : -9223372036854775808 ≤ p ∧ p ≤ 9223372036854775807) (hab : a ≤ b) (x y : Int) (c : Int) (d : Int) (z e : Int) (hx : -9223372036854775808 ≤ x ∧ x ≤ 9223372036854775807) (R1 : Hid (roundV a p = x ∧ roundC a p = c)) (R2 : Hid (roundV b p = y ∧ roundC b p = d)) (R3 : Hid (roundV x p = z ∧ roundC x p = e)) (hc : (c == 0) = false) (fx fy : Int) (F1 : Hid (floorV a = fx ∧ floorC a = 0)) (F2 : Hid (floorV b = fy ∧ floorC b = 0)) (hfxy : fx ≤ fy) (hf1 : fx ≤ a) (hf2 : a - fx < 10000) (sx sy : Int) (sc sd : Int) (S1 : Hid (sqrtV a = sx ∧ sqrtC a = sc)) (S2 : Hid (sqrtV b = sy ∧ sqrtC b = sd)) (hsc : (sc != 0) = true) (w : World) (ht : Tab w) :
    Calls Tryd.prog 16 #[.int .i64 a, .int .i64 b, .int .i64 p] w
      fun e w' => e = .returned (.bool true) ∧ Below w.heap.size w w' := by
  go_enter Tryd.func16, Tryd.ntmps16
  go_wp2_with fail
  have C := round_any a ha p hp w
  rw [R1.out.1, R1.out.2] at C
  refine C.mono ?_
  clear C
  rintro e' w1 ⟨rfl, hb1⟩
  have q1 : Below w.heap.size w w1 := hb1
  go_wp2_with fail
  have C := round_any b hb p hp w1
  rw [R2.out.1, R2.out.2] at C
  refine C.mono ?_
  clear C
  rintro e' w2 ⟨rfl, hb2⟩
  have q2 : Below w.heap.size w w2 := q1.trans (hb2.mono q1.size)
  go_wp2_with fail
  have C := round_any x hx p hp w2
  rw [R3.out.1, R3.out.2] at C
  refine C.mono ?_
  clear C
  rintro e' w3 ⟨rfl, hb3⟩
  have q3 : Below w.heap.size w w3 := q2.trans (hb3.mono q2.size)
  go_wp2_with fail
  refine (dknown_any _ (Tab.below ht q3)).mono ?_
  rintro e' w4 ⟨rfl, hb4⟩
  have q4 : Below w.heap.size w w4 := q3.trans (hb4.mono q3.size)
  go_wp2_with fail
  have C := floor_any a ha w4
  rw [F1.out.1, F1.out.2] at C
  refine C.mono ?_
  clear C
  rintro e' w' ⟨rfl, rfl⟩
  go_wp2_with fail
  have C := floor_any b hb w4
  rw [F2.out.1, F2.out.2] at C
  refine C.mono ?_
  clear C
  rintro e' w' ⟨rfl, rfl⟩
  go_wp2_with fail
  have C := sqrt_any a ha w4
  rw [S1.out.1, S1.out.2] at C
  refine C.mono ?_
  clear C
  rintro e' w' ⟨rfl, rfl⟩
  go_wp2_with fail
  have C := sqrt_any b hb w4
  rw [S2.out.1, S2.out.2] at C
  refine C.mono ?_
  clear C
  rintro e' w' ⟨rfl, rfl⟩
  go_wp2
  go_ret
  exact ⟨rfl, q4⟩
set_option maxRecDepth 100000 in
set_option maxHeartbeats 4000000 in
theorem order_021 (a b p : Int) (ha : -9223372036854775808 ≤ a ∧ a ≤ 9223372036854775807) (hb : -9223372036854775808 ≤ b ∧ b ≤ 9223372036854775807) (hp : -9223372036854775808 ≤ p ∧ p ≤ 9223372036854775807) (hab : a ≤ b) (x y : Int) (c : Int) (d : Int) (z e : Int) (hx : -9223372036854775808 ≤ x ∧ x ≤ 9223372036854775807) (R1 : Hid (roundV a p = x ∧ roundC a p = c)) (R2 : Hid (roundV b p = y ∧ roundC b p = d)) (R3 : Hid (roundV x p = z ∧ roundC x p = e)) (hc : (c == 0) = false) (fx fy : Int) (F1 : Hid (floorV a = fx ∧ floorC a = 0)) (F2 : Hid (floorV b = fy ∧ floorC b = 0)) (hfxy : fx ≤ fy) (hf1 : fx ≤ a) (hf2 : a - fx < 10000) (sx sy : Int) (S1 : Hid (sqrtV a = sx ∧ sqrtC a = 0)) (S2 : Hid (sqrtV b = sy ∧ sqrtC b = 0)) (hs1 : sx ≤ sy) (hs2 : 0 ≤ sx) (w : World) (ht : Tab w) :
    Calls Tryd.prog 16 #[.int .i64 a, .int .i64 b, .int .i64 p] w
      fun e w' => e = .returned (.bool true) ∧ Below w.heap.size w w' := by
  go_enter Tryd.func16, Tryd.ntmps16
  go_wp2_with fail
  have C := round_any a ha p hp w
  rw [R1.out.1, R1.out.2] at C
  refine C.mono ?_
  clear C
  rintro e' w1 ⟨rfl, hb1⟩
  have q1 : Below w.heap.size w w1 := hb1
  go_wp2_with fail
  have C := round_any b hb p hp w1
  rw [R2.out.1, R2.out.2] at C
  refine C.mono ?_
  clear C
  rintro e' w2 ⟨rfl, hb2⟩
  have q2 : Below w.heap.size w w2 := q1.trans (hb2.mono q1.size)
  go_wp2_with fail
  have C := round_any x hx p hp w2
  rw [R3.out.1, R3.out.2] at C
  refine C.mono ?_
  clear C
  rintro e' w3 ⟨rfl, hb3⟩
  have q3 : Below w.heap.size w w3 := q2.trans (hb3.mono q2.size)
  go_wp2_with fail
  refine (dknown_any _ (Tab.below ht q3)).mono ?_
  rintro e' w4 ⟨rfl, hb4⟩
  have q4 : Below w.heap.size w w4 := q3.trans (hb4.mono q3.size)
  go_wp2_with fail
  have C := floor_any a ha w4
  rw [F1.out.1, F1.out.2] at C
  refine C.mono ?_
  clear C
  rintro e' w' ⟨rfl, rfl⟩
  go_wp2_with fail
  have C := floor_any b hb w4
  rw [F2.out.1, F2.out.2] at C
  refine C.mono ?_
  clear C
  rintro e' w' ⟨rfl, rfl⟩
  go_wp2_with fail
  have C := sqrt_any a ha w4
  rw [S1.out.1, S1.out.2] at C
  refine C.mono ?_
  clear C
  rintro e' w' ⟨rfl, rfl⟩
  go_wp2_with fail
  have C := sqrt_any b hb w4
  rw [S2.out.1, S2.out.2] at C
  refine C.mono ?_
  clear C
  rintro e' w' ⟨rfl, rfl⟩
  go_wp2
  go_ret
  exact ⟨rfl, q4⟩
set_option maxRecDepth 100000 in
set_option maxHeartbeats 4000000 in
theorem order_100 (a b p : Int) (ha : -9223372036854775808 ≤ a ∧ a ≤ 9223372036854775807) (hb : -9223372036854775808 ≤ b ∧ b ≤ 9223372036854775807) (hp : -9223372036854775808 ≤ p ∧ p ≤ 9223372036854775807) (hab : a ≤ b) (x y : Int) (d : Int) (hx : -9223372036854775808 ≤ x ∧ x ≤ 9223372036854775807) (R1 : Hid (roundV a p = x ∧ roundC a p = 0)) (R2 : Hid (roundV b p = y ∧ roundC b p = d)) (R3 : Hid (roundV x p = x ∧ roundC x p = 0)) (hd : (d == 0) = false) (fx fy : Int) (fc : Int) (fd : Int) (F1 : Hid (floorV a = fx ∧ floorC a = fc)) (F2 : Hid (floorV b = fy ∧ floorC b = fd)) (hfc : (fc == 0) = false) (sx sy : Int) (sc sd : Int) (S1 : Hid (sqrtV a = sx ∧ sqrtC a = sc)) (S2 : Hid (sqrtV b = sy ∧ sqrtC b = sd)) (hsc : (sc != 0) = true) (w : World) (ht : Tab w) :
    Calls Tryd.prog 16 #[.int .i64 a, .int .i64 b, .int .i64 p] w
      fun e w' => e = .returned (.bool true) ∧ Below w.heap.size w w' := by
  go_enter Tryd.func16, Tryd.ntmps16
  go_wp2_with fail
  have C := round_any a ha p hp w
  rw [R1.out.1, R1.out.2] at C
  refine C.mono ?_
  clear C
  rintro e' w1 ⟨rfl, hb1⟩
  have q1 : Below w.heap.size w w1 := hb1
  go_wp2_with fail
  have C := round_any b hb p hp w1
  rw [R2.out.1, R2.out.2] at C
  refine C.mono ?_
  clear C
  rintro e' w2 ⟨rfl, hb2⟩
  have q2 : Below w.heap.size w w2 := q1.trans (hb2.mono q1.size)
  go_wp2_with fail
  have C := round_any x hx p hp w2
  rw [R3.out.1, R3.out.2] at C
  refine C.mono ?_
  clear C
  rintro e' w3 ⟨rfl, hb3⟩
  have q3 : Below w.heap.size w w3 := q2.trans (hb3.mono q2.size)
  go_wp2_with fail
  refine (dknown_any _ (Tab.below ht q3)).mono ?_
  rintro e' w4 ⟨rfl, hb4⟩
  have q4 : Below w.heap.size w w4 := q3.trans (hb4.mono q3.size)
  go_wp2_with fail
  refine (alike_self _ _ _).mono ?_
  rintro e' w' ⟨rfl, rfl⟩
  go_wp2_with fail
  have C := floor_any a ha w4
  rw [F1.out.1, F1.out.2] at C
  refine C.mono ?_
  clear C
  rintro e' w' ⟨rfl, rfl⟩
  go_wp2_with fail
  have C := floor_any b hb w4
  rw [F2.out.1, F2.out.2] at C
  refine C.mono ?_
  clear C
  rintro e' w' ⟨rfl, rfl⟩
  go_wp2_with fail
  have C := sqrt_any a ha w4
  rw [S1.out.1, S1.out.2] at C
  refine C.mono ?_
  clear C
  rintro e' w' ⟨rfl, rfl⟩
  go_wp2_with fail
  have C := sqrt_any b hb w4
  rw [S2.out.1, S2.out.2] at C
  refine C.mono ?_
  clear C
  rintro e' w' ⟨rfl, rfl⟩
  go_wp2
  go_ret
  exact ⟨rfl, q4⟩
set_option maxRecDepth 100000 in
set_option maxHeartbeats 4000000 in
theorem order_101 (a b p : Int) (ha : -9223372036854775808 ≤ a ∧ a ≤ 9223372036854775807) (hb : -9223372036854775808 ≤ b ∧ b ≤ 9223372036854775807) (hp : -9223372036854775808 ≤ p ∧ p ≤ 9223372036854775807) (hab : a ≤ b) (x y : Int) (d : Int) (hx : -9223372036854775808 ≤ x ∧ x ≤ 9223372036854775807) (R1 : Hid (roundV a p = x ∧ roundC a p = 0)) (R2 : Hid (roundV b p = y ∧ roundC b p = d)) (R3 : Hid (roundV x p = x ∧ roundC x p = 0)) (hd : (d == 0) = false) (fx fy : Int) (fc : Int) (fd : Int) (F1 : Hid (floorV a = fx ∧ floorC a = fc)) (F2 : Hid (floorV b = fy ∧ floorC b = fd)) (hfc : (fc == 0) = false) (sx sy : Int) (S1 : Hid (sqrtV a = sx ∧ sqrtC a = 0)) (S2 : Hid (sqrtV b = sy ∧ sqrtC b = 0)) (hs1 : sx ≤ sy) (hs2 : 0 ≤ sx) (w : World) (ht : Tab w) :
    Calls Tryd.prog 16 #[.int .i64 a, .int .i64 b, .int .i64 p] w
      fun e w' => e = .returned (.bool true) ∧ Below w.heap.size w w' := by
  go_enter Tryd.func16, Tryd.ntmps16
  go_wp2_with fail
  have C := round_any a ha p hp w
  rw [R1.out.1, R1.out.2] at C
  refine C.mono ?_
  clear C
  rintro e' w1 ⟨rfl, hb1⟩
  have q1 : Below w.heap.size w w1 := hb1
  go_wp2_with fail
  have C := round_any b hb p hp w1
  rw [R2.out.1, R2.out.2] at C
  refine C.mono ?_
  clear C
  rintro e' w2 ⟨rfl, hb2⟩
  have q2 : Below w.heap.size w w2 := q1.trans (hb2.mono q1.size)
  go_wp2_with fail
  have C := round_any x hx p hp w2
  rw [R3.out.1, R3.out.2] at C
  refine C.mono ?_
  clear C
  rintro e' w3 ⟨rfl, hb3⟩
  have q3 : Below w.heap.size w w3 := q2.trans (hb3.mono q2.size)
  go_wp2_with fail
  refine (dknown_any _ (Tab.below ht q3)).mono ?_
  rintro e' w4 ⟨rfl, hb4⟩
  have q4 : Below w.heap.size w w4 := q3.trans (hb4.mono q3.size)
  go_wp2_with fail
  refine (alike_self _ _ _).mono ?_
  rintro e' w' ⟨rfl, rfl⟩
  go_wp2_with fail
  have C := floor_any a ha w4
  rw [F1.out.1, F1.out.2] at C
  refine C.mono ?_
  clear C
  rintro e' w' ⟨rfl, rfl⟩
  go_wp2_with fail
  have C := floor_any b hb w4
  rw [F2.out.1, F2.out.2] at C
  refine C.mono ?_
  clear C
  rintro e' w' ⟨rfl, rfl⟩
  go_wp2_with fail
  have C := sqrt_any a ha w4
  rw [S1.out.1, S1.out.2] at C
  refine C.mono ?_
  clear C
  rintro e' w' ⟨rfl, rfl⟩
  go_wp2_with fail
  have C := sqrt_any b hb w4
  rw [S2.out.1, S2.out.2] at C
  refine C.mono ?_
  clear C
  rintro e' w' ⟨rfl, rfl⟩
  go_wp2
  go_ret
  exact ⟨rfl, q4⟩
set_option maxRecDepth 100000 in
set_option maxHeartbeats 4000000 in
theorem order_110 (a b p : Int) (ha : -9223372036854775808 ≤ a ∧ a ≤ 9223372036854775807) (hb : -9223372036854775808 ≤ b ∧ b ≤ 9223372036854775807) (hp : -9223372036854775808 ≤ p ∧ p ≤ 9223372036854775807) (hab : a ≤ b) (x y : Int) (d : Int) (hx : -9223372036854775808 ≤ x ∧ x ≤ 9223372036854775807) (R1 : Hid (roundV a p = x ∧ roundC a p = 0)) (R2 : Hid (roundV b p = y ∧ roundC b p = d)) (R3 : Hid (roundV x p = x ∧ roundC x p = 0)) (hd : (d == 0) = false) (fx fy : Int) (fd : Int) (F1 : Hid (floorV a = fx ∧ floorC a = 0)) (F2 : Hid (floorV b = fy ∧ floorC b = fd)) (hfd : (fd == 0) = false) (hf1 : fx ≤ a) (hf2 : a - fx < 10000) (sx sy : Int) (sc sd : Int) (S1 : Hid (sqrtV a = sx ∧ sqrtC a = sc)) (S2 : Hid (sqrtV b = sy ∧ sqrtC b = sd)) (hsc : (sc != 0) = true) (w : World) (ht : Tab w) :
    Calls Tryd.prog 16 #[.int .i64 a, .int .i64 b, .int .i64 p] w
      fun e w' => e = .returned (.bool true) ∧ Below w.heap.size w w' := by
  go_enter Tryd.func16, Tryd.ntmps16
  go_wp2_with fail
  have C := round_any a ha p hp w
  rw [R1.out.1, R1.out.2] at C
  refine C.mono ?_
  clear C
  rintro e' w1 ⟨rfl, hb1⟩
  have q1 : Below w.heap.size w w1 := hb1
  go_wp2_with fail
  have C := round_any b hb p hp w1
  rw [R2.out.1, R2.out.2] at C
  refine C.mono ?_
  clear C
  rintro e' w2 ⟨rfl, hb2⟩
  have q2 : Below w.heap.size w w2 := q1.trans (hb2.mono q1.size)
  go_wp2_with fail
  have C := round_any x hx p hp w2
  rw [R3.out.1, R3.out.2] at C
  refine C.mono ?_
  clear C
  rintro e' w3 ⟨rfl, hb3⟩
  have q3 : Below w.heap.size w w3 := q2.trans (hb3.mono q2.size)
  go_wp2_with fail
  refine (dknown_any _ (Tab.below ht q3)).mono ?_
  rintro e' w4 ⟨rfl, hb4⟩
  have q4 : Below w.heap.size w w4 := q3.trans (hb4.mono q3.size)
  go_wp2_with fail
  refine (alike_self _ _ _).mono ?_
  rintro e' w' ⟨rfl, rfl⟩
  go_wp2_with fail
  have C := floor_any a ha w4
  rw [F1.out.1, F1.out.2] at C
  refine C.mono ?_
  clear C
  rintro e' w' ⟨rfl, rfl⟩
  go_wp2_with fail
  have C := floor_any b hb w4
  rw [F2.out.1, F2.out.2] at C
  refine C.mono ?_
  clear C
  rintro e' w' ⟨rfl, rfl⟩
  go_wp2_with fail
  have C := sqrt_any a ha w4
  rw [S1.out.1, S1.out.2] at C
  refine C.mono ?_
  clear C
  rintro e' w' ⟨rfl, rfl⟩
  go_wp2_with fail
  have C := sqrt_any b hb w4
  rw [S2.out.1, S2.out.2] at C
  refine C.mono ?_
  clear C
  rintro e' w' ⟨rfl, rfl⟩
  go_wp2
  go_ret
  exact ⟨rfl, q4⟩
set_option maxRecDepth 100000 in
set_option maxHeartbeats 4000000 in
theorem order_111 (a b p : Int) (ha : -9223372036854775808 ≤ a ∧ a ≤ 9223372036854775807) (hb : -9223372036854775808 ≤ b ∧ b ≤ 9223372036854775807) (hp : -9223372036854775808 ≤ p ∧ p ≤ 9223372036854775807) (hab : a ≤ b) (x y : Int) (d : Int) (hx : -9223372036854775808 ≤ x ∧ x ≤ 9223372036854775807) (R1 : Hid (roundV a p = x ∧ roundC a p = 0)) (R2 : Hid (roundV b p = y ∧ roundC b p = d)) (R3 : Hid (roundV x p = x ∧ roundC x p = 0)) (hd : (d == 0) = false) (fx fy : Int) (fd : Int) (F1 : Hid (floorV a = fx ∧ floorC a = 0)) (F2 : Hid (floorV b = fy ∧ floorC b = fd)) (hfd : (fd == 0) = false) (hf1 : fx ≤ a) (hf2 : a - fx < 10000) (sx sy : Int) (S1 : Hid (sqrtV a = sx ∧ sqrtC a = 0)) (S2 : Hid (sqrtV b = sy ∧ sqrtC b = 0)) (hs1 : sx ≤ sy) (hs2 : 0 ≤ sx) (w : World) (ht : Tab w) :
    Calls Tryd.prog 16 #[.int .i64 a, .int .i64 b, .int .i64 p] w
      fun e w' => e = .returned (.bool true) ∧ Below w.heap.size w w' := by
  go_enter Tryd.func16, Tryd.ntmps16
  go_wp2_with fail
  have C := round_any a ha p hp w
  rw [R1.out.1, R1.out.2] at C
  refine C.mono ?_
  clear C
  rintro e' w1 ⟨rfl, hb1⟩
  have q1 : Below w.heap.size w w1 := hb1
  go_wp2_with fail
  have C := round_any b hb p hp w1
  rw [R2.out.1, R2.out.2] at C
  refine C.mono ?_
  clear C
  rintro e' w2 ⟨rfl, hb2⟩
  have q2 : Below w.heap.size w w2 := q1.trans (hb2.mono q1.size)
  go_wp2_with fail
  have C := round_any x hx p hp w2
  rw [R3.out.1, R3.out.2] at C
  refine C.mono ?_
  clear C
  rintro e' w3 ⟨rfl, hb3⟩
  have q3 : Below w.heap.size w w3 := q2.trans (hb3.mono q2.size)
  go_wp2_with fail
  refine (dknown_any _ (Tab.below ht q3)).mono ?_
  rintro e' w4 ⟨rfl, hb4⟩
  have q4 : Below w.heap.size w w4 := q3.trans (hb4.mono q3.size)
  go_wp2_with fail
  refine (alike_self _ _ _).mono ?_
  rintro e' w' ⟨rfl, rfl⟩
  go_wp2_with fail
  have C := floor_any a ha w4
  rw [F1.out.1, F1.out.2] at C
  refine C.mono ?_
  clear C
  rintro e' w' ⟨rfl, rfl⟩
  go_wp2_with fail
  have C := floor_any b hb w4
  rw [F2.out.1, F2.out.2] at C
  refine C.mono ?_
  clear C
  rintro e' w' ⟨rfl, rfl⟩
  go_wp2_with fail
  have C := sqrt_any a ha w4
  rw [S1.out.1, S1.out.2] at C
  refine C.mono ?_
  clear C
  rintro e' w' ⟨rfl, rfl⟩
  go_wp2_with fail
  have C := sqrt_any b hb w4
  rw [S2.out.1, S2.out.2] at C
  refine C.mono ?_
  clear C
  rintro e' w' ⟨rfl, rfl⟩
  go_wp2
  go_ret
  exact ⟨rfl, q4⟩
set_option maxRecDepth 100000 in
set_option maxHeartbeats 4000000 in
theorem order_120 (a b p : Int) (ha : -9223372036854775808 ≤ a ∧ a ≤ 9223372036854775807) (hb : -9223372036854775808 ≤ b ∧ b ≤ 9223372036854775807) (hp : -9223372036854775808 ≤ p ∧ p ≤ 9223372036854775807) (hab : a ≤ b) (x y : Int) (d : Int) (hx : -9223372036854775808 ≤ x ∧ x ≤ 9223372036854775807) (R1 : Hid (roundV a p = x ∧ roundC a p = 0)) (R2 : Hid (roundV b p = y ∧ roundC b p = d)) (R3 : Hid (roundV x p = x ∧ roundC x p = 0)) (hd : (d == 0) = false) (fx fy : Int) (F1 : Hid (floorV a = fx ∧ floorC a = 0)) (F2 : Hid (floorV b = fy ∧ floorC b = 0)) (hfxy : fx ≤ fy) (hf1 : fx ≤ a) (hf2 : a - fx < 10000) (sx sy : Int) (sc sd : Int) (S1 : Hid (sqrtV a = sx ∧ sqrtC a = sc)) (S2 : Hid (sqrtV b = sy ∧ sqrtC b = sd)) (hsc : (sc != 0) = true) (w : World) (ht : Tab w) :
    Calls Tryd.prog 16 #[.int .i64 a, .int .i64 b, .int .i64 p] w
      fun e w' => e = .returned (.bool true) ∧ Below w.heap.size w w' := by
  go_enter Tryd.func16, Tryd.ntmps16
  go_wp2_with fail
  have C := round_any a ha p hp w
  rw [R1.out.1, R1.out.2] at C
  refine C.mono ?_
  clear C
  rintro e' w1 ⟨rfl, hb1⟩
  have q1 : Below w.heap.size w w1 := hb1
  go_wp2_with fail
  have C := round_any b hb p hp w1
  rw [R2.out.1, R2.out.2] at C
  refine C.mono ?_
  clear C
  rintro e' w2 ⟨rfl, hb2⟩
  have q2 : Below w.heap.size w w2 := q1.trans (hb2.mono q1.size)
  go_wp2_with fail
  have C := round_any x hx p hp w2
  rw [R3.out.1, R3.out.2] at C
  refine C.mono ?_
  clear C
  rintro e' w3 ⟨rfl, hb3⟩
  have q3 : Below w.heap.size w w3 := q2.trans (hb3.mono q2.size)
  go_wp2_with fail
  refine (dknown_any _ (Tab.below ht q3)).mono ?_
  rintro e' w4 ⟨rfl, hb4⟩
  have q4 : Below w.heap.size w w4 := q3.trans (hb4.mono q3.size)
  go_wp2_with fail
  refine (alike_self _ _ _).mono ?_
  rintro e' w' ⟨rfl, rfl⟩
  go_wp2_with fail
  have C := floor_any a ha w4
  rw [F1.out.1, F1.out.2] at C
  refine C.mono ?_
  clear C
  rintro e' w' ⟨rfl, rfl⟩
  go_wp2_with fail
  have C := floor_any b hb w4
  rw [F2.out.1, F2.out.2] at C
  refine C.mono ?_
  clear C
  rintro e' w' ⟨rfl, rfl⟩
  go_wp2_with fail
  have C := sqrt_any a ha w4
  rw [S1.out.1, S1.out.2] at C
  refine C.mono ?_
  clear C
  rintro e' w' ⟨rfl, rfl⟩
  go_wp2_with fail
  have C := sqrt_any b hb w4
  rw [S2.out.1, S2.out.2] at C
  refine C.mono ?_
  clear C
  rintro e' w' ⟨rfl, rfl⟩
  go_wp2
  go_ret
  exact ⟨rfl, q4⟩
set_option maxRecDepth 100000 in
set_option maxHeartbeats 4000000 in
theorem order_121 (a b p : Int) (ha : -9223372036854775808 ≤ a ∧ a ≤ 9223372036854775807) (hb : -9223372036854775808 ≤ b ∧ b ≤ 9223372036854775807) (hp : -9223372036854775808 ≤ p ∧ p ≤ 9223372036854775807) (hab : a ≤ b) (x y : Int) (d : Int) (hx : -9223372036854775808 ≤ x ∧ x ≤ 9223372036854775807) (R1 : Hid (roundV a p = x ∧ roundC a p = 0)) (R2 : Hid (roundV b p = y ∧ roundC b p = d)) (R3 : Hid (roundV x p = x ∧ roundC x p = 0)) (hd : (d == 0) = false) (fx fy : Int) (F1 : Hid (floorV a = fx ∧ floorC a = 0)) (F2 : Hid (floorV b = fy ∧ floorC b = 0)) (hfxy : fx ≤ fy) (hf1 : fx ≤ a) (hf2 : a - fx < 10000) (sx sy : Int) (S1 : Hid (sqrtV a = sx ∧ sqrtC a = 0)) (S2 : Hid (sqrtV b = sy ∧ sqrtC b = 0)) (hs1 : sx ≤ sy) (hs2 : 0 ≤ sx) (w : World) (ht : Tab w) :
    Calls Tryd.prog 16 #[.int .i64 a, .int .i64 b, .int .i64 p] w
      fun e w' => e = .returned (.bool true) ∧ Below w.heap.size w w' := by
  go_enter Tryd.func16, Tryd.ntmps16
  go_wp2_with fail
  have C := round_any a ha p hp w
  rw [R1.out.1, R1.out.2] at C
  refine C.mono ?_
  clear C
  rintro e' w1 ⟨rfl, hb1⟩
  have q1 : Below w.heap.size w w1 := hb1
  go_wp2_with fail
  have C := round_any b hb p hp w1
  rw [R2.out.1, R2.out.2] at C
  refine C.mono ?_
  clear C
  rintro e' w2 ⟨rfl, hb2⟩
  have q2 : Below w.heap.size w w2 := q1.trans (hb2.mono q1.size)
  go_wp2_with fail
  have C := round_any x hx p hp w2
  rw [R3.out.1, R3.out.2] at C
  refine C.mono ?_
  clear C
  rintro e' w3 ⟨rfl, hb3⟩
  have q3 : Below w.heap.size w w3 := q2.trans (hb3.mono q2.size)
  go_wp2_with fail
  refine (dknown_any _ (Tab.below ht q3)).mono ?_
  rintro e' w4 ⟨rfl, hb4⟩
  have q4 : Below w.heap.size w w4 := q3.trans (hb4.mono q3.size)
  go_wp2_with fail
  refine (alike_self _ _ _).mono ?_
  rintro e' w' ⟨rfl, rfl⟩
  go_wp2_with fail
  have C := floor_any a ha w4
  rw [F1.out.1, F1.out.2] at C
  refine C.mono ?_
  clear C
  rintro e' w' ⟨rfl, rfl⟩
  go_wp2_with fail
  have C := floor_any b hb w4
  rw [F2.out.1, F2.out.2] at C
  refine C.mono ?_
  clear C
  rintro e' w' ⟨rfl, rfl⟩
  go_wp2_with fail
  have C := sqrt_any a ha w4
  rw [S1.out.1, S1.out.2] at C
  refine C.mono ?_
  clear C
  rintro e' w' ⟨rfl, rfl⟩
  go_wp2_with fail
  have C := sqrt_any b hb w4
  rw [S2.out.1, S2.out.2] at C
  refine C.mono ?_
  clear C
  rintro e' w' ⟨rfl, rfl⟩
  go_wp2
  go_ret
  exact ⟨rfl, q4⟩
set_option maxRecDepth 100000 in
set_option maxHeartbeats 4000000 in
theorem order_200 (a b p : Int) (ha : -9223372036854775808 ≤ a ∧ a ≤ 9223372036854775807) (hb : -9223372036854775808 ≤ b ∧ b ≤ 9223372036854775807) (hp : -9223372036854775808 ≤ p ∧ p ≤ 9223372036854775807) (hab : a ≤ b) (x y : Int) (hx : -9223372036854775808 ≤ x ∧ x ≤ 9223372036854775807) (R1 : Hid (roundV a p = x ∧ roundC a p = 0)) (R2 : Hid (roundV b p = y ∧ roundC b p = 0)) (R3 : Hid (roundV x p = x ∧ roundC x p = 0)) (hxy : x ≤ y) (fx fy : Int) (fc : Int) (fd : Int) (F1 : Hid (floorV a = fx ∧ floorC a = fc)) (F2 : Hid (floorV b = fy ∧ floorC b = fd)) (hfc : (fc == 0) = false) (sx sy : Int) (sc sd : Int) (S1 : Hid (sqrtV a = sx ∧ sqrtC a = sc)) (S2 : Hid (sqrtV b = sy ∧ sqrtC b = sd)) (hsc : (sc != 0) = true) (w : World) (ht : Tab w) :
    Calls Tryd.prog 16 #[.int .i64 a, .int .i64 b, .int .i64 p] w
      fun e w' => e = .returned (.bool true) ∧ Below w.heap.size w w' := by
  go_enter Tryd.func16, Tryd.ntmps16
  go_wp2_with fail
  have C := round_any a ha p hp w
  rw [R1.out.1, R1.out.2] at C
  refine C.mono ?_
  clear C
  rintro e' w1 ⟨rfl, hb1⟩
  have q1 : Below w.heap.size w w1 := hb1
  go_wp2_with fail
  have C := round_any b hb p hp w1
  rw [R2.out.1, R2.out.2] at C
  refine C.mono ?_
  clear C
  rintro e' w2 ⟨rfl, hb2⟩
  have q2 : Below w.heap.size w w2 := q1.trans (hb2.mono q1.size)
  go_wp2_with fail
  have C := round_any x hx p hp w2
  rw [R3.out.1, R3.out.2] at C
  refine C.mono ?_
  clear C
  rintro e' w3 ⟨rfl, hb3⟩
  have q3 : Below w.heap.size w w3 := q2.trans (hb3.mono q2.size)
  go_wp2_with fail
  refine (dknown_any _ (Tab.below ht q3)).mono ?_
  rintro e' w4 ⟨rfl, hb4⟩
  have q4 : Below w.heap.size w w4 := q3.trans (hb4.mono q3.size)
  go_wp2_with fail
  refine (alike_self _ _ _).mono ?_
  rintro e' w' ⟨rfl, rfl⟩
  go_wp2_with fail
  have C := floor_any a ha w4
  rw [F1.out.1, F1.out.2] at C
  refine C.mono ?_
  clear C
  rintro e' w' ⟨rfl, rfl⟩
  go_wp2_with fail
  have C := floor_any b hb w4
  rw [F2.out.1, F2.out.2] at C
  refine C.mono ?_
  clear C
  rintro e' w' ⟨rfl, rfl⟩
  go_wp2_with fail
  have C := sqrt_any a ha w4
  rw [S1.out.1, S1.out.2] at C
  refine C.mono ?_
  clear C
  rintro e' w' ⟨rfl, rfl⟩
  go_wp2_with fail
  have C := sqrt_any b hb w4
  rw [S2.out.1, S2.out.2] at C
  refine C.mono ?_
  clear C
  rintro e' w' ⟨rfl, rfl⟩
  go_wp2
  go_ret
  exact ⟨rfl, q4⟩
set_option maxRecDepth 100000 in
set_option maxHeartbeats 4000000 in
theorem order_201 (a b p : Int) (ha : -9223372036854775808 ≤ a ∧ a ≤ 9223372036854775807) (hb : -9223372036854775808 ≤ b ∧ b ≤ 9223372036854775807) (hp : -9223372036854775808 ≤ p ∧ p ≤ 9223372036854775807) (hab : a ≤ b) (x y : Int) (hx : -9223372036854775808 ≤ x ∧ x ≤ 9223372036854775807) (R1 : Hid (roundV a p = x ∧ roundC a p = 0)) (R2 : Hid (roundV b p = y ∧ roundC b p = 0)) (R3 : Hid (roundV x p = x ∧ roundC x p = 0)) (hxy : x ≤ y) (fx fy : Int) (fc : Int) (fd : Int) (F1 : Hid (floorV a = fx ∧ floorC a = fc)) (F2 : Hid (floorV b = fy ∧ floorC b = fd)) (hfc : (fc == 0) = false) (sx sy : Int) (S1 : Hid (sqrtV a = sx ∧ sqrtC a = 0)) (S2 : Hid (sqrtV b = sy ∧ sqrtC b = 0)) (hs1 : sx ≤ sy) (hs2 : 0 ≤ sx) (w : World) (ht : Tab w) :
    Calls Tryd.prog 16 #[.int .i64 a, .int .i64 b, .int .i64 p] w
      fun e w' => e = .returned (.bool true) ∧ Below w.heap.size w w' := by
  go_enter Tryd.func16, Tryd.ntmps16
  go_wp2_with fail
  have C := round_any a ha p hp w
  rw [R1.out.1, R1.out.2] at C
  refine C.mono ?_
  clear C
  rintro e' w1 ⟨rfl, hb1⟩
  have q1 : Below w.heap.size w w1 := hb1
  go_wp2_with fail
  have C := round_any b hb p hp w1
  rw [R2.out.1, R2.out.2] at C
  refine C.mono ?_
  clear C
  rintro e' w2 ⟨rfl, hb2⟩
  have q2 : Below w.heap.size w w2 := q1.trans (hb2.mono q1.size)
  go_wp2_with fail
  have C := round_any x hx p hp w2
  rw [R3.out.1, R3.out.2] at C
  refine C.mono ?_
  clear C
  rintro e' w3 ⟨rfl, hb3⟩
  have q3 : Below w.heap.size w w3 := q2.trans (hb3.mono q2.size)
  go_wp2_with fail
  refine (dknown_any _ (Tab.below ht q3)).mono ?_
  rintro e' w4 ⟨rfl, hb4⟩
  have q4 : Below w.heap.size w w4 := q3.trans (hb4.mono q3.size)
  go_wp2_with fail
  refine (alike_self _ _ _).mono ?_
  rintro e' w' ⟨rfl, rfl⟩
  go_wp2_with fail
  have C := floor_any a ha w4
  rw [F1.out.1, F1.out.2] at C
  refine C.mono ?_
  clear C
  rintro e' w' ⟨rfl, rfl⟩
  go_wp2_with fail
  have C := floor_any b hb w4
  rw [F2.out.1, F2.out.2] at C
  refine C.mono ?_
  clear C
  rintro e' w' ⟨rfl, rfl⟩
  go_wp2_with fail
  have C := sqrt_any a ha w4
  rw [S1.out.1, S1.out.2] at C
  refine C.mono ?_
  clear C
  rintro e' w' ⟨rfl, rfl⟩
  go_wp2_with fail
  have C := sqrt_any b hb w4
  rw [S2.out.1, S2.out.2] at C
  refine C.mono ?_
  clear C
  rintro e' w' ⟨rfl, rfl⟩
  go_wp2
  go_ret
  exact ⟨rfl, q4⟩
set_option maxRecDepth 100000 in
set_option maxHeartbeats 4000000 in
theorem order_210 (a b p : Int) (ha : -9223372036854775808 ≤ a ∧ a ≤ 9223372036854775807) (hb : -9223372036854775808 ≤ b ∧ b ≤ 9223372036854775807) (hp : -9223372036854775808 ≤ p ∧ p ≤ 9223372036854775807) (hab : a ≤ b) (x y : Int) (hx : -9223372036854775808 ≤ x ∧ x ≤ 9223372036854775807) (R1 : Hid (roundV a p = x ∧ roundC a p = 0)) (R2 : Hid (roundV b p = y ∧ roundC b p = 0)) (R3 : Hid (roundV x p = x ∧ roundC x p = 0)) (hxy : x ≤ y) (fx fy : Int) (fd : Int) (F1 : Hid (floorV a = fx ∧ floorC a = 0)) (F2 : Hid (floorV b = fy ∧ floorC b = fd)) (hfd : (fd == 0) = false) (hf1 : fx ≤ a) (hf2 : a - fx < 10000) (sx sy : Int) (sc sd : Int) (S1 : Hid (sqrtV a = sx ∧ sqrtC a = sc)) (S2 : Hid (sqrtV b = sy ∧ sqrtC b = sd)) (hsc : (sc != 0) = true) (w : World) (ht : Tab w) :
    Calls Tryd.prog 16 #[.int .i64 a, .int .i64 b, .int .i64 p] w
      fun e w' => e = .returned (.bool true) ∧ Below w.heap.size w w' := by
  go_enter Tryd.func16, Tryd.ntmps16
  go_wp2_with fail
  have C := round_any a ha p hp w
  rw [R1.out.1, R1.out.2] at C
  refine C.mono ?_
  clear C
  rintro e' w1 ⟨rfl, hb1⟩
  have q1 : Below w.heap.size w w1 := hb1
  go_wp2_with fail
  have C := round_any b hb p hp w1
  rw [R2.out.1, R2.out.2] at C
  refine C.mono ?_
  clear C
  rintro e' w2 ⟨rfl, hb2⟩
  have q2 : Below w.heap.size w w2 := q1.trans (hb2.mono q1.size)
  go_wp2_with fail
  have C := round_any x hx p hp w2
  rw [R3.out.1, R3.out.2] at C
  refine C.mono ?_
  clear C
  rintro e' w3 ⟨rfl, hb3⟩
  have q3 : Below w.heap.size w w3 := q2.trans (hb3.mono q2.size)
  go_wp2_with fail
  refine (dknown_any _ (Tab.below ht q3)).mono ?_
  rintro e' w4 ⟨rfl, hb4⟩
  have q4 : Below w.heap.size w w4 := q3.trans (hb4.mono q3.size)
  go_wp2_with fail
  refine (alike_self _ _ _).mono ?_
  rintro e' w' ⟨rfl, rfl⟩
  go_wp2_with fail
  have C := floor_any a ha w4
  rw [F1.out.1, F1.out.2] at C
  refine C.mono ?_
  clear C
  rintro e' w' ⟨rfl, rfl⟩
  go_wp2_with fail
  have C := floor_any b hb w4
  rw [F2.out.1, F2.out.2] at C
  refine C.mono ?_
  clear C
  rintro e' w' ⟨rfl, rfl⟩
  go_wp2_with fail
  have C := sqrt_any a ha w4
  rw [S1.out.1, S1.out.2] at C
  refine C.mono ?_
  clear C
  rintro e' w' ⟨rfl, rfl⟩
  go_wp2_with fail
  have C := sqrt_any b hb w4
  rw [S2.out.1, S2.out.2] at C
  refine C.mono ?_
  clear C
  rintro e' w' ⟨rfl, rfl⟩
  go_wp2
  go_ret
  exact ⟨rfl, q4⟩
set_option maxRecDepth 100000 in
set_option maxHeartbeats 4000000 in
theorem order_211 (a b p : Int) (ha : -9223372036854775808 ≤ a ∧ a ≤ 9223372036854775807) (hb : -9223372036854775808 ≤ b ∧ b ≤ 9223372036854775807) (hp : -9223372036854775808 ≤ p ∧ p ≤ 9223372036854775807) (hab : a ≤ b) (x y : Int) (hx : -9223372036854775808 ≤ x ∧ x ≤ 9223372036854775807) (R1 : Hid (roundV a p = x ∧ roundC a p = 0)) (R2 : Hid (roundV b p = y ∧ roundC b p = 0)) (R3 : Hid (roundV x p = x ∧ roundC x p = 0)) (hxy : x ≤ y) (fx fy : Int) (fd : Int) (F1 : Hid (floorV a = fx ∧ floorC a = 0)) (F2 : Hid (floorV b = fy ∧ floorC b = fd)) (hfd : (fd == 0) = false) (hf1 : fx ≤ a) (hf2 : a - fx < 10000) (sx sy : Int) (S1 : Hid (sqrtV a = sx ∧ sqrtC a = 0)) (S2 : Hid (sqrtV b = sy ∧ sqrtC b = 0)) (hs1 : sx ≤ sy) (hs2 : 0 ≤ sx) (w : World) (ht : Tab w) :
    Calls Tryd.prog 16 #[.int .i64 a, .int .i64 b, .int .i64 p] w
      fun e w' => e = .returned (.bool true) ∧ Below w.heap.size w w' := by
  go_enter Tryd.func16, Tryd.ntmps16
  go_wp2_with fail
  have C := round_any a ha p hp w
  rw [R1.out.1, R1.out.2] at C
  refine C.mono ?_
  clear C
  rintro e' w1 ⟨rfl, hb1⟩
  have q1 : Below w.heap.size w w1 := hb1
  go_wp2_with fail
  have C := round_any b hb p hp w1
  rw [R2.out.1, R2.out.2] at C
  refine C.mono ?_
  clear C
  rintro e' w2 ⟨rfl, hb2⟩
  have q2 : Below w.heap.size w w2 := q1.trans (hb2.mono q1.size)
  go_wp2_with fail
  have C := round_any x hx p hp w2
  rw [R3.out.1, R3.out.2] at C
  refine C.mono ?_
  clear C
  rintro e' w3 ⟨rfl, hb3⟩
  have q3 : Below w.heap.size w w3 := q2.trans (hb3.mono q2.size)
  go_wp2_with fail
  refine (dknown_any _ (Tab.below ht q3)).mono ?_
  rintro e' w4 ⟨rfl, hb4⟩
  have q4 : Below w.heap.size w w4 := q3.trans (hb4.mono q3.size)
  go_wp2_with fail
  refine (alike_self _ _ _).mono ?_
  rintro e' w' ⟨rfl, rfl⟩
  go_wp2_with fail
  have C := floor_any a ha w4
  rw [F1.out.1, F1.out.2] at C
  refine C.mono ?_
  clear C
  rintro e' w' ⟨rfl, rfl⟩
  go_wp2_with fail
  have C := floor_any b hb w4
  rw [F2.out.1, F2.out.2] at C
  refine C.mono ?_
  clear C
  rintro e' w' ⟨rfl, rfl⟩
  go_wp2_with fail
  have C := sqrt_any a ha w4
  rw [S1.out.1, S1.out.2] at C
  refine C.mono ?_
  clear C
  rintro e' w' ⟨rfl, rfl⟩
  go_wp2_with fail
  have C := sqrt_any b hb w4
  rw [S2.out.1, S2.out.2] at C
  refine C.mono ?_
  clear C
  rintro e' w' ⟨rfl, rfl⟩
  go_wp2
  go_ret
  exact ⟨rfl, q4⟩
set_option maxRecDepth 100000 in
set_option maxHeartbeats 4000000 in
theorem order_220 (a b p : Int) (ha : -9223372036854775808 ≤ a ∧ a ≤ 9223372036854775807) (hb : -9223372036854775808 ≤ b ∧ b ≤ 9223372036854775807) (hp : -9223372036854775808 ≤ p ∧ p ≤ 9223372036854775807) (hab : a ≤ b) (x y : Int) (hx : -9223372036854775808 ≤ x ∧ x ≤ 9223372036854775807) (R1 : Hid (roundV a p = x ∧ roundC a p = 0)) (R2 : Hid (roundV b p = y ∧ roundC b p = 0)) (R3 : Hid (roundV x p = x ∧ roundC x p = 0)) (hxy : x ≤ y) (fx fy : Int) (F1 : Hid (floorV a = fx ∧ floorC a = 0)) (F2 : Hid (floorV b = fy ∧ floorC b = 0)) (hfxy : fx ≤ fy) (hf1 : fx ≤ a) (hf2 : a - fx < 10000) (sx sy : Int) (sc sd : Int) (S1 : Hid (sqrtV a = sx ∧ sqrtC a = sc)) (S2 : Hid (sqrtV b = sy ∧ sqrtC b = sd)) (hsc : (sc != 0) = true) (w : World) (ht : Tab w) :
    Calls Tryd.prog 16 #[.int .i64 a, .int .i64 b, .int .i64 p] w
      fun e w' => e = .returned (.bool true) ∧ Below w.heap.size w w' := by
  go_enter Tryd.func16, Tryd.ntmps16
  go_wp2_with fail
  have C := round_any a ha p hp w
  rw [R1.out.1, R1.out.2] at C
  refine C.mono ?_
  clear C
  rintro e' w1 ⟨rfl, hb1⟩
  have q1 : Below w.heap.size w w1 := hb1
  go_wp2_with fail
  have C := round_any b hb p hp w1
  rw [R2.out.1, R2.out.2] at C
  refine C.mono ?_
  clear C
  rintro e' w2 ⟨rfl, hb2⟩
  have q2 : Below w.heap.size w w2 := q1.trans (hb2.mono q1.size)
  go_wp2_with fail
  have C := round_any x hx p hp w2
  rw [R3.out.1, R3.out.2] at C
  refine C.mono ?_
  clear C
  rintro e' w3 ⟨rfl, hb3⟩
  have q3 : Below w.heap.size w w3 := q2.trans (hb3.mono q2.size)
  go_wp2_with fail
  refine (dknown_any _ (Tab.below ht q3)).mono ?_
  rintro e' w4 ⟨rfl, hb4⟩
  have q4 : Below w.heap.size w w4 := q3.trans (hb4.mono q3.size)
  go_wp2_with fail
  refine (alike_self _ _ _).mono ?_
  rintro e' w' ⟨rfl, rfl⟩
  go_wp2_with fail
  have C := floor_any a ha w4
  rw [F1.out.1, F1.out.2] at C
  refine C.mono ?_
  clear C
  rintro e' w' ⟨rfl, rfl⟩
  go_wp2_with fail
  have C := floor_any b hb w4
  rw [F2.out.1, F2.out.2] at C
  refine C.mono ?_
  clear C
  rintro e' w' ⟨rfl, rfl⟩
  go_wp2_with fail
  have C := sqrt_any a ha w4
  rw [S1.out.1, S1.out.2] at C
  refine C.mono ?_
  clear C
  rintro e' w' ⟨rfl, rfl⟩
  go_wp2_with fail
  have C := sqrt_any b hb w4
  rw [S2.out.1, S2.out.2] at C
  refine C.mono ?_
  clear C
  rintro e' w' ⟨rfl, rfl⟩
  go_wp2
  go_ret
  exact ⟨rfl, q4⟩
set_option maxRecDepth 100000 in
set_option maxHeartbeats 4000000 in
theorem order_221 (a b p : Int) (ha : -9223372036854775808 ≤ a ∧ a ≤ 9223372036854775807) (hb : -9223372036854775808 ≤ b ∧ b ≤ 9223372036854775807) (hp : -9223372036854775808 ≤ p ∧ p ≤ 9223372036854775807) (hab : a ≤ b) (x y : Int) (hx : -9223372036854775808 ≤ x ∧ x ≤ 9223372036854775807) (R1 : Hid (roundV a p = x ∧ roundC a p = 0)) (R2 : Hid (roundV b p = y ∧ roundC b p = 0)) (R3 : Hid (roundV x p = x ∧ roundC x p = 0)) (hxy : x ≤ y) (fx fy : Int) (F1 : Hid (floorV a = fx ∧ floorC a = 0)) (F2 : Hid (floorV b = fy ∧ floorC b = 0)) (hfxy : fx ≤ fy) (hf1 : fx ≤ a) (hf2 : a - fx < 10000) (sx sy : Int) (S1 : Hid (sqrtV a = sx ∧ sqrtC a = 0)) (S2 : Hid (sqrtV b = sy ∧ sqrtC b = 0)) (hs1 : sx ≤ sy) (hs2 : 0 ≤ sx) (w : World) (ht : Tab w) :
    Calls Tryd.prog 16 #[.int .i64 a, .int .i64 b, .int .i64 p] w
      fun e w' => e = .returned (.bool true) ∧ Below w.heap.size w w' := by
  go_enter Tryd.func16, Tryd.ntmps16
  go_wp2_with fail
  have C := round_any a ha p hp w
  rw [R1.out.1, R1.out.2] at C
  refine C.mono ?_
  clear C
  rintro e' w1 ⟨rfl, hb1⟩
  have q1 : Below w.heap.size w w1 := hb1
  go_wp2_with fail
  have C := round_any b hb p hp w1
  rw [R2.out.1, R2.out.2] at C
  refine C.mono ?_
  clear C
  rintro e' w2 ⟨rfl, hb2⟩
  have q2 : Below w.heap.size w w2 := q1.trans (hb2.mono q1.size)
  go_wp2_with fail
  have C := round_any x hx p hp w2
  rw [R3.out.1, R3.out.2] at C
  refine C.mono ?_
  clear C
  rintro e' w3 ⟨rfl, hb3⟩
  have q3 : Below w.heap.size w w3 := q2.trans (hb3.mono q2.size)
  go_wp2_with fail
  refine (dknown_any _ (Tab.below ht q3)).mono ?_
  rintro e' w4 ⟨rfl, hb4⟩
  have q4 : Below w.heap.size w w4 := q3.trans (hb4.mono q3.size)
  go_wp2_with fail
  refine (alike_self _ _ _).mono ?_
  rintro e' w' ⟨rfl, rfl⟩
  go_wp2_with fail
  have C := floor_any a ha w4
  rw [F1.out.1, F1.out.2] at C
  refine C.mono ?_
  clear C
  rintro e' w' ⟨rfl, rfl⟩
  go_wp2_with fail
  have C := floor_any b hb w4
  rw [F2.out.1, F2.out.2] at C
  refine C.mono ?_
  clear C
  rintro e' w' ⟨rfl, rfl⟩
  go_wp2_with fail
  have C := sqrt_any a ha w4
  rw [S1.out.1, S1.out.2] at C
  refine C.mono ?_
  clear C
  rintro e' w' ⟨rfl, rfl⟩
  go_wp2_with fail
  have C := sqrt_any b hb w4
  rw [S2.out.1, S2.out.2] at C
  refine C.mono ?_
  clear C
  rintro e' w' ⟨rfl, rfl⟩
  go_wp2
  go_ret
  exact ⟨rfl, q4⟩
end Go.Proofs.YtjnjklcnccfgaaaDoor
