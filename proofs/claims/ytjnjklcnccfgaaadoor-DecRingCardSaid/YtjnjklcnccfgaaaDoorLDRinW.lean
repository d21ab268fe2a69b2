/-
  The walk of the law of the ring, by cases.
-/
import Derived.Test.YtjnjklcnccfgaaaDoorDecK
import Derived.Test.YtjnjklcnccfgaaaDoorDMulA
import Derived.WalkSpells
import Derived.WalkLawsBesides
import Derived.StillTactics
import Derived.Laws.Pointers
import Derived.Deep.RegionHeld3
import Derived.Deep.QuietTactic
import Derived.BigQuiet
import Derived.RowKit3
import Derived.Lib.Hide
import Derived.Lib.OthersKept
import Derived.OwnWalk
import Derived.Lib.IndexLaws
import Derived.Lib.ItoaMem
namespace Go.Proofs.YtjnjklcnccfgaaaDoor
open Go.RowKit

set_option maxRecDepth 100000 in
set_option maxHeartbeats 4000000 in
theorem ring_000 (a b c : Int) (ha : -9223372036854775808 ≤ a ∧ a ≤ 9223372036854775807) (hb : -9223372036854775808 ≤ b ∧ b ≤ 9223372036854775807) (hc : -9223372036854775808 ≤ c ∧ c ≤ 9223372036854775807) (ab bc : Int) (e : Int) (k : Int) (R1 : Hid (addV a b = ab ∧ addC a b = e)) (R1b : Hid (addV b a = ab ∧ addC b a = e)) (R2 : Hid (addV b c = bc ∧ addC b c = k)) (hab : -9223372036854775808 ≤ ab ∧ ab ≤ 9223372036854775807) (hbc : -9223372036854775808 ≤ bc ∧ bc ≤ 9223372036854775807) (he : (e == 0) = false) (p g : Int) (P1 : Hid (mulV a b = p ∧ mulC a b = g)) (P2 : Hid (mulV b a = p ∧ mulC b a = g)) (n d m : Int) (l : Int) (N1 : Hid (negV b = n ∧ negC b = l)) (hn : -9223372036854775808 ≤ n ∧ n ≤ 9223372036854775807) (D1 : Hid (subV a b = d ∧ subC a b = m)) (hl : (l == 0) = false) (Z : Hid (subV a a = 0 ∧ subC a a = 0)) (O : Hid (mulV a 10000 = a ∧ mulC a 10000 = 0)) (hna : (a == -9223372036854775808) = false) (w : World) (ht : Tab w) :
    Calls Tryd.prog 12 #[.int .i64 a, .int .i64 b, .int .i64 c] w
      fun e w' => e = .returned (.bool true) ∧ Below w.heap.size w w' := by
  go_enter Tryd.func12, Tryd.ntmps12
  go_wp2_with fail
  have C0 := add_any a b ha hb w
  rw [R1.out.1, R1.out.2] at C0
  refine C0.mono ?_
  clear C0
  rintro e' w' ⟨rfl, rfl⟩
  go_wp2_with fail
  have C0 := add_any b a hb ha w
  rw [R1b.out.1, R1b.out.2] at C0
  refine C0.mono ?_
  clear C0
  rintro e' w' ⟨rfl, rfl⟩
  go_wp2_with fail
  have C0 := mul_any a b ha hb w
  rw [P1.out.1, P1.out.2] at C0
  refine C0.mono ?_
  clear C0
  rintro e' w1 ⟨rfl, hb1⟩
  have q1 : Below w.heap.size w w1 := hb1
  go_wp2_with fail
  have C0 := mul_any b a hb ha w1
  rw [P2.out.1, P2.out.2] at C0
  refine C0.mono ?_
  clear C0
  rintro e' w2 ⟨rfl, hb2⟩
  have q2 : Below w.heap.size w w2 := q1.trans (hb2.mono q1.size)
  go_wp2_with fail
  refine (dknown_any _ (Tab.below ht q2)).mono ?_
  rintro e' w3 ⟨rfl, hb3⟩
  have q3 : Below w.heap.size w w3 := q2.trans (hb3.mono q2.size)
  go_wp2_with fail
  refine (alike_self _ _ _).mono ?_
  rintro e' w' ⟨rfl, rfl⟩
  go_wp2_with fail
  refine (alike_self _ _ _).mono ?_
  rintro e' w' ⟨rfl, rfl⟩
  go_wp2_with fail
  have C0 := add_any b c hb hc w3
  rw [R2.out.1, R2.out.2] at C0
  refine C0.mono ?_
  clear C0
  rintro e' w' ⟨rfl, rfl⟩
  go_wp2_with fail
  have C0 := neg_any b hb w3
  rw [N1.out.1, N1.out.2] at C0
  refine C0.mono ?_
  clear C0
  rintro e' w' ⟨rfl, rfl⟩
  go_wp2_with fail
  have C0 := sub_any a b ha hb w3
  rw [D1.out.1, D1.out.2] at C0
  refine C0.mono ?_
  clear C0
  rintro e' w' ⟨rfl, rfl⟩
  go_wp2_with fail
  have C0 := sub_any a a ha ha w3
  rw [Z.out.1, Z.out.2] at C0
  refine C0.mono ?_
  clear C0
  rintro e' w' ⟨rfl, rfl⟩
  go_wp2_with fail
  have C0 := mul_any a 10000 ha (by omega) w3
  rw [O.out.1, O.out.2] at C0
  refine C0.mono ?_
  clear C0
  rintro e' w4 ⟨rfl, hb4⟩
  have q4 : Below w.heap.size w w4 := q3.trans (hb4.mono q3.size)
  go_wp2_with fail
  refine (alike_self _ _ _).mono ?_
  rintro e' w' ⟨rfl, rfl⟩
  go_wp2_with fail
  refine (alike_self _ _ _).mono ?_
  rintro e' w' ⟨rfl, rfl⟩
  go_wp2
  go_ret
  exact ⟨rfl, q4⟩
set_option maxRecDepth 100000 in
set_option maxHeartbeats 4000000 in
theorem ring_001 (a b c : Int) (ha : -9223372036854775808 ≤ a ∧ a ≤ 9223372036854775807) (hb : -9223372036854775808 ≤ b ∧ b ≤ 9223372036854775807) (hc : -9223372036854775808 ≤ c ∧ c ≤ 9223372036854775807) (ab bc : Int) (e : Int) (k : Int) (R1 : Hid (addV a b = ab ∧ addC a b = e)) (R1b : Hid (addV b a = ab ∧ addC b a = e)) (R2 : Hid (addV b c = bc ∧ addC b c = k)) (hab : -9223372036854775808 ≤ ab ∧ ab ≤ 9223372036854775807) (hbc : -9223372036854775808 ≤ bc ∧ bc ≤ 9223372036854775807) (he : (e == 0) = false) (p g : Int) (P1 : Hid (mulV a b = p ∧ mulC a b = g)) (P2 : Hid (mulV b a = p ∧ mulC b a = g)) (n d m : Int) (l : Int) (N1 : Hid (negV b = n ∧ negC b = l)) (hn : -9223372036854775808 ≤ n ∧ n ≤ 9223372036854775807) (D1 : Hid (subV a b = d ∧ subC a b = m)) (hl : (l == 0) = false) (zz oo : Int) (Z : Hid (subV a a = zz ∧ subC a a = 2)) (O : Hid (mulV a 10000 = oo ∧ mulC a 10000 = 2)) (hna : (a == -9223372036854775808) = true) (w : World) (ht : Tab w) :
    Calls Tryd.prog 12 #[.int .i64 a, .int .i64 b, .int .i64 c] w
      fun e w' => e = .returned (.bool true) ∧ Below w.heap.size w w' := by
  go_enter Tryd.func12, Tryd.ntmps12
  go_wp2_with fail
  have C0 := add_any a b ha hb w
  rw [R1.out.1, R1.out.2] at C0
  refine C0.mono ?_
  clear C0
  rintro e' w' ⟨rfl, rfl⟩
  go_wp2_with fail
  have C0 := add_any b a hb ha w
  rw [R1b.out.1, R1b.out.2] at C0
  refine C0.mono ?_
  clear C0
  rintro e' w' ⟨rfl, rfl⟩
  go_wp2_with fail
  have C0 := mul_any a b ha hb w
  rw [P1.out.1, P1.out.2] at C0
  refine C0.mono ?_
  clear C0
  rintro e' w1 ⟨rfl, hb1⟩
  have q1 : Below w.heap.size w w1 := hb1
  go_wp2_with fail
  have C0 := mul_any b a hb ha w1
  rw [P2.out.1, P2.out.2] at C0
  refine C0.mono ?_
  clear C0
  rintro e' w2 ⟨rfl, hb2⟩
  have q2 : Below w.heap.size w w2 := q1.trans (hb2.mono q1.size)
  go_wp2_with fail
  refine (dknown_any _ (Tab.below ht q2)).mono ?_
  rintro e' w3 ⟨rfl, hb3⟩
  have q3 : Below w.heap.size w w3 := q2.trans (hb3.mono q2.size)
  go_wp2_with fail
  refine (alike_self _ _ _).mono ?_
  rintro e' w' ⟨rfl, rfl⟩
  go_wp2_with fail
  refine (alike_self _ _ _).mono ?_
  rintro e' w' ⟨rfl, rfl⟩
  go_wp2_with fail
  have C0 := add_any b c hb hc w3
  rw [R2.out.1, R2.out.2] at C0
  refine C0.mono ?_
  clear C0
  rintro e' w' ⟨rfl, rfl⟩
  go_wp2_with fail
  have C0 := neg_any b hb w3
  rw [N1.out.1, N1.out.2] at C0
  refine C0.mono ?_
  clear C0
  rintro e' w' ⟨rfl, rfl⟩
  go_wp2_with fail
  have C0 := sub_any a b ha hb w3
  rw [D1.out.1, D1.out.2] at C0
  refine C0.mono ?_
  clear C0
  rintro e' w' ⟨rfl, rfl⟩
  go_wp2_with fail
  have C0 := sub_any a a ha ha w3
  rw [Z.out.1, Z.out.2] at C0
  refine C0.mono ?_
  clear C0
  rintro e' w' ⟨rfl, rfl⟩
  go_wp2_with fail
  have C0 := mul_any a 10000 ha (by omega) w3
  rw [O.out.1, O.out.2] at C0
  refine C0.mono ?_
  clear C0
  rintro e' w4 ⟨rfl, hb4⟩
  have q4 : Below w.heap.size w w4 := q3.trans (hb4.mono q3.size)
  go_wp2
  go_ret
  exact ⟨rfl, q4⟩
set_option maxRecDepth 100000 in
set_option maxHeartbeats 4000000 in
theorem ring_010 (a b c : Int) (ha : -9223372036854775808 ≤ a ∧ a ≤ 9223372036854775807) (hb : -9223372036854775808 ≤ b ∧ b ≤ 9223372036854775807) (hc : -9223372036854775808 ≤ c ∧ c ≤ 9223372036854775807) (ab bc : Int) (e : Int) (k : Int) (R1 : Hid (addV a b = ab ∧ addC a b = e)) (R1b : Hid (addV b a = ab ∧ addC b a = e)) (R2 : Hid (addV b c = bc ∧ addC b c = k)) (hab : -9223372036854775808 ≤ ab ∧ ab ≤ 9223372036854775807) (hbc : -9223372036854775808 ≤ bc ∧ bc ≤ 9223372036854775807) (he : (e == 0) = false) (p g : Int) (P1 : Hid (mulV a b = p ∧ mulC a b = g)) (P2 : Hid (mulV b a = p ∧ mulC b a = g)) (n d m : Int) (N1 : Hid (negV b = n ∧ negC b = 0)) (hn : -9223372036854775808 ≤ n ∧ n ≤ 9223372036854775807) (D1 : Hid (subV a b = d ∧ subC a b = m)) (D2 : Hid (addV a n = d ∧ addC a n = m)) (Z : Hid (subV a a = 0 ∧ subC a a = 0)) (O : Hid (mulV a 10000 = a ∧ mulC a 10000 = 0)) (hna : (a == -9223372036854775808) = false) (w : World) (ht : Tab w) :
    Calls Tryd.prog 12 #[.int .i64 a, .int .i64 b, .int .i64 c] w
      fun e w' => e = .returned (.bool true) ∧ Below w.heap.size w w' := by
  go_enter Tryd.func12, Tryd.ntmps12
  go_wp2_with fail
  have C0 := add_any a b ha hb w
  rw [R1.out.1, R1.out.2] at C0
  refine C0.mono ?_
  clear C0
  rintro e' w' ⟨rfl, rfl⟩
  go_wp2_with fail
  have C0 := add_any b a hb ha w
  rw [R1b.out.1, R1b.out.2] at C0
  refine C0.mono ?_
  clear C0
  rintro e' w' ⟨rfl, rfl⟩
  go_wp2_with fail
  have C0 := mul_any a b ha hb w
  rw [P1.out.1, P1.out.2] at C0
  refine C0.mono ?_
  clear C0
  rintro e' w1 ⟨rfl, hb1⟩
  have q1 : Below w.heap.size w w1 := hb1
  go_wp2_with fail
  have C0 := mul_any b a hb ha w1
  rw [P2.out.1, P2.out.2] at C0
  refine C0.mono ?_
  clear C0
  rintro e' w2 ⟨rfl, hb2⟩
  have q2 : Below w.heap.size w w2 := q1.trans (hb2.mono q1.size)
  go_wp2_with fail
  refine (dknown_any _ (Tab.below ht q2)).mono ?_
  rintro e' w3 ⟨rfl, hb3⟩
  have q3 : Below w.heap.size w w3 := q2.trans (hb3.mono q2.size)
  go_wp2_with fail
  refine (alike_self _ _ _).mono ?_
  rintro e' w' ⟨rfl, rfl⟩
  go_wp2_with fail
  refine (alike_self _ _ _).mono ?_
  rintro e' w' ⟨rfl, rfl⟩
  go_wp2_with fail
  have C0 := add_any b c hb hc w3
  rw [R2.out.1, R2.out.2] at C0
  refine C0.mono ?_
  clear C0
  rintro e' w' ⟨rfl, rfl⟩
  go_wp2_with fail
  have C0 := neg_any b hb w3
  rw [N1.out.1, N1.out.2] at C0
  refine C0.mono ?_
  clear C0
  rintro e' w' ⟨rfl, rfl⟩
  go_wp2_with fail
  have C0 := sub_any a b ha hb w3
  rw [D1.out.1, D1.out.2] at C0
  refine C0.mono ?_
  clear C0
  rintro e' w' ⟨rfl, rfl⟩
  go_wp2_with fail
  have C0 := add_any a n ha hn w3
  rw [D2.out.1, D2.out.2] at C0
  refine C0.mono ?_
  clear C0
  rintro e' w' ⟨rfl, rfl⟩
  go_wp2_with fail
  refine (alike_self _ _ _).mono ?_
  rintro e' w' ⟨rfl, rfl⟩
  go_wp2_with fail
  have C0 := sub_any a a ha ha w3
  rw [Z.out.1, Z.out.2] at C0
  refine C0.mono ?_
  clear C0
  rintro e' w' ⟨rfl, rfl⟩
  go_wp2_with fail
  have C0 := mul_any a 10000 ha (by omega) w3
  rw [O.out.1, O.out.2] at C0
  refine C0.mono ?_
  clear C0
  rintro e' w4 ⟨rfl, hb4⟩
  have q4 : Below w.heap.size w w4 := q3.trans (hb4.mono q3.size)
  go_wp2_with fail
  refine (alike_self _ _ _).mono ?_
  rintro e' w' ⟨rfl, rfl⟩
  go_wp2_with fail
  refine (alike_self _ _ _).mono ?_
  rintro e' w' ⟨rfl, rfl⟩
  go_wp2
  go_ret
  exact ⟨rfl, q4⟩
set_option maxRecDepth 100000 in
set_option maxHeartbeats 4000000 in
theorem ring_011 (a b c : Int) (ha : -9223372036854775808 ≤ a ∧ a ≤ 9223372036854775807) (hb : -9223372036854775808 ≤ b ∧ b ≤ 9223372036854775807) (hc : -9223372036854775808 ≤ c ∧ c ≤ 9223372036854775807) (ab bc : Int) (e : Int) (k : Int) (R1 : Hid (addV a b = ab ∧ addC a b = e)) (R1b : Hid (addV b a = ab ∧ addC b a = e)) (R2 : Hid (addV b c = bc ∧ addC b c = k)) (hab : -9223372036854775808 ≤ ab ∧ ab ≤ 9223372036854775807) (hbc : -9223372036854775808 ≤ bc ∧ bc ≤ 9223372036854775807) (he : (e == 0) = false) (p g : Int) (P1 : Hid (mulV a b = p ∧ mulC a b = g)) (P2 : Hid (mulV b a = p ∧ mulC b a = g)) (n d m : Int) (N1 : Hid (negV b = n ∧ negC b = 0)) (hn : -9223372036854775808 ≤ n ∧ n ≤ 9223372036854775807) (D1 : Hid (subV a b = d ∧ subC a b = m)) (D2 : Hid (addV a n = d ∧ addC a n = m)) (zz oo : Int) (Z : Hid (subV a a = zz ∧ subC a a = 2)) (O : Hid (mulV a 10000 = oo ∧ mulC a 10000 = 2)) (hna : (a == -9223372036854775808) = true) (w : World) (ht : Tab w) :
    Calls Tryd.prog 12 #[.int .i64 a, .int .i64 b, .int .i64 c] w
      fun e w' => e = .returned (.bool true) ∧ Below w.heap.size w w' := by
  go_enter Tryd.func12, Tryd.ntmps12
  go_wp2_with fail
  have C0 := add_any a b ha hb w
  rw [R1.out.1, R1.out.2] at C0
  refine C0.mono ?_
  clear C0
  rintro e' w' ⟨rfl, rfl⟩
  go_wp2_with fail
  have C0 := add_any b a hb ha w
  rw [R1b.out.1, R1b.out.2] at C0
  refine C0.mono ?_
  clear C0
  rintro e' w' ⟨rfl, rfl⟩
  go_wp2_with fail
  have C0 := mul_any a b ha hb w
  rw [P1.out.1, P1.out.2] at C0
  refine C0.mono ?_
  clear C0
  rintro e' w1 ⟨rfl, hb1⟩
  have q1 : Below w.heap.size w w1 := hb1
  go_wp2_with fail
  have C0 := mul_any b a hb ha w1
  rw [P2.out.1, P2.out.2] at C0
  refine C0.mono ?_
  clear C0
  rintro e' w2 ⟨rfl, hb2⟩
  have q2 : Below w.heap.size w w2 := q1.trans (hb2.mono q1.size)
  go_wp2_with fail
  refine (dknown_any _ (Tab.below ht q2)).mono ?_
  rintro e' w3 ⟨rfl, hb3⟩
  have q3 : Below w.heap.size w w3 := q2.trans (hb3.mono q2.size)
  go_wp2_with fail
  refine (alike_self _ _ _).mono ?_
  rintro e' w' ⟨rfl, rfl⟩
  go_wp2_with fail
  refine (alike_self _ _ _).mono ?_
  rintro e' w' ⟨rfl, rfl⟩
  go_wp2_with fail
  have C0 := add_any b c hb hc w3
  rw [R2.out.1, R2.out.2] at C0
  refine C0.mono ?_
  clear C0
  rintro e' w' ⟨rfl, rfl⟩
  go_wp2_with fail
  have C0 := neg_any b hb w3
  rw [N1.out.1, N1.out.2] at C0
  refine C0.mono ?_
  clear C0
  rintro e' w' ⟨rfl, rfl⟩
  go_wp2_with fail
  have C0 := sub_any a b ha hb w3
  rw [D1.out.1, D1.out.2] at C0
  refine C0.mono ?_
  clear C0
  rintro e' w' ⟨rfl, rfl⟩
  go_wp2_with fail
  have C0 := add_any a n ha hn w3
  rw [D2.out.1, D2.out.2] at C0
  refine C0.mono ?_
  clear C0
  rintro e' w' ⟨rfl, rfl⟩
  go_wp2_with fail
  refine (alike_self _ _ _).mono ?_
  rintro e' w' ⟨rfl, rfl⟩
  go_wp2_with fail
  have C0 := sub_any a a ha ha w3
  rw [Z.out.1, Z.out.2] at C0
  refine C0.mono ?_
  clear C0
  rintro e' w' ⟨rfl, rfl⟩
  go_wp2_with fail
  have C0 := mul_any a 10000 ha (by omega) w3
  rw [O.out.1, O.out.2] at C0
  refine C0.mono ?_
  clear C0
  rintro e' w4 ⟨rfl, hb4⟩
  have q4 : Below w.heap.size w w4 := q3.trans (hb4.mono q3.size)
  go_wp2
  go_ret
  exact ⟨rfl, q4⟩
set_option maxRecDepth 100000 in
set_option maxHeartbeats 4000000 in
theorem ring_100 (a b c : Int) (ha : -9223372036854775808 ≤ a ∧ a ≤ 9223372036854775807) (hb : -9223372036854775808 ≤ b ∧ b ≤ 9223372036854775807) (hc : -9223372036854775808 ≤ c ∧ c ≤ 9223372036854775807) (ab bc : Int) (k : Int) (R1 : Hid (addV a b = ab ∧ addC a b = 0)) (R1b : Hid (addV b a = ab ∧ addC b a = 0)) (R2 : Hid (addV b c = bc ∧ addC b c = k)) (hab : -9223372036854775808 ≤ ab ∧ ab ≤ 9223372036854775807) (hbc : -9223372036854775808 ≤ bc ∧ bc ≤ 9223372036854775807) (hk : (k == 0) = false) (p g : Int) (P1 : Hid (mulV a b = p ∧ mulC a b = g)) (P2 : Hid (mulV b a = p ∧ mulC b a = g)) (n d m : Int) (l : Int) (N1 : Hid (negV b = n ∧ negC b = l)) (hn : -9223372036854775808 ≤ n ∧ n ≤ 9223372036854775807) (D1 : Hid (subV a b = d ∧ subC a b = m)) (hl : (l == 0) = false) (Z : Hid (subV a a = 0 ∧ subC a a = 0)) (O : Hid (mulV a 10000 = a ∧ mulC a 10000 = 0)) (hna : (a == -9223372036854775808) = false) (w : World) (ht : Tab w) :
    Calls Tryd.prog 12 #[.int .i64 a, .int .i64 b, .int .i64 c] w
      fun e w' => e = .returned (.bool true) ∧ Below w.heap.size w w' := by
  go_enter Tryd.func12, Tryd.ntmps12
  go_wp2_with fail
  have C0 := add_any a b ha hb w
  rw [R1.out.1, R1.out.2] at C0
  refine C0.mono ?_
  clear C0
  rintro e' w' ⟨rfl, rfl⟩
  go_wp2_with fail
  have C0 := add_any b a hb ha w
  rw [R1b.out.1, R1b.out.2] at C0
  refine C0.mono ?_
  clear C0
  rintro e' w' ⟨rfl, rfl⟩
  go_wp2_with fail
  have C0 := mul_any a b ha hb w
  rw [P1.out.1, P1.out.2] at C0
  refine C0.mono ?_
  clear C0
  rintro e' w1 ⟨rfl, hb1⟩
  have q1 : Below w.heap.size w w1 := hb1
  go_wp2_with fail
  have C0 := mul_any b a hb ha w1
  rw [P2.out.1, P2.out.2] at C0
  refine C0.mono ?_
  clear C0
  rintro e' w2 ⟨rfl, hb2⟩
  have q2 : Below w.heap.size w w2 := q1.trans (hb2.mono q1.size)
  go_wp2_with fail
  refine (dknown_any _ (Tab.below ht q2)).mono ?_
  rintro e' w3 ⟨rfl, hb3⟩
  have q3 : Below w.heap.size w w3 := q2.trans (hb3.mono q2.size)
  go_wp2_with fail
  refine (alike_self _ _ _).mono ?_
  rintro e' w' ⟨rfl, rfl⟩
  go_wp2_with fail
  refine (alike_self _ _ _).mono ?_
  rintro e' w' ⟨rfl, rfl⟩
  go_wp2_with fail
  have C0 := add_any b c hb hc w3
  rw [R2.out.1, R2.out.2] at C0
  refine C0.mono ?_
  clear C0
  rintro e' w' ⟨rfl, rfl⟩
  go_wp2_with fail
  have C0 := neg_any b hb w3
  rw [N1.out.1, N1.out.2] at C0
  refine C0.mono ?_
  clear C0
  rintro e' w' ⟨rfl, rfl⟩
  go_wp2_with fail
  have C0 := sub_any a b ha hb w3
  rw [D1.out.1, D1.out.2] at C0
  refine C0.mono ?_
  clear C0
  rintro e' w' ⟨rfl, rfl⟩
  go_wp2_with fail
  have C0 := sub_any a a ha ha w3
  rw [Z.out.1, Z.out.2] at C0
  refine C0.mono ?_
  clear C0
  rintro e' w' ⟨rfl, rfl⟩
  go_wp2_with fail
  have C0 := mul_any a 10000 ha (by omega) w3
  rw [O.out.1, O.out.2] at C0
  refine C0.mono ?_
  clear C0
  rintro e' w4 ⟨rfl, hb4⟩
  have q4 : Below w.heap.size w w4 := q3.trans (hb4.mono q3.size)
  go_wp2_with fail
  refine (alike_self _ _ _).mono ?_
  rintro e' w' ⟨rfl, rfl⟩
  go_wp2_with fail
  refine (alike_self _ _ _).mono ?_
  rintro e' w' ⟨rfl, rfl⟩
  go_wp2
  go_ret
  exact ⟨rfl, q4⟩
set_option maxRecDepth 100000 in
set_option maxHeartbeats 4000000 in
theorem ring_101 (a b c : Int) (ha : -9223372036854775808 ≤ a ∧ a ≤ 9223372036854775807) (hb : -9223372036854775808 ≤ b ∧ b ≤ 9223372036854775807) (hc : -9223372036854775808 ≤ c ∧ c ≤ 9223372036854775807) (ab bc : Int) (k : Int) (R1 : Hid (addV a b = ab ∧ addC a b = 0)) (R1b : Hid (addV b a = ab ∧ addC b a = 0)) (R2 : Hid (addV b c = bc ∧ addC b c = k)) (hab : -9223372036854775808 ≤ ab ∧ ab ≤ 9223372036854775807) (hbc : -9223372036854775808 ≤ bc ∧ bc ≤ 9223372036854775807) (hk : (k == 0) = false) (p g : Int) (P1 : Hid (mulV a b = p ∧ mulC a b = g)) (P2 : Hid (mulV b a = p ∧ mulC b a = g)) (n d m : Int) (l : Int) (N1 : Hid (negV b = n ∧ negC b = l)) (hn : -9223372036854775808 ≤ n ∧ n ≤ 9223372036854775807) (D1 : Hid (subV a b = d ∧ subC a b = m)) (hl : (l == 0) = false) (zz oo : Int) (Z : Hid (subV a a = zz ∧ subC a a = 2)) (O : Hid (mulV a 10000 = oo ∧ mulC a 10000 = 2)) (hna : (a == -9223372036854775808) = true) (w : World) (ht : Tab w) :
    Calls Tryd.prog 12 #[.int .i64 a, .int .i64 b, .int .i64 c] w
      fun e w' => e = .returned (.bool true) ∧ Below w.heap.size w w' := by
  go_enter Tryd.func12, Tryd.ntmps12
  go_wp2_with fail
  have C0 := add_any a b ha hb w
  rw [R1.out.1, R1.out.2] at C0
  refine C0.mono ?_
  clear C0
  rintro e' w' ⟨rfl, rfl⟩
  go_wp2_with fail
  have C0 := add_any b a hb ha w
  rw [R1b.out.1, R1b.out.2] at C0
  refine C0.mono ?_
  clear C0
  rintro e' w' ⟨rfl, rfl⟩
  go_wp2_with fail
  have C0 := mul_any a b ha hb w
  rw [P1.out.1, P1.out.2] at C0
  refine C0.mono ?_
  clear C0
  rintro e' w1 ⟨rfl, hb1⟩
  have q1 : Below w.heap.size w w1 := hb1
  go_wp2_with fail
  have C0 := mul_any b a hb ha w1
  rw [P2.out.1, P2.out.2] at C0
  refine C0.mono ?_
  clear C0
  rintro e' w2 ⟨rfl, hb2⟩
  have q2 : Below w.heap.size w w2 := q1.trans (hb2.mono q1.size)
  go_wp2_with fail
  refine (dknown_any _ (Tab.below ht q2)).mono ?_
  rintro e' w3 ⟨rfl, hb3⟩
  have q3 : Below w.heap.size w w3 := q2.trans (hb3.mono q2.size)
  go_wp2_with fail
  refine (alike_self _ _ _).mono ?_
  rintro e' w' ⟨rfl, rfl⟩
  go_wp2_with fail
  refine (alike_self _ _ _).mono ?_
  rintro e' w' ⟨rfl, rfl⟩
  go_wp2_with fail
  have C0 := add_any b c hb hc w3
  rw [R2.out.1, R2.out.2] at C0
  refine C0.mono ?_
  clear C0
  rintro e' w' ⟨rfl, rfl⟩
  go_wp2_with fail
  have C0 := neg_any b hb w3
  rw [N1.out.1, N1.out.2] at C0
  refine C0.mono ?_
  clear C0
  rintro e' w' ⟨rfl, rfl⟩
  go_wp2_with fail
  have C0 := sub_any a b ha hb w3
  rw [D1.out.1, D1.out.2] at C0
  refine C0.mono ?_
  clear C0
  rintro e' w' ⟨rfl, rfl⟩
  go_wp2_with fail
  have C0 := sub_any a a ha ha w3
  rw [Z.out.1, Z.out.2] at C0
  refine C0.mono ?_
  clear C0
  rintro e' w' ⟨rfl, rfl⟩
  go_wp2_with fail
  have C0 := mul_any a 10000 ha (by omega) w3
  rw [O.out.1, O.out.2] at C0
  refine C0.mono ?_
  clear C0
  rintro e' w4 ⟨rfl, hb4⟩
  have q4 : Below w.heap.size w w4 := q3.trans (hb4.mono q3.size)
  go_wp2
  go_ret
  exact ⟨rfl, q4⟩
set_option maxRecDepth 100000 in
set_option maxHeartbeats 4000000 in
theorem ring_110 (a b c : Int) (ha : -9223372036854775808 ≤ a ∧ a ≤ 9223372036854775807) (hb : -9223372036854775808 ≤ b ∧ b ≤ 9223372036854775807) (hc : -9223372036854775808 ≤ c ∧ c ≤ 9223372036854775807) (ab bc : Int) (k : Int) (R1 : Hid (addV a b = ab ∧ addC a b = 0)) (R1b : Hid (addV b a = ab ∧ addC b a = 0)) (R2 : Hid (addV b c = bc ∧ addC b c = k)) (hab : -9223372036854775808 ≤ ab ∧ ab ≤ 9223372036854775807) (hbc : -9223372036854775808 ≤ bc ∧ bc ≤ 9223372036854775807) (hk : (k == 0) = false) (p g : Int) (P1 : Hid (mulV a b = p ∧ mulC a b = g)) (P2 : Hid (mulV b a = p ∧ mulC b a = g)) (n d m : Int) (N1 : Hid (negV b = n ∧ negC b = 0)) (hn : -9223372036854775808 ≤ n ∧ n ≤ 9223372036854775807) (D1 : Hid (subV a b = d ∧ subC a b = m)) (D2 : Hid (addV a n = d ∧ addC a n = m)) (Z : Hid (subV a a = 0 ∧ subC a a = 0)) (O : Hid (mulV a 10000 = a ∧ mulC a 10000 = 0)) (hna : (a == -9223372036854775808) = false) (w : World) (ht : Tab w) :
    Calls Tryd.prog 12 #[.int .i64 a, .int .i64 b, .int .i64 c] w
      fun e w' => e = .returned (.bool true) ∧ Below w.heap.size w w' := by
  go_enter Tryd.func12, Tryd.ntmps12
  go_wp2_with fail
  have C0 := add_any a b ha hb w
  rw [R1.out.1, R1.out.2] at C0
  refine C0.mono ?_
  clear C0
  rintro e' w' ⟨rfl, rfl⟩
  go_wp2_with fail
  have C0 := add_any b a hb ha w
  rw [R1b.out.1, R1b.out.2] at C0
  refine C0.mono ?_
  clear C0
  rintro e' w' ⟨rfl, rfl⟩
  go_wp2_with fail
  have C0 := mul_any a b ha hb w
  rw [P1.out.1, P1.out.2] at C0
  refine C0.mono ?_
  clear C0
  rintro e' w1 ⟨rfl, hb1⟩
  have q1 : Below w.heap.size w w1 := hb1
  go_wp2_with fail
  have C0 := mul_any b a hb ha w1
  rw [P2.out.1, P2.out.2] at C0
  refine C0.mono ?_
  clear C0
  rintro e' w2 ⟨rfl, hb2⟩
  have q2 : Below w.heap.size w w2 := q1.trans (hb2.mono q1.size)
  go_wp2_with fail
  refine (dknown_any _ (Tab.below ht q2)).mono ?_
  rintro e' w3 ⟨rfl, hb3⟩
  have q3 : Below w.heap.size w w3 := q2.trans (hb3.mono q2.size)
  go_wp2_with fail
  refine (alike_self _ _ _).mono ?_
  rintro e' w' ⟨rfl, rfl⟩
  go_wp2_with fail
  refine (alike_self _ _ _).mono ?_
  rintro e' w' ⟨rfl, rfl⟩
  go_wp2_with fail
  have C0 := add_any b c hb hc w3
  rw [R2.out.1, R2.out.2] at C0
  refine C0.mono ?_
  clear C0
  rintro e' w' ⟨rfl, rfl⟩
  go_wp2_with fail
  have C0 := neg_any b hb w3
  rw [N1.out.1, N1.out.2] at C0
  refine C0.mono ?_
  clear C0
  rintro e' w' ⟨rfl, rfl⟩
  go_wp2_with fail
  have C0 := sub_any a b ha hb w3
  rw [D1.out.1, D1.out.2] at C0
  refine C0.mono ?_
  clear C0
  rintro e' w' ⟨rfl, rfl⟩
  go_wp2_with fail
  have C0 := add_any a n ha hn w3
  rw [D2.out.1, D2.out.2] at C0
  refine C0.mono ?_
  clear C0
  rintro e' w' ⟨rfl, rfl⟩
  go_wp2_with fail
  refine (alike_self _ _ _).mono ?_
  rintro e' w' ⟨rfl, rfl⟩
  go_wp2_with fail
  have C0 := sub_any a a ha ha w3
  rw [Z.out.1, Z.out.2] at C0
  refine C0.mono ?_
  clear C0
  rintro e' w' ⟨rfl, rfl⟩
  go_wp2_with fail
  have C0 := mul_any a 10000 ha (by omega) w3
  rw [O.out.1, O.out.2] at C0
  refine C0.mono ?_
  clear C0
  rintro e' w4 ⟨rfl, hb4⟩
  have q4 : Below w.heap.size w w4 := q3.trans (hb4.mono q3.size)
  go_wp2_with fail
  refine (alike_self _ _ _).mono ?_
  rintro e' w' ⟨rfl, rfl⟩
  go_wp2_with fail
  refine (alike_self _ _ _).mono ?_
  rintro e' w' ⟨rfl, rfl⟩
  go_wp2
  go_ret
  exact ⟨rfl, q4⟩
set_option maxRecDepth 100000 in
set_option maxHeartbeats 4000000 in
theorem ring_111 (a b c : Int) (ha : -9223372036854775808 ≤ a ∧ a ≤ 9223372036854775807) (hb : -9223372036854775808 ≤ b ∧ b ≤ 9223372036854775807) (hc : -9223372036854775808 ≤ c ∧ c ≤ 9223372036854775807) (ab bc : Int) (k : Int) (R1 : Hid (addV a b = ab ∧ addC a b = 0)) (R1b : Hid (addV b a = ab ∧ addC b a = 0)) (R2 : Hid (addV b c = bc ∧ addC b c = k)) (hab : -9223372036854775808 ≤ ab ∧ ab ≤ 9223372036854775807) (hbc : -9223372036854775808 ≤ bc ∧ bc ≤ 9223372036854775807) (hk : (k == 0) = false) (p g : Int) (P1 : Hid (mulV a b = p ∧ mulC a b = g)) (P2 : Hid (mulV b a = p ∧ mulC b a = g)) (n d m : Int) (N1 : Hid (negV b = n ∧ negC b = 0)) (hn : -9223372036854775808 ≤ n ∧ n ≤ 9223372036854775807) (D1 : Hid (subV a b = d ∧ subC a b = m)) (D2 : Hid (addV a n = d ∧ addC a n = m)) (zz oo : Int) (Z : Hid (subV a a = zz ∧ subC a a = 2)) (O : Hid (mulV a 10000 = oo ∧ mulC a 10000 = 2)) (hna : (a == -9223372036854775808) = true) (w : World) (ht : Tab w) :
    Calls Tryd.prog 12 #[.int .i64 a, .int .i64 b, .int .i64 c] w
      fun e w' => e = .returned (.bool true) ∧ Below w.heap.size w w' := by
  go_enter Tryd.func12, Tryd.ntmps12
  go_wp2_with fail
  have C0 := add_any a b ha hb w
  rw [R1.out.1, R1.out.2] at C0
  refine C0.mono ?_
  clear C0
  rintro e' w' ⟨rfl, rfl⟩
  go_wp2_with fail
  have C0 := add_any b a hb ha w
  rw [R1b.out.1, R1b.out.2] at C0
  refine C0.mono ?_
  clear C0
  rintro e' w' ⟨rfl, rfl⟩
  go_wp2_with fail
  have C0 := mul_any a b ha hb w
  rw [P1.out.1, P1.out.2] at C0
  refine C0.mono ?_
  clear C0
  rintro e' w1 ⟨rfl, hb1⟩
  have q1 : Below w.heap.size w w1 := hb1
  go_wp2_with fail
  have C0 := mul_any b a hb ha w1
  rw [P2.out.1, P2.out.2] at C0
  refine C0.mono ?_
  clear C0
  rintro e' w2 ⟨rfl, hb2⟩
  have q2 : Below w.heap.size w w2 := q1.trans (hb2.mono q1.size)
  go_wp2_with fail
  refine (dknown_any _ (Tab.below ht q2)).mono ?_
  rintro e' w3 ⟨rfl, hb3⟩
  have q3 : Below w.heap.size w w3 := q2.trans (hb3.mono q2.size)
  go_wp2_with fail
  refine (alike_self _ _ _).mono ?_
  rintro e' w' ⟨rfl, rfl⟩
  go_wp2_with fail
  refine (alike_self _ _ _).mono ?_
  rintro e' w' ⟨rfl, rfl⟩
  go_wp2_with fail
  have C0 := add_any b c hb hc w3
  rw [R2.out.1, R2.out.2] at C0
  refine C0.mono ?_
  clear C0
  rintro e' w' ⟨rfl, rfl⟩
  go_wp2_with fail
  have C0 := neg_any b hb w3
  rw [N1.out.1, N1.out.2] at C0
  refine C0.mono ?_
  clear C0
  rintro e' w' ⟨rfl, rfl⟩
  go_wp2_with fail
  have C0 := sub_any a b ha hb w3
  rw [D1.out.1, D1.out.2] at C0
  refine C0.mono ?_
  clear C0
  rintro e' w' ⟨rfl, rfl⟩
  go_wp2_with fail
  have C0 := add_any a n ha hn w3
  rw [D2.out.1, D2.out.2] at C0
  refine C0.mono ?_
  clear C0
  rintro e' w' ⟨rfl, rfl⟩
  go_wp2_with fail
  refine (alike_self _ _ _).mono ?_
  rintro e' w' ⟨rfl, rfl⟩
  go_wp2_with fail
  have C0 := sub_any a a ha ha w3
  rw [Z.out.1, Z.out.2] at C0
  refine C0.mono ?_
  clear C0
  rintro e' w' ⟨rfl, rfl⟩
  go_wp2_with fail
  have C0 := mul_any a 10000 ha (by omega) w3
  rw [O.out.1, O.out.2] at C0
  refine C0.mono ?_
  clear C0
  rintro e' w4 ⟨rfl, hb4⟩
  have q4 : Below w.heap.size w w4 := q3.trans (hb4.mono q3.size)
  go_wp2
  go_ret
  exact ⟨rfl, q4⟩
set_option maxRecDepth 100000 in
set_option maxHeartbeats 4000000 in
theorem ring_200 (a b c : Int) (ha : -9223372036854775808 ≤ a ∧ a ≤ 9223372036854775807) (hb : -9223372036854775808 ≤ b ∧ b ≤ 9223372036854775807) (hc : -9223372036854775808 ≤ c ∧ c ≤ 9223372036854775807) (ab bc : Int) (R1 : Hid (addV a b = ab ∧ addC a b = 0)) (R1b : Hid (addV b a = ab ∧ addC b a = 0)) (R2 : Hid (addV b c = bc ∧ addC b c = 0)) (hab : -9223372036854775808 ≤ ab ∧ ab ≤ 9223372036854775807) (hbc : -9223372036854775808 ≤ bc ∧ bc ≤ 9223372036854775807) (p g : Int) (P1 : Hid (mulV a b = p ∧ mulC a b = g)) (P2 : Hid (mulV b a = p ∧ mulC b a = g)) (x i : Int) (X1 : Hid (addV ab c = x ∧ addC ab c = i)) (X2 : Hid (addV a bc = x ∧ addC a bc = i)) (n d m : Int) (l : Int) (N1 : Hid (negV b = n ∧ negC b = l)) (hn : -9223372036854775808 ≤ n ∧ n ≤ 9223372036854775807) (D1 : Hid (subV a b = d ∧ subC a b = m)) (hl : (l == 0) = false) (Z : Hid (subV a a = 0 ∧ subC a a = 0)) (O : Hid (mulV a 10000 = a ∧ mulC a 10000 = 0)) (hna : (a == -9223372036854775808) = false) (w : World) (ht : Tab w) :
    Calls Tryd.prog 12 #[.int .i64 a, .int .i64 b, .int .i64 c] w
      fun e w' => e = .returned (.bool true) ∧ Below w.heap.size w w' := by
  go_enter Tryd.func12, Tryd.ntmps12
  go_wp2_with fail
  have C0 := add_any a b ha hb w
  rw [R1.out.1, R1.out.2] at C0
  refine C0.mono ?_
  clear C0
  rintro e' w' ⟨rfl, rfl⟩
  go_wp2_with fail
  have C0 := add_any b a hb ha w
  rw [R1b.out.1, R1b.out.2] at C0
  refine C0.mono ?_
  clear C0
  rintro e' w' ⟨rfl, rfl⟩
  go_wp2_with fail
  have C0 := mul_any a b ha hb w
  rw [P1.out.1, P1.out.2] at C0
  refine C0.mono ?_
  clear C0
  rintro e' w1 ⟨rfl, hb1⟩
  have q1 : Below w.heap.size w w1 := hb1
  go_wp2_with fail
  have C0 := mul_any b a hb ha w1
  rw [P2.out.1, P2.out.2] at C0
  refine C0.mono ?_
  clear C0
  rintro e' w2 ⟨rfl, hb2⟩
  have q2 : Below w.heap.size w w2 := q1.trans (hb2.mono q1.size)
  go_wp2_with fail
  refine (dknown_any _ (Tab.below ht q2)).mono ?_
  rintro e' w3 ⟨rfl, hb3⟩
  have q3 : Below w.heap.size w w3 := q2.trans (hb3.mono q2.size)
  go_wp2_with fail
  refine (alike_self _ _ _).mono ?_
  rintro e' w' ⟨rfl, rfl⟩
  go_wp2_with fail
  refine (alike_self _ _ _).mono ?_
  rintro e' w' ⟨rfl, rfl⟩
  go_wp2_with fail
  have C0 := add_any b c hb hc w3
  rw [R2.out.1, R2.out.2] at C0
  refine C0.mono ?_
  clear C0
  rintro e' w' ⟨rfl, rfl⟩
  go_wp2_with fail
  have C0 := add_any ab c hab hc w3
  rw [X1.out.1, X1.out.2] at C0
  refine C0.mono ?_
  clear C0
  rintro e' w' ⟨rfl, rfl⟩
  go_wp2_with fail
  have C0 := add_any a bc ha hbc w3
  rw [X2.out.1, X2.out.2] at C0
  refine C0.mono ?_
  clear C0
  rintro e' w' ⟨rfl, rfl⟩
  go_wp2_with fail
  refine (alike_self _ _ _).mono ?_
  rintro e' w' ⟨rfl, rfl⟩
  go_wp2_with fail
  have C0 := neg_any b hb w3
  rw [N1.out.1, N1.out.2] at C0
  refine C0.mono ?_
  clear C0
  rintro e' w' ⟨rfl, rfl⟩
  go_wp2_with fail
  have C0 := sub_any a b ha hb w3
  rw [D1.out.1, D1.out.2] at C0
  refine C0.mono ?_
  clear C0
  rintro e' w' ⟨rfl, rfl⟩
  go_wp2_with fail
  have C0 := sub_any a a ha ha w3
  rw [Z.out.1, Z.out.2] at C0
  refine C0.mono ?_
  clear C0
  rintro e' w' ⟨rfl, rfl⟩
  go_wp2_with fail
  have C0 := mul_any a 10000 ha (by omega) w3
  rw [O.out.1, O.out.2] at C0
  refine C0.mono ?_
  clear C0
  rintro e' w4 ⟨rfl, hb4⟩
  have q4 : Below w.heap.size w w4 := q3.trans (hb4.mono q3.size)
  go_wp2_with fail
  refine (alike_self _ _ _).mono ?_
  rintro e' w' ⟨rfl, rfl⟩
  go_wp2_with fail
  refine (alike_self _ _ _).mono ?_
  rintro e' w' ⟨rfl, rfl⟩
  go_wp2
  go_ret
  exact ⟨rfl, q4⟩
set_option maxRecDepth 100000 in
set_option maxHeartbeats 4000000 in
theorem ring_201 (a b c : Int) (ha : -9223372036854775808 ≤ a ∧ a ≤ 9223372036854775807) (hb : -9223372036854775808 ≤ b ∧ b ≤ 9223372036854775807) (hc : -9223372036854775808 ≤ c ∧ c ≤ 9223372036854775807) (ab bc : Int) (R1 : Hid (addV a b = ab ∧ addC a b = 0)) (R1b : Hid (addV b a = ab ∧ addC b a = 0)) (R2 : Hid (addV b c = bc ∧ addC b c = 0)) (hab : -9223372036854775808 ≤ ab ∧ ab ≤ 9223372036854775807) (hbc : -9223372036854775808 ≤ bc ∧ bc ≤ 9223372036854775807) (p g : Int) (P1 : Hid (mulV a b = p ∧ mulC a b = g)) (P2 : Hid (mulV b a = p ∧ mulC b a = g)) (x i : Int) (X1 : Hid (addV ab c = x ∧ addC ab c = i)) (X2 : Hid (addV a bc = x ∧ addC a bc = i)) (n d m : Int) (l : Int) (N1 : Hid (negV b = n ∧ negC b = l)) (hn : -9223372036854775808 ≤ n ∧ n ≤ 9223372036854775807) (D1 : Hid (subV a b = d ∧ subC a b = m)) (hl : (l == 0) = false) (zz oo : Int) (Z : Hid (subV a a = zz ∧ subC a a = 2)) (O : Hid (mulV a 10000 = oo ∧ mulC a 10000 = 2)) (hna : (a == -9223372036854775808) = true) (w : World) (ht : Tab w) :
    Calls Tryd.prog 12 #[.int .i64 a, .int .i64 b, .int .i64 c] w
      fun e w' => e = .returned (.bool true) ∧ Below w.heap.size w w' := by
  go_enter Tryd.func12, Tryd.ntmps12
  go_wp2_with fail
  have C0 := add_any a b ha hb w
  rw [R1.out.1, R1.out.2] at C0
  refine C0.mono ?_
  clear C0
  rintro e' w' ⟨rfl, rfl⟩
  go_wp2_with fail
  have C0 := add_any b a hb ha w
  rw [R1b.out.1, R1b.out.2] at C0
  refine C0.mono ?_
  clear C0
  rintro e' w' ⟨rfl, rfl⟩
  go_wp2_with fail
  have C0 := mul_any a b ha hb w
  rw [P1.out.1, P1.out.2] at C0
  refine C0.mono ?_
  clear C0
  rintro e' w1 ⟨rfl, hb1⟩
  have q1 : Below w.heap.size w w1 := hb1
  go_wp2_with fail
  have C0 := mul_any b a hb ha w1
  rw [P2.out.1, P2.out.2] at C0
  refine C0.mono ?_
  clear C0
  rintro e' w2 ⟨rfl, hb2⟩
  have q2 : Below w.heap.size w w2 := q1.trans (hb2.mono q1.size)
  go_wp2_with fail
  refine (dknown_any _ (Tab.below ht q2)).mono ?_
  rintro e' w3 ⟨rfl, hb3⟩
  have q3 : Below w.heap.size w w3 := q2.trans (hb3.mono q2.size)
  go_wp2_with fail
  refine (alike_self _ _ _).mono ?_
  rintro e' w' ⟨rfl, rfl⟩
  go_wp2_with fail
  refine (alike_self _ _ _).mono ?_
  rintro e' w' ⟨rfl, rfl⟩
  go_wp2_with fail
  have C0 := add_any b c hb hc w3
  rw [R2.out.1, R2.out.2] at C0
  refine C0.mono ?_
  clear C0
  rintro e' w' ⟨rfl, rfl⟩
  go_wp2_with fail
  have C0 := add_any ab c hab hc w3
  rw [X1.out.1, X1.out.2] at C0
  refine C0.mono ?_
  clear C0
  rintro e' w' ⟨rfl, rfl⟩
  go_wp2_with fail
  have C0 := add_any a bc ha hbc w3
  rw [X2.out.1, X2.out.2] at C0
  refine C0.mono ?_
  clear C0
  rintro e' w' ⟨rfl, rfl⟩
  go_wp2_with fail
  refine (alike_self _ _ _).mono ?_
  rintro e' w' ⟨rfl, rfl⟩
  go_wp2_with fail
  have C0 := neg_any b hb w3
  rw [N1.out.1, N1.out.2] at C0
  refine C0.mono ?_
  clear C0
  rintro e' w' ⟨rfl, rfl⟩
  go_wp2_with fail
  have C0 := sub_any a b ha hb w3
  rw [D1.out.1, D1.out.2] at C0
  refine C0.mono ?_
  clear C0
  rintro e' w' ⟨rfl, rfl⟩
  go_wp2_with fail
  have C0 := sub_any a a ha ha w3
  rw [Z.out.1, Z.out.2] at C0
  refine C0.mono ?_
  clear C0
  rintro e' w' ⟨rfl, rfl⟩
  go_wp2_with fail
  have C0 := mul_any a 10000 ha (by omega) w3
  rw [O.out.1, O.out.2] at C0
  refine C0.mono ?_
  clear C0
  rintro e' w4 ⟨rfl, hb4⟩
  have q4 : Below w.heap.size w w4 := q3.trans (hb4.mono q3.size)
  go_wp2
  go_ret
  exact ⟨rfl, q4⟩
set_option maxRecDepth 100000 in
set_option maxHeartbeats 4000000 in
theorem ring_210 (a b c : Int) (ha : -9223372036854775808 ≤ a ∧ a ≤ 9223372036854775807) (hb : -9223372036854775808 ≤ b ∧ b ≤ 9223372036854775807) (hc : -9223372036854775808 ≤ c ∧ c ≤ 9223372036854775807) (ab bc : Int) (R1 : Hid (addV a b = ab ∧ addC a b = 0)) (R1b : Hid (addV b a = ab ∧ addC b a = 0)) (R2 : Hid (addV b c = bc ∧ addC b c = 0)) (hab : -9223372036854775808 ≤ ab ∧ ab ≤ 9223372036854775807) (hbc : -9223372036854775808 ≤ bc ∧ bc ≤ 9223372036854775807) (p g : Int) (P1 : Hid (mulV a b = p ∧ mulC a b = g)) (P2 : Hid (mulV b a = p ∧ mulC b a = g)) (x i : Int) (X1 : Hid (addV ab c = x ∧ addC ab c = i)) (X2 : Hid (addV a bc = x ∧ addC a bc = i)) (n d m : Int) (N1 : Hid (negV b = n ∧ negC b = 0)) (hn : -9223372036854775808 ≤ n ∧ n ≤ 9223372036854775807) (D1 : Hid (subV a b = d ∧ subC a b = m)) (D2 : Hid (addV a n = d ∧ addC a n = m)) (Z : Hid (subV a a = 0 ∧ subC a a = 0)) (O : Hid (mulV a 10000 = a ∧ mulC a 10000 = 0)) (hna : (a == -9223372036854775808) = false) (w : World) (ht : Tab w) :
    Calls Tryd.prog 12 #[.int .i64 a, .int .i64 b, .int .i64 c] w
      fun e w' => e = .returned (.bool true) ∧ Below w.heap.size w w' := by
  go_enter Tryd.func12, Tryd.ntmps12
  go_wp2_with fail
  have C0 := add_any a b ha hb w
  rw [R1.out.1, R1.out.2] at C0
  refine C0.mono ?_
  clear C0
  rintro e' w' ⟨rfl, rfl⟩
  go_wp2_with fail
  have C0 := add_any b a hb ha w
  rw [R1b.out.1, R1b.out.2] at C0
  refine C0.mono ?_
  clear C0
  rintro e' w' ⟨rfl, rfl⟩
  go_wp2_with fail
  have C0 := mul_any a b ha hb w
  rw [P1.out.1, P1.out.2] at C0
  refine C0.mono ?_
  clear C0
  rintro e' w1 ⟨rfl, hb1⟩
  have q1 : Below w.heap.size w w1 := hb1
  go_wp2_with fail
  have C0 := mul_any b a hb ha w1
  rw [P2.out.1, P2.out.2] at C0
  refine C0.mono ?_
  clear C0
  rintro e' w2 ⟨rfl, hb2⟩
  have q2 : Below w.heap.size w w2 := q1.trans (hb2.mono q1.size)
  go_wp2_with fail
  refine (dknown_any _ (Tab.below ht q2)).mono ?_
  rintro e' w3 ⟨rfl, hb3⟩
  have q3 : Below w.heap.size w w3 := q2.trans (hb3.mono q2.size)
  go_wp2_with fail
  refine (alike_self _ _ _).mono ?_
  rintro e' w' ⟨rfl, rfl⟩
  go_wp2_with fail
  refine (alike_self _ _ _).mono ?_
  rintro e' w' ⟨rfl, rfl⟩
  go_wp2_with fail
  have C0 := add_any b c hb hc w3
  rw [R2.out.1, R2.out.2] at C0
  refine C0.mono ?_
  clear C0
  rintro e' w' ⟨rfl, rfl⟩
  go_wp2_with fail
  have C0 := add_any ab c hab hc w3
  rw [X1.out.1, X1.out.2] at C0
  refine C0.mono ?_
  clear C0
  rintro e' w' ⟨rfl, rfl⟩
  go_wp2_with fail
  have C0 := add_any a bc ha hbc w3
  rw [X2.out.1, X2.out.2] at C0
  refine C0.mono ?_
  clear C0
  rintro e' w' ⟨rfl, rfl⟩
  go_wp2_with fail
  refine (alike_self _ _ _).mono ?_
  rintro e' w' ⟨rfl, rfl⟩
  go_wp2_with fail
  have C0 := neg_any b hb w3
  rw [N1.out.1, N1.out.2] at C0
  refine C0.mono ?_
  clear C0
  rintro e' w' ⟨rfl, rfl⟩
  go_wp2_with fail
  have C0 := sub_any a b ha hb w3
  rw [D1.out.1, D1.out.2] at C0
  refine C0.mono ?_
  clear C0
  rintro e' w' ⟨rfl, rfl⟩
  go_wp2_with fail
  have C0 := add_any a n ha hn w3
  rw [D2.out.1, D2.out.2] at C0
  refine C0.mono ?_
  clear C0
  rintro e' w' ⟨rfl, rfl⟩
  go_wp2_with fail
  refine (alike_self _ _ _).mono ?_
  rintro e' w' ⟨rfl, rfl⟩
  go_wp2_with fail
  have C0 := sub_any a a ha ha w3
  rw [Z.out.1, Z.out.2] at C0
  refine C0.mono ?_
  clear C0
  rintro e' w' ⟨rfl, rfl⟩
  go_wp2_with fail
  have C0 := mul_any a 10000 ha (by omega) w3
  rw [O.out.1, O.out.2] at C0
  refine C0.mono ?_
  clear C0
  rintro e' w4 ⟨rfl, hb4⟩
  have q4 : Below w.heap.size w w4 := q3.trans (hb4.mono q3.size)
  go_wp2_with fail
  refine (alike_self _ _ _).mono ?_
  rintro e' w' ⟨rfl, rfl⟩
  go_wp2_with fail
  refine (alike_self _ _ _).mono ?_
  rintro e' w' ⟨rfl, rfl⟩
  go_wp2
  go_ret
  exact ⟨rfl, q4⟩
set_option maxRecDepth 100000 in
set_option maxHeartbeats 4000000 in
theorem ring_211 (a b c : Int) (ha : -9223372036854775808 ≤ a ∧ a ≤ 9223372036854775807) (hb : -9223372036854775808 ≤ b ∧ b ≤ 9223372036854775807) (hc : -9223372036854775808 ≤ c ∧ c ≤ 9223372036854775807) (ab bc : Int) (R1 : Hid (addV a b = ab ∧ addC a b = 0)) (R1b : Hid (addV b a = ab ∧ addC b a = 0)) (R2 : Hid (addV b c = bc ∧ addC b c = 0)) (hab : -9223372036854775808 ≤ ab ∧ ab ≤ 9223372036854775807) (hbc : -9223372036854775808 ≤ bc ∧ bc ≤ 9223372036854775807) (p g : Int) (P1 : Hid (mulV a b = p ∧ mulC a b = g)) (P2 : Hid (mulV b a = p ∧ mulC b a = g)) (x i : Int) (X1 : Hid (addV ab c = x ∧ addC ab c = i)) (X2 : Hid (addV a bc = x ∧ addC a bc = i)) (n d m : Int) (N1 : Hid (negV b = n ∧ negC b = 0)) (hn : -9223372036854775808 ≤ n ∧ n ≤ 9223372036854775807) (D1 : Hid (subV a b = d ∧ subC a b = m)) (D2 : Hid (addV a n = d ∧ addC a n = m)) (zz oo : Int) (Z : Hid (subV a a = zz ∧ subC a a = 2)) (O : Hid (mulV a 10000 = oo ∧ mulC a 10000 = 2)) (hna : (a == -9223372036854775808) = true) (w : World) (ht : Tab w) :
    Calls Tryd.prog 12 #[.int .i64 a, .int .i64 b, .int .i64 c] w
      fun e w' => e = .returned (.bool true) ∧ Below w.heap.size w w' := by
  go_enter Tryd.func12, Tryd.ntmps12
  go_wp2_with fail
  have C0 := add_any a b ha hb w
  rw [R1.out.1, R1.out.2] at C0
  refine C0.mono ?_
  clear C0
  rintro e' w' ⟨rfl, rfl⟩
  go_wp2_with fail
  have C0 := add_any b a hb ha w
  rw [R1b.out.1, R1b.out.2] at C0
  refine C0.mono ?_
  clear C0
  rintro e' w' ⟨rfl, rfl⟩
  go_wp2_with fail
  have C0 := mul_any a b ha hb w
  rw [P1.out.1, P1.out.2] at C0
  refine C0.mono ?_
  clear C0
  rintro e' w1 ⟨rfl, hb1⟩
  have q1 : Below w.heap.size w w1 := hb1
  go_wp2_with fail
  have C0 := mul_any b a hb ha w1
  rw [P2.out.1, P2.out.2] at C0
  refine C0.mono ?_
  clear C0
  rintro e' w2 ⟨rfl, hb2⟩
  have q2 : Below w.heap.size w w2 := q1.trans (hb2.mono q1.size)
  go_wp2_with fail
  refine (dknown_any _ (Tab.below ht q2)).mono ?_
  rintro e' w3 ⟨rfl, hb3⟩
  have q3 : Below w.heap.size w w3 := q2.trans (hb3.mono q2.size)
  go_wp2_with fail
  refine (alike_self _ _ _).mono ?_
  rintro e' w' ⟨rfl, rfl⟩
  go_wp2_with fail
  refine (alike_self _ _ _).mono ?_
  rintro e' w' ⟨rfl, rfl⟩
  go_wp2_with fail
  have C0 := add_any b c hb hc w3
  rw [R2.out.1, R2.out.2] at C0
  refine C0.mono ?_
  clear C0
  rintro e' w' ⟨rfl, rfl⟩
  go_wp2_with fail
  have C0 := add_any ab c hab hc w3
  rw [X1.out.1, X1.out.2] at C0
  refine C0.mono ?_
  clear C0
  rintro e' w' ⟨rfl, rfl⟩
  go_wp2_with fail
  have C0 := add_any a bc ha hbc w3
  rw [X2.out.1, X2.out.2] at C0
  refine C0.mono ?_
  clear C0
  rintro e' w' ⟨rfl, rfl⟩
  go_wp2_with fail
  refine (alike_self _ _ _).mono ?_
  rintro e' w' ⟨rfl, rfl⟩
  go_wp2_with fail
  have C0 := neg_any b hb w3
  rw [N1.out.1, N1.out.2] at C0
  refine C0.mono ?_
  clear C0
  rintro e' w' ⟨rfl, rfl⟩
  go_wp2_with fail
  have C0 := sub_any a b ha hb w3
  rw [D1.out.1, D1.out.2] at C0
  refine C0.mono ?_
  clear C0
  rintro e' w' ⟨rfl, rfl⟩
  go_wp2_with fail
  have C0 := add_any a n ha hn w3
  rw [D2.out.1, D2.out.2] at C0
  refine C0.mono ?_
  clear C0
  rintro e' w' ⟨rfl, rfl⟩
  go_wp2_with fail
  refine (alike_self _ _ _).mono ?_
  rintro e' w' ⟨rfl, rfl⟩
  go_wp2_with fail
  have C0 := sub_any a a ha ha w3
  rw [Z.out.1, Z.out.2] at C0
  refine C0.mono ?_
  clear C0
  rintro e' w' ⟨rfl, rfl⟩
  go_wp2_with fail
  have C0 := mul_any a 10000 ha (by omega) w3
  rw [O.out.1, O.out.2] at C0
  refine C0.mono ?_
  clear C0
  rintro e' w4 ⟨rfl, hb4⟩
  have q4 : Below w.heap.size w w4 := q3.trans (hb4.mono q3.size)
  go_wp2
  go_ret
  exact ⟨rfl, q4⟩
end Go.Proofs.YtjnjklcnccfgaaaDoor
