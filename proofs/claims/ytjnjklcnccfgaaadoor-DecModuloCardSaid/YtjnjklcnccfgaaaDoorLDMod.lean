/-
  The walk of the law of what is left.
-/
import Derived.Test.YtjnjklcnccfgaaaDoorDecK
import Derived.Test.YtjnjklcnccfgaaaDoorDMod
import Derived.WalkSpells
import Derived.WalkLawsBesides
import Derived.StillTactics
import Derived.Laws.Pointers
import Derived.Deep.RegionHeld3
import Derived.Deep.QuietTactic
import Derived.BigQuiet
import Derived.RowKit3
import Derived.Lib.Hide
import Derived.Lib.OthersKept
import Derived.OwnWalk
import Derived.Lib.IndexLaws
import Derived.Lib.ItoaMem
namespace Go.Proofs.YtjnjklcnccfgaaaDoor
open Go.RowKit

theorem modM_sign (a b : Int) (h : b ≠ 0) : (0 < b → 0 ≤ modM a b ∧ modM a b < b) ∧ (b < 0 → modM a b ≤ 0 ∧ b < modM a b) := by
  have hr := tmod_lt a b h
  unfold modM
  by_cases h4 : a.tmod b = 0
  · rw [if_neg (by intro hh; exact hh.1 h4), h4]; omega
  by_cases h5 : a.tmod b < 0 <;> by_cases h6 : b < 0
  · rw [if_neg (by simp [h5, h6])]; omega
  · rw [if_pos (by simp [h4, h5, h6])]; omega
  · rw [if_pos (by simp [h4, h5, h6])]; omega
  · rw [if_neg (by simp [h5, h6])]; omega
theorem modM_less (a b : Int) : ∃ k : Int, a - modM a b = b * k := by
  have := Int.mul_tdiv_add_tmod a b
  unfold modM
  split
  · exact ⟨a.tdiv b - 1, by rw [Int.mul_sub]; omega⟩
  · exact ⟨a.tdiv b, by omega⟩
theorem modM_zero (a b : Int) : modM (a - modM a b) b = 0 := by
  obtain ⟨k, hk⟩ := modM_less a b
  have : (a - modM a b).tmod b = 0 := by rw [hk]; exact Int.mul_tmod_right b k
  generalize a - modM a b = x at *
  unfold modM
  rw [this, if_neg (by intro hh; exact hh.1 rfl)]
set_option maxRecDepth 100000 in
set_option maxHeartbeats 2000000 in
theorem modulo_a (a b : Int) (ha : -9223372036854775808 ≤ a ∧ a ≤ 9223372036854775807) (hb : -9223372036854775808 ≤ b ∧ b ≤ 9223372036854775807) (h : a = -9223372036854775808) (hv : modV a b = 0) (hc : modC a b = 2) (w : World) (ht : Tab w) :
    Calls Tryd.prog 13 #[.int .i64 a, .int .i64 b] w
      fun e w' => e = .returned (.bool true) ∧ Below w.heap.size w w' := by
  have C := mod_any a b ha hb w
  rw [show modV a b = 0 from hv, show modC a b = 2 from hc] at C
  have C' := Lib.hid C
  clear C
  clear hv hc
  subst h
  go_enter Tryd.func13, Tryd.ntmps13
  go_wp2_with fail
  refine C'.out.mono ?_
  rintro e w' ⟨rfl, rfl⟩
  go_wp2_with fail
  refine (dknown_any _ ht).mono ?_
  rintro e w1 ⟨rfl, hb1⟩
  go_wp2
  go_ret
  exact ⟨rfl, hb1⟩
set_option maxRecDepth 100000 in
set_option maxHeartbeats 2000000 in
theorem modulo_b (a b : Int) (ha : -9223372036854775808 ≤ a ∧ a ≤ 9223372036854775807) (hb : -9223372036854775808 ≤ b ∧ b ≤ 9223372036854775807) (h : a ≠ -9223372036854775808) (h2 : b = -9223372036854775808) (hv : modV a b = 0) (hc : modC a b = 2) (w : World) (ht : Tab w) :
    Calls Tryd.prog 13 #[.int .i64 a, .int .i64 b] w
      fun e w' => e = .returned (.bool true) ∧ Below w.heap.size w w' := by
  have C := mod_any a b ha hb w
  rw [show modV a b = 0 from hv, show modC a b = 2 from hc] at C
  have C' := Lib.hid C
  clear C
  clear hv hc
  subst h2
  go_enter Tryd.func13, Tryd.ntmps13
  go_wp2_with fail
  refine C'.out.mono ?_
  rintro e w' ⟨rfl, rfl⟩
  go_wp2_with fail
  refine (dknown_any _ ht).mono ?_
  rintro e w1 ⟨rfl, hb1⟩
  go_wp2
  go_ret
  exact ⟨rfl, hb1⟩
set_option maxRecDepth 100000 in
set_option maxHeartbeats 2000000 in
theorem modulo_0 (a b : Int) (ha : -9223372036854775808 ≤ a ∧ a ≤ 9223372036854775807) (hb : -9223372036854775808 ≤ b ∧ b ≤ 9223372036854775807) (h : a ≠ -9223372036854775808) (h2 : b = 0) (hv : modV a b = 0) (hc : modC a b = 3) (w : World) (ht : Tab w) :
    Calls Tryd.prog 13 #[.int .i64 a, .int .i64 b] w
      fun e w' => e = .returned (.bool true) ∧ Below w.heap.size w w' := by
  have C := mod_any a b ha hb w
  rw [show modV a b = 0 from hv, show modC a b = 3 from hc] at C
  have C' := Lib.hid C
  clear C
  clear hv hc
  subst h2
  go_enter Tryd.func13, Tryd.ntmps13
  go_wp2_with fail
  refine C'.out.mono ?_
  rintro e w' ⟨rfl, rfl⟩
  go_wp2_with fail
  refine (dknown_any _ ht).mono ?_
  rintro e w1 ⟨rfl, hb1⟩
  go_wp2
  go_ret
  exact ⟨rfl, hb1⟩
set_option maxRecDepth 100000 in
set_option maxHeartbeats 2000000 in
theorem modulo_o0 (a b : Int) (ha : -9223372036854775808 ≤ a ∧ a ≤ 9223372036854775807) (hb : -9223372036854775808 ≤ b ∧ b ≤ 9223372036854775807) (h : a ≠ -9223372036854775808) (h2 : b ≠ -9223372036854775808) (h3 : b ≠ 0) (m : Int) (hv : modV a b = m) (hc : modC a b = 0) (h4 : 0 < b) (h5 : 0 ≤ m) (h6 : m < b) (hk : subV a m = 0) (hk2 : subC a m = 2) (w : World) (ht : Tab w) :
    Calls Tryd.prog 13 #[.int .i64 a, .int .i64 b] w
      fun e w' => e = .returned (.bool true) ∧ Below w.heap.size w w' := by
  have C := mod_any a b ha hb w
  rw [show modV a b = m from hv, show modC a b = 0 from hc] at C
  have C' := Lib.hid C
  clear C
  clear hv hc
  have n1 : (a == -9223372036854775808) = false := by simpa using h
  have n2 : (b == -9223372036854775808) = false := by simpa using h2
  have n3 : (b == 0) = false := by simpa using h3
  go_enter Tryd.func13, Tryd.ntmps13
  go_wp2_with fail
  refine C'.out.mono ?_
  rintro e w' ⟨rfl, rfl⟩
  go_wp2_with fail
  refine (dknown_any _ ht).mono ?_
  rintro e w1 ⟨rfl, hb1⟩
  go_wp2_with fail
  have D := sub_any a m ha (by omega) w1
  rw [hk, hk2] at D
  refine D.mono ?_
  rintro e w' ⟨rfl, rfl⟩
  go_wp2
  go_ret
  exact ⟨rfl, hb1⟩
set_option maxRecDepth 100000 in
set_option maxHeartbeats 2000000 in
theorem modulo_d0 (a b : Int) (ha : -9223372036854775808 ≤ a ∧ a ≤ 9223372036854775807) (hb : -9223372036854775808 ≤ b ∧ b ≤ 9223372036854775807) (h : a ≠ -9223372036854775808) (h2 : b ≠ -9223372036854775808) (h3 : b ≠ 0) (m : Int) (hv : modV a b = m) (hc : modC a b = 0) (h4 : 0 < b) (h5 : 0 ≤ m) (h6 : m < b) (hk : subV a m = a - m) (hk2 : subC a m = 0) (hd : -9223372036854775808 ≤ a - m ∧ a - m ≤ 9223372036854775807) (hz : modV (a - m) b = 0) (hz2 : modC (a - m) b = 0) (w : World) (ht : Tab w) :
    Calls Tryd.prog 13 #[.int .i64 a, .int .i64 b] w
      fun e w' => e = .returned (.bool true) ∧ Below w.heap.size w w' := by
  have C := mod_any a b ha hb w
  rw [show modV a b = m from hv, show modC a b = 0 from hc] at C
  have C' := Lib.hid C
  clear C
  clear hv hc
  have n1 : (a == -9223372036854775808) = false := by simpa using h
  have n2 : (b == -9223372036854775808) = false := by simpa using h2
  have n3 : (b == 0) = false := by simpa using h3
  go_enter Tryd.func13, Tryd.ntmps13
  go_wp2_with fail
  refine C'.out.mono ?_
  rintro e w' ⟨rfl, rfl⟩
  go_wp2_with fail
  refine (dknown_any _ ht).mono ?_
  rintro e w1 ⟨rfl, hb1⟩
  go_wp2_with fail
  have D := sub_any a m ha (by omega) w1
  rw [hk, hk2] at D
  refine D.mono ?_
  rintro e w' ⟨rfl, rfl⟩
  go_wp2_with fail
  have E := mod_any (a - m) b hd hb w1
  rw [hz, hz2] at E
  refine E.mono ?_
  rintro e w' ⟨rfl, rfl⟩
  go_wp2_with fail
  refine (alike_self 0 0 _).mono ?_
  rintro e w' ⟨rfl, rfl⟩
  go_wp2
  go_ret
  exact ⟨rfl, hb1⟩
set_option maxRecDepth 100000 in
set_option maxHeartbeats 2000000 in
theorem modulo_o1 (a b : Int) (ha : -9223372036854775808 ≤ a ∧ a ≤ 9223372036854775807) (hb : -9223372036854775808 ≤ b ∧ b ≤ 9223372036854775807) (h : a ≠ -9223372036854775808) (h2 : b ≠ -9223372036854775808) (h3 : b ≠ 0) (m : Int) (hv : modV a b = m) (hc : modC a b = 0) (h4 : b < 0) (h5 : m ≤ 0) (h6 : b < m) (hk : subV a m = 0) (hk2 : subC a m = 2) (w : World) (ht : Tab w) :
    Calls Tryd.prog 13 #[.int .i64 a, .int .i64 b] w
      fun e w' => e = .returned (.bool true) ∧ Below w.heap.size w w' := by
  have C := mod_any a b ha hb w
  rw [show modV a b = m from hv, show modC a b = 0 from hc] at C
  have C' := Lib.hid C
  clear C
  clear hv hc
  have n1 : (a == -9223372036854775808) = false := by simpa using h
  have n2 : (b == -9223372036854775808) = false := by simpa using h2
  have n3 : (b == 0) = false := by simpa using h3
  go_enter Tryd.func13, Tryd.ntmps13
  go_wp2_with fail
  refine C'.out.mono ?_
  rintro e w' ⟨rfl, rfl⟩
  go_wp2_with fail
  refine (dknown_any _ ht).mono ?_
  rintro e w1 ⟨rfl, hb1⟩
  go_wp2_with fail
  have D := sub_any a m ha (by omega) w1
  rw [hk, hk2] at D
  refine D.mono ?_
  rintro e w' ⟨rfl, rfl⟩
  go_wp2
  go_ret
  exact ⟨rfl, hb1⟩
set_option maxRecDepth 100000 in
set_option maxHeartbeats 2000000 in
theorem modulo_d1 (a b : Int) (ha : -9223372036854775808 ≤ a ∧ a ≤ 9223372036854775807) (hb : -9223372036854775808 ≤ b ∧ b ≤ 9223372036854775807) (h : a ≠ -9223372036854775808) (h2 : b ≠ -9223372036854775808) (h3 : b ≠ 0) (m : Int) (hv : modV a b = m) (hc : modC a b = 0) (h4 : b < 0) (h5 : m ≤ 0) (h6 : b < m) (hk : subV a m = a - m) (hk2 : subC a m = 0) (hd : -9223372036854775808 ≤ a - m ∧ a - m ≤ 9223372036854775807) (hz : modV (a - m) b = 0) (hz2 : modC (a - m) b = 0) (w : World) (ht : Tab w) :
    Calls Tryd.prog 13 #[.int .i64 a, .int .i64 b] w
      fun e w' => e = .returned (.bool true) ∧ Below w.heap.size w w' := by
  have C := mod_any a b ha hb w
  rw [show modV a b = m from hv, show modC a b = 0 from hc] at C
  have C' := Lib.hid C
  clear C
  clear hv hc
  have n1 : (a == -9223372036854775808) = false := by simpa using h
  have n2 : (b == -9223372036854775808) = false := by simpa using h2
  have n3 : (b == 0) = false := by simpa using h3
  go_enter Tryd.func13, Tryd.ntmps13
  go_wp2_with fail
  refine C'.out.mono ?_
  rintro e w' ⟨rfl, rfl⟩
  go_wp2_with fail
  refine (dknown_any _ ht).mono ?_
  rintro e w1 ⟨rfl, hb1⟩
  go_wp2_with fail
  have D := sub_any a m ha (by omega) w1
  rw [hk, hk2] at D
  refine D.mono ?_
  rintro e w' ⟨rfl, rfl⟩
  go_wp2_with fail
  have E := mod_any (a - m) b hd hb w1
  rw [hz, hz2] at E
  refine E.mono ?_
  rintro e w' ⟨rfl, rfl⟩
  go_wp2_with fail
  refine (alike_self 0 0 _).mono ?_
  rintro e w' ⟨rfl, rfl⟩
  go_wp2
  go_ret
  exact ⟨rfl, hb1⟩
theorem walk_DecModulo (a b : Int) (ha : -9223372036854775808 ≤ a ∧ a ≤ 9223372036854775807) (hb : -9223372036854775808 ≤ b ∧ b ≤ 9223372036854775807) (w : World) (ht : Tab w) : Calls Tryd.prog 13 #[.int .i64 a, .int .i64 b] w fun e w' => e = .returned (.bool true) ∧ Below w.heap.size w w' := by
  by_cases h : a = -9223372036854775808
  · exact modulo_a a b ha hb h (if_pos (.inl h)) (if_pos (.inl h)) w ht
  by_cases h2 : b = -9223372036854775808
  · exact modulo_b a b ha hb h h2 (if_pos (.inr (.inl h2))) (if_pos (.inr h2)) w ht
  by_cases h3 : b = 0
  · exact modulo_0 a b ha hb h h3 (if_pos (.inr (.inr h3))) (by unfold modC; rw [if_neg (by omega), if_pos h3]) w ht
  have hv : modV a b = modM a b := if_neg (by omega)
  have hc : modC a b = 0 := by unfold modC; rw [if_neg (by omega), if_neg h3]
  obtain ⟨s1, s2⟩ := modM_sign a b h3
  have hz := modM_zero a b
  generalize modM a b = m at *
  have hso : subV a m = 0 ∧ subC a m = 2 ∨ subV a m = a - m ∧ subC a m = 0 ∧ a - m ≠ -9223372036854775808 ∧ -9223372036854775808 ≤ a - m ∧ a - m ≤ 9223372036854775807 := by
    by_cases h7 : -9223372036854775807 ≤ a - m ∧ a - m ≤ 9223372036854775807
    · right
      refine ⟨?_, ?_, by omega, by omega, by omega⟩
      · unfold subV exV; rw [if_neg (by rcases Int.lt_or_gt_of_ne h3 with h8 | h8; have := s2 h8; omega; have := s1 h8; omega), if_pos h7]
      · unfold subC exC; rw [if_neg (by rcases Int.lt_or_gt_of_ne h3 with h8 | h8; have := s2 h8; omega; have := s1 h8; omega), if_pos h7]
    · left
      refine ⟨?_, ?_⟩
      · unfold subV exV; rw [if_neg (by rcases Int.lt_or_gt_of_ne h3 with h8 | h8; have := s2 h8; omega; have := s1 h8; omega), if_neg h7]
      · unfold subC exC; rw [if_neg (by rcases Int.lt_or_gt_of_ne h3 with h8 | h8; have := s2 h8; omega; have := s1 h8; omega), if_neg h7]
  rcases hso with ⟨k1, k2⟩ | ⟨k1, k2, k3, k4, k5⟩
  · rcases Int.lt_or_gt_of_ne h3 with h8 | h8
    · exact modulo_o1 a b ha hb h h2 h3 m hv hc h8 (s2 h8).1 (s2 h8).2 k1 k2 w ht
    · exact modulo_o0 a b ha hb h h2 h3 m hv hc h8 (s1 h8).1 (s1 h8).2 k1 k2 w ht
  · have z1 : modV (a - m) b = 0 := by unfold modV; rw [if_neg (by omega)]; exact hz
    have z2 : modC (a - m) b = 0 := by unfold modC; rw [if_neg (by omega), if_neg h3]
    rcases Int.lt_or_gt_of_ne h3 with h8 | h8
    · exact modulo_d1 a b ha hb h h2 h3 m hv hc h8 (s2 h8).1 (s2 h8).2 k1 k2 ⟨k4, k5⟩ z1 z2 w ht
    · exact modulo_d0 a b ha hb h h2 h3 m hv hc h8 (s1 h8).1 (s1 h8).2 k1 k2 ⟨k4, k5⟩ z1 z2 w ht
end Go.Proofs.YtjnjklcnccfgaaaDoor
