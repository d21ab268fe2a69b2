/-
 The document's product of any two numbers; plain laws of rectangles: what a cell has, how many cells have a value, the first place of a line, what SUMIF sums; the document's aggs: has, counted.
-/
import Derived.Test.YtgmhifafbebjfaaGreatDoorRMul
import Derived.Test.YtgmhifafbebjfaaGreatDoorALku
import Derived.Test.YtgmhifafbebjfaaGreatDoorMg31
set_option maxRecDepth 100000
set_option maxHeartbeats 32000000
namespace Go.Proofs.YtgmhifafbebjfaaGreatDoor
open Go.RowKit

theorem mul_parts (m n p q m1 n1 pq L1 L2 t : Nat) (hm : m = p * 10000 + m1) (hn : n = q * 10000 + n1) (g1 : p * q = pq) (g2 : p * n1 = L1) (g3 : q * m1 = L2) (g4 : m1 * n1 = t) : mulN m n = pq * 10000 + L1 + L2 + (t + 5000) / 10000 := by
 have e : m * n = pq * 100000000 + L1 * 10000 + L2 * 10000 + t := by
  rw [hm, hn, Nat.add_mul, Nat.mul_add, Nat.mul_add, ← g1, ← g2, ← g3, ← g4]
  have a1 : p * 10000 * (q * 10000) = p * q * 100000000 := by rw [Nat.mul_mul_mul_comm]
  have a2 : p * 10000 * n1 = p * n1 * 10000 := by rw [Nat.mul_right_comm]
  have a3 : m1 * (q * 10000) = q * m1 * 10000 := by rw [← Nat.mul_assoc, Nat.mul_comm m1 q]
  omega
 unfold mulN
 rw [e]
 split <;> omega
theorem rmul_any (a b : Int) (ha : -9223372036854775808 ≤ a ∧ a ≤ 9223372036854775807) (hb : -9223372036854775808 ≤ b ∧ b ≤ 9223372036854775807) (w : World) : Calls Tryz.prog 186 #[.int .i64 a, .int .i64 b] w fun e w' => e = .returned (.tuple #[.int .i64 (mulV a b), .int .i64 (mulC a b)]) ∧ Below w.heap.size w w' := by
 unfold mulV mulC
 by_cases h : a = -9223372036854775808
 ·rw [if_pos (.inl h), if_pos (.inl h)]; exact rmul_a a b ha hb h w
 by_cases h2 : b = -9223372036854775808
 ·rw [if_pos (.inr h2), if_pos (.inr h2)]; exact rmul_b a b ha hb h h2 w
 rw [if_neg (by omega), if_neg (by omega)]
 obtain ⟨m, hm⟩ : ∃ m, a.natAbs = m := ⟨_, rfl⟩
 obtain ⟨n, hn⟩ : ∃ n, b.natAbs = n := ⟨_, rfl⟩
 rw [hm, hn]
 obtain ⟨p, hp⟩ : ∃ p, m / 10000 = p := ⟨_, rfl⟩
 obtain ⟨q, hq⟩ : ∃ q, n / 10000 = q := ⟨_, rfl⟩
 obtain ⟨m1, hm1⟩ : ∃ m1, m % 10000 = m1 := ⟨_, rfl⟩
 obtain ⟨n1, hn1⟩ : ∃ n1, n % 10000 = n1 := ⟨_, rfl⟩
 have E1 : (m : Int) / 10000 = (p : Int) := by omega
 have E2 : (n : Int) / 10000 = (q : Int) := by omega
 have E3 : (m : Int) % 10000 = (m1 : Int) := by omega
 have E4 : (n : Int) % 10000 = (n1 : Int) := by omega
 obtain ⟨pq, hpq⟩ : ∃ x, p * q = x := ⟨_, rfl⟩
 obtain ⟨L1, hL1⟩ : ∃ x, p * n1 = x := ⟨_, rfl⟩
 obtain ⟨L2, hL2⟩ : ∃ x, q * m1 = x := ⟨_, rfl⟩
 obtain ⟨t, ht⟩ : ∃ x, m1 * n1 = x := ⟨_, rfl⟩
 have hN := mul_parts m n p q m1 n1 pq L1 L2 t (by omega) (by omega) hpq hL1 hL2 ht
 have l1 : L1 ≤ 922337203685477 * 9999 := by rw [← hL1]; exact Nat.mul_le_mul (by omega) (by omega)
 have l2 : L2 ≤ 922337203685477 * 9999 := by rw [← hL2]; exact Nat.mul_le_mul (by omega) (by omega)
 have l3 : t ≤ 9999 * 9999 := by rw [← ht]; exact Nat.mul_le_mul (by omega) (by omega)
 have G3 := wrapM p n1 L1 hL1
 have G4 := wrapM q m1 L2 hL2
 have G5 := wrapM m1 n1 t ht
 rw [Nat.mod_eq_of_lt (by omega)] at G3 G4 G5
 have G6 : IntKind.u64.wrap ((t : Int) + 5000) = (t : Int) + 5000 := IntWalk.u64_in _ (by omega)
 have G7 : ((t : Int) + 5000) / 10000 = (((t + 5000) / 10000 : Nat) : Int) := by omega
 have G8 : IntKind.u64.wrap (((t : Int) + 5000).tdiv 10000) = (((t + 5000) / 10000 : Nat) : Int) := by rw [IntWalk.u64_quo _ _ (by omega)]; exact G7
 have G1' := wrapM p q pq hpq
 by_cases hp0 : 0 < p
 ·obtain ⟨cp, hcp⟩ : ∃ x, 922337203685477 / p = x := ⟨_, rfl⟩
  have hcpb : cp ≤ 922337203685477 := by rw [← hcp]; exact Nat.div_le_self _ _
  have T2 : (922337203685477 : Int) / p = (cp : Int) := by rw [← hcp]; simp
  have T1 : IntKind.u64.wrap ((922337203685477 : Int).tdiv p) = (cp : Int) := by rw [IntWalk.u64_quo _ _ (by omega)]; exact T2
  by_cases ho : cp < q
  ·have hB : 922337203685477 < pq := by
    rw [← hpq, Nat.mul_comm]
    exact (Nat.div_lt_iff_lt_mul hp0).1 (by rw [hcp]; exact ho)
   obtain ⟨b1, b2⟩ := sgn2_big a b (mulN m n) (by omega)
   rw [b1, b2]
   exact rmul_over a b ha hb h h2 m n p q m1 n1 hm hn (by omega) (by omega) E1 E2 E3 E4 (by omega) (by omega) (by omega) (by omega) cp T1 T2 (decide_eq_true (by omega)) (decide_eq_true hp0) (decide_eq_true (by omega)) (decide_eq_true ho) w
  have hB : pq ≤ 922337203685477 := by
   rw [← hpq, Nat.mul_comm]
   exact (Nat.le_div_iff_mul_le hp0).1 (by rw [hcp]; omega)
  have G1 := G1'
  rw [Nat.mod_eq_of_lt (by omega)] at G1
  have G2 : IntKind.u64.wrap ((pq : Int) * 10000) = ((pq * 10000 : Nat) : Int) := IntWalk.u64_in _ (by omega)
  by_cases c1 : 9223372036854775807 < (pq * 10000) + L1
  ·obtain ⟨b1, b2⟩ := sgn2_big a b (mulN m n) (by omega)
   rw [b1, b2]
   exact rmul_y1 a b ha hb h h2 m n p q m1 n1 hm hn (by omega) (by omega) E1 E2 E3 E4 (by omega) (by omega) (by omega) (by omega) pq (pq * 10000) L1 L2 t ((t + 5000) / 10000) G1 G2 G3 G4 G5 G6 G7 G8 (pq * 10000 + L1) (pq * 10000 + L1 + L2) (pq * 10000 + L1 + L2 + (t + 5000) / 10000) (by omega) cp T1 T2 (decide_eq_true (by omega)) (decide_eq_true (by omega)) (decide_eq_false (by omega)) (decide_eq_false (by omega))  (by omega) w
  by_cases c2 : 9223372036854775807 < (pq * 10000 + L1) + L2
  ·obtain ⟨b1, b2⟩ := sgn2_big a b (mulN m n) (by omega)
   rw [b1, b2]
   exact rmul_y2 a b ha hb h h2 m n p q m1 n1 hm hn (by omega) (by omega) E1 E2 E3 E4 (by omega) (by omega) (by omega) (by omega) pq (pq * 10000) L1 L2 t ((t + 5000) / 10000) G1 G2 G3 G4 G5 G6 G7 G8 (pq * 10000 + L1) (pq * 10000 + L1 + L2) (pq * 10000 + L1 + L2 + (t + 5000) / 10000) (by omega) cp T1 T2 (decide_eq_true (by omega)) (decide_eq_true (by omega)) (decide_eq_false (by omega)) (decide_eq_false (by omega)) (by omega) (by omega) (by omega) w
  by_cases c3 : 9223372036854775807 < (pq * 10000 + L1 + L2) + ((t + 5000) / 10000)
  ·obtain ⟨b1, b2⟩ := sgn2_big a b (mulN m n) (by omega)
   rw [b1, b2]
   exact rmul_y3 a b ha hb h h2 m n p q m1 n1 hm hn (by omega) (by omega) E1 E2 E3 E4 (by omega) (by omega) (by omega) (by omega) pq (pq * 10000) L1 L2 t ((t + 5000) / 10000) G1 G2 G3 G4 G5 G6 G7 G8 (pq * 10000 + L1) (pq * 10000 + L1 + L2) (pq * 10000 + L1 + L2 + (t + 5000) / 10000) (by omega) cp T1 T2 (decide_eq_true (by omega)) (decide_eq_true (by omega)) (decide_eq_false (by omega)) (decide_eq_false (by omega)) (by omega) (by omega) (by omega) (by omega) (by omega) w
  rw [hN]
  exact rmul_y4 a b ha hb h h2 m n p q m1 n1 hm hn (by omega) (by omega) E1 E2 E3 E4 (by omega) (by omega) (by omega) (by omega) pq (pq * 10000) L1 L2 t ((t + 5000) / 10000) G1 G2 G3 G4 G5 G6 G7 G8 (pq * 10000 + L1) (pq * 10000 + L1 + L2) (pq * 10000 + L1 + L2 + (t + 5000) / 10000) (by omega) cp T1 T2 (decide_eq_true (by omega)) (decide_eq_true (by omega)) (decide_eq_false (by omega)) (decide_eq_false (by omega)) (by omega) (by omega) (by omega) (by omega) (by omega) (by omega) _ rfl w
 ·have hB : pq = 0 := by rw [← hpq, show p = 0 by omega, Nat.zero_mul]
  have G1 := G1'
  rw [Nat.mod_eq_of_lt (by omega)] at G1
  have G2 : IntKind.u64.wrap ((pq : Int) * 10000) = ((pq * 10000 : Nat) : Int) := IntWalk.u64_in _ (by omega)
  by_cases c1 : 9223372036854775807 < (pq * 10000) + L1
  ·obtain ⟨b1, b2⟩ := sgn2_big a b (mulN m n) (by omega)
   rw [b1, b2]
   exact rmul_z1 a b ha hb h h2 m n p q m1 n1 hm hn (by omega) (by omega) E1 E2 E3 E4 (by omega) (by omega) (by omega) (by omega) pq (pq * 10000) L1 L2 t ((t + 5000) / 10000) G1 G2 G3 G4 G5 G6 G7 G8 (pq * 10000 + L1) (pq * 10000 + L1 + L2) (pq * 10000 + L1 + L2 + (t + 5000) / 10000) (by omega) (decide_eq_false (by omega)) (decide_eq_false (by omega))  (by omega) w
  by_cases c2 : 9223372036854775807 < (pq * 10000 + L1) + L2
  ·obtain ⟨b1, b2⟩ := sgn2_big a b (mulN m n) (by omega)
   rw [b1, b2]
   exact rmul_z2 a b ha hb h h2 m n p q m1 n1 hm hn (by omega) (by omega) E1 E2 E3 E4 (by omega) (by omega) (by omega) (by omega) pq (pq * 10000) L1 L2 t ((t + 5000) / 10000) G1 G2 G3 G4 G5 G6 G7 G8 (pq * 10000 + L1) (pq * 10000 + L1 + L2) (pq * 10000 + L1 + L2 + (t + 5000) / 10000) (by omega) (decide_eq_false (by omega)) (decide_eq_false (by omega)) (by omega) (by omega) (by omega) w
  by_cases c3 : 9223372036854775807 < (pq * 10000 + L1 + L2) + ((t + 5000) / 10000)
  ·obtain ⟨b1, b2⟩ := sgn2_big a b (mulN m n) (by omega)
   rw [b1, b2]
   exact rmul_z3 a b ha hb h h2 m n p q m1 n1 hm hn (by omega) (by omega) E1 E2 E3 E4 (by omega) (by omega) (by omega) (by omega) pq (pq * 10000) L1 L2 t ((t + 5000) / 10000) G1 G2 G3 G4 G5 G6 G7 G8 (pq * 10000 + L1) (pq * 10000 + L1 + L2) (pq * 10000 + L1 + L2 + (t + 5000) / 10000) (by omega) (decide_eq_false (by omega)) (decide_eq_false (by omega)) (by omega) (by omega) (by omega) (by omega) (by omega) w
  rw [hN]
  exact rmul_z4 a b ha hb h h2 m n p q m1 n1 hm hn (by omega) (by omega) E1 E2 E3 E4 (by omega) (by omega) (by omega) (by omega) pq (pq * 10000) L1 L2 t ((t + 5000) / 10000) G1 G2 G3 G4 G5 G6 G7 G8 (pq * 10000 + L1) (pq * 10000 + L1 + L2) (pq * 10000 + L1 + L2 + (t + 5000) / 10000) (by omega) (decide_eq_false (by omega)) (decide_eq_false (by omega)) (by omega) (by omega) (by omega) (by omega) (by omega) (by omega) _ rfl w
end Go.Proofs.YtgmhifafbebjfaaGreatDoor
namespace Go.Proofs.YtgmhifafbebjfaaGreatDoor
theorem rect_in2 {t l b r : Int} (h : mayRectB t l b r = true) : 1 ≤ t ∧ t ≤ b ∧ b ≤ 4096 ∧ 1 ≤ l ∧ l ≤ r ∧ r ≤ 256 := by
 unfold mayRectB mayB at h
 simp at h
 omega
theorem ent_key2 {x : AL} (hm : mayRectB x.t x.l x.b x.r = true) (h : entsOk x = true) : ∀ (k : Nat) (e : EL), x.es[k]? = some e → (k : Int) ≤ (e.r - 1) * 256 + (e.c - 1) ∧ e.r ≤ 4096 ∧ 1 ≤ e.r ∧ 1 ≤ e.c ∧ e.c ≤ 256 := by
 obtain ⟨h1, h2, h3, h4, h5, h6⟩ := rect_in2 hm
 intro k
 induction k with
 |
  zero =>
  intro e he
  obtain ⟨a1, -, -⟩ := ent_parts h 0 e he
  unfold inB at a1
  simp only [Bool.and_eq_true, decide_eq_true_eq] at a1
  refine ⟨?_, ?_, ?_, ?_, ?_⟩ <;> omega
 |
  succ k ih =>
  intro e he
  obtain ⟨a1, -, a3⟩ := ent_parts h (k + 1) e he
  unfold inB at a1
  simp only [Bool.and_eq_true, decide_eq_true_eq] at a1
  obtain ⟨d, hd⟩ : ∃ d, x.es[k]? = some d := ⟨_, List.getElem?_eq_getElem (by have := (List.getElem?_eq_some_iff.1 he).1; omega)⟩
  obtain ⟨i1, i2, i3, i4, i5⟩ := ih d hd
  have b := a3 k d rfl hd
  unfold befB at b
  simp only [Bool.or_eq_true, Bool.and_eq_true, decide_eq_true_eq] at b
  refine ⟨?_, ?_, ?_, ?_, ?_⟩ <;> omega
theorem ent_len2 {x : AL} (hm : mayRectB x.t x.l x.b x.r = true) (h : entsOk x = true) : x.es.length ≤ 1048576 := by
 rcases Nat.eq_zero_or_pos x.es.length with h0 | h0
 ·omega
 ·obtain ⟨a, b, c, d, e⟩ := ent_key2 hm h (x.es.length - 1) _ (List.getElem?_eq_getElem (by omega))
  omega
theorem itemsX_len9 {x : AL} (hx : argMay x = true) : (itemsX x).length ≤ 1048576 := by
 cases hm : x.many with
 |
  true =>
  obtain ⟨m1, -, m3⟩ := may_parts hm hx
  have h1 := ent_len2 m1 m3
  unfold itemsX
  rw [hm]; simpa using h1
 |
  false =>
  unfold argMay at hx
  rw [hm] at hx
  simp only [Bool.false_eq_true, if_false, Bool.and_eq_true, decide_eq_true_eq] at hx
  unfold itemsX
  rw [hm, hx.1.2]; simp
theorem items_len9 (l : List AL) (h : l.all argMay = true) : (itemsL l).length ≤ l.length * 1048576 := by
 induction l with
 | nil => simp [itemsL]
 |
  cons x l ih =>
  simp only [List.all_cons, Bool.and_eq_true] at h
  have h1 := itemsX_len9 h.1
  have h2 := ih h.2
  have e : itemsL (x :: l) = itemsX x ++ itemsL l := by simp [itemsL]
  rw [e, List.length_append, List.length_cons]; omega
theorem items_may9 (l : List AL) (h : l.all argMay = true) : ∀ v ∈ itemsL l, v.may = true := by
 intro v hv
 unfold itemsL at hv
 obtain ⟨L, hL, hvL⟩ := List.mem_flatten.1 hv
 obtain ⟨x, hx, rfl⟩ := List.mem_map.1 hL
 have hxm := List.all_eq_true.1 h x hx
 unfold itemsX at hvL
 rcases List.mem_append.1 hvL with h1 | h1
 ·cases hm : x.many with
  | true => rw [hm] at h1; simp at h1
  |
   false =>
   rw [hm] at h1
   simp only [Bool.false_eq_true, if_false, List.mem_singleton] at h1
   subst h1
   unfold argMay at hxm
   rw [hm] at hxm
   simp only [Bool.false_eq_true, if_false, Bool.and_eq_true] at hxm
   exact hxm.2
 ·obtain ⟨e, he, rfl⟩ := List.mem_map.1 h1
  cases hm : x.many with
  |
   true =>
   obtain ⟨-, -, m3⟩ := may_parts hm hxm
   obtain ⟨k, hk⟩ := List.getElem?_of_mem he
   exact (ent_parts m3 k e hk).2.1
  |
   false =>
   unfold argMay at hxm
   rw [hm] at hxm
   simp only [Bool.false_eq_true, if_false, Bool.and_eq_true, decide_eq_true_eq] at hxm
   rw [hxm.1.2] at he; cases he
def hasE (x : AL) (row col : Int) : Option EL := x.es.find? fun e => decide (e.r = x.t + row) && decide (e.c = x.l + col)
def hasW (x : AL) (row col : Int) : VL := match hasE x row col with | some e => e.v | none => v0
theorem has_look {x : AL} (h : entsOk x = true) (p : Int × Int) : hasW x p.1 p.2 = lookP (heldL x) p := by
 unfold hasW
 cases he : hasE x p.1 p.2 with
 |
  some e =>
  unfold hasE at he
  have h1 := List.find?_some he
  obtain ⟨k, hk⟩ := List.getElem?_of_mem (List.mem_of_find?_eq_some he)
  simp only [Bool.and_eq_true, decide_eq_true_eq] at h1
  have hp : placeL x e = p := by unfold placeL; apply Prod.ext <;> simp <;> omega
  rw [← hp, look_at h hk]
 |
  none =>
  unfold hasE at he
  rw [List.find?_eq_none] at he
  by_cases hz : lookP (heldL x) p = v0
  ·rw [hz]
  ·obtain ⟨k, e, hk, hp, -⟩ := look_inv hz
   have h2 := he e (List.mem_of_getElem? hk)
   simp only [Bool.and_eq_true, decide_eq_true_eq, not_and] at h2
   unfold placeL at hp
   rw [← hp] at h2
   simp only at h2
   omega
def cntW (x : AL) (v : VL) : Int := if v.t = 0 then rowsL x * colsL x - ((x.es.countP fun e => !decide (e.v.t = 0)) : Nat) else ((x.es.countP fun e => e.v.eqv v) : Nat)
theorem blank_v0 {v : VL} (h : v.may = true) (ht : v.t = 0) : v = v0 := by
 have h1 := blank_iff h
 rw [ht] at h1
 simp only [decide_true] at h1
 unfold VL.eqv at h1
 rw [beq_val] at h1
 obtain ⟨t, n, s, b, c⟩ := v
 obtain ⟨e1, e2, e3, e4, e5⟩ := h1
 simp only at e1 e2 e3 e4 e5
 unfold v0
 rw [e1, e2, e3, e4, e5]; rfl
theorem cnt_cif {x : AL} (h : entsOk x = true) {v : VL} (hv : v.may = true) : cifL x v = numL (cntW x v * 10000) := by
 unfold cifL cntW
 by_cases ht : v.t = 0
 ·have e := blank_v0 hv ht
  subst e
  rw [if_pos ht, if_pos ht]
  have h1 := cnt_split h
  rw [List.countP_map] at h1
  have h2 : (x.es.countP fun e => !decide (e.v.t = 0)) = x.es.countP ((fun v : VL => !decide (v.t = 0)) ∘ EL.v) := rfl
  rw [h2]
  congr 2
  omega
 ·rw [if_neg ht, if_neg ht, Int.zero_add]
theorem nth_line {x : AL} (hl : rowsL x = 1 ∨ colsL x = 1) {i : Int} (h0 : 0 ≤ i) (hi : i < rowsL x * colsL x) : nthL x i = if rowsL x = 1 then (0, i) else (i, 0) := by
 unfold nthL
 by_cases h1 : rowsL x = 1
 ·rw [if_pos h1]
  rw [h1, Int.one_mul] at hi
  rw [Int.ediv_eq_zero_of_lt h0 hi, Int.emod_eq_of_lt h0 hi]
 ·rw [if_neg h1]
  have h2 : colsL x = 1 := by rcases hl with h | h; exact absurd h h1; exact h
  rw [h2, Int.ediv_one, Int.emod_one]
def siL (a : AL) (v : VL) (b : AL) : List VL := (b.es.filter fun e => (lookP (heldL a) (placeL b e)).eqv v).map EL.v
def sumifR (a : AL) (v : VL) (b : AL) : VL := if rowsL a = rowsL b ∧ colsL a = colsL b then faultR (siL a v b) (fitL (numsL (siL a v b)).sum) else errL 8
theorem numsL_perm_sum (l : List Int) : (sortL l).sum = l.sum := by
 unfold sortL
 exact sum_perm (List.mergeSort_perm _ _)
def prodG : Int → List Int → VL
 | p, [] => numL p
 | p, x :: l => if mulC p x = 0 then prodG (mulV p x) l else errL (mulC p x)
end Go.Proofs.YtgmhifafbebjfaaGreatDoor
namespace Go.Proofs.YtgmhifafbebjfaaGreatDoor
open Go.RowKit

theorem find_snoc_at {α : Type} (l : List α) (k : Nat) (x : α) {p : α → Bool} (hx : l[k]? = some x) (h : ∀ y ∈ l.take k, p y = false) (hp : p x = true) : l.find? p = some x := by
 rw [List.find?_eq_some_iff_getElem]
 exact ⟨hp, k, (List.getElem?_eq_some_iff.1 hx).1, (List.getElem?_eq_some_iff.1 hx).2, fun j hj => by
  rw [h _ (List.mem_take_iff_getElem.2 ⟨j, by have := (List.getElem?_eq_some_iff.1 hx).1; omega, rfl⟩)]; rfl⟩
theorem r10has (x : AL) (row col : Int) (hm : mayRectB x.t x.l x.b x.r = true) (hrow : -1000000 ≤ row ∧ row ≤ 1000000) (hcol : -1000000 ≤ col ∧ col ≤ 1000000) (hlen : x.es.length ≤ 2932031007402) (w : World) (hin : x.In w w.heap.size) : Calls Tryz.prog 128 #[.agg #[.bool x.many, .int .i64 x.v.t, .int .i64 x.v.n, .string x.v.s, .bool x.v.b, .int .i64 x.v.c, .int .i64 x.t, .int .i64 x.l, .int .i64 x.b, .int .i64 x.r, .slice x.A x.es.length x.cap], .int .i64 row, .int .i64 col] w fun e w' => e = .returned (.agg #[.int .i64 ((hasW x row col)).t, .int .i64 ((hasW x row col)).n, .string ((hasW x row col)).s, .bool ((hasW x row col)).b, .int .i64 ((hasW x row col)).c]) ∧ Below w.heap.size w w' := by
 obtain ⟨V, hV0⟩ : ∃ V, hasW x row col = V := ⟨_, rfl⟩
 have hV := Lib.hid hV0
 rw [hV0]
 have hR' := Lib.hid hin.2.1
 obtain ⟨q1, q2, q3, q4, q5, q6⟩ := rect_in hm
 have e1 : IntKind.i64.wrap (x.t + row) = x.t + row := IntWalk.i64_in _ (by omega)
 have e2 : IntKind.i64.wrap (x.l + col) = x.l + col := IntWalk.i64_in _ (by omega)
 have b0 : Below w.heap.size w ((w.alloc (.cells #[.bool x.many, .int .i64 x.v.t, .int .i64 x.v.n, .string x.v.s, .bool x.v.b, .int .i64 x.v.c, .int .i64 x.t, .int .i64 x.l, .int .i64 x.b, .int .i64 x.r, .slice x.A x.es.length x.cap] 36)).alloc (.cells #[.int .i64 0, .int .i64 0, .string ⟨#[]⟩, .bool false, .int .i64 0] 26)) := belq
 clear hm hin hV0 q1 q2 q3 q4 q5 q6
 go_enter Tryz.func128, Tryz.ntmps128
 go_wp2
 go_loopw [7] (fun i wr => ∃ k : Nat, k ≤ x.es.length ∧ i = .int .i64 (k : Int) ∧ Hid (∀ y ∈ x.es.take k, (decide (y.r = x.t + row) && decide (y.c = x.l + col)) = false) ∧ Below (w.heap.size + 2) ((w.alloc (.cells #[.bool x.many, .int .i64 x.v.t, .int .i64 x.v.n, .string x.v.s, .bool x.v.b, .int .i64 x.v.c, .int .i64 x.t, .int .i64 x.l, .int .i64 x.b, .int .i64 x.r, .slice x.A x.es.length x.cap] 36)).alloc (.cells #[.int .i64 0, .int .i64 0, .string ⟨#[]⟩, .bool false, .int .i64 0] 26)) wr) (fun i _ => x.es.length - (intOf i).toNat)
 case atStart => exact ⟨0, Nat.zero_le _, rfl, Lib.hid (by simp), Below.refl _ _⟩
 case round =>
  obtain ⟨k, hk, rfl, hno, hbr⟩ := hrel
  have hzr := hbr.size
  simp only [World.size_alloc] at hzr
  have g1 : Below w.heap.size w wr := b0.trans (hbr.mono (by omega))
  have hv6 : wr.cell? ⟨w.heap.size, 6, none⟩ = some (.int .i64 x.t) := by rw [hbr.cell (by dsimp only; omega), World.cell?_alloc_lt _ _ _ (by simp)]; exact c_at rfl rfl
  have hv7 : wr.cell? ⟨w.heap.size, 7, none⟩ = some (.int .i64 x.l) := by rw [hbr.cell (by dsimp only; omega), World.cell?_alloc_lt _ _ _ (by simp)]; exact c_at rfl rfl
  have hv10 : wr.cell? ⟨w.heap.size, 10, none⟩ = some (.slice x.A x.es.length x.cap) := by rw [hbr.cell (by dsimp only; omega), World.cell?_alloc_lt _ _ _ (by simp)]; exact c_at rfl rfl
  obtain ⟨hr0, hr1, hr2, hr3, hr4, hs0, hs1, hs2, hs3, hs4⟩ := res5 hbr
  have hl0 : w.heap.size < wr.heap.size := by omega
  have hn0 : w.heap.size ≠ wr.heap.size := by omega
  have hl1 : w.heap.size + 1 < wr.heap.size := by omega
  have hn1 : w.heap.size + 1 ≠ wr.heap.size := by omega
  by_cases hlt : k < x.es.length
  ·obtain ⟨e, he⟩ : ∃ e, x.es[k]? = some e := ⟨_, List.getElem?_eq_getElem hlt⟩
   obtain ⟨ab, ao, hA2, hab, hcell⟩ := (hR'.out.below g1) k e.cs (by rw [List.getElem?_map, he]; rfl)
   have hx0 : wr.cell? ⟨ab, ao + k * 7, none⟩ = some (.int .i64 e.r) := hcell 0 _ rfl
   have hx1 : wr.cell? ⟨ab, ao + k * 7 + 1, none⟩ = some (.int .i64 e.c) := hcell 1 _ rfl
   have hx2 : wr.cell? ⟨ab, ao + k * 7 + 2, none⟩ = some (.int .i64 e.v.t) := hcell 2 _ rfl
   have hx3 : wr.cell? ⟨ab, ao + k * 7 + 3, none⟩ = some (.int .i64 e.v.n) := hcell 3 _ rfl
   have hx4 : wr.cell? ⟨ab, ao + k * 7 + 4, none⟩ = some (.string e.v.s) := hcell 4 _ rfl
   have hx5 : wr.cell? ⟨ab, ao + k * 7 + 5, none⟩ = some (.bool e.v.b) := hcell 5 _ rfl
   have hx6 : wr.cell? ⟨ab, ao + k * 7 + 6, none⟩ = some (.int .i64 e.v.c) := hcell 6 _ rfl
   have habr : ab < wr.heap.size := by omega
   have hkl : (k : Int) < (x.es.length : Int) := by omega
   have hk0 : (0 : Int) ≤ (k : Int) := by omega
   have hne : ab ≠ wr.heap.size := by omega
   have hne1 : ab ≠ w.heap.size + 1 := by omega
   have hwk : IntKind.i64.wrap ((k : Int) + 1) = (k : Int) + 1 := IntWalk.i64_in _ (by omega)
   have hts := Lib.hid (show x.es.take (k + 1) = x.es.take k ++ [e] by rw [List.take_add_one, he]; rfl)
   have he' := Lib.hid he
   rw [hA2] at hv10
   clear he hcell hA2
   by_cases h1 : e.r = x.t + row
   ·by_cases h2 : e.c = x.l + col
    ·have q0 : (e.r == x.t + row) = true := by simp [h1]
     have q1 : (e.c == x.l + col) = true := by simp [h2]
     have hVe := Lib.hid (show V = e.v from by
      rw [← hV.out]; unfold hasW hasE
      rw [find_snoc_at x.es k e he'.out hno.out (by simp [h1, h2])])
     go_wp2
     refine bodyPost_ret (v := .agg #[.int .i64 (e.v).t, .int .i64 (e.v).n, .string (e.v).s, .bool (e.v).b, .int .i64 (e.v).c]) ?_ rfl ⟨by rw [hVe.out], belq⟩
     simp [results, Tryz.results128, go_sem, *]
    ·have q0 : (e.r == x.t + row) = true := by simp [h1]
     have q1 : (e.c == x.l + col) = false := by simp; omega
     have hno2 : Hid (∀ y ∈ x.es.take (k + 1), (decide (y.r = x.t + row) && decide (y.c = x.l + col)) = false) := Lib.hid fun y hy => by
      rw [hts.out] at hy
      rcases List.mem_append.1 hy with h9 | h9
      ·exact hno.out y h9
      ·rw [List.mem_singleton] at h9; subst h9; simp [h1, h2]
     go_wp2
     go_roundw
     case rel => exact ⟨k + 1, by omega, by go_num, hno2, by (repeat (first | (with_reducible assumption) | (with_reducible refine Below.alloc ?_ (by first | omega | (dsimp only; omega) | (simp <;> omega)) _) | (with_reducible refine Below.drew ?_) | (with_reducible refine below_drewN ?_ _)))⟩
     case measure => simp [intOf]; omega
   ·have q0 : (e.r == x.t + row) = false := by simp; omega
    have hno2 : Hid (∀ y ∈ x.es.take (k + 1), (decide (y.r = x.t + row) && decide (y.c = x.l + col)) = false) := Lib.hid fun y hy => by
     rw [hts.out] at hy
     rcases List.mem_append.1 hy with h9 | h9
     ·exact hno.out y h9
     ·rw [List.mem_singleton] at h9; subst h9; simp [h1]
    go_wp2
    go_roundw
    case rel => exact ⟨k + 1, by omega, by go_num, hno2, by (repeat (first | (with_reducible assumption) | (with_reducible refine Below.alloc ?_ (by first | omega | (dsimp only; omega) | (simp <;> omega)) _) | (with_reducible refine Below.drew ?_) | (with_reducible refine below_drewN ?_ _)))⟩
    case measure => simp [intOf]; omega
  ·obtain rfl : k = x.es.length := by omega
   have hkl : ¬ (x.es.length : Int) < (x.es.length : Int) := by omega
   have hVe := Lib.hid (show V = v0 from by
    rw [← hV.out]; unfold hasW hasE
    rw [List.take_length] at hno
    rw [List.find?_eq_none.2 (fun y hy => by rw [hno.out y hy]; simp)])
   go_wp2
   refine bodyPost_ret (v := .agg #[.int .i64 0, .int .i64 0, .string ⟨#[]⟩, .bool false, .int .i64 0]) ?_ rfl ⟨by rw [hVe.out]; rfl, belq⟩
   simp [results, Tryz.results128, go_sem, *]
theorem r10counted (x : AL) (v : VL) (hm : mayRectB x.t x.l x.b x.r = true) (hlen : x.es.length ≤ 2932031007402) (w : World) (hin : x.In w w.heap.size) : Calls Tryz.prog 44 #[.agg #[.bool x.many, .int .i64 x.v.t, .int .i64 x.v.n, .string x.v.s, .bool x.v.b, .int .i64 x.v.c, .int .i64 x.t, .int .i64 x.l, .int .i64 x.b, .int .i64 x.r, .slice x.A x.es.length x.cap], .agg #[.int .i64 v.t, .int .i64 v.n, .string v.s, .bool v.b, .int .i64 v.c]] w fun e w' => e = .returned (.int .i64 (cntW x v)) ∧ Below w.heap.size w w' := by
 obtain ⟨r, hr⟩ : ∃ r, cntW x v = r := ⟨_, rfl⟩
 rw [hr]
 have hr' := Lib.hid hr
 have hR' := Lib.hid hin.2.1
 obtain ⟨q1, q2, q3, q4, q5, q6⟩ := rect_in hm
 obtain ⟨R, hRr⟩ : ∃ R, rowsL x = R := ⟨_, rfl⟩
 obtain ⟨C, hCc⟩ : ∃ C, colsL x = C := ⟨_, rfl⟩
 have hRb : 1 ≤ R ∧ R ≤ 1048576 := by unfold rowsL at hRr; omega
 have hCb : 1 ≤ C ∧ C ≤ 16384 := by unfold colsL at hCc; omega
 have CR : ∀ w, Hid (Calls Tryz.prog 49 #[.agg #[.bool x.many, .int .i64 x.v.t, .int .i64 x.v.n, .string x.v.s, .bool x.v.b, .int .i64 x.v.c, .int .i64 x.t, .int .i64 x.l, .int .i64 x.b, .int .i64 x.r, .slice x.A x.es.length x.cap]] w fun e w' => e = .returned (.int .i64 R) ∧ Below w.heap.size w w') := fun w => Lib.hid (by rw [← hRr]; exact r10rows x hm w)
 have CC : ∀ w, Hid (Calls Tryz.prog 50 #[.agg #[.bool x.many, .int .i64 x.v.t, .int .i64 x.v.n, .string x.v.s, .bool x.v.b, .int .i64 x.v.c, .int .i64 x.t, .int .i64 x.l, .int .i64 x.b, .int .i64 x.r, .slice x.A x.es.length x.cap]] w fun e w' => e = .returned (.int .i64 C) ∧ Below w.heap.size w w') := fun w => Lib.hid (by rw [← hCc]; exact r10cols x hm w)
 have hP1 : 1 ≤ R * C ∧ R * C ≤ 17179869184 := ⟨by have := Int.mul_le_mul hRb.1 hCb.1 (by omega) (by omega); simpa using this, by have := Int.mul_le_mul hRb.2 hCb.2 (by omega) (by omega); simpa using this⟩
 obtain ⟨n0, hn0⟩ : ∃ n0, R * C = n0 := ⟨_, rfl⟩
 have hw1 : IntKind.i64.wrap (R * C) = n0 := by rw [hn0]; exact IntWalk.i64_in _ (by omega)
 rw [hn0] at hP1
 have hrn := Lib.hid (show r = if v.t = 0 then n0 - ((x.es.countP fun e => !decide (e.v.t = 0)) : Nat) else ((x.es.countP fun e => e.v.eqv v) : Nat) by rw [← hr'.out]; unfold cntW; rw [hRr, hCc, hn0])
 clear hRr hCc hm hr hr' hin q1 q2 q3 q4 q5 q6 hn0
 go_enter Tryz.func44, Tryz.ntmps44
 go_wp2_with fail
 go_region_held3 (fun w' => w'.cell? ⟨w.heap.size, 0, none⟩ = some (.bool x.many) ∧ w'.cell? ⟨w.heap.size, 1, none⟩ = some (.int .i64 x.v.t) ∧ w'.cell? ⟨w.heap.size, 2, none⟩ = some (.int .i64 x.v.n) ∧ w'.cell? ⟨w.heap.size, 3, none⟩ = some (.string x.v.s) ∧ w'.cell? ⟨w.heap.size, 4, none⟩ = some (.bool x.v.b) ∧ w'.cell? ⟨w.heap.size, 5, none⟩ = some (.int .i64 x.v.c) ∧ w'.cell? ⟨w.heap.size, 6, none⟩ = some (.int .i64 x.t) ∧ w'.cell? ⟨w.heap.size, 7, none⟩ = some (.int .i64 x.l) ∧ w'.cell? ⟨w.heap.size, 8, none⟩ = some (.int .i64 x.b) ∧ w'.cell? ⟨w.heap.size, 9, none⟩ = some (.int .i64 x.r) ∧ w'.cell? ⟨w.heap.size, 10, none⟩ = some (.slice x.A x.es.length x.cap) ∧ Below (w.heap.size + 2) ((w.alloc (.cells #[.bool x.many, .int .i64 x.v.t, .int .i64 x.v.n, .string x.v.s, .bool x.v.b, .int .i64 x.v.c, .int .i64 x.t, .int .i64 x.l, .int .i64 x.b, .int .i64 x.r, .slice x.A x.es.length x.cap] 36)).alloc (.cells #[.int .i64 v.t, .int .i64 v.n, .string v.s, .bool v.b, .int .i64 v.c] 26)) w' ∧ Below w.heap.size w w' ∧ w.heap.size + 2 ≤ w'.heap.size)
  (first | ((go_split_ands; refine ⟨?_, ?_, ?_, ?_, ?_, ?_, ?_, ?_, ?_, ?_, ?_, ?_, ?_, ?_⟩ <;> first | (rw [hb.cell (by dsimp only; omega)]; assumption) | exact Below.trans (by assumption) (hb.mono (by omega)) | (have := hb.size; omega))) | ((refine ⟨?_, ?_, ?_, ?_, ?_, ?_, ?_, ?_, ?_, ?_, ?_, ?_, ?_, ?_⟩ <;> first | (simp [go_sem, *]; done) | exact belq | (simp; omega))))
  (first | (go_at_call 49; refine ((CR _).out).mono ?_; rintro e w1 ⟨rfl, hb⟩) | (go_at_call 50; refine ((CC _).out).mono ?_; rintro e w1 ⟨rfl, hb⟩))
 go_split_ands
 have hW : Hid (Below (w.heap.size + 2) ((w.alloc (.cells #[.bool x.many, .int .i64 x.v.t, .int .i64 x.v.n, .string x.v.s, .bool x.v.b, .int .i64 x.v.c, .int .i64 x.t, .int .i64 x.l, .int .i64 x.b, .int .i64 x.r, .slice x.A x.es.length x.cap] 36)).alloc (.cells #[.int .i64 v.t, .int .i64 v.n, .string v.s, .bool v.b, .int .i64 v.c] 26)) w1) := Lib.hid (by assumption)
 have hB : Hid (Below w.heap.size w w1) := Lib.hid (by assumption)
 have hz1 : w.heap.size + 2 ≤ w1.heap.size := by assumption
 clear CR CC
 go_wp2
 go_loopw [5, 6, 7] (fun n b i wr => ∃ k : Nat, k ≤ x.es.length ∧ i = .int .i64 (k : Int) ∧ n = .int .i64 (((x.es.take k).countP fun e => e.v.eqv v) : Nat) ∧ b = .int .i64 (n0 - (((x.es.take k).countP fun e => !decide (e.v.t = 0)) : Nat)) ∧ Below w1.heap.size w1 wr) (fun _ _ i _ => x.es.length - (intOf i).toNat)
 case atStart => exact ⟨0, Nat.zero_le _, rfl, by simp, by simp, Below.refl _ _⟩
 case round =>
  obtain ⟨k, hk, rfl, rfl, rfl, hbr⟩ := hrel
  have hzr := hbr.size
  have g1 : Below w.heap.size w wr := hB.out.trans (hbr.mono (by omega))
  have hv10 : wr.cell? ⟨w.heap.size, 10, none⟩ = some (.slice x.A x.es.length x.cap) := by rw [hbr.cell (by dsimp only; omega), hW.out.cell (by dsimp only; omega), World.cell?_alloc_lt _ _ _ (by simp)]; exact c_at rfl rfl
  have hu0 : wr.cell? ⟨w.heap.size + 1, 0, none⟩ = some (.int .i64 v.t) := by rw [hbr.cell (by dsimp only; omega), hW.out.cell (by dsimp only; omega)]; exact c_at (by simp) rfl
  have hu1 : wr.cell? ⟨w.heap.size + 1, 1, none⟩ = some (.int .i64 v.n) := by rw [hbr.cell (by dsimp only; omega), hW.out.cell (by dsimp only; omega)]; exact c_at (by simp) rfl
  have hu2 : wr.cell? ⟨w.heap.size + 1, 2, none⟩ = some (.string v.s) := by rw [hbr.cell (by dsimp only; omega), hW.out.cell (by dsimp only; omega)]; exact c_at (by simp) rfl
  have hu3 : wr.cell? ⟨w.heap.size + 1, 3, none⟩ = some (.bool v.b) := by rw [hbr.cell (by dsimp only; omega), hW.out.cell (by dsimp only; omega)]; exact c_at (by simp) rfl
  have hu4 : wr.cell? ⟨w.heap.size + 1, 4, none⟩ = some (.int .i64 v.c) := by rw [hbr.cell (by dsimp only; omega), hW.out.cell (by dsimp only; omega)]; exact c_at (by simp) rfl
  have hl1 : w.heap.size + 1 < wr.heap.size := by omega
  have hn1 : w.heap.size + 1 ≠ wr.heap.size := by omega
  have hl9 : w.heap.size < wr.heap.size := by omega
  have hn9 : w.heap.size ≠ wr.heap.size := by omega
  have hlw : w1.heap.size ≤ wr.heap.size := hzr
  by_cases hlt : k < x.es.length
  ·obtain ⟨e, he⟩ : ∃ e, x.es[k]? = some e := ⟨_, List.getElem?_eq_getElem hlt⟩
   obtain ⟨ab, ao, hA2, hab, hcell⟩ := (hR'.out.below g1) k e.cs (by rw [List.getElem?_map, he]; rfl)
   have hx0 : wr.cell? ⟨ab, ao + k * 7, none⟩ = some (.int .i64 e.r) := hcell 0 _ rfl
   have hx1 : wr.cell? ⟨ab, ao + k * 7 + 1, none⟩ = some (.int .i64 e.c) := hcell 1 _ rfl
   have hx2 : wr.cell? ⟨ab, ao + k * 7 + 2, none⟩ = some (.int .i64 e.v.t) := hcell 2 _ rfl
   have hx3 : wr.cell? ⟨ab, ao + k * 7 + 3, none⟩ = some (.int .i64 e.v.n) := hcell 3 _ rfl
   have hx4 : wr.cell? ⟨ab, ao + k * 7 + 4, none⟩ = some (.string e.v.s) := hcell 4 _ rfl
   have hx5 : wr.cell? ⟨ab, ao + k * 7 + 5, none⟩ = some (.bool e.v.b) := hcell 5 _ rfl
   have hx6 : wr.cell? ⟨ab, ao + k * 7 + 6, none⟩ = some (.int .i64 e.v.c) := hcell 6 _ rfl
   have habr : ab < wr.heap.size := by omega
   have hkl : (k : Int) < (x.es.length : Int) := by omega
   have hk0 : (0 : Int) ≤ (k : Int) := by omega
   have hne : ab ≠ wr.heap.size := by omega
   have hwk : IntKind.i64.wrap ((k : Int) + 1) = (k : Int) + 1 := IntWalk.i64_in _ (by omega)
   have hts : x.es.take (k + 1) = x.es.take k ++ [e] := by rw [List.take_add_one, he]; rfl
   obtain ⟨z, hz⟩ : ∃ z, e.v.eqv v = z := ⟨_, rfl⟩
   have hcnt : Hid ((((x.es.take (k + 1)).countP fun e => e.v.eqv v) : Nat) = ((x.es.take k).countP fun e => e.v.eqv v) + (if z = true then 1 else 0)) := Lib.hid (by
    rw [hts, List.countP_append, List.countP_singleton, hz])
   have hcn2 : Hid ((((x.es.take (k + 1)).countP fun e => !decide (e.v.t = 0)) : Nat) = ((x.es.take k).countP fun e => !decide (e.v.t = 0)) + (if e.v.t = 0 then 0 else 1)) := Lib.hid (by
    rw [hts, List.countP_append, List.countP_singleton]
    by_cases h9 : e.v.t = 0 <;> simp [h9])
   have hc0 : ((x.es.take k).countP fun e => e.v.eqv v) ≤ k := Nat.le_trans List.countP_le_length (by rw [List.length_take]; omega)
   have hc1 : ((x.es.take k).countP fun e => !decide (e.v.t = 0)) ≤ k := Nat.le_trans List.countP_le_length (by rw [List.length_take]; omega)
   generalize ((x.es.take k).countP fun e => e.v.eqv v) = q at *
   generalize ((x.es.take k).countP fun e => !decide (e.v.t = 0)) = q' at *
   have hwq : IntKind.i64.wrap ((q : Int) + 1) = (q : Int) + 1 := IntWalk.i64_in _ (by omega)
   have hwb : IntKind.i64.wrap (n0 - (q' : Int) - 1) = n0 - (q' : Int) - 1 := IntWalk.i64_in _ (by omega)
   unfold VL.eqv at hz
   rw [hA2] at hv10
   clear he hcell hts g1 hA2
   by_cases ht : e.v.t = 0
   ·rw [if_pos ht] at hcn2
    cases z
    ·have q0 : (e.v.t != 0) = false := by simp [ht]
     clear ht
     go_wp2_with fail
     refine (rvsame_any e.v.t e.v.n e.v.s e.v.b e.v.c v.t v.n v.s v.b v.c _).mono ?_
     rintro e9 w3 ⟨rfl, hb3⟩
     have hz3 := hb3.size
     simp only [World.size_alloc] at hz3
     have g3 := Lib.hid ((hbr.alloc hlw (.cells #[.int .i64 e.v.t, .int .i64 e.v.n, .string e.v.s, .bool e.v.b, .int .i64 e.v.c] 26)).trans (hb3.mono (by simp; omega)))
     rw [hz]
     go_wp2
     go_roundw
     case rel => exact ⟨k + 1, by omega, by go_num, by rw [hcnt.out]; simp, by rw [hcn2.out]; simp, g3.out⟩
     case measure => simp [intOf]; omega
    ·have q0 : (e.v.t != 0) = false := by simp [ht]
     clear ht
     go_wp2_with fail
     refine (rvsame_any e.v.t e.v.n e.v.s e.v.b e.v.c v.t v.n v.s v.b v.c _).mono ?_
     rintro e9 w3 ⟨rfl, hb3⟩
     have hz3 := hb3.size
     simp only [World.size_alloc] at hz3
     have g3 := Lib.hid ((hbr.alloc hlw (.cells #[.int .i64 e.v.t, .int .i64 e.v.n, .string e.v.s, .bool e.v.b, .int .i64 e.v.c] 26)).trans (hb3.mono (by simp; omega)))
     rw [hz]
     go_wp2
     go_roundw
     case rel => exact ⟨k + 1, by omega, by go_num, by rw [hcnt.out]; simp, by rw [hcn2.out]; simp, g3.out⟩
     case measure => simp [intOf]; omega
   ·rw [if_neg ht] at hcn2
    cases z
    ·have q0 : (e.v.t != 0) = true := by simp [ht]
     clear ht
     go_wp2_with fail
     refine (rvsame_any e.v.t e.v.n e.v.s e.v.b e.v.c v.t v.n v.s v.b v.c _).mono ?_
     rintro e9 w3 ⟨rfl, hb3⟩
     have hz3 := hb3.size
     simp only [World.size_alloc] at hz3
     have g3 := Lib.hid ((hbr.alloc hlw (.cells #[.int .i64 e.v.t, .int .i64 e.v.n, .string e.v.s, .bool e.v.b, .int .i64 e.v.c] 26)).trans (hb3.mono (by simp; omega)))
     rw [hz]
     go_wp2
     go_roundw
     case rel => exact ⟨k + 1, by omega, by go_num, by rw [hcnt.out]; simp, by rw [hcn2.out]; simp; omega, g3.out⟩
     case measure => simp [intOf]; omega
    ·have q0 : (e.v.t != 0) = true := by simp [ht]
     clear ht
     go_wp2_with fail
     refine (rvsame_any e.v.t e.v.n e.v.s e.v.b e.v.c v.t v.n v.s v.b v.c _).mono ?_
     rintro e9 w3 ⟨rfl, hb3⟩
     have hz3 := hb3.size
     simp only [World.size_alloc] at hz3
     have g3 := Lib.hid ((hbr.alloc hlw (.cells #[.int .i64 e.v.t, .int .i64 e.v.n, .string e.v.s, .bool e.v.b, .int .i64 e.v.c] 26)).trans (hb3.mono (by simp; omega)))
     rw [hz]
     go_wp2
     go_roundw
     case rel => exact ⟨k + 1, by omega, by go_num, by rw [hcnt.out]; simp, by rw [hcn2.out]; simp; omega, g3.out⟩
     case measure => simp [intOf]; omega
  ·obtain rfl : k = x.es.length := by omega
   have hkl : ¬ (x.es.length : Int) < (x.es.length : Int) := by omega
   rw [List.take_length]
   by_cases ht : v.t = 0
   ·have q0 : (v.t == 0) = true := by simp [ht]
    have hre := Lib.hid (show r = n0 - ((x.es.countP fun e => !decide (e.v.t = 0)) : Nat) by rw [hrn.out, if_pos ht])
    clear ht
    go_wp2
    refine bodyPost_ret (v := .int .i64 (n0 - ((x.es.countP fun e => !decide (e.v.t = 0)) : Nat))) ?_ rfl ⟨by rw [hre.out], belq⟩
    simp [results, Tryz.results44, go_sem, *]
   ·have q0 : (v.t == 0) = false := by simp [ht]
    have hre := Lib.hid (show r = ((x.es.countP fun e => e.v.eqv v) : Nat) by rw [hrn.out, if_neg ht])
    clear ht
    go_wp2
    refine bodyPost_ret (v := .int .i64 ((x.es.countP fun e => e.v.eqv v) : Nat)) ?_ rfl ⟨by rw [hre.out], belq⟩
    simp [results, Tryz.results44, go_sem, *]
end Go.Proofs.YtgmhifafbebjfaaGreatDoor
