/-
 aggs: plain laws of the mean, the median, the least, the greatest of some numbers; plain laws of sums by two parts, of means, of joined texts; aggs: the mean; texts: Call, what its parts answer; aggs: JOIN: what it answers.
-/
import Derived.Test.YtgmhifafbebjfaaGreatDoorALar
import Derived.Lib.Slices
import Derived.Lib.Join
import Derived.Laws.Entries
set_option maxRecDepth 100000
set_option maxHeartbeats 32000000
namespace Go.Proofs.YtgmhifafbebjfaaGreatDoor

def meanU (s n : Int) : Int := s / n + if n - s % n ≤ s % n then 1 else 0
def meanL (l : List Int) : Int := if l.sum < 0 then - meanU (-l.sum) l.length else meanU l.sum l.length
theorem meanU_le {s n b : Int} (hn : 0 < n) (h : s ≤ n * b) : meanU s n ≤ b := by
 have h1 := Int.mul_ediv_add_emod s n
 have h2 := Int.emod_nonneg s (Int.ne_of_gt hn)
 have h3 := Int.emod_lt_of_pos s hn
 unfold meanU
 generalize s / n = q at *
 generalize s % n = r at *
 split
 ·have : n * q < n * b := by omega
  have := Int.lt_of_mul_lt_mul_left this (by omega)
  omega
 ·have : n * q ≤ n * b := by omega
  have := Int.le_of_mul_le_mul_left this hn
  omega
theorem le_meanU {s n a : Int} (hn : 0 < n) (h : n * a ≤ s) : a ≤ meanU s n := by
 have h1 := Int.mul_ediv_add_emod s n
 have h3 := Int.emod_lt_of_pos s hn
 unfold meanU
 generalize s / n = q at *
 generalize s % n = r at *
 have : n * a < n * (q + 1) := by rw [Int.mul_add]; omega
 have := Int.lt_of_mul_lt_mul_left this (by omega)
 split <;> omega
theorem sum_le {l : List Int} {b : Int} (h : ∀ x ∈ l, x ≤ b) : l.sum ≤ (l.length : Int) * b := by
 induction l with
 | nil => simp
 |
  cons x l ih =>
  have := ih (fun y hy => h y (by simp [hy]))
  have := h x (by simp)
  simp only [List.sum_cons, List.length_cons]
  push_cast
  rw [Int.add_mul]; omega
theorem le_sum {l : List Int} {a : Int} (h : ∀ x ∈ l, a ≤ x) : (l.length : Int) * a ≤ l.sum := by
 induction l with
 | nil => simp
 |
  cons x l ih =>
  have := ih (fun y hy => h y (by simp [hy]))
  have := h x (by simp)
  simp only [List.sum_cons, List.length_cons]
  push_cast
  rw [Int.add_mul]; omega
theorem meanL_le {l : List Int} (h0 : l ≠ []) {b : Int} (h : ∀ x ∈ l, x ≤ b) : meanL l ≤ b := by
 have hn : 0 < (l.length : Int) := by have := List.length_pos_iff.2 h0; omega
 have hs := sum_le h
 unfold meanL
 split
 ·have := le_meanU (s := -l.sum) (a := -b) hn (by rw [Int.mul_neg]; omega)
  omega
 ·exact meanU_le hn hs
theorem le_meanL {l : List Int} (h0 : l ≠ []) {a : Int} (h : ∀ x ∈ l, a ≤ x) : a ≤ meanL l := by
 have hn : 0 < (l.length : Int) := by have := List.length_pos_iff.2 h0; omega
 have hs := le_sum h
 unfold meanL
 split
 ·have := meanU_le (s := -l.sum) (b := -a) hn (by rw [Int.mul_neg]; omega)
  omega
 ·exact le_meanU hn hs
def sortL (l : List Int) : List Int := l.mergeSort fun x y => decide (x ≤ y)
theorem sortL_len (l : List Int) : (sortL l).length = l.length := List.length_mergeSort _
theorem sortL_mem {l : List Int} {x : Int} : x ∈ sortL l ↔ x ∈ l := (List.mergeSort_perm _ _).mem_iff
theorem sortL_sorted (l : List Int) : (sortL l).Pairwise (fun x y => x ≤ y) := by
 have := List.pairwise_mergeSort (le := fun x y : Int => decide (x ≤ y)) (fun a b c h1 h2 => by simp at *; omega) (fun a b => by simp; omega) l
 exact this.imp (fun h => by simpa using h)
theorem sortL_le {l : List Int} {i j : Nat} (hij : i ≤ j) (hj : j < (sortL l).length) : (sortL l)[i]'(by omega) ≤ (sortL l)[j] := by
 rcases Nat.lt_or_ge i j with h | h
 ·exact List.pairwise_iff_getElem.1 (sortL_sorted l) i j (by omega) hj h
 ·obtain rfl : i = j := by omega
  exact Int.le_refl _
def medianL (l : List Int) : Int :=
 if l.length % 2 = 1 then (sortL l).getD (l.length / 2) 0 else meanL [(sortL l).getD (l.length / 2 - 1) 0, (sortL l).getD (l.length / 2) 0]
theorem sortL_getD_mem {l : List Int} {i : Nat} (h : i < l.length) : (sortL l).getD i 0 ∈ l := by
 rw [List.getD_eq_getElem?_getD, List.getElem?_eq_getElem (by rw [sortL_len]; exact h)]
 exact sortL_mem.1 (List.getElem_mem _)
theorem medianL_le {l : List Int} (h0 : l ≠ []) {b : Int} (h : ∀ x ∈ l, x ≤ b) : medianL l ≤ b := by
 have hn : 0 < l.length := List.length_pos_iff.2 h0
 unfold medianL
 split
 ·exact h _ (sortL_getD_mem (by omega))
 ·refine meanL_le (by simp) (fun x hx => ?_)
  simp at hx
  rcases hx with rfl | rfl <;> exact h _ (sortL_getD_mem (by omega))
theorem le_medianL {l : List Int} (h0 : l ≠ []) {a : Int} (h : ∀ x ∈ l, a ≤ x) : a ≤ medianL l := by
 have hn : 0 < l.length := List.length_pos_iff.2 h0
 unfold medianL
 split
 ·exact h _ (sortL_getD_mem (by omega))
 ·refine le_meanL (by simp) (fun x hx => ?_)
  simp at hx
  rcases hx with rfl | rfl <;> exact h _ (sortL_getD_mem (by omega))
theorem sum_perm {l l' : List Int} (h : l.Perm l') : l.sum = l'.sum := by
 induction h with
 | nil => rfl
 | cons x _ ih => simp [ih]
 | swap x y l => simp only [List.sum_cons]; omega
 | trans _ _ h1 h2 => exact h1.trans h2
theorem sortL_perm {l l' : List Int} (h : l.Perm l') : sortL l = sortL l' :=
 List.Perm.eq_of_pairwise (fun _ _ _ _ h1 h2 => Int.le_antisymm h1 h2) (sortL_sorted l) (sortL_sorted l') (((List.mergeSort_perm l _).trans h).trans (List.mergeSort_perm l' _).symm)
theorem meanL_perm {l l' : List Int} (h : l.Perm l') : meanL l = meanL l' := by
 unfold meanL
 rw [sum_perm h, h.length_eq]
theorem foldl_min (l : List Int) : ∀ a, (l.foldl min a = a ∨ l.foldl min a ∈ l) ∧ l.foldl min a ≤ a ∧ ∀ x ∈ l, l.foldl min a ≤ x := by
 induction l with
 | nil => intro a; simp
 |
  cons y l ih =>
  intro a
  obtain ⟨h1, h2, h3⟩ := ih (min a y)
  simp only [List.foldl_cons]
  refine ⟨?_, by omega, ?_⟩
  ·rcases h1 with h1 | h1
   ·rw [h1]
    rcases Int.le_total a y with h | h
    ·left; omega
    ·right; rw [show min a y = y by omega]; simp
   ·right; simp [h1]
  ·intro x hx
   rcases List.mem_cons.1 hx with rfl | hx
   ·omega
   ·exact h3 x hx
theorem foldl_max (l : List Int) : ∀ a, (l.foldl max a = a ∨ l.foldl max a ∈ l) ∧ a ≤ l.foldl max a ∧ ∀ x ∈ l, x ≤ l.foldl max a := by
 induction l with
 | nil => intro a; simp
 |
  cons y l ih =>
  intro a
  obtain ⟨h1, h2, h3⟩ := ih (max a y)
  simp only [List.foldl_cons]
  refine ⟨?_, by omega, ?_⟩
  ·rcases h1 with h1 | h1
   ·rw [h1]
    rcases Int.le_total y a with h | h
    ·left; omega
    ·right; rw [show max a y = y by omega]; simp
   ·right; simp [h1]
  ·intro x hx
   rcases List.mem_cons.1 hx with rfl | hx
   ·omega
   ·exact h3 x hx
theorem minOf_is {l : List Int} (h : l ≠ []) : Lib.minOf l ∈ l ∧ ∀ x ∈ l, Lib.minOf l ≤ x := by
 cases l with
 | nil => exact absurd rfl h
 |
  cons y l =>
  obtain ⟨h1, h2, h3⟩ := foldl_min l (min y y)
  unfold Lib.minOf
  simp only [List.headD_cons, List.foldl_cons]
  have e : min y y = y := by omega
  rw [e] at h1 h2 h3 ⊢
  refine ⟨?_, ?_⟩
  ·rcases h1 with h1 | h1
   ·rw [h1]; simp
   ·simp [h1]
  ·intro x hx
   rcases List.mem_cons.1 hx with rfl | hx
   ·exact h2
   ·exact h3 x hx
theorem maxOf_is {l : List Int} (h : l ≠ []) : Lib.maxOf l ∈ l ∧ ∀ x ∈ l, x ≤ Lib.maxOf l := by
 cases l with
 | nil => exact absurd rfl h
 |
  cons y l =>
  obtain ⟨h1, h2, h3⟩ := foldl_max l (max y y)
  unfold Lib.maxOf
  simp only [List.headD_cons, List.foldl_cons]
  have e : max y y = y := by omega
  rw [e] at h1 h2 h3 ⊢
  refine ⟨?_, ?_⟩
  ·rcases h1 with h1 | h1
   ·rw [h1]; simp
   ·simp [h1]
  ·intro x hx
   rcases List.mem_cons.1 hx with rfl | hx
   ·exact h2
   ·exact h3 x hx
theorem sortL_first {l : List Int} (h : l ≠ []) : (sortL l).getD 0 0 = Lib.minOf l := by
 have hn : 0 < l.length := List.length_pos_iff.2 h
 obtain ⟨a1, a2⟩ := minOf_is h
 have h1 := a2 _ (sortL_getD_mem (l := l) (i := 0) hn)
 obtain ⟨i, hi, e⟩ := List.mem_iff_getElem.1 (sortL_mem.2 a1)
 have h2 := sortL_le (l := l) (i := 0) (j := i) (Nat.zero_le _) hi
 rw [List.getD_eq_getElem?_getD, List.getElem?_eq_getElem (by rw [sortL_len]; exact hn)] at h1 ⊢
 simp only [Option.getD_some] at h1 ⊢
 omega
theorem sortL_last {l : List Int} (h : l ≠ []) : (sortL l).getD (l.length - 1) 0 = Lib.maxOf l := by
 have hn : 0 < l.length := List.length_pos_iff.2 h
 obtain ⟨a1, a2⟩ := maxOf_is h
 have h1 := a2 _ (sortL_getD_mem (l := l) (i := l.length - 1) (by omega))
 obtain ⟨i, hi, e⟩ := List.mem_iff_getElem.1 (sortL_mem.2 a1)
 have h2 := sortL_le (l := l) (i := i) (j := l.length - 1) (by rw [sortL_len] at hi; omega) (by rw [sortL_len]; omega)
 rw [List.getD_eq_getElem?_getD, List.getElem?_eq_getElem (by rw [sortL_len]; omega)] at h1 ⊢
 simp only [Option.getD_some] at h1 ⊢
 omega
end Go.Proofs.YtgmhifafbebjfaaGreatDoor
namespace Go.Proofs.YtgmhifafbebjfaaGreatDoor
def hiS (l : List Int) : Int := (l.map fun x => x / 4294967296).sum
def loS (l : List Int) : Int := (l.map fun x => x % 4294967296).sum
theorem hiS_snoc (l : List Int) (x : Int) : hiS (l ++ [x]) = hiS l + x / 4294967296 := by simp [hiS]
theorem loS_snoc (l : List Int) (x : Int) : loS (l ++ [x]) = loS l + x % 4294967296 := by simp [loS]
theorem hl_sum (l : List Int) : hiS l * 4294967296 + loS l = l.sum := by
 induction l with
 | nil => rfl
 |
  cons x l ih =>
  have e1 : hiS (x :: l) = x / 4294967296 + hiS l := by simp [hiS]
  have e2 : loS (x :: l) = x % 4294967296 + loS l := by simp [loS]
  have e3 : (x :: l).sum = x + l.sum := by simp
  rw [e1, e2, e3]; omega
theorem hiS_in (l : List Int) (hl : ∀ x ∈ l, -9223372036854775808 ≤ x ∧ x ≤ 9223372036854775807) : -((l.length : Int) * 2147483648) ≤ hiS l ∧ hiS l ≤ (l.length : Int) * 2147483648 := by
 induction l with
 | nil => simp [hiS]
 |
  cons x l ih =>
  have e1 : hiS (x :: l) = x / 4294967296 + hiS l := by simp [hiS]
  have h1 := ih fun y hy => hl y (by simp [hy])
  have h2 := hl x (by simp)
  rw [e1, List.length_cons]; omega
theorem exact_hi (l : List Int) : hiS l + loS l / 4294967296 = l.sum / 4294967296 := by
 have := hl_sum l; omega
theorem exact_lo (l : List Int) : loS l % 4294967296 = l.sum % 4294967296 := by
 have := hl_sum l; omega
theorem mean_two (U n : Int) (hn : 0 < n) : (U / 4294967296 / n) * 4294967296 + ((U / 4294967296 % n) * 4294967296 + U % 4294967296) / n = U / n ∧ ((U / 4294967296 % n) * 4294967296 + U % 4294967296) % n = U % n := by
 have h1 := Int.mul_ediv_add_emod U 4294967296
 have h2 := Int.mul_ediv_add_emod (U / 4294967296) n
 generalize U / 4294967296 = H at *
 generalize U % 4294967296 = L at *
 generalize H / n = a at *
 generalize H % n = b at *
 have e : U = (b * 4294967296 + L) + n * (a * 4294967296) := by
  rw [← h1, ← h2, Int.mul_add, ← Int.mul_assoc, Int.mul_comm 4294967296 n, Int.mul_assoc n 4294967296 a, Int.mul_comm 4294967296 a, Int.mul_comm 4294967296 b]; omega
 constructor
 ·rw [e, Int.add_mul_ediv_left _ _ (Int.ne_of_gt hn)]; omega
 ·rw [e, Int.add_mul_emod_self_left]
def jnB (by_ : ByteArray) (T : List ByteArray) : ByteArray := ⟨(Lib.join (T.map fun s => s.data.toList) by_.data.toList).toArray⟩
theorem jnB_nil (s : ByteArray) : jnB s [] = ⟨#[]⟩ := rfl
theorem jnB_one (s x : ByteArray) : jnB s [x] = x := by simp [jnB, Lib.join_one]
theorem jnB_snoc (s : ByteArray) (T : List ByteArray) (x : ByteArray) (h : T ≠ []) : jnB s (T ++ [x]) = jnB s T ++ s ++ x := by
 cases T with
 | nil => exact absurd rfl h
 |
  cons y r =>
  apply ByteArray.ext
  simp only [jnB, List.cons_append, List.map_cons, List.map_append, List.map_nil, Lib.join_cons, ByteArray.data_append]
  simp [Lib.joinTail]
theorem jnB_size (s : ByteArray) (T : List ByteArray) (x : ByteArray) : ((jnB s (T ++ [x])).size : Int) = (if T = [] then -(s.size : Int) else ((jnB s T).size : Int)) + (s.size + x.size) := by
 by_cases h : T = []
 ·subst h; rw [if_pos rfl, List.nil_append, jnB_one]; omega
 ·rw [if_neg h, jnB_snoc s T x h]; simp; omega
theorem i64_and32 (x : Int) (_hx : -9223372036854775808 ≤ x ∧ x ≤ 9223372036854775807) : bits .and .i64 x 4294967295 = x % 4294967296 := by
 have h1 : bits .and .i64 x 4294967295 = IntKind.i64.wrap ((BitVec.ofInt 64 x &&& BitVec.ofInt 64 4294967295).toNat : Int) := rfl
 have h2 : (BitVec.ofInt 64 x &&& BitVec.ofInt 64 4294967295).toNat = (x % 18446744073709551616).toNat % 4294967296 := by
  rw [BitVec.toNat_and, BitVec.toNat_ofInt, show (BitVec.ofInt 64 4294967295).toNat = 2 ^ 32 - 1 by decide, Nat.and_two_pow_sub_one_eq_mod]
  rfl
 rw [h1, h2]
 have h3 : (((x % 18446744073709551616).toNat % 4294967296 : Nat) : Int) = x % 4294967296 := by omega
 rw [h3]
 exact IntWalk.i64_in _ (by omega)
theorem i64_or32 (h l : Int) (hh : -2147483648 ≤ h ∧ h ≤ 2147483647) (hl : 0 ≤ l ∧ l ≤ 4294967295) : bits .or .i64 (h * 4294967296) l = h * 4294967296 + l := by
 have h1 : bits .or .i64 (h * 4294967296) l = IntKind.i64.wrap ((BitVec.ofInt 64 (h * 4294967296) ||| BitVec.ofInt 64 l).toNat : Int) := rfl
 obtain ⟨m, hm⟩ : ∃ m : Nat, ((h * 4294967296) % 18446744073709551616).toNat = 2 ^ 32 * m := ⟨(h % 4294967296).toNat, by omega⟩
 have h2 : (BitVec.ofInt 64 (h * 4294967296) ||| BitVec.ofInt 64 l).toNat = ((h * 4294967296) % 18446744073709551616).toNat + l.toNat := by
  rw [BitVec.toNat_or, BitVec.toNat_ofInt, BitVec.toNat_ofInt, show ((h * 4294967296) % (2 ^ 64 : Nat) : Int).toNat = 2 ^ 32 * m from hm, hm, show (l % (2 ^ 64 : Nat) : Int).toNat = l.toNat by omega]
  exact (Nat.two_pow_add_eq_or_of_lt (by omega) m).symm
 rw [h1, h2]
 rw [show (((h * 4294967296 % 18446744073709551616).toNat + l.toNat : Nat) : Int) = (h * 4294967296 % 18446744073709551616) + l by omega]
 rw [IntWalk.i64_left]
 unfold RowKit.wrap64
 omega
end Go.Proofs.YtgmhifafbebjfaaGreatDoor
namespace Go.Proofs.YtgmhifafbebjfaaGreatDoor
open Go.RowKit

def sub64Entry : Array Value → Sem Value := fun args => do
 let (x, y, b) ← Extern.MathBitsCarry.three "Sub64" args
 pure (Extern.MathBitsCarry.pair ((x + Extern.MathBitsCarry.m64 - y - b) % Extern.MathBitsCarry.m64) (if x < y + b then 1 else 0))
theorem run_sub64 {P : Program} (Y : Nat) (hy : Y < 18446744073709551616) (sm br : Int) (h1 : ((18446744073709551616 : Int) - (Y : Int)) % 18446744073709551616 = sm) (h2 : (if 0 < Y then 1 else 0) = br) (w : World) :
  (sub64Entry #[.int .u64 0, .int .u64 (Y : Int), .int .u64 0]).run P w = .ok (.tuple #[.int .u64 sm, .int .u64 br]) w := by
 have : (sub64Entry #[.int .u64 0, .int .u64 (Y : Int), .int .u64 0]).run P w = .ok (Extern.MathBitsCarry.pair ((0 + Extern.MathBitsCarry.m64 - Y - 0) % Extern.MathBitsCarry.m64) (if 0 < Y + 0 then 1 else 0)) w := rfl
 rw [this]
 subst h1 h2
 simp only [Extern.MathBitsCarry.pair, Extern.MathBitsCarry.m64]
 congr 4
 ·simp; omega
 ·simp
  split <;> simp
theorem sub64_int (Y : Nat) (hy : Y < 18446744073709551616) (sm br : Int) (h1 : ((18446744073709551616 : Int) - (Y : Int)) % 18446744073709551616 = sm) (h2 : (if 0 < Y then 1 else 0) = br) (w : World) : Sem.run Tryz.prog (callFunc 175 #[.int .u64 0, .int .u64 (Y : Int), .int .u64 0]) w = .ok (.value (.tuple #[.int .u64 sm, .int .u64 br])) w := by
 rw [run_callFunc_extern Tryz.func175 (by kernel_rfl) (by kernel_rfl) (by kernel_rfl) (e := sub64Entry) (by kernel_rfl), run_sub64 Y hy sm br h1 h2]
 rfl
theorem amean_p0 (l : List Int) (hl : ∀ x ∈ l, -9223372036854775808 ≤ x ∧ x ≤ 9223372036854775807) (w : World) (A : Option Addr) (cap : Nat) (hR : RdI w A l) (U H L N Q R : Nat) (hN : l.length = N) (hS : l.sum = (U : Int)) (hU : U = H * 18446744073709551616 + L) (hL : L < 18446744073709551616) (hH : H < N) (hNb : N ≤ 2932031007402) (hq : U / N = Q) (hr : U % N = R) (hRN : R < N) (hQ : (Q : Int) ≤ 9223372036854775807) (hup : ¬ ((N : Int) - (R : Int) ≤ (R : Int))) : Calls Tryz.prog 108 #[.slice A l.length cap] w fun e w' => e = .returned (.int .i64 ((Q : Int))) ∧ Below w.heap.size w w' := by
 have CS := asum_any l hl (by omega) w A cap hR
 have CD := fun w => div64_any H L N hL (by omega) hH w
 rw [← hU, hq, hr] at CD
 have h1 : l.sum / 18446744073709551616 = (H : Int) := by omega
 have h2 : l.sum % 18446744073709551616 = (L : Int) := by omega
 rw [h1, h2, hN] at CS
 have hge : ¬ (H : Int) < 0 := by omega
 have wH : IntKind.u64.wrap (H : Int) = (H : Int) := by rw [IntKind.wrap_u64]; omega
 have wN : IntKind.u64.wrap (N : Int) = (N : Int) := by rw [IntKind.wrap_u64]; omega
 obtain ⟨d, hd⟩ : ∃ d, (N : Int) - (R : Int) = d := ⟨_, rfl⟩
 have wR : IntKind.u64.wrap ((N : Int) - (R : Int)) = d := by rw [IntKind.wrap_u64]; omega
 rw [hd] at hup
 have hz : IntKind.i64.wrap ((Q : Int)) = (Q : Int) := IntWalk.i64_in _ (by omega)
 have CS' := Lib.hid CS
 have CD' := Lib.hid CD
 rw [hN]
 clear CS CD hR hl hS hU h1 h2 hH hq hr hL hQ hd hN hNb hRN
 go_enter Tryz.func108, Tryz.ntmps108
 go_wp2_with fail
 refine CS'.out.mono ?_
 clear CS'
 rintro e w1 ⟨rfl, hb1⟩
 go_wp2_with fail
 refine (CD'.out _).mono ?_
 clear CD'
 rintro e w2 ⟨rfl, hb2⟩
 obtain ⟨gc, gf, gz⟩ := bkeep hb2 (w1.heap.size + 1) (by simp)
 have hb1z := hb1.size
 go_wp2
 go_ret
 exact ⟨rfl, belq⟩
theorem amean_p1 (l : List Int) (hl : ∀ x ∈ l, -9223372036854775808 ≤ x ∧ x ≤ 9223372036854775807) (w : World) (A : Option Addr) (cap : Nat) (hR : RdI w A l) (U H L N Q R : Nat) (hN : l.length = N) (hS : l.sum = (U : Int)) (hU : U = H * 18446744073709551616 + L) (hL : L < 18446744073709551616) (hH : H < N) (hNb : N ≤ 2932031007402) (hq : U / N = Q) (hr : U % N = R) (hRN : R < N) (hQ : (Q : Int) + 1 ≤ 9223372036854775807) (hup : ((N : Int) - (R : Int) ≤ (R : Int))) : Calls Tryz.prog 108 #[.slice A l.length cap] w fun e w' => e = .returned (.int .i64 (((Q : Int) + 1))) ∧ Below w.heap.size w w' := by
 have CS := asum_any l hl (by omega) w A cap hR
 have CD := fun w => div64_any H L N hL (by omega) hH w
 rw [← hU, hq, hr] at CD
 have h1 : l.sum / 18446744073709551616 = (H : Int) := by omega
 have h2 : l.sum % 18446744073709551616 = (L : Int) := by omega
 rw [h1, h2, hN] at CS
 have hge : ¬ (H : Int) < 0 := by omega
 have wH : IntKind.u64.wrap (H : Int) = (H : Int) := by rw [IntKind.wrap_u64]; omega
 have wN : IntKind.u64.wrap (N : Int) = (N : Int) := by rw [IntKind.wrap_u64]; omega
 obtain ⟨d, hd⟩ : ∃ d, (N : Int) - (R : Int) = d := ⟨_, rfl⟩
 have wR : IntKind.u64.wrap ((N : Int) - (R : Int)) = d := by rw [IntKind.wrap_u64]; omega
 rw [hd] at hup
 have wQ : IntKind.u64.wrap ((Q : Int) + 1) = (Q : Int) + 1 := by rw [IntKind.wrap_u64]; omega
 have hz : IntKind.i64.wrap ((Q : Int) + 1) = (Q : Int) + 1 := IntWalk.i64_in _ (by omega)
 have CS' := Lib.hid CS
 have CD' := Lib.hid CD
 rw [hN]
 clear CS CD hR hl hS hU h1 h2 hH hq hr hL hQ hd hN hNb hRN
 go_enter Tryz.func108, Tryz.ntmps108
 go_wp2_with fail
 refine CS'.out.mono ?_
 clear CS'
 rintro e w1 ⟨rfl, hb1⟩
 go_wp2_with fail
 refine (CD'.out _).mono ?_
 clear CD'
 rintro e w2 ⟨rfl, hb2⟩
 obtain ⟨gc, gf, gz⟩ := bkeep hb2 (w1.heap.size + 1) (by simp)
 have hb1z := hb1.size
 go_wp2
 go_ret
 exact ⟨rfl, belq⟩
theorem amean_n0 (l : List Int) (hl : ∀ x ∈ l, -9223372036854775808 ≤ x ∧ x ≤ 9223372036854775807) (w : World) (A : Option Addr) (cap : Nat) (hR : RdI w A l) (U H L N Q R : Nat) (hN : l.length = N) (hS : l.sum = -(U : Int)) (hU : U = H * 18446744073709551616 + L) (hL : L < 18446744073709551616) (hH : H < N) (hNb : N ≤ 2932031007402) (hq : U / N = Q) (hr : U % N = R) (hRN : R < N) (hQ : (Q : Int) ≤ 9223372036854775808) (hup : ¬ ((N : Int) - (R : Int) ≤ (R : Int))) (hU0 : 0 < U) : Calls Tryz.prog 108 #[.slice A l.length cap] w fun e w' => e = .returned (.int .i64 (-(Q : Int))) ∧ Below w.heap.size w w' := by
 have CS := asum_any l hl (by omega) w A cap hR
 have CD := fun w => div64_any H L N hL (by omega) hH w
 rw [← hU, hq, hr] at CD
 obtain ⟨hi, h1⟩ : ∃ hi, l.sum / 18446744073709551616 = hi := ⟨_, rfl⟩
 obtain ⟨Y, hY⟩ : ∃ Y : Nat, (18446744073709551616 - L) % 18446744073709551616 = Y := ⟨_, rfl⟩
 have h2 : l.sum % 18446744073709551616 = (Y : Int) := by omega
 obtain ⟨br, hbr⟩ : ∃ br : Int, (if 0 < Y then (1 : Int) else 0) = br := ⟨_, rfl⟩
 have hbr2 : (0 < Y ∧ br = 1) ∨ (Y = 0 ∧ br = 0) := by
  by_cases h9 : 0 < Y
  ·rw [if_pos h9] at hbr; omega
  ·rw [if_neg h9] at hbr; omega
 have hA : ∀ w : World, Sem.run Tryz.prog (callFunc 175 #[.int .u64 0, .int .u64 (Y : Int), .int .u64 0]) w = .ok (.value (.tuple #[.int .u64 (L : Int), .int .u64 br])) w := fun w => sub64_int Y (by omega) _ _ (by omega) hbr w
 rw [h1, h2, hN] at CS
 have hge : hi < 0 := by omega
 have e1 : IntKind.i64.wrap (-hi) = -hi := IntWalk.i64_in _ (by omega)
 have e2 : IntKind.i64.wrap br = br := IntWalk.i64_in _ (by omega)
 have e3 : IntKind.i64.wrap (-hi - br) = (H : Int) := by rw [show -hi - br = (H : Int) by omega]; exact IntWalk.i64_in _ (by omega)
 clear hbr hbr2 hY
 have wH : IntKind.u64.wrap (H : Int) = (H : Int) := by rw [IntKind.wrap_u64]; omega
 have wN : IntKind.u64.wrap (N : Int) = (N : Int) := by rw [IntKind.wrap_u64]; omega
 obtain ⟨d, hd⟩ : ∃ d, (N : Int) - (R : Int) = d := ⟨_, rfl⟩
 have wR : IntKind.u64.wrap ((N : Int) - (R : Int)) = d := by rw [IntKind.wrap_u64]; omega
 rw [hd] at hup
 obtain ⟨z, hz⟩ : ∃ z, IntKind.i64.wrap ((Q : Int)) = z := ⟨_, rfl⟩
 have hz2 : IntKind.i64.wrap (-z) = -(Q : Int) := by
  rw [IntWalk.i64_left] at hz ⊢
  unfold wrap64 at hz ⊢
  omega
 have CS' := Lib.hid CS
 have CD' := Lib.hid CD
 rw [hN]
 clear CS CD hR hl hS hU h1 h2 hH hq hr hL hQ hd hN hNb hRN hU0
 go_enter Tryz.func108, Tryz.ntmps108
 go_wp2_with fail
 refine CS'.out.mono ?_
 clear CS'
 rintro e w1 ⟨rfl, hb1⟩
 go_wp2_with fail
 refine (CD'.out _).mono ?_
 clear CD'
 rintro e w2 ⟨rfl, hb2⟩
 obtain ⟨gc, gf, gz⟩ := bkeep hb2 (w1.heap.size + 1) (by simp)
 have hb1z := hb1.size
 go_wp2
 go_ret
 exact ⟨rfl, belq⟩
theorem amean_n1 (l : List Int) (hl : ∀ x ∈ l, -9223372036854775808 ≤ x ∧ x ≤ 9223372036854775807) (w : World) (A : Option Addr) (cap : Nat) (hR : RdI w A l) (U H L N Q R : Nat) (hN : l.length = N) (hS : l.sum = -(U : Int)) (hU : U = H * 18446744073709551616 + L) (hL : L < 18446744073709551616) (hH : H < N) (hNb : N ≤ 2932031007402) (hq : U / N = Q) (hr : U % N = R) (hRN : R < N) (hQ : (Q : Int) + 1 ≤ 9223372036854775808) (hup : ((N : Int) - (R : Int) ≤ (R : Int))) (hU0 : 0 < U) : Calls Tryz.prog 108 #[.slice A l.length cap] w fun e w' => e = .returned (.int .i64 (-((Q : Int) + 1))) ∧ Below w.heap.size w w' := by
 have CS := asum_any l hl (by omega) w A cap hR
 have CD := fun w => div64_any H L N hL (by omega) hH w
 rw [← hU, hq, hr] at CD
 obtain ⟨hi, h1⟩ : ∃ hi, l.sum / 18446744073709551616 = hi := ⟨_, rfl⟩
 obtain ⟨Y, hY⟩ : ∃ Y : Nat, (18446744073709551616 - L) % 18446744073709551616 = Y := ⟨_, rfl⟩
 have h2 : l.sum % 18446744073709551616 = (Y : Int) := by omega
 obtain ⟨br, hbr⟩ : ∃ br : Int, (if 0 < Y then (1 : Int) else 0) = br := ⟨_, rfl⟩
 have hbr2 : (0 < Y ∧ br = 1) ∨ (Y = 0 ∧ br = 0) := by
  by_cases h9 : 0 < Y
  ·rw [if_pos h9] at hbr; omega
  ·rw [if_neg h9] at hbr; omega
 have hA : ∀ w : World, Sem.run Tryz.prog (callFunc 175 #[.int .u64 0, .int .u64 (Y : Int), .int .u64 0]) w = .ok (.value (.tuple #[.int .u64 (L : Int), .int .u64 br])) w := fun w => sub64_int Y (by omega) _ _ (by omega) hbr w
 rw [h1, h2, hN] at CS
 have hge : hi < 0 := by omega
 have e1 : IntKind.i64.wrap (-hi) = -hi := IntWalk.i64_in _ (by omega)
 have e2 : IntKind.i64.wrap br = br := IntWalk.i64_in _ (by omega)
 have e3 : IntKind.i64.wrap (-hi - br) = (H : Int) := by rw [show -hi - br = (H : Int) by omega]; exact IntWalk.i64_in _ (by omega)
 clear hbr hbr2 hY
 have wH : IntKind.u64.wrap (H : Int) = (H : Int) := by rw [IntKind.wrap_u64]; omega
 have wN : IntKind.u64.wrap (N : Int) = (N : Int) := by rw [IntKind.wrap_u64]; omega
 obtain ⟨d, hd⟩ : ∃ d, (N : Int) - (R : Int) = d := ⟨_, rfl⟩
 have wR : IntKind.u64.wrap ((N : Int) - (R : Int)) = d := by rw [IntKind.wrap_u64]; omega
 rw [hd] at hup
 have wQ : IntKind.u64.wrap ((Q : Int) + 1) = (Q : Int) + 1 := by rw [IntKind.wrap_u64]; omega
 obtain ⟨z, hz⟩ : ∃ z, IntKind.i64.wrap ((Q : Int) + 1) = z := ⟨_, rfl⟩
 have hz2 : IntKind.i64.wrap (-z) = -((Q : Int) + 1) := by
  rw [IntWalk.i64_left] at hz ⊢
  unfold wrap64 at hz ⊢
  omega
 have CS' := Lib.hid CS
 have CD' := Lib.hid CD
 rw [hN]
 clear CS CD hR hl hS hU h1 h2 hH hq hr hL hQ hd hN hNb hRN hU0
 go_enter Tryz.func108, Tryz.ntmps108
 go_wp2_with fail
 refine CS'.out.mono ?_
 clear CS'
 rintro e w1 ⟨rfl, hb1⟩
 go_wp2_with fail
 refine (CD'.out _).mono ?_
 clear CD'
 rintro e w2 ⟨rfl, hb2⟩
 obtain ⟨gc, gf, gz⟩ := bkeep hb2 (w1.heap.size + 1) (by simp)
 have hb1z := hb1.size
 go_wp2
 go_ret
 exact ⟨rfl, belq⟩
theorem amean_any (l : List Int) (hl : ∀ x ∈ l, -9223372036854775808 ≤ x ∧ x ≤ 9223372036854775807) (h0 : l ≠ []) (hlen : l.length ≤ 2932031007402) (w : World) (A : Option Addr) (cap : Nat) (hR : RdI w A l) : Calls Tryz.prog 108 #[.slice A l.length cap] w fun e w' => e = .returned (.int .i64 (meanL l)) ∧ Below w.heap.size w w' := by
 have hn : 0 < l.length := List.length_pos_iff.2 h0
 have hs1 := sum_le (fun x hx => (hl x hx).2)
 have hs2 := le_sum (fun x hx => (hl x hx).1)
 obtain ⟨N, hN⟩ : ∃ N, l.length = N := ⟨_, rfl⟩
 rw [hN] at hs1 hs2 hn
 obtain ⟨U, hU⟩ : ∃ U : Nat, l.sum.natAbs = U := ⟨_, rfl⟩
 obtain ⟨H, hH⟩ : ∃ H, U / 18446744073709551616 = H := ⟨_, rfl⟩
 obtain ⟨L, hL⟩ : ∃ L, U % 18446744073709551616 = L := ⟨_, rfl⟩
 obtain ⟨Q, hq⟩ : ∃ Q, U / N = Q := ⟨_, rfl⟩
 obtain ⟨R, hr⟩ : ∃ R, U % N = R := ⟨_, rfl⟩
 have hRN : R < N := by rw [← hr]; exact Nat.mod_lt _ hn
 have hUq : (N : Int) * (Q : Int) + (R : Int) = (U : Int) := by
  have := Nat.div_add_mod U N
  rw [hq, hr] at this
  have h9 : ((N * Q + R : Nat) : Int) = (U : Int) := by rw [this]
  simpa using h9
 have hq' : (U : Int) / (N : Int) = (Q : Int) := by rw [← hq]; simp
 have hr' : (U : Int) % (N : Int) = (R : Int) := by rw [← hr]; simp
 by_cases hm : l.sum < 0
 ·have hQ := meanU_le (s := (U : Int)) (n := (N : Int)) (b := 9223372036854775808) (by omega) (by omega)
  have em : meanL l = - meanU (U : Int) (N : Int) := by unfold meanL; rw [if_pos hm, hN, show -l.sum = (U : Int) by omega]
  rw [em]
  unfold meanU at hQ ⊢
  rw [hq', hr'] at hQ ⊢
  by_cases hup : (N : Int) - (R : Int) ≤ (R : Int)
  ·rw [if_pos hup] at hQ ⊢
   exact amean_n1 l hl w A cap hR U H L N Q R hN (by omega) (by omega) (by omega) (by omega) (by omega) hq hr hRN hQ hup (by omega)
  ·rw [if_neg hup, Int.add_zero] at hQ ⊢
   exact amean_n0 l hl w A cap hR U H L N Q R hN (by omega) (by omega) (by omega) (by omega) (by omega) hq hr hRN hQ hup (by omega)
 ·have hQ := meanU_le (s := (U : Int)) (n := (N : Int)) (b := 9223372036854775807) (by omega) (by omega)
  have em : meanL l = meanU (U : Int) (N : Int) := by unfold meanL; rw [if_neg hm, hN, show l.sum = (U : Int) by omega]
  rw [em]
  unfold meanU at hQ ⊢
  rw [hq', hr'] at hQ ⊢
  by_cases hup : (N : Int) - (R : Int) ≤ (R : Int)
  ·rw [if_pos hup] at hQ ⊢
   exact amean_p1 l hl w A cap hR U H L N Q R hN (by omega) (by omega) (by omega) (by omega) (by omega) hq hr hRN hQ hup
  ·rw [if_neg hup, Int.add_zero] at hQ ⊢
   exact amean_p0 l hl w A cap hR U H L N Q R hN (by omega) (by omega) (by omega) (by omega) (by omega) hq hr hRN hQ hup
end Go.Proofs.YtgmhifafbebjfaaGreatDoor
namespace Go.Proofs.YtgmhifafbebjfaaGreatDoor
open Go.RowKit

theorem str_info : (Tryz.prog.info? 9).map (fun i => (i.zero, i.size, i.bytes)) = some (some (.string ⟨#[]⟩), 1, 16) := by kernel_rfl
def VL.asT (v : VL) : ByteArray := if v.t = 1 then ⟨(printL v.n).toArray⟩ else if v.t = 2 then v.s else if v.t = 3 then (if v.b = true then ⟨#[84, 82, 85, 69]⟩ else ⟨#[70, 65, 76, 83, 69]⟩) else ⟨#[]⟩
theorem astext_any (v : VL) (hv : v.ok) (hm : v.may = true) (h4 : ¬ v.t = 4) (w : World) (ht : Tab w) : Calls Tryz.prog 15 #[.agg #[.int .i64 v.t, .int .i64 v.n, .string v.s, .bool v.b, .int .i64 v.c]] w fun e w' => e = .returned (.tuple #[.string v.asT, .int .i64 0]) ∧ Below w.heap.size w w' := by
 obtain ⟨t, n, s, b, c⟩ := v
 have hn : -9223372036854775808 ≤ n ∧ n ≤ 9223372036854775807 := hv
 have m : vMay t n s b c = true := hm
 unfold VL.asT
 obtain ⟨h1, h2, h3, h4', h5, h6, h7, h8⟩ := (vMay_iff t n s b c).1 m
 simp only at h4 ⊢
 have hh : t = 0 ∨ t = 1 ∨ t = 2 ∨ t = 3 := by omega
 rcases hh with rfl | rfl | rfl | rfl
 ·obtain rfl : n = 0 := by omega
  obtain rfl : s = ⟨#[]⟩ := by rcases h4' with h | h; omega; exact h
  obtain rfl : b = false := by rcases h5 with h | h; omega; exact h
  obtain rfl : c = 0 := by omega
  exact astxt_0 w
 ·obtain rfl : s = ⟨#[]⟩ := by rcases h4' with h | h; omega; exact h
  obtain rfl : b = false := by rcases h5 with h | h; omega; exact h
  obtain rfl : c = 0 := by omega
  exact astxt_1 n hn (h7 rfl) w ht
 ·obtain rfl : n = 0 := by omega
  obtain rfl : b = false := by rcases h5 with h | h; omega; exact h
  obtain rfl : c = 0 := by omega
  exact astxt_2 s w
 ·obtain rfl : n = 0 := by omega
  obtain rfl : s = ⟨#[]⟩ := by rcases h4' with h | h; omega; exact h
  obtain rfl : c = 0 := by omega
  cases b
  ·exact astxt_f w
  ·exact astxt_t w
def RdStr (w : World) (v : Value) (l : List ByteArray) : Prop := ∃ A cap, v = .slice A l.length cap ∧ RdB w w.heap.size A 1 (l.map fun s => [Value.string s])
def RdInt (w : World) (v : Value) (l : List Int) : Prop := ∃ A cap, v = .slice A l.length cap ∧ RdB w w.heap.size A 1 (l.map fun s => [Value.int .i64 s])
theorem RdStr.below {w w' : World} {v : Value} {l : List ByteArray} (h : RdStr w v l) (hb : Below w.heap.size w w') : RdStr w' v l := let ⟨A, cap, e, h1⟩ := h; ⟨A, cap, e, (h1.below hb).mono hb.size⟩
theorem RdInt.below {w w' : World} {v : Value} {l : List Int} (h : RdInt w v l) (hb : Below w.heap.size w w') : RdInt w' v l := let ⟨A, cap, e, h1⟩ := h; ⟨A, cap, e, (h1.below hb).mono hb.size⟩
end Go.Proofs.YtgmhifafbebjfaaGreatDoor
namespace Go.Proofs.YtgmhifafbebjfaaGreatDoor
open Go.RowKit

def txB (l : List VL) : List ByteArray := (l.filter fun v => !decide (v.t = 0)).map VL.asT
theorem txB_app (a b : List VL) : txB (a ++ b) = txB a ++ txB b := by simp [txB]
theorem txB_one (v : VL) : txB [v] = if v.t = 0 then [] else [v.asT] := by
 unfold txB
 by_cases h : v.t = 0 <;> simp [h]
theorem txB_snoc (l : List VL) (k : Nat) (v : VL) (h : l[k]? = some v) : txB (l.take (k + 1)) = txB (l.take k) ++ if v.t = 0 then [] else [v.asT] := by
 rw [List.take_add_one, h, txB_app]
 congr 1
 exact txB_one v
def joinV (text : Int) (s : ByteArray) : VL := if text < (s.size : Int) then errL 7 else ⟨2, 0, s, false, 0⟩
theorem jnB_mono (s : ByteArray) (T U : List ByteArray) : (jnB s T).size ≤ (jnB s (T ++ U)).size := by
 induction U generalizing T with
 | nil => simp
 |
  cons x U ih =>
  have h1 := ih (T ++ [x])
  have h2 := jnB_size s T x
  have e : T ++ x :: U = (T ++ [x]) ++ U := by simp
  rw [e]
  refine Nat.le_trans ?_ h1
  by_cases h : T = []
  ·subst h; rw [jnB_nil]; exact Nat.zero_le _
  ·rw [if_neg h] at h2; omega
theorem jnB_take (s : ByteArray) (l : List VL) (k : Nat) : (jnB s (txB (l.take k))).size ≤ (jnB s (txB l)).size := by
 have h := jnB_mono s (txB (l.take k)) (txB (l.drop k))
 rw [← txB_app, List.take_append_drop] at h
 exact h
theorem printL_len8 {x : Int} (h : -9223372036854775808 ≤ x ∧ x ≤ 9223372036854775807) : (printL x).length ≤ 26 := by
 unfold printL
 split
 ·simp
 ·unfold textOf
  have h1 := dec_len20 (u := x.natAbs / 10000) (by omega)
  have h2 := frac_len (x.natAbs % 10000)
  have h3 : ((if decide (x < 0) = true then [45] else []) : List UInt8).length ≤ 1 := by split <;> simp
  have h4 : ((if x.natAbs % 10000 = 0 then [] else 46 :: frac (x.natAbs % 10000)) : List UInt8).length ≤ 5 := by split <;> simp; omega
  rw [List.length_append, List.length_append]
  omega
theorem asT_size8 {v : VL} (hv : v.ok) (h : v.s.size ≤ 1048576) : v.asT.size ≤ 1048576 := by
 unfold VL.asT
 split
 ·have := printL_len8 hv
  show (printL v.n).toArray.size ≤ _
  rw [List.size_toArray]; omega
 ·split
  ·exact h
  ·split
   ·split <;> decide
   ·decide
theorem rastextA (v : VL) (hv : v.ok) (hm : v.may = true) (h4 : ¬ v.t = 4) (w : World) : Calls Tryz.prog 23 #[.agg #[.int .i64 v.t, .int .i64 v.n, .string v.s, .bool v.b, .int .i64 v.c]] w fun e w' => e = .returned (.tuple #[.string v.asT, .int .i64 0]) ∧ Below w.heap.size w w' := by
 obtain ⟨t, n, s, b, c⟩ := v
 have hn : -9223372036854775808 ≤ n ∧ n ≤ 9223372036854775807 := hv
 have m : vMay t n s b c = true := hm
 unfold VL.asT
 obtain ⟨h1, h2, h3, h4', h5, h6, h7, h8⟩ := (vMay_iff t n s b c).1 m
 simp only at h4 ⊢
 have hh : t = 0 ∨ t = 1 ∨ t = 2 ∨ t = 3 := by omega
 rcases hh with rfl | rfl | rfl | rfl
 ·obtain rfl : n = 0 := by omega
  obtain rfl : s = ⟨#[]⟩ := by rcases h4' with h | h; omega; exact h
  obtain rfl : b = false := by rcases h5 with h | h; omega; exact h
  obtain rfl : c = 0 := by omega
  exact rastxt_0 w
 ·obtain rfl : s = ⟨#[]⟩ := by rcases h4' with h | h; omega; exact h
  obtain rfl : b = false := by rcases h5 with h | h; omega; exact h
  obtain rfl : c = 0 := by omega
  exact rastxt_1 n hn (h7 rfl) w
 ·obtain rfl : n = 0 := by omega
  obtain rfl : b = false := by rcases h5 with h | h; omega; exact h
  obtain rfl : c = 0 := by omega
  exact rastxt_2 s w
 ·obtain rfl : n = 0 := by omega
  obtain rfl : s = ⟨#[]⟩ := by rcases h4' with h | h; omega; exact h
  obtain rfl : c = 0 := by omega
  cases b
  ·exact rastxt_f w
  ·exact rastxt_t w
end Go.Proofs.YtgmhifafbebjfaaGreatDoor
