/-
 the document's aggs: sum, mean.
-/
import Derived.Test.YtgmhifafbebjfaaGreatDoorMg31
set_option maxRecDepth 100000
set_option maxHeartbeats 32000000
namespace Go.Proofs.YtgmhifafbebjfaaGreatDoor
open Go.RowKit

theorem rdi_below {w w' : World} {A : Option Addr} {l : List Int} (h : RdI w A l) (hb : Below w.heap.size w w') : RdI w' A l := (RdB.below h hb).mono hb.size
theorem r10sum_y (l : List Int) (hl : ∀ x ∈ l, -9223372036854775808 ≤ x ∧ x ≤ 9223372036854775807) (hlen : l.length ≤ 1073741824) (w : World) (A : Option Addr) (cap : Nat) (hR : RdI w A l) (S : Int) (hS : l.sum = S) (hb : (-9223372036854775808 ≤ S ∧ S ≤ 9223372036854775807)) : Calls Tryz.prog 129 #[.slice A l.length cap] w fun e w' => e = .returned (.agg #[.int .i64 ((numL S)).t, .int .i64 ((numL S)).n, .string ((numL S)).s, .bool ((numL S)).b, .int .i64 ((numL S)).c]) ∧ Below w.heap.size w w' := by
 have b0 : Below w.heap.size w (w.alloc (.cells #[.int .i64 0, .int .i64 0, .string ⟨#[]⟩, .bool false, .int .i64 0] 26)) := (Below.refl _ _).alloc (Nat.le_refl _) _
 have C1 := Lib.hid (r10exact l hl hlen (w.alloc (.cells #[.int .i64 0, .int .i64 0, .string ⟨#[]⟩, .bool false, .int .i64 0] 26)) A cap (rdi_below hR b0))
 rw [hS] at C1
 obtain ⟨hi, hhi⟩ : ∃ hi, S / 4294967296 = hi := ⟨_, rfl⟩
 obtain ⟨lo, hlo⟩ : ∃ lo, S % 4294967296 = lo := ⟨_, rfl⟩
 rw [hhi, hlo] at C1
 have hb2 : -2147483648 ≤ hi ∧ hi ≤ 2147483647 := by omega
 have t0 : decide (hi < -2147483648) = false := by simp; omega
 have t1 : decide (hi ≥ 2147483648) = false := by simp; omega
 have t2 : decide (2147483648 ≤ hi) = false := by simp; omega
 have t3 : ¬ hi < -2147483648 := by omega
 have t4 : ¬ 2147483648 ≤ hi := by omega
 have wh : IntKind.i64.wrap (hi * 4294967296) = hi * 4294967296 := IntWalk.i64_in _ (by omega)
 have eo : bits .or .i64 (hi * 4294967296) lo = S := by rw [i64_or32 hi lo hb2 (by omega)]; omega
 have CN := fun w => rvnumA S hb w
 clear hl hR hS hhi hlo hb2 hb
 go_enter Tryz.func129, Tryz.ntmps129
 go_wp2_with fail
 refine C1.out.mono ?_
 clear C1
 rintro e w1 ⟨rfl, hb1⟩
 have hz1 := hb1.size
 simp only [World.size_alloc] at hz1
 have g1 : Below w.heap.size w w1 := b0.trans (hb1.mono (by simp))
 obtain ⟨hr0, hr1, hr2, hr3, hr4, hs0, hs1, hs2, hs3, hs4⟩ := res5a (n := w.heap.size) hb1
 have l1 : w.heap.size < w1.heap.size := by omega
 clear hb1 b0
 go_wp2_with (go_at_call 99; refine (CN _).mono ?_; rintro e w2 ⟨rfl, hb⟩; obtain ⟨hc, hf, hz⟩ := bkeep hb (w1.heap.size) (by first | omega | (simp <;> omega)))
 refine bodyPost_ret (v := .agg #[.int .i64 ((numL S)).t, .int .i64 ((numL S)).n, .string ((numL S)).s, .bool ((numL S)).b, .int .i64 ((numL S)).c]) ?_ rfl ⟨rfl, belq⟩
 simp [results, Tryz.results129, go_sem, numL, *]
theorem r10sum_n (l : List Int) (hl : ∀ x ∈ l, -9223372036854775808 ≤ x ∧ x ≤ 9223372036854775807) (hlen : l.length ≤ 1073741824) (w : World) (A : Option Addr) (cap : Nat) (hR : RdI w A l) (S : Int) (hS : l.sum = S) (hb : ¬ (-9223372036854775808 ≤ S ∧ S ≤ 9223372036854775807)) : Calls Tryz.prog 129 #[.slice A l.length cap] w fun e w' => e = .returned (.agg #[.int .i64 4, .int .i64 0, .string ⟨#[]⟩, .bool false, .int .i64 (errC 2)]) ∧ Below w.heap.size w w' := by
 have b0 : Below w.heap.size w (w.alloc (.cells #[.int .i64 0, .int .i64 0, .string ⟨#[]⟩, .bool false, .int .i64 0] 26)) := (Below.refl _ _).alloc (Nat.le_refl _) _
 have C1 := Lib.hid (r10exact l hl hlen (w.alloc (.cells #[.int .i64 0, .int .i64 0, .string ⟨#[]⟩, .bool false, .int .i64 0] 26)) A cap (rdi_below hR b0))
 rw [hS] at C1
 obtain ⟨hi, hhi⟩ : ∃ hi, S / 4294967296 = hi := ⟨_, rfl⟩
 obtain ⟨lo, hlo⟩ : ∃ lo, S % 4294967296 = lo := ⟨_, rfl⟩
 rw [hhi, hlo] at C1
 by_cases hq : hi < -2147483648
 ·have t0 : decide (hi < -2147483648) = true := by simp; omega
  have t3 : hi < -2147483648 := by omega
  clear hl hR hS hhi hlo hb hq
  go_enter Tryz.func129, Tryz.ntmps129
  go_wp2_with fail
  refine C1.out.mono ?_
  clear C1
  rintro e w1 ⟨rfl, hb1⟩
  have hz1 := hb1.size
  simp only [World.size_alloc] at hz1
  have g1 : Below w.heap.size w w1 := b0.trans (hb1.mono (by simp))
  obtain ⟨hr0, hr1, hr2, hr3, hr4, hs0, hs1, hs2, hs3, hs4⟩ := res5a (n := w.heap.size) hb1
  have l1 : w.heap.size < w1.heap.size := by omega
  clear hb1 b0
  go_wp2_with (go_at_call 20; refine (rverrA 2 _).mono ?_; rintro e w2 ⟨rfl, hb⟩; obtain ⟨hc, hf, hz⟩ := bkeep hb (w1.heap.size) (by first | omega | (simp <;> omega)))
  refine bodyPost_ret (v := .agg #[.int .i64 4, .int .i64 0, .string ⟨#[]⟩, .bool false, .int .i64 (errC 2)]) ?_ rfl ⟨rfl, belq⟩
  simp [results, Tryz.results129, go_sem, *]
 ·have t0 : decide (hi < -2147483648) = false := by simp; omega
  have t3 : ¬ hi < -2147483648 := by omega
  have t1 : decide (hi ≥ 2147483648) = true := by simp; omega
  have t2 : decide (2147483648 ≤ hi) = true := by simp; omega
  have t4 : 2147483648 ≤ hi := by omega
  clear hl hR hS hhi hlo hb hq
  go_enter Tryz.func129, Tryz.ntmps129
  go_wp2_with fail
  refine C1.out.mono ?_
  clear C1
  rintro e w1 ⟨rfl, hb1⟩
  have hz1 := hb1.size
  simp only [World.size_alloc] at hz1
  have g1 : Below w.heap.size w w1 := b0.trans (hb1.mono (by simp))
  obtain ⟨hr0, hr1, hr2, hr3, hr4, hs0, hs1, hs2, hs3, hs4⟩ := res5a (n := w.heap.size) hb1
  have l1 : w.heap.size < w1.heap.size := by omega
  clear hb1 b0
  go_wp2_with (go_at_call 20; refine (rverrA 2 _).mono ?_; rintro e w2 ⟨rfl, hb⟩; obtain ⟨hc, hf, hz⟩ := bkeep hb (w1.heap.size) (by first | omega | (simp <;> omega)))
  refine bodyPost_ret (v := .agg #[.int .i64 4, .int .i64 0, .string ⟨#[]⟩, .bool false, .int .i64 (errC 2)]) ?_ rfl ⟨rfl, belq⟩
  simp [results, Tryz.results129, go_sem, *]
theorem r10sum (l : List Int) (hl : ∀ x ∈ l, -9223372036854775808 ≤ x ∧ x ≤ 9223372036854775807) (hlen : l.length ≤ 1073741824) (w : World) (A : Option Addr) (cap : Nat) (hR : RdI w A l) : Calls Tryz.prog 129 #[.slice A l.length cap] w fun e w' => e = .returned (.agg #[.int .i64 ((fitL l.sum)).t, .int .i64 ((fitL l.sum)).n, .string ((fitL l.sum)).s, .bool ((fitL l.sum)).b, .int .i64 ((fitL l.sum)).c]) ∧ Below w.heap.size w w' := by
 unfold fitL
 by_cases h : -9223372036854775808 ≤ l.sum ∧ l.sum ≤ 9223372036854775807
 ·rw [if_pos h]; exact r10sum_y l hl hlen w A cap hR _ rfl h
 ·rw [if_neg h]; exact r10sum_n l hl hlen w A cap hR _ rfl h
theorem r10mean_pu (l : List Int) (hl : ∀ x ∈ l, -9223372036854775808 ≤ x ∧ x ≤ 9223372036854775807) (hlen : l.length ≤ 1073741824) (w : World) (A : Option Addr) (cap : Nat) (hR : RdI w A l) (U H L N Q R a b c : Int) (hN : (l.length : Int) = N) (hS : l.sum = U) (hU : H * 4294967296 + L = U) (hL : 0 ≤ L ∧ L < 4294967296) (hH : 0 ≤ H) (hN0 : 0 < N) (_hNb : N ≤ 1073741824) (hHb : H ≤ 2305843009213693952) (ha : H / N = a) (hb : H % N = b) (hc : (b * 4294967296 + L) / N = c) (hr : (b * 4294967296 + L) % N = R) (hq : a * 4294967296 + c = Q) (hQ : (Q + 1) ≤ 9223372036854775807) (hup : (N - R ≤ R)) : Calls Tryz.prog 134 #[.slice A l.length cap] w fun e w' => e = .returned (.agg #[.int .i64 ((numL (Q + 1))).t, .int .i64 ((numL (Q + 1))).n, .string ((numL (Q + 1))).s, .bool ((numL (Q + 1))).b, .int .i64 ((numL (Q + 1))).c]) ∧ Below w.heap.size w w' := by
 have b0 : Below w.heap.size w (w.alloc (.cells #[.int .i64 0, .int .i64 0, .string ⟨#[]⟩, .bool false, .int .i64 0] 26)) := (Below.refl _ _).alloc (Nat.le_refl _) _
 have C1 := Lib.hid (r10exact l hl hlen (w.alloc (.cells #[.int .i64 0, .int .i64 0, .string ⟨#[]⟩, .bool false, .int .i64 0] 26)) A cap (rdi_below hR b0))
 obtain ⟨hi, hhi⟩ : ∃ hi, l.sum / 4294967296 = hi := ⟨_, rfl⟩
 obtain ⟨lo, hlo⟩ : ∃ lo, l.sum % 4294967296 = lo := ⟨_, rfl⟩
 rw [hhi, hlo] at C1
 have ha0 : 0 ≤ a := by rw [← ha]; exact Int.ediv_nonneg hH (by omega)
 have hb0 : 0 ≤ b ∧ b < N := by rw [← hb]; exact ⟨Int.emod_nonneg _ (by omega), Int.emod_lt_of_pos _ hN0⟩
 have hrs : 0 ≤ b * 4294967296 + L := by omega
 have hrb : b * 4294967296 + L < 4611686018427387904 := by omega
 have hc0 : 0 ≤ c := by rw [← hc]; exact Int.ediv_nonneg hrs (by omega)
 have hcb : c < 4294967296 := by rw [← hc]; exact Int.ediv_lt_of_lt_mul hN0 (by omega)
 have hr0 : 0 ≤ R ∧ R < N := by rw [← hr]; exact ⟨Int.emod_nonneg _ (by omega), Int.emod_lt_of_pos _ hN0⟩
 have ta : H.tdiv N = a := by rw [Int.tdiv_eq_ediv_of_nonneg hH]; exact ha
 have tb : H.tmod N = b := by rw [Int.tmod_eq_emod_of_nonneg hH]; exact hb
 have tc : (b * 4294967296 + L).tdiv N = c := by rw [Int.tdiv_eq_ediv_of_nonneg hrs]; exact hc
 have tr : (b * 4294967296 + L).tmod N = R := by rw [Int.tmod_eq_emod_of_nonneg hrs]; exact hr
 have wb : IntKind.i64.wrap (b * 4294967296) = b * 4294967296 := IntWalk.i64_in _ (by omega)
 obtain ⟨T, hT⟩ : ∃ T, b * 4294967296 + L = T := ⟨_, rfl⟩
 have wT : IntKind.i64.wrap (b * 4294967296 + L) = T := by rw [hT]; exact IntWalk.i64_in _ (by omega)
 rw [hT] at tc tr hc hr
 have wa : IntKind.i64.wrap a = a := IntWalk.i64_in _ (by omega)
 have wc : IntKind.i64.wrap c = c := IntWalk.i64_in _ (by omega)
 have ua : IntKind.u64.wrap a = a := by rw [IntKind.wrap_u64]; omega
 have uc : IntKind.u64.wrap c = c := by rw [IntKind.wrap_u64]; omega
 have us : IntKind.u64.wrap (a * 4294967296) = a * 4294967296 := by rw [IntKind.wrap_u64]; omega
 have uq : IntKind.u64.wrap (a * 4294967296 + c) = Q := by rw [IntKind.wrap_u64]; omega
 have hn0 : N ≠ 0 := by omega
 have hnb : (N == 0) = false := by simp; omega
 have wd : IntKind.i64.wrap (N - R) = N - R := IntWalk.i64_in _ (by omega)
 have d0 : decide (R ≥ N - R) = true := by simp; omega
 have d1 : decide (N - R ≤ R) = true := by simp; omega
 have uu : IntKind.u64.wrap (Q + 1) = Q + 1 := by rw [IntKind.wrap_u64]; omega
 have hz : IntKind.i64.wrap (Q + 1) = (Q + 1) := IntWalk.i64_in _ (by omega)
 have m0 : ¬ hi < 0 := by omega
 obtain rfl : hi = H := by omega
 obtain rfl : lo = L := by omega
 have CN := fun w => rvnumA (Q + 1) (by omega) w
 have hsz : (l.length : Int) = N := hN
 clear hl hR hS hhi hlo hU hL hH ha hb hc hr hq hQ hT hup hHb hrs hrb
 go_enter Tryz.func134, Tryz.ntmps134
 go_wp2_with fail
 refine C1.out.mono ?_
 clear C1
 rintro e w1 ⟨rfl, hb1⟩
 have hz1 := hb1.size
 simp only [World.size_alloc] at hz1
 have g1 : Below w.heap.size w w1 := b0.trans (hb1.mono (by simp))
 obtain ⟨hr0, hr1, hr2, hr3, hr4, hs0, hs1, hs2, hs3, hs4⟩ := res5a (n := w.heap.size) hb1
 have l1 : w.heap.size < w1.heap.size := by omega
 clear hb1 b0
 go_wp2
 go_quiet (fail)
 go_wp2
 go_quiet (fail)
 go_wp2_with (go_at_call 99; refine (CN _).mono ?_; rintro e w2 ⟨rfl, hb⟩; obtain ⟨hc, hf, hz⟩ := bkeep hb (w1.heap.size) (by first | omega | (simp <;> omega)))
 refine bodyPost_ret (v := .agg #[.int .i64 ((numL (Q + 1))).t, .int .i64 ((numL (Q + 1))).n, .string ((numL (Q + 1))).s, .bool ((numL (Q + 1))).b, .int .i64 ((numL (Q + 1))).c]) ?_ rfl ⟨rfl, belq⟩
 simp [results, Tryz.results134, go_sem, numL, *]
theorem r10mean_pd (l : List Int) (hl : ∀ x ∈ l, -9223372036854775808 ≤ x ∧ x ≤ 9223372036854775807) (hlen : l.length ≤ 1073741824) (w : World) (A : Option Addr) (cap : Nat) (hR : RdI w A l) (U H L N Q R a b c : Int) (hN : (l.length : Int) = N) (hS : l.sum = U) (hU : H * 4294967296 + L = U) (hL : 0 ≤ L ∧ L < 4294967296) (hH : 0 ≤ H) (hN0 : 0 < N) (_hNb : N ≤ 1073741824) (hHb : H ≤ 2305843009213693952) (ha : H / N = a) (hb : H % N = b) (hc : (b * 4294967296 + L) / N = c) (hr : (b * 4294967296 + L) % N = R) (hq : a * 4294967296 + c = Q) (hQ : Q ≤ 9223372036854775807) (hup : ¬ (N - R ≤ R)) : Calls Tryz.prog 134 #[.slice A l.length cap] w fun e w' => e = .returned (.agg #[.int .i64 ((numL Q)).t, .int .i64 ((numL Q)).n, .string ((numL Q)).s, .bool ((numL Q)).b, .int .i64 ((numL Q)).c]) ∧ Below w.heap.size w w' := by
 have b0 : Below w.heap.size w (w.alloc (.cells #[.int .i64 0, .int .i64 0, .string ⟨#[]⟩, .bool false, .int .i64 0] 26)) := (Below.refl _ _).alloc (Nat.le_refl _) _
 have C1 := Lib.hid (r10exact l hl hlen (w.alloc (.cells #[.int .i64 0, .int .i64 0, .string ⟨#[]⟩, .bool false, .int .i64 0] 26)) A cap (rdi_below hR b0))
 obtain ⟨hi, hhi⟩ : ∃ hi, l.sum / 4294967296 = hi := ⟨_, rfl⟩
 obtain ⟨lo, hlo⟩ : ∃ lo, l.sum % 4294967296 = lo := ⟨_, rfl⟩
 rw [hhi, hlo] at C1
 have ha0 : 0 ≤ a := by rw [← ha]; exact Int.ediv_nonneg hH (by omega)
 have hb0 : 0 ≤ b ∧ b < N := by rw [← hb]; exact ⟨Int.emod_nonneg _ (by omega), Int.emod_lt_of_pos _ hN0⟩
 have hrs : 0 ≤ b * 4294967296 + L := by omega
 have hrb : b * 4294967296 + L < 4611686018427387904 := by omega
 have hc0 : 0 ≤ c := by rw [← hc]; exact Int.ediv_nonneg hrs (by omega)
 have hcb : c < 4294967296 := by rw [← hc]; exact Int.ediv_lt_of_lt_mul hN0 (by omega)
 have hr0 : 0 ≤ R ∧ R < N := by rw [← hr]; exact ⟨Int.emod_nonneg _ (by omega), Int.emod_lt_of_pos _ hN0⟩
 have ta : H.tdiv N = a := by rw [Int.tdiv_eq_ediv_of_nonneg hH]; exact ha
 have tb : H.tmod N = b := by rw [Int.tmod_eq_emod_of_nonneg hH]; exact hb
 have tc : (b * 4294967296 + L).tdiv N = c := by rw [Int.tdiv_eq_ediv_of_nonneg hrs]; exact hc
 have tr : (b * 4294967296 + L).tmod N = R := by rw [Int.tmod_eq_emod_of_nonneg hrs]; exact hr
 have wb : IntKind.i64.wrap (b * 4294967296) = b * 4294967296 := IntWalk.i64_in _ (by omega)
 obtain ⟨T, hT⟩ : ∃ T, b * 4294967296 + L = T := ⟨_, rfl⟩
 have wT : IntKind.i64.wrap (b * 4294967296 + L) = T := by rw [hT]; exact IntWalk.i64_in _ (by omega)
 rw [hT] at tc tr hc hr
 have wa : IntKind.i64.wrap a = a := IntWalk.i64_in _ (by omega)
 have wc : IntKind.i64.wrap c = c := IntWalk.i64_in _ (by omega)
 have ua : IntKind.u64.wrap a = a := by rw [IntKind.wrap_u64]; omega
 have uc : IntKind.u64.wrap c = c := by rw [IntKind.wrap_u64]; omega
 have us : IntKind.u64.wrap (a * 4294967296) = a * 4294967296 := by rw [IntKind.wrap_u64]; omega
 have uq : IntKind.u64.wrap (a * 4294967296 + c) = Q := by rw [IntKind.wrap_u64]; omega
 have hn0 : N ≠ 0 := by omega
 have hnb : (N == 0) = false := by simp; omega
 have wd : IntKind.i64.wrap (N - R) = N - R := IntWalk.i64_in _ (by omega)
 have d0 : decide (R ≥ N - R) = false := by simp; omega
 have d1 : decide (N - R ≤ R) = false := by simp; omega
 have hz : IntKind.i64.wrap Q = Q := IntWalk.i64_in _ (by omega)
 have m0 : ¬ hi < 0 := by omega
 obtain rfl : hi = H := by omega
 obtain rfl : lo = L := by omega
 have CN := fun w => rvnumA Q (by omega) w
 have hsz : (l.length : Int) = N := hN
 clear hl hR hS hhi hlo hU hL hH ha hb hc hr hq hQ hT hup hHb hrs hrb
 go_enter Tryz.func134, Tryz.ntmps134
 go_wp2_with fail
 refine C1.out.mono ?_
 clear C1
 rintro e w1 ⟨rfl, hb1⟩
 have hz1 := hb1.size
 simp only [World.size_alloc] at hz1
 have g1 : Below w.heap.size w w1 := b0.trans (hb1.mono (by simp))
 obtain ⟨hr0, hr1, hr2, hr3, hr4, hs0, hs1, hs2, hs3, hs4⟩ := res5a (n := w.heap.size) hb1
 have l1 : w.heap.size < w1.heap.size := by omega
 clear hb1 b0
 go_wp2
 go_quiet (fail)
 go_wp2
 go_quiet (fail)
 go_wp2_with (go_at_call 99; refine (CN _).mono ?_; rintro e w2 ⟨rfl, hb⟩; obtain ⟨hc, hf, hz⟩ := bkeep hb (w1.heap.size) (by first | omega | (simp <;> omega)))
 refine bodyPost_ret (v := .agg #[.int .i64 ((numL Q)).t, .int .i64 ((numL Q)).n, .string ((numL Q)).s, .bool ((numL Q)).b, .int .i64 ((numL Q)).c]) ?_ rfl ⟨rfl, belq⟩
 simp [results, Tryz.results134, go_sem, numL, *]
theorem r10mean_n0u (l : List Int) (hl : ∀ x ∈ l, -9223372036854775808 ≤ x ∧ x ≤ 9223372036854775807) (hlen : l.length ≤ 1073741824) (w : World) (A : Option Addr) (cap : Nat) (hR : RdI w A l) (U H L N Q R a b c : Int) (hN : (l.length : Int) = N) (hS : l.sum = -U) (hU : H * 4294967296 + L = U) (hL : 0 ≤ L ∧ L < 4294967296) (hH : 0 ≤ H) (hN0 : 0 < N) (_hNb : N ≤ 1073741824) (hHb : H ≤ 2305843009213693952) (ha : H / N = a) (hb : H % N = b) (hc : (b * 4294967296 + L) / N = c) (hr : (b * 4294967296 + L) % N = R) (hq : a * 4294967296 + c = Q) (hQ : (Q + 1) ≤ 9223372036854775808) (hup : (N - R ≤ R)) (hL0 : L = 0) (_hU0 : 0 < U) : Calls Tryz.prog 134 #[.slice A l.length cap] w fun e w' => e = .returned (.agg #[.int .i64 ((numL (-(Q + 1)))).t, .int .i64 ((numL (-(Q + 1)))).n, .string ((numL (-(Q + 1)))).s, .bool ((numL (-(Q + 1)))).b, .int .i64 ((numL (-(Q + 1)))).c]) ∧ Below w.heap.size w w' := by
 have b0 : Below w.heap.size w (w.alloc (.cells #[.int .i64 0, .int .i64 0, .string ⟨#[]⟩, .bool false, .int .i64 0] 26)) := (Below.refl _ _).alloc (Nat.le_refl _) _
 have C1 := Lib.hid (r10exact l hl hlen (w.alloc (.cells #[.int .i64 0, .int .i64 0, .string ⟨#[]⟩, .bool false, .int .i64 0] 26)) A cap (rdi_below hR b0))
 obtain ⟨hi, hhi⟩ : ∃ hi, l.sum / 4294967296 = hi := ⟨_, rfl⟩
 obtain ⟨lo, hlo⟩ : ∃ lo, l.sum % 4294967296 = lo := ⟨_, rfl⟩
 rw [hhi, hlo] at C1
 have ha0 : 0 ≤ a := by rw [← ha]; exact Int.ediv_nonneg hH (by omega)
 have hb0 : 0 ≤ b ∧ b < N := by rw [← hb]; exact ⟨Int.emod_nonneg _ (by omega), Int.emod_lt_of_pos _ hN0⟩
 have hrs : 0 ≤ b * 4294967296 + L := by omega
 have hrb : b * 4294967296 + L < 4611686018427387904 := by omega
 have hc0 : 0 ≤ c := by rw [← hc]; exact Int.ediv_nonneg hrs (by omega)
 have hcb : c < 4294967296 := by rw [← hc]; exact Int.ediv_lt_of_lt_mul hN0 (by omega)
 have hr0 : 0 ≤ R ∧ R < N := by rw [← hr]; exact ⟨Int.emod_nonneg _ (by omega), Int.emod_lt_of_pos _ hN0⟩
 have ta : H.tdiv N = a := by rw [Int.tdiv_eq_ediv_of_nonneg hH]; exact ha
 have tb : H.tmod N = b := by rw [Int.tmod_eq_emod_of_nonneg hH]; exact hb
 have tc : (b * 4294967296 + L).tdiv N = c := by rw [Int.tdiv_eq_ediv_of_nonneg hrs]; exact hc
 have tr : (b * 4294967296 + L).tmod N = R := by rw [Int.tmod_eq_emod_of_nonneg hrs]; exact hr
 have wb : IntKind.i64.wrap (b * 4294967296) = b * 4294967296 := IntWalk.i64_in _ (by omega)
 obtain ⟨T, hT⟩ : ∃ T, b * 4294967296 + L = T := ⟨_, rfl⟩
 have wT : IntKind.i64.wrap (b * 4294967296 + L) = T := by rw [hT]; exact IntWalk.i64_in _ (by omega)
 rw [hT] at tc tr hc hr
 have wa : IntKind.i64.wrap a = a := IntWalk.i64_in _ (by omega)
 have wc : IntKind.i64.wrap c = c := IntWalk.i64_in _ (by omega)
 have ua : IntKind.u64.wrap a = a := by rw [IntKind.wrap_u64]; omega
 have uc : IntKind.u64.wrap c = c := by rw [IntKind.wrap_u64]; omega
 have us : IntKind.u64.wrap (a * 4294967296) = a * 4294967296 := by rw [IntKind.wrap_u64]; omega
 have uq : IntKind.u64.wrap (a * 4294967296 + c) = Q := by rw [IntKind.wrap_u64]; omega
 have hn0 : N ≠ 0 := by omega
 have hnb : (N == 0) = false := by simp; omega
 have wd : IntKind.i64.wrap (N - R) = N - R := IntWalk.i64_in _ (by omega)
 have d0 : decide (R ≥ N - R) = true := by simp; omega
 have d1 : decide (N - R ≤ R) = true := by simp; omega
 have uu : IntKind.u64.wrap (Q + 1) = Q + 1 := by rw [IntKind.wrap_u64]; omega
 obtain ⟨z, hz⟩ : ∃ z, IntKind.i64.wrap (Q + 1) = z := ⟨_, rfl⟩
 have hz2 : IntKind.i64.wrap (-z) = -(Q + 1) := by
  rw [IntWalk.i64_left] at hz ⊢
  unfold wrap64 at hz ⊢
  omega
 have m0 : hi < 0 := by omega
 have wn : IntKind.i64.wrap (-hi) = H := by rw [show -hi = H by omega]; exact IntWalk.i64_in _ (by omega)
 obtain rfl : lo = L := by omega
 have m1 : ¬ 0 < lo := by omega
 have m2 : decide (lo > 0) = false := by simp; omega
 have CN := fun w => rvnumA (-(Q + 1)) (by omega) w
 have hsz : (l.length : Int) = N := hN
 clear hl hR hS hhi hlo hU hL hH ha hb hc hr hq hQ hT hup hHb hrs hrb hL0
 go_enter Tryz.func134, Tryz.ntmps134
 go_wp2_with fail
 refine C1.out.mono ?_
 clear C1
 rintro e w1 ⟨rfl, hb1⟩
 have hz1 := hb1.size
 simp only [World.size_alloc] at hz1
 have g1 : Below w.heap.size w w1 := b0.trans (hb1.mono (by simp))
 obtain ⟨hr0, hr1, hr2, hr3, hr4, hs0, hs1, hs2, hs3, hs4⟩ := res5a (n := w.heap.size) hb1
 have l1 : w.heap.size < w1.heap.size := by omega
 clear hb1 b0
 go_wp2
 go_quiet (fail)
 go_wp2
 go_quiet (fail)
 go_wp2_with (go_at_call 99; refine (CN _).mono ?_; rintro e w2 ⟨rfl, hb⟩; obtain ⟨hc, hf, hz⟩ := bkeep hb (w1.heap.size) (by first | omega | (simp <;> omega)))
 refine bodyPost_ret (v := .agg #[.int .i64 ((numL (-(Q + 1)))).t, .int .i64 ((numL (-(Q + 1)))).n, .string ((numL (-(Q + 1)))).s, .bool ((numL (-(Q + 1)))).b, .int .i64 ((numL (-(Q + 1)))).c]) ?_ rfl ⟨rfl, belq⟩
 simp [results, Tryz.results134, go_sem, numL, *]
theorem r10mean_n0d (l : List Int) (hl : ∀ x ∈ l, -9223372036854775808 ≤ x ∧ x ≤ 9223372036854775807) (hlen : l.length ≤ 1073741824) (w : World) (A : Option Addr) (cap : Nat) (hR : RdI w A l) (U H L N Q R a b c : Int) (hN : (l.length : Int) = N) (hS : l.sum = -U) (hU : H * 4294967296 + L = U) (hL : 0 ≤ L ∧ L < 4294967296) (hH : 0 ≤ H) (hN0 : 0 < N) (_hNb : N ≤ 1073741824) (hHb : H ≤ 2305843009213693952) (ha : H / N = a) (hb : H % N = b) (hc : (b * 4294967296 + L) / N = c) (hr : (b * 4294967296 + L) % N = R) (hq : a * 4294967296 + c = Q) (hQ : Q ≤ 9223372036854775808) (hup : ¬ (N - R ≤ R)) (hL0 : L = 0) (_hU0 : 0 < U) : Calls Tryz.prog 134 #[.slice A l.length cap] w fun e w' => e = .returned (.agg #[.int .i64 ((numL (-Q))).t, .int .i64 ((numL (-Q))).n, .string ((numL (-Q))).s, .bool ((numL (-Q))).b, .int .i64 ((numL (-Q))).c]) ∧ Below w.heap.size w w' := by
 have b0 : Below w.heap.size w (w.alloc (.cells #[.int .i64 0, .int .i64 0, .string ⟨#[]⟩, .bool false, .int .i64 0] 26)) := (Below.refl _ _).alloc (Nat.le_refl _) _
 have C1 := Lib.hid (r10exact l hl hlen (w.alloc (.cells #[.int .i64 0, .int .i64 0, .string ⟨#[]⟩, .bool false, .int .i64 0] 26)) A cap (rdi_below hR b0))
 obtain ⟨hi, hhi⟩ : ∃ hi, l.sum / 4294967296 = hi := ⟨_, rfl⟩
 obtain ⟨lo, hlo⟩ : ∃ lo, l.sum % 4294967296 = lo := ⟨_, rfl⟩
 rw [hhi, hlo] at C1
 have ha0 : 0 ≤ a := by rw [← ha]; exact Int.ediv_nonneg hH (by omega)
 have hb0 : 0 ≤ b ∧ b < N := by rw [← hb]; exact ⟨Int.emod_nonneg _ (by omega), Int.emod_lt_of_pos _ hN0⟩
 have hrs : 0 ≤ b * 4294967296 + L := by omega
 have hrb : b * 4294967296 + L < 4611686018427387904 := by omega
 have hc0 : 0 ≤ c := by rw [← hc]; exact Int.ediv_nonneg hrs (by omega)
 have hcb : c < 4294967296 := by rw [← hc]; exact Int.ediv_lt_of_lt_mul hN0 (by omega)
 have hr0 : 0 ≤ R ∧ R < N := by rw [← hr]; exact ⟨Int.emod_nonneg _ (by omega), Int.emod_lt_of_pos _ hN0⟩
 have ta : H.tdiv N = a := by rw [Int.tdiv_eq_ediv_of_nonneg hH]; exact ha
 have tb : H.tmod N = b := by rw [Int.tmod_eq_emod_of_nonneg hH]; exact hb
 have tc : (b * 4294967296 + L).tdiv N = c := by rw [Int.tdiv_eq_ediv_of_nonneg hrs]; exact hc
 have tr : (b * 4294967296 + L).tmod N = R := by rw [Int.tmod_eq_emod_of_nonneg hrs]; exact hr
 have wb : IntKind.i64.wrap (b * 4294967296) = b * 4294967296 := IntWalk.i64_in _ (by omega)
 obtain ⟨T, hT⟩ : ∃ T, b * 4294967296 + L = T := ⟨_, rfl⟩
 have wT : IntKind.i64.wrap (b * 4294967296 + L) = T := by rw [hT]; exact IntWalk.i64_in _ (by omega)
 rw [hT] at tc tr hc hr
 have wa : IntKind.i64.wrap a = a := IntWalk.i64_in _ (by omega)
 have wc : IntKind.i64.wrap c = c := IntWalk.i64_in _ (by omega)
 have ua : IntKind.u64.wrap a = a := by rw [IntKind.wrap_u64]; omega
 have uc : IntKind.u64.wrap c = c := by rw [IntKind.wrap_u64]; omega
 have us : IntKind.u64.wrap (a * 4294967296) = a * 4294967296 := by rw [IntKind.wrap_u64]; omega
 have uq : IntKind.u64.wrap (a * 4294967296 + c) = Q := by rw [IntKind.wrap_u64]; omega
 have hn0 : N ≠ 0 := by omega
 have hnb : (N == 0) = false := by simp; omega
 have wd : IntKind.i64.wrap (N - R) = N - R := IntWalk.i64_in _ (by omega)
 have d0 : decide (R ≥ N - R) = false := by simp; omega
 have d1 : decide (N - R ≤ R) = false := by simp; omega
 obtain ⟨z, hz⟩ : ∃ z, IntKind.i64.wrap Q = z := ⟨_, rfl⟩
 have hz2 : IntKind.i64.wrap (-z) = -Q := by
  rw [IntWalk.i64_left] at hz ⊢
  unfold wrap64 at hz ⊢
  omega
 have m0 : hi < 0 := by omega
 have wn : IntKind.i64.wrap (-hi) = H := by rw [show -hi = H by omega]; exact IntWalk.i64_in _ (by omega)
 obtain rfl : lo = L := by omega
 have m1 : ¬ 0 < lo := by omega
 have m2 : decide (lo > 0) = false := by simp; omega
 have CN := fun w => rvnumA (-Q) (by omega) w
 have hsz : (l.length : Int) = N := hN
 clear hl hR hS hhi hlo hU hL hH ha hb hc hr hq hQ hT hup hHb hrs hrb hL0
 go_enter Tryz.func134, Tryz.ntmps134
 go_wp2_with fail
 refine C1.out.mono ?_
 clear C1
 rintro e w1 ⟨rfl, hb1⟩
 have hz1 := hb1.size
 simp only [World.size_alloc] at hz1
 have g1 : Below w.heap.size w w1 := b0.trans (hb1.mono (by simp))
 obtain ⟨hr0, hr1, hr2, hr3, hr4, hs0, hs1, hs2, hs3, hs4⟩ := res5a (n := w.heap.size) hb1
 have l1 : w.heap.size < w1.heap.size := by omega
 clear hb1 b0
 go_wp2
 go_quiet (fail)
 go_wp2
 go_quiet (fail)
 go_wp2_with (go_at_call 99; refine (CN _).mono ?_; rintro e w2 ⟨rfl, hb⟩; obtain ⟨hc, hf, hz⟩ := bkeep hb (w1.heap.size) (by first | omega | (simp <;> omega)))
 refine bodyPost_ret (v := .agg #[.int .i64 ((numL (-Q))).t, .int .i64 ((numL (-Q))).n, .string ((numL (-Q))).s, .bool ((numL (-Q))).b, .int .i64 ((numL (-Q))).c]) ?_ rfl ⟨rfl, belq⟩
 simp [results, Tryz.results134, go_sem, numL, *]
theorem r10mean_n1u (l : List Int) (hl : ∀ x ∈ l, -9223372036854775808 ≤ x ∧ x ≤ 9223372036854775807) (hlen : l.length ≤ 1073741824) (w : World) (A : Option Addr) (cap : Nat) (hR : RdI w A l) (U H L N Q R a b c : Int) (hN : (l.length : Int) = N) (hS : l.sum = -U) (hU : H * 4294967296 + L = U) (hL : 0 ≤ L ∧ L < 4294967296) (hH : 0 ≤ H) (hN0 : 0 < N) (_hNb : N ≤ 1073741824) (hHb : H ≤ 2305843009213693952) (ha : H / N = a) (hb : H % N = b) (hc : (b * 4294967296 + L) / N = c) (hr : (b * 4294967296 + L) % N = R) (hq : a * 4294967296 + c = Q) (hQ : (Q + 1) ≤ 9223372036854775808) (hup : (N - R ≤ R)) (hL0 : 0 < L) (_hU0 : 0 < U) : Calls Tryz.prog 134 #[.slice A l.length cap] w fun e w' => e = .returned (.agg #[.int .i64 ((numL (-(Q + 1)))).t, .int .i64 ((numL (-(Q + 1)))).n, .string ((numL (-(Q + 1)))).s, .bool ((numL (-(Q + 1)))).b, .int .i64 ((numL (-(Q + 1)))).c]) ∧ Below w.heap.size w w' := by
 have b0 : Below w.heap.size w (w.alloc (.cells #[.int .i64 0, .int .i64 0, .string ⟨#[]⟩, .bool false, .int .i64 0] 26)) := (Below.refl _ _).alloc (Nat.le_refl _) _
 have C1 := Lib.hid (r10exact l hl hlen (w.alloc (.cells #[.int .i64 0, .int .i64 0, .string ⟨#[]⟩, .bool false, .int .i64 0] 26)) A cap (rdi_below hR b0))
 obtain ⟨hi, hhi⟩ : ∃ hi, l.sum / 4294967296 = hi := ⟨_, rfl⟩
 obtain ⟨lo, hlo⟩ : ∃ lo, l.sum % 4294967296 = lo := ⟨_, rfl⟩
 rw [hhi, hlo] at C1
 have ha0 : 0 ≤ a := by rw [← ha]; exact Int.ediv_nonneg hH (by omega)
 have hb0 : 0 ≤ b ∧ b < N := by rw [← hb]; exact ⟨Int.emod_nonneg _ (by omega), Int.emod_lt_of_pos _ hN0⟩
 have hrs : 0 ≤ b * 4294967296 + L := by omega
 have hrb : b * 4294967296 + L < 4611686018427387904 := by omega
 have hc0 : 0 ≤ c := by rw [← hc]; exact Int.ediv_nonneg hrs (by omega)
 have hcb : c < 4294967296 := by rw [← hc]; exact Int.ediv_lt_of_lt_mul hN0 (by omega)
 have hr0 : 0 ≤ R ∧ R < N := by rw [← hr]; exact ⟨Int.emod_nonneg _ (by omega), Int.emod_lt_of_pos _ hN0⟩
 have ta : H.tdiv N = a := by rw [Int.tdiv_eq_ediv_of_nonneg hH]; exact ha
 have tb : H.tmod N = b := by rw [Int.tmod_eq_emod_of_nonneg hH]; exact hb
 have tc : (b * 4294967296 + L).tdiv N = c := by rw [Int.tdiv_eq_ediv_of_nonneg hrs]; exact hc
 have tr : (b * 4294967296 + L).tmod N = R := by rw [Int.tmod_eq_emod_of_nonneg hrs]; exact hr
 have wb : IntKind.i64.wrap (b * 4294967296) = b * 4294967296 := IntWalk.i64_in _ (by omega)
 obtain ⟨T, hT⟩ : ∃ T, b * 4294967296 + L = T := ⟨_, rfl⟩
 have wT : IntKind.i64.wrap (b * 4294967296 + L) = T := by rw [hT]; exact IntWalk.i64_in _ (by omega)
 rw [hT] at tc tr hc hr
 have wa : IntKind.i64.wrap a = a := IntWalk.i64_in _ (by omega)
 have wc : IntKind.i64.wrap c = c := IntWalk.i64_in _ (by omega)
 have ua : IntKind.u64.wrap a = a := by rw [IntKind.wrap_u64]; omega
 have uc : IntKind.u64.wrap c = c := by rw [IntKind.wrap_u64]; omega
 have us : IntKind.u64.wrap (a * 4294967296) = a * 4294967296 := by rw [IntKind.wrap_u64]; omega
 have uq : IntKind.u64.wrap (a * 4294967296 + c) = Q := by rw [IntKind.wrap_u64]; omega
 have hn0 : N ≠ 0 := by omega
 have hnb : (N == 0) = false := by simp; omega
 have wd : IntKind.i64.wrap (N - R) = N - R := IntWalk.i64_in _ (by omega)
 have d0 : decide (R ≥ N - R) = true := by simp; omega
 have d1 : decide (N - R ≤ R) = true := by simp; omega
 have uu : IntKind.u64.wrap (Q + 1) = Q + 1 := by rw [IntKind.wrap_u64]; omega
 obtain ⟨z, hz⟩ : ∃ z, IntKind.i64.wrap (Q + 1) = z := ⟨_, rfl⟩
 have hz2 : IntKind.i64.wrap (-z) = -(Q + 1) := by
  rw [IntWalk.i64_left] at hz ⊢
  unfold wrap64 at hz ⊢
  omega
 have m0 : hi < 0 := by omega
 have wn : IntKind.i64.wrap (-hi) = H + 1 := by rw [show -hi = H + 1 by omega]; exact IntWalk.i64_in _ (by omega)
 have wm : IntKind.i64.wrap (H + 1 - 1) = H := by rw [show H + 1 - 1 = H by omega]; exact IntWalk.i64_in _ (by omega)
 have wm2 : IntKind.i64.wrap H = H := IntWalk.i64_in _ (by omega)
 have wl : IntKind.i64.wrap (4294967296 - lo) = L := by rw [show 4294967296 - lo = L by omega]; exact IntWalk.i64_in _ (by omega)
 have m1 : 0 < lo := by omega
 have m2 : decide (lo > 0) = true := by simp; omega
 have CN := fun w => rvnumA (-(Q + 1)) (by omega) w
 have hsz : (l.length : Int) = N := hN
 clear hl hR hS hhi hlo hU hL hH ha hb hc hr hq hQ hT hup hHb hrs hrb hL0
 go_enter Tryz.func134, Tryz.ntmps134
 go_wp2_with fail
 refine C1.out.mono ?_
 clear C1
 rintro e w1 ⟨rfl, hb1⟩
 have hz1 := hb1.size
 simp only [World.size_alloc] at hz1
 have g1 : Below w.heap.size w w1 := b0.trans (hb1.mono (by simp))
 obtain ⟨hr0, hr1, hr2, hr3, hr4, hs0, hs1, hs2, hs3, hs4⟩ := res5a (n := w.heap.size) hb1
 have l1 : w.heap.size < w1.heap.size := by omega
 clear hb1 b0
 go_wp2
 go_quiet (fail)
 go_wp2
 go_quiet (fail)
 go_wp2_with (go_at_call 99; refine (CN _).mono ?_; rintro e w2 ⟨rfl, hb⟩; obtain ⟨hc, hf, hz⟩ := bkeep hb (w1.heap.size) (by first | omega | (simp <;> omega)))
 refine bodyPost_ret (v := .agg #[.int .i64 ((numL (-(Q + 1)))).t, .int .i64 ((numL (-(Q + 1)))).n, .string ((numL (-(Q + 1)))).s, .bool ((numL (-(Q + 1)))).b, .int .i64 ((numL (-(Q + 1)))).c]) ?_ rfl ⟨rfl, belq⟩
 simp [results, Tryz.results134, go_sem, numL, *]
theorem r10mean_n1d (l : List Int) (hl : ∀ x ∈ l, -9223372036854775808 ≤ x ∧ x ≤ 9223372036854775807) (hlen : l.length ≤ 1073741824) (w : World) (A : Option Addr) (cap : Nat) (hR : RdI w A l) (U H L N Q R a b c : Int) (hN : (l.length : Int) = N) (hS : l.sum = -U) (hU : H * 4294967296 + L = U) (hL : 0 ≤ L ∧ L < 4294967296) (hH : 0 ≤ H) (hN0 : 0 < N) (_hNb : N ≤ 1073741824) (hHb : H ≤ 2305843009213693952) (ha : H / N = a) (hb : H % N = b) (hc : (b * 4294967296 + L) / N = c) (hr : (b * 4294967296 + L) % N = R) (hq : a * 4294967296 + c = Q) (hQ : Q ≤ 9223372036854775808) (hup : ¬ (N - R ≤ R)) (hL0 : 0 < L) (_hU0 : 0 < U) : Calls Tryz.prog 134 #[.slice A l.length cap] w fun e w' => e = .returned (.agg #[.int .i64 ((numL (-Q))).t, .int .i64 ((numL (-Q))).n, .string ((numL (-Q))).s, .bool ((numL (-Q))).b, .int .i64 ((numL (-Q))).c]) ∧ Below w.heap.size w w' := by
 have b0 : Below w.heap.size w (w.alloc (.cells #[.int .i64 0, .int .i64 0, .string ⟨#[]⟩, .bool false, .int .i64 0] 26)) := (Below.refl _ _).alloc (Nat.le_refl _) _
 have C1 := Lib.hid (r10exact l hl hlen (w.alloc (.cells #[.int .i64 0, .int .i64 0, .string ⟨#[]⟩, .bool false, .int .i64 0] 26)) A cap (rdi_below hR b0))
 obtain ⟨hi, hhi⟩ : ∃ hi, l.sum / 4294967296 = hi := ⟨_, rfl⟩
 obtain ⟨lo, hlo⟩ : ∃ lo, l.sum % 4294967296 = lo := ⟨_, rfl⟩
 rw [hhi, hlo] at C1
 have ha0 : 0 ≤ a := by rw [← ha]; exact Int.ediv_nonneg hH (by omega)
 have hb0 : 0 ≤ b ∧ b < N := by rw [← hb]; exact ⟨Int.emod_nonneg _ (by omega), Int.emod_lt_of_pos _ hN0⟩
 have hrs : 0 ≤ b * 4294967296 + L := by omega
 have hrb : b * 4294967296 + L < 4611686018427387904 := by omega
 have hc0 : 0 ≤ c := by rw [← hc]; exact Int.ediv_nonneg hrs (by omega)
 have hcb : c < 4294967296 := by rw [← hc]; exact Int.ediv_lt_of_lt_mul hN0 (by omega)
 have hr0 : 0 ≤ R ∧ R < N := by rw [← hr]; exact ⟨Int.emod_nonneg _ (by omega), Int.emod_lt_of_pos _ hN0⟩
 have ta : H.tdiv N = a := by rw [Int.tdiv_eq_ediv_of_nonneg hH]; exact ha
 have tb : H.tmod N = b := by rw [Int.tmod_eq_emod_of_nonneg hH]; exact hb
 have tc : (b * 4294967296 + L).tdiv N = c := by rw [Int.tdiv_eq_ediv_of_nonneg hrs]; exact hc
 have tr : (b * 4294967296 + L).tmod N = R := by rw [Int.tmod_eq_emod_of_nonneg hrs]; exact hr
 have wb : IntKind.i64.wrap (b * 4294967296) = b * 4294967296 := IntWalk.i64_in _ (by omega)
 obtain ⟨T, hT⟩ : ∃ T, b * 4294967296 + L = T := ⟨_, rfl⟩
 have wT : IntKind.i64.wrap (b * 4294967296 + L) = T := by rw [hT]; exact IntWalk.i64_in _ (by omega)
 rw [hT] at tc tr hc hr
 have wa : IntKind.i64.wrap a = a := IntWalk.i64_in _ (by omega)
 have wc : IntKind.i64.wrap c = c := IntWalk.i64_in _ (by omega)
 have ua : IntKind.u64.wrap a = a := by rw [IntKind.wrap_u64]; omega
 have uc : IntKind.u64.wrap c = c := by rw [IntKind.wrap_u64]; omega
 have us : IntKind.u64.wrap (a * 4294967296) = a * 4294967296 := by rw [IntKind.wrap_u64]; omega
 have uq : IntKind.u64.wrap (a * 4294967296 + c) = Q := by rw [IntKind.wrap_u64]; omega
 have hn0 : N ≠ 0 := by omega
 have hnb : (N == 0) = false := by simp; omega
 have wd : IntKind.i64.wrap (N - R) = N - R := IntWalk.i64_in _ (by omega)
 have d0 : decide (R ≥ N - R) = false := by simp; omega
 have d1 : decide (N - R ≤ R) = false := by simp; omega
 obtain ⟨z, hz⟩ : ∃ z, IntKind.i64.wrap Q = z := ⟨_, rfl⟩
 have hz2 : IntKind.i64.wrap (-z) = -Q := by
  rw [IntWalk.i64_left] at hz ⊢
  unfold wrap64 at hz ⊢
  omega
 have m0 : hi < 0 := by omega
 have wn : IntKind.i64.wrap (-hi) = H + 1 := by rw [show -hi = H + 1 by omega]; exact IntWalk.i64_in _ (by omega)
 have wm : IntKind.i64.wrap (H + 1 - 1) = H := by rw [show H + 1 - 1 = H by omega]; exact IntWalk.i64_in _ (by omega)
 have wm2 : IntKind.i64.wrap H = H := IntWalk.i64_in _ (by omega)
 have wl : IntKind.i64.wrap (4294967296 - lo) = L := by rw [show 4294967296 - lo = L by omega]; exact IntWalk.i64_in _ (by omega)
 have m1 : 0 < lo := by omega
 have m2 : decide (lo > 0) = true := by simp; omega
 have CN := fun w => rvnumA (-Q) (by omega) w
 have hsz : (l.length : Int) = N := hN
 clear hl hR hS hhi hlo hU hL hH ha hb hc hr hq hQ hT hup hHb hrs hrb hL0
 go_enter Tryz.func134, Tryz.ntmps134
 go_wp2_with fail
 refine C1.out.mono ?_
 clear C1
 rintro e w1 ⟨rfl, hb1⟩
 have hz1 := hb1.size
 simp only [World.size_alloc] at hz1
 have g1 : Below w.heap.size w w1 := b0.trans (hb1.mono (by simp))
 obtain ⟨hr0, hr1, hr2, hr3, hr4, hs0, hs1, hs2, hs3, hs4⟩ := res5a (n := w.heap.size) hb1
 have l1 : w.heap.size < w1.heap.size := by omega
 clear hb1 b0
 go_wp2
 go_quiet (fail)
 go_wp2
 go_quiet (fail)
 go_wp2_with (go_at_call 99; refine (CN _).mono ?_; rintro e w2 ⟨rfl, hb⟩; obtain ⟨hc, hf, hz⟩ := bkeep hb (w1.heap.size) (by first | omega | (simp <;> omega)))
 refine bodyPost_ret (v := .agg #[.int .i64 ((numL (-Q))).t, .int .i64 ((numL (-Q))).n, .string ((numL (-Q))).s, .bool ((numL (-Q))).b, .int .i64 ((numL (-Q))).c]) ?_ rfl ⟨rfl, belq⟩
 simp [results, Tryz.results134, go_sem, numL, *]
theorem r10mean (l : List Int) (hl : ∀ x ∈ l, -9223372036854775808 ≤ x ∧ x ≤ 9223372036854775807) (hlen : l.length ≤ 1073741824) (w : World) (A : Option Addr) (cap : Nat) (hR : RdI w A l) (h0 : l ≠ []) : Calls Tryz.prog 134 #[.slice A l.length cap] w fun e w' => e = .returned (.agg #[.int .i64 ((numL (meanL l))).t, .int .i64 ((numL (meanL l))).n, .string ((numL (meanL l))).s, .bool ((numL (meanL l))).b, .int .i64 ((numL (meanL l))).c]) ∧ Below w.heap.size w w' := by
 have hn : 0 < l.length := List.length_pos_iff.2 h0
 have hs1 := sum_le (fun x hx => (hl x hx).2)
 have hs2 := le_sum (fun x hx => (hl x hx).1)
 obtain ⟨N, hN⟩ : ∃ N : Int, (l.length : Int) = N := ⟨_, rfl⟩
 rw [hN] at hs1 hs2
 obtain ⟨U, hU⟩ : ∃ U : Int, (l.sum.natAbs : Int) = U := ⟨_, rfl⟩
 have hn0 : 0 < N := by omega
 have h2 := mean_two U N hn0
 obtain ⟨H, hH⟩ : ∃ H, U / 4294967296 = H := ⟨_, rfl⟩
 obtain ⟨L, hL⟩ : ∃ L, U % 4294967296 = L := ⟨_, rfl⟩
 obtain ⟨Q, hq⟩ : ∃ Q, U / N = Q := ⟨_, rfl⟩
 obtain ⟨R, hr⟩ : ∃ R, U % N = R := ⟨_, rfl⟩
 obtain ⟨a, ha⟩ : ∃ a, H / N = a := ⟨_, rfl⟩
 obtain ⟨b, hb⟩ : ∃ b, H % N = b := ⟨_, rfl⟩
 rw [hH, hL, ha, hb, hq, hr] at h2
 obtain ⟨h3, h4⟩ := h2
 obtain ⟨c, hc⟩ : ∃ c, (b * 4294967296 + L) / N = c := ⟨_, rfl⟩
 rw [hc] at h3
 have hNb : N ≤ 1073741824 := by omega
 have hHb : H ≤ 2305843009213693952 := by omega
 by_cases hm : l.sum < 0
 ·have hQ := meanU_le (s := U) (n := N) (b := 9223372036854775808) (by omega) (by omega)
  have em : meanL l = - meanU U N := by unfold meanL; rw [if_pos hm, hN, show -l.sum = U by omega]
  rw [em]
  unfold meanU at hQ ⊢
  rw [hq, hr] at hQ ⊢
  by_cases hup : N - R ≤ R
  ·rw [if_pos hup] at hQ ⊢
   by_cases hl0 : L = 0
   ·exact r10mean_n0u l hl hlen w A cap hR U H L N Q R a b c hN (by omega) (by omega) (by omega) (by omega) hn0 hNb hHb ha hb hc h4 h3 hQ hup hl0 (by omega)
   ·exact r10mean_n1u l hl hlen w A cap hR U H L N Q R a b c hN (by omega) (by omega) (by omega) (by omega) hn0 hNb hHb ha hb hc h4 h3 hQ hup (by omega) (by omega)
  ·rw [if_neg hup, Int.add_zero] at hQ ⊢
   by_cases hl0 : L = 0
   ·exact r10mean_n0d l hl hlen w A cap hR U H L N Q R a b c hN (by omega) (by omega) (by omega) (by omega) hn0 hNb hHb ha hb hc h4 h3 hQ hup hl0 (by omega)
   ·exact r10mean_n1d l hl hlen w A cap hR U H L N Q R a b c hN (by omega) (by omega) (by omega) (by omega) hn0 hNb hHb ha hb hc h4 h3 hQ hup (by omega) (by omega)
 ·have hQ := meanU_le (s := U) (n := N) (b := 9223372036854775807) (by omega) (by omega)
  have em : meanL l = meanU U N := by unfold meanL; rw [if_neg hm, hN, show l.sum = U by omega]
  rw [em]
  unfold meanU at hQ ⊢
  rw [hq, hr] at hQ ⊢
  by_cases hup : N - R ≤ R
  ·rw [if_pos hup] at hQ ⊢
   exact r10mean_pu l hl hlen w A cap hR U H L N Q R a b c hN (by omega) (by omega) (by omega) (by omega) hn0 hNb hHb ha hb hc h4 h3 hQ hup
  ·rw [if_neg hup, Int.add_zero] at hQ ⊢
   exact r10mean_pd l hl hlen w A cap hR U H L N Q R a b c hN (by omega) (by omega) (by omega) (by omega) hn0 hNb hHb ha hb hc h4 h3 hQ hup
end Go.Proofs.YtgmhifafbebjfaaGreatDoor
