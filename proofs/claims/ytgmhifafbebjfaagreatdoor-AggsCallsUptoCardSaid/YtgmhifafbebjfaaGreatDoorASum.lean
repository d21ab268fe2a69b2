/-
 aggs: sum, fit, SUM.
-/
import Derived.Test.YtgmhifafbebjfaaGreatDoorMg8
import Derived.Laws.Externs
import Derived.IntWalk
set_option maxRecDepth 100000
set_option maxHeartbeats 32000000
namespace Go.Proofs.YtgmhifafbebjfaaGreatDoor
open Go.RowKit

theorem add64_int (x y : Int) (hx : 0 ≤ x ∧ x < 18446744073709551616) (hy : 0 ≤ y ∧ y < 18446744073709551616) (sm cr : Int) (h1 : (x + y) % 18446744073709551616 = sm) (h2 : (x + y) / 18446744073709551616 = cr) (w : World) : Sem.run Tryz.prog (callFunc 172 #[.int .u64 x, .int .u64 y, .int .u64 0]) w = .ok (.value (.tuple #[.int .u64 sm, .int .u64 cr])) w := by
 rw [run_callFunc_extern Tryz.func172 (by kernel_rfl) (by kernel_rfl) (by kernel_rfl) (e := add64Entry) (by kernel_rfl), run_add64 _ _ 0 (by omega) (by omega) (by omega) (by omega)]
 rw [Int.add_zero, h1, h2]
 rfl
def RdI (w : World) (A : Option Addr) (l : List Int) : Prop := RdB w w.heap.size A 1 (l.map fun x => [Value.int .i64 x])
theorem asum_any (l : List Int) (hl : ∀ x ∈ l, -9223372036854775808 ≤ x ∧ x ≤ 9223372036854775807) (hlen : l.length ≤ 2932031007402) (w : World) (A : Option Addr) (cap : Nat) (hR : RdI w A l) : Calls Tryz.prog 103 #[.slice A l.length cap] w fun e w' => e = .returned (.agg #[.int .i64 (l.sum / 18446744073709551616), .int .u64 (l.sum % 18446744073709551616)]) ∧ Below w.heap.size w w' := by
 have hR' := Lib.hid hR
 have hl' := Lib.hid hl
 clear hR hl
 have b0 : Below w.heap.size w ((w.alloc (.cells #[.int .i64 0, .int .u64 0] 121)).alloc (.cells #[.int .i64 0, .int .u64 0] 121)) := ((Below.refl _ _).alloc (Nat.le_refl _) _).alloc (by simp) _
 go_enter Tryz.func103, Tryz.ntmps103
 go_wp2
 go_loopw [10] (fun i wr => ∃ (k : Nat) (S : Int), k ≤ l.length ∧ i = .int .i64 (k : Int) ∧ Hid ((l.take k).sum = S) ∧ (-(k : Int) * 9223372036854775808 ≤ S ∧ S ≤ (k : Int) * 9223372036854775808) ∧ wr.cell? ⟨w.heap.size + 1, 0, none⟩ = some (.int .i64 (S / 18446744073709551616)) ∧ wr.cell? ⟨w.heap.size + 1, 1, none⟩ = some (.int .u64 (S % 18446744073709551616)) ∧ wr.frozen? ⟨w.heap.size + 1, 0, none⟩ = false ∧ wr.frozen? ⟨w.heap.size + 1, 1, none⟩ = false ∧ Below (w.heap.size + 1) ((w.alloc (.cells #[.int .i64 0, .int .u64 0] 121)).alloc (.cells #[.int .i64 0, .int .u64 0] 121)) wr ∧ w.heap.size + 2 ≤ wr.heap.size) (fun i _ => l.length - (intOf i).toNat)
 case atStart => exact ⟨0, 0, Nat.zero_le _, rfl, Lib.hid rfl, by omega, by simp, by simp, by simp, by simp, Below.refl _ _, by simp⟩
 case round =>
  obtain ⟨k, S, hk, rfl, hS, hSb, c0, c1, f0, f1, hbr, hz⟩ := hrel
  have g0 : Below w.heap.size w wr := b0.trans (hbr.mono (by omega))
  by_cases hlt : k < l.length
  ·obtain ⟨x, hx⟩ : ∃ x, l[k]? = some x := ⟨_, List.getElem?_eq_getElem hlt⟩
   obtain ⟨ab, ao, hA2, hab, hcell⟩ := (hR'.out.below g0) k [.int .i64 x] (by rw [List.getElem?_map, hx]; rfl)
   obtain rfl : A = some ⟨ab, ao, none⟩ := hA2
   have hck : wr.cell? ⟨ab, ao + k, none⟩ = some (.int .i64 x) := by simpa using hcell 0 _ rfl
   have hxb := hl'.out x (List.mem_of_getElem? hx)
   have hts : Hid ((l.take (k + 1)).sum = S + x) := Lib.hid (by rw [List.take_add_one, hx, List.sum_append, hS.out]; simp)
   have hkl : (k : Int) < (l.length : Int) := by omega
   have hkb : (k : Int) ≤ 2932031007402 := by omega
   have hne : ab ≠ w.heap.size + 1 := by omega
   obtain ⟨lo, hlo⟩ : ∃ lo, S % 18446744073709551616 = lo := ⟨_, rfl⟩
   obtain ⟨hi, hhi⟩ : ∃ hi, S / 18446744073709551616 = hi := ⟨_, rfl⟩
   obtain ⟨u, hu⟩ : ∃ u, x % 18446744073709551616 = u := ⟨_, rfl⟩
   obtain ⟨sm, hsm⟩ : ∃ sm, (lo + u) % 18446744073709551616 = sm := ⟨_, rfl⟩
   obtain ⟨cr, hcr⟩ : ∃ cr, (lo + u) / 18446744073709551616 = cr := ⟨_, rfl⟩
   obtain ⟨sg, hsg⟩ : ∃ sg, x / 9223372036854775808 = sg := ⟨_, rfl⟩
   have A2 := add64_int lo u (by omega) (by omega) sm cr hsm hcr wr
   have e1 : Hid (hi + sg + cr = (S + x) / 18446744073709551616) := Lib.hid (by omega)
   have e2 : Hid (sm = (S + x) % 18446744073709551616) := Lib.hid (by omega)
   have hSb2 : -((k : Int) + 1) * 9223372036854775808 ≤ S + x ∧ S + x ≤ ((k : Int) + 1) * 9223372036854775808 := by omega
   have w1 : IntKind.i64.wrap (hi + sg) = hi + sg := IntWalk.i64_in _ (by omega)
   have w2 : IntKind.i64.wrap (hi + sg + cr) = hi + sg + cr := IntWalk.i64_in _ (by omega)
   have w3 : IntKind.i64.wrap cr = cr := IntWalk.i64_in _ (by omega)
   have hwx : IntKind.u64.wrap x = u := by rw [IntKind.wrap_u64]; exact hu
   rw [hlo] at c1
   rw [hhi] at c0
   have hsmb : 0 ≤ sm ∧ sm < 18446744073709551616 := by omega
   clear hx hcell hSb hlo hhi hsm hcr hu
   go_wp2
   go_roundw
   case rel =>
    refine ⟨k + 1, S + x, by omega, by go_num, hts, hSb2, ?_, ?_, ?_, ?_, ?_, ?_⟩
    ·rw [← e1.out]; exact (World.cell?_setCell_other _ _ _ _ (by simp)).trans (World.cell?_setCell_same' _ _ _ (by rw [c0]; rfl))
    ·rw [← e2.out]; exact World.cell?_setCell_same' _ _ _ (by rw [World.cell?_setCell_other _ _ _ _ (by simp), c1]; rfl)
    ·simp [f0]
    ·simp [f1]
    ·exact (by (repeat (first | (with_reducible assumption) | (with_reducible refine Below.setCell ?_ (by simp) _))))
    ·simp; omega
   case measure => simp [intOf]; omega
  ·obtain rfl : k = l.length := by omega
   have hS2 : Hid (l.sum = S) := Lib.hid (by rw [← hS.out, List.take_length])
   have r0 : wr.cell? ⟨w.heap.size, 0, none⟩ = some (.int .i64 0) := by rw [hbr.cell (by dsimp only; omega), World.cell?_alloc_lt _ _ ⟨w.heap.size, 0, none⟩ (by simp)]; simp
   have r1 : wr.cell? ⟨w.heap.size, 1, none⟩ = some (.int .u64 0) := by rw [hbr.cell (by dsimp only; omega), World.cell?_alloc_lt _ _ ⟨w.heap.size, 1, none⟩ (by simp)]; simp
   have s0 : wr.frozen? ⟨w.heap.size, 0, none⟩ = false := by rw [hbr.frozen (by dsimp only; omega)]; simp
   have s1 : wr.frozen? ⟨w.heap.size, 1, none⟩ = false := by rw [hbr.frozen (by dsimp only; omega)]; simp
   go_wp2
   refine bodyPost_ret (v := .agg #[.int .i64 (S / 18446744073709551616), .int .u64 (S % 18446744073709551616)]) ?_ rfl ⟨by rw [hS2.out], belq⟩
   simp [results, Tryz.results103, go_sem, *]
def fitL (S : Int) : VL := if -9223372036854775808 ≤ S ∧ S ≤ 9223372036854775807 then numL S else errL 2
theorem wrap_low (S : Int) : IntKind.i64.wrap (S % 18446744073709551616) = (S + 9223372036854775808) % 18446744073709551616 - 9223372036854775808 := by
 rw [IntWalk.i64_left]
 unfold wrap64
 omega
theorem afit_yes (S : Int) (hS : -9223372036854775808 ≤ S ∧ S ≤ 9223372036854775807) (w : World) : Calls Tryz.prog 102 #[.agg #[.int .i64 (S / 18446744073709551616), .int .u64 (S % 18446744073709551616)]] w fun e w' => e = .returned (.agg #[.int .i64 (numL S).t, .int .i64 (numL S).n, .string (numL S).s, .bool (numL S).b, .int .i64 (numL S).c]) ∧ Below w.heap.size w w' := by
 obtain ⟨lo, hlo⟩ : ∃ lo, S % 18446744073709551616 = lo := ⟨_, rfl⟩
 obtain ⟨hi, hhi⟩ : ∃ hi, S / 18446744073709551616 = hi := ⟨_, rfl⟩
 have hw : IntKind.i64.wrap lo = S := by rw [← hlo, wrap_low]; omega
 have hg : S / 9223372036854775808 = hi := by omega
 rw [hlo, hhi]
 clear hlo hhi
 go_enter Tryz.func102, Tryz.ntmps102
 go_wp2_with (go_at_call 141; refine (vnum_any S hS _).mono ?_; rintro e w1 ⟨rfl, hb⟩; obtain ⟨hc, hf, hz⟩ := bkeep hb (w.heap.size + 2) (by first | omega | (simp <;> omega)))
 refine bodyPost_ret (v := .agg #[.int .i64 (numL S).t, .int .i64 (numL S).n, .string (numL S).s, .bool (numL S).b, .int .i64 (numL S).c]) ?_ rfl ⟨rfl, belq⟩
 simp [results, Tryz.results102, go_sem, numL, *]
theorem afit_no (S : Int) (hS : ¬ (-9223372036854775808 ≤ S ∧ S ≤ 9223372036854775807)) (w : World) : Calls Tryz.prog 102 #[.agg #[.int .i64 (S / 18446744073709551616), .int .u64 (S % 18446744073709551616)]] w fun e w' => e = .returned (.agg #[.int .i64 4, .int .i64 0, .string ⟨#[]⟩, .bool false, .int .i64 (errC 2)]) ∧ Below w.heap.size w w' := by
 obtain ⟨lo, hlo⟩ : ∃ lo, S % 18446744073709551616 = lo := ⟨_, rfl⟩
 obtain ⟨hi, hhi⟩ : ∃ hi, S / 18446744073709551616 = hi := ⟨_, rfl⟩
 obtain ⟨y, hy⟩ : ∃ y, (S + 9223372036854775808) % 18446744073709551616 - 9223372036854775808 = y := ⟨_, rfl⟩
 have hw : IntKind.i64.wrap lo = y := by rw [← hlo, wrap_low]; exact hy
 obtain ⟨g, hg⟩ : ∃ g, y / 9223372036854775808 = g := ⟨_, rfl⟩
 have hne : ¬ hi = g := by omega
 rw [hlo, hhi]
 clear hlo hhi hy hS
 go_enter Tryz.func102, Tryz.ntmps102
 go_wp2_with (go_at_call 11; refine (verr_any 2 _).mono ?_; rintro e w1 ⟨rfl, hb⟩; obtain ⟨hc, hf, hz⟩ := bkeep hb (w.heap.size + 2) (by first | omega | (simp <;> omega)))
 refine bodyPost_ret (v := .agg #[.int .i64 4, .int .i64 0, .string ⟨#[]⟩, .bool false, .int .i64 (errC 2)]) ?_ rfl ⟨rfl, belq⟩
 simp [results, Tryz.results102, go_sem, *]
theorem afit_any (S : Int) (w : World) : Calls Tryz.prog 102 #[.agg #[.int .i64 (S / 18446744073709551616), .int .u64 (S % 18446744073709551616)]] w fun e w' => e = .returned (.agg #[.int .i64 (fitL S).t, .int .i64 (fitL S).n, .string (fitL S).s, .bool (fitL S).b, .int .i64 (fitL S).c]) ∧ Below w.heap.size w w' := by
 unfold fitL
 by_cases h : -9223372036854775808 ≤ S ∧ S ≤ 9223372036854775807
 ·rw [if_pos h]; exact afit_yes S h w
 ·rw [if_neg h]; exact afit_no S h w
theorem asumf_any (l : List Int) (hl : ∀ x ∈ l, -9223372036854775808 ≤ x ∧ x ≤ 9223372036854775807) (hlen : l.length ≤ 2932031007402) (w : World) (A : Option Addr) (cap : Nat) (hR : RdI w A l) : Calls Tryz.prog 101 #[.slice A l.length cap] w fun e w' => e = .returned (.agg #[.int .i64 (fitL l.sum).t, .int .i64 (fitL l.sum).n, .string (fitL l.sum).s, .bool (fitL l.sum).b, .int .i64 (fitL l.sum).c]) ∧ Below w.heap.size w w' := by
 have C := Lib.hid (asum_any l hl hlen (w.alloc (.cells #[.int .i64 0, .int .i64 0, .string ⟨#[]⟩, .bool false, .int .i64 0] 26)) A cap (RdB.mono (RdB.below hR ((Below.refl _ _).alloc (Nat.le_refl _) _)) (by simp)))
 generalize l.sum = S at *
 clear hR hl
 go_enter Tryz.func101, Tryz.ntmps101
 go_wp2_with fail
 refine C.out.mono ?_
 clear C
 rintro e w1 ⟨rfl, hb1⟩
 obtain ⟨hc, hf, hz⟩ := bkeep hb1 (w.heap.size + 1) (by simp)
 go_wp2_with (go_at_call 102; refine (afit_any S _).mono ?_; rintro e w2 ⟨rfl, hb2⟩; obtain ⟨hc2, hf2, hz2⟩ := bkeep hb2 (w.heap.size + 1) (by first | omega | (simp <;> omega)))
 refine bodyPost_ret (v := .agg #[.int .i64 (fitL S).t, .int .i64 (fitL S).n, .string (fitL S).s, .bool (fitL S).b, .int .i64 (fitL S).c]) ?_ rfl ⟨rfl, belq⟩
 simp [results, Tryz.results101, go_sem, *]
end Go.Proofs.YtgmhifafbebjfaaGreatDoor
