/-
 the document's aggs: counts, prod; aggs: the product.
-/
import Derived.Test.YtgmhifafbebjfaaGreatDoorMg29
set_option maxRecDepth 100000
set_option maxHeartbeats 32000000
namespace Go.Proofs.YtgmhifafbebjfaaGreatDoor
open Go.RowKit

theorem r10counts_COUNT (l : List VL) (hlen : l.length ≤ 1073741824) (w : World) (A : Option Addr) (cap : Nat) (hR : RdB w w.heap.size A 5 (l.map VL.cs)) : Calls Tryz.prog 41 #[.string ⟨#[67, 79, 85, 78, 84]⟩, .slice A l.length cap] w fun e w' => e = .returned (.agg #[.int .i64 ((numL ((l.countP (fun v => decide (v.t = 1)) : Nat) * 10000))).t, .int .i64 ((numL ((l.countP (fun v => decide (v.t = 1)) : Nat) * 10000))).n, .string ((numL ((l.countP (fun v => decide (v.t = 1)) : Nat) * 10000))).s, .bool ((numL ((l.countP (fun v => decide (v.t = 1)) : Nat) * 10000))).b, .int .i64 ((numL ((l.countP (fun v => decide (v.t = 1)) : Nat) * 10000))).c]) ∧ Below w.heap.size w w' := by
 have hR' := Lib.hid hR
 clear hR
 have b0 : Below w.heap.size w (w.alloc (.cells #[.int .i64 0, .int .i64 0, .string ⟨#[]⟩, .bool false, .int .i64 0] 26)) := (Below.refl _ _).alloc (Nat.le_refl _) _
 obtain ⟨r, hr⟩ : ∃ r, numL ((l.countP (fun v => decide (v.t = 1)) : Nat) * 10000) = r := ⟨_, rfl⟩
 rw [hr]
 have hr' := Lib.hid hr
 clear hr
 go_enter Tryz.func41, Tryz.ntmps41
 go_wp2
 go_loopw [5, 6] (fun n i wr => ∃ k : Nat, k ≤ l.length ∧ i = .int .i64 (k : Int) ∧ n = .int .i64 ((l.take k).countP (fun v => decide (v.t = 1)) : Nat) ∧ Below (w.heap.size + 1) (w.alloc (.cells #[.int .i64 0, .int .i64 0, .string ⟨#[]⟩, .bool false, .int .i64 0] 26)) wr) (fun _ i _ => l.length - (intOf i).toNat)
 case atStart => exact ⟨0, Nat.zero_le _, rfl, by simp, Below.refl _ _⟩
 case round =>
  obtain ⟨k, hk, rfl, rfl, hbr⟩ := hrel
  have hzr := hbr.size
  simp only [World.size_alloc] at hzr
  have g1 : Below w.heap.size w wr := b0.trans (hbr.mono (by omega))
  have hl0 : w.heap.size < wr.heap.size := by omega
  by_cases hlt : k < l.length
  ·obtain ⟨y, hy⟩ : ∃ y, l[k]? = some y := ⟨_, List.getElem?_eq_getElem hlt⟩
   obtain ⟨ab, ao, hA2, hab, hcell⟩ := (hR'.out.below g1) k y.cs (by rw [List.getElem?_map, hy]; rfl)
   obtain rfl : A = some ⟨ab, ao, none⟩ := hA2
   have hc0 : wr.cell? ⟨ab, ao + k * 5, none⟩ = some (.int .i64 y.t) := hcell 0 _ rfl
   have hkl : (k : Int) < (l.length : Int) := by omega
   have hk0 : (0 : Int) ≤ (k : Int) := by omega
   have hwk : IntKind.i64.wrap ((k : Int) + 1) = (k : Int) + 1 := IntWalk.i64_in _ (by omega)
   have hcnt : Hid ((l.take (k + 1)).countP (fun v => decide (v.t = 1)) = (l.take k).countP (fun v => decide (v.t = 1)) + (if y.t = 1 then 1 else 0)) := Lib.hid (by
    rw [List.take_add_one, hy, List.countP_append]
    simp only [Option.toList_some, List.countP_singleton]
    by_cases h9 : y.t = 1 <;> simp [h9])
   have hc1 : (l.take k).countP (fun v => decide (v.t = 1)) ≤ k := Nat.le_trans List.countP_le_length (by rw [List.length_take]; omega)
   generalize (l.take k).countP (fun v => decide (v.t = 1)) = q at *
   have hwq : IntKind.i64.wrap ((q : Int) + 1) = (q : Int) + 1 := IntWalk.i64_in _ (by omega)
   clear hy hcell
   by_cases h1 : y.t = 1
   ·have q0 : (y.t == 1) = true := by simp [h1]
    rw [if_pos h1] at hcnt
    go_wp2
    go_roundw
    case rel => exact ⟨k + 1, by omega, by go_num, by rw [hcnt.out]; simp, by (repeat (first | (with_reducible assumption) | (with_reducible refine Below.alloc ?_ (by first | omega | (dsimp only; omega) | (simp <;> omega)) _) | (with_reducible refine Below.drew ?_) | (with_reducible refine below_drewN ?_ _)))⟩
    case measure => simp [intOf]; omega
   ·have q0 : (y.t == 1) = false := by simp [h1]
    rw [if_neg h1] at hcnt
    go_wp2
    go_roundw
    case rel => exact ⟨k + 1, by omega, by go_num, by rw [hcnt.out]; simp, by (repeat (first | (with_reducible assumption) | (with_reducible refine Below.alloc ?_ (by first | omega | (dsimp only; omega) | (simp <;> omega)) _) | (with_reducible refine Below.drew ?_) | (with_reducible refine below_drewN ?_ _)))⟩
    case measure => simp [intOf]; omega
  ·obtain rfl : k = l.length := by omega
   have hkl : ¬ (l.length : Int) < (l.length : Int) := by omega
   rw [List.take_length]
   have hc1 : l.countP (fun v => decide (v.t = 1)) ≤ l.length := List.countP_le_length
   have CW := r10whole (l.countP (fun v => decide (v.t = 1)) : Nat) (by omega) wr
   rw [hr'.out] at CW
   have CW := Lib.hid CW
   clear hr'
   obtain ⟨hr0, hr1, hr2, hr3, hr4, hs0, hs1, hs2, hs3, hs4⟩ := res5 hbr
   generalize l.countP (fun v => decide (v.t = 1)) = q at *
   go_wp2_with (refine CW.out.mono ?_; rintro e w9 ⟨rfl, hb⟩; obtain ⟨hc, hf, hz⟩ := bkeep hb wr.heap.size (by first | omega | (simp <;> omega)))
   refine bodyPost_ret (v := .agg #[.int .i64 (r).t, .int .i64 (r).n, .string (r).s, .bool (r).b, .int .i64 (r).c]) ?_ rfl ⟨rfl, belq⟩
   simp [results, Tryz.results41, go_sem, *]
theorem r10counts_COUNTA (l : List VL) (hlen : l.length ≤ 1073741824) (w : World) (A : Option Addr) (cap : Nat) (hR : RdB w w.heap.size A 5 (l.map VL.cs)) : Calls Tryz.prog 41 #[.string ⟨#[67, 79, 85, 78, 84, 65]⟩, .slice A l.length cap] w fun e w' => e = .returned (.agg #[.int .i64 ((numL ((l.countP (fun v => !decide (v.t = 0)) : Nat) * 10000))).t, .int .i64 ((numL ((l.countP (fun v => !decide (v.t = 0)) : Nat) * 10000))).n, .string ((numL ((l.countP (fun v => !decide (v.t = 0)) : Nat) * 10000))).s, .bool ((numL ((l.countP (fun v => !decide (v.t = 0)) : Nat) * 10000))).b, .int .i64 ((numL ((l.countP (fun v => !decide (v.t = 0)) : Nat) * 10000))).c]) ∧ Below w.heap.size w w' := by
 have hR' := Lib.hid hR
 clear hR
 have b0 : Below w.heap.size w (w.alloc (.cells #[.int .i64 0, .int .i64 0, .string ⟨#[]⟩, .bool false, .int .i64 0] 26)) := (Below.refl _ _).alloc (Nat.le_refl _) _
 obtain ⟨r, hr⟩ : ∃ r, numL ((l.countP (fun v => !decide (v.t = 0)) : Nat) * 10000) = r := ⟨_, rfl⟩
 rw [hr]
 have hr' := Lib.hid hr
 clear hr
 go_enter Tryz.func41, Tryz.ntmps41
 go_wp2
 go_loopw [5, 6] (fun n i wr => ∃ k : Nat, k ≤ l.length ∧ i = .int .i64 (k : Int) ∧ n = .int .i64 ((l.take k).countP (fun v => !decide (v.t = 0)) : Nat) ∧ Below (w.heap.size + 1) (w.alloc (.cells #[.int .i64 0, .int .i64 0, .string ⟨#[]⟩, .bool false, .int .i64 0] 26)) wr) (fun _ i _ => l.length - (intOf i).toNat)
 case atStart => exact ⟨0, Nat.zero_le _, rfl, by simp, Below.refl _ _⟩
 case round =>
  obtain ⟨k, hk, rfl, rfl, hbr⟩ := hrel
  have hzr := hbr.size
  simp only [World.size_alloc] at hzr
  have g1 : Below w.heap.size w wr := b0.trans (hbr.mono (by omega))
  have hl0 : w.heap.size < wr.heap.size := by omega
  by_cases hlt : k < l.length
  ·obtain ⟨y, hy⟩ : ∃ y, l[k]? = some y := ⟨_, List.getElem?_eq_getElem hlt⟩
   obtain ⟨ab, ao, hA2, hab, hcell⟩ := (hR'.out.below g1) k y.cs (by rw [List.getElem?_map, hy]; rfl)
   obtain rfl : A = some ⟨ab, ao, none⟩ := hA2
   have hc0 : wr.cell? ⟨ab, ao + k * 5, none⟩ = some (.int .i64 y.t) := hcell 0 _ rfl
   have hkl : (k : Int) < (l.length : Int) := by omega
   have hk0 : (0 : Int) ≤ (k : Int) := by omega
   have hwk : IntKind.i64.wrap ((k : Int) + 1) = (k : Int) + 1 := IntWalk.i64_in _ (by omega)
   have hcnt : Hid ((l.take (k + 1)).countP (fun v => !decide (v.t = 0)) = (l.take k).countP (fun v => !decide (v.t = 0)) + (if y.t = 0 then 0 else 1)) := Lib.hid (by
    rw [List.take_add_one, hy, List.countP_append]
    simp only [Option.toList_some, List.countP_singleton]
    by_cases h9 : y.t = 0 <;> simp [h9])
   have hc1 : (l.take k).countP (fun v => !decide (v.t = 0)) ≤ k := Nat.le_trans List.countP_le_length (by rw [List.length_take]; omega)
   generalize (l.take k).countP (fun v => !decide (v.t = 0)) = q at *
   have hwq : IntKind.i64.wrap ((q : Int) + 1) = (q : Int) + 1 := IntWalk.i64_in _ (by omega)
   clear hy hcell
   by_cases h1 : y.t = 1
   ·have q0 : (y.t == 1) = true := by simp [h1]
    rw [if_neg (by omega)] at hcnt
    go_wp2
    go_roundw
    case rel => exact ⟨k + 1, by omega, by go_num, by rw [hcnt.out]; simp, by (repeat (first | (with_reducible assumption) | (with_reducible refine Below.alloc ?_ (by first | omega | (dsimp only; omega) | (simp <;> omega)) _) | (with_reducible refine Below.drew ?_) | (with_reducible refine below_drewN ?_ _)))⟩
    case measure => simp [intOf]; omega
   ·have q0 : (y.t == 1) = false := by simp [h1]
    by_cases h0 : y.t = 0
    ·have q1 : (y.t != 0) = false := by simp [h0]
     rw [if_pos h0] at hcnt
     go_wp2
     go_roundw
     case rel => exact ⟨k + 1, by omega, by go_num, by rw [hcnt.out]; simp, by (repeat (first | (with_reducible assumption) | (with_reducible refine Below.alloc ?_ (by first | omega | (dsimp only; omega) | (simp <;> omega)) _) | (with_reducible refine Below.drew ?_) | (with_reducible refine below_drewN ?_ _)))⟩
     case measure => simp [intOf]; omega
    ·have q1 : (y.t != 0) = true := by simp [h0]
     rw [if_neg h0] at hcnt
     go_wp2
     go_roundw
     case rel => exact ⟨k + 1, by omega, by go_num, by rw [hcnt.out]; simp, by (repeat (first | (with_reducible assumption) | (with_reducible refine Below.alloc ?_ (by first | omega | (dsimp only; omega) | (simp <;> omega)) _) | (with_reducible refine Below.drew ?_) | (with_reducible refine below_drewN ?_ _)))⟩
     case measure => simp [intOf]; omega
  ·obtain rfl : k = l.length := by omega
   have hkl : ¬ (l.length : Int) < (l.length : Int) := by omega
   rw [List.take_length]
   have hc1 : l.countP (fun v => !decide (v.t = 0)) ≤ l.length := List.countP_le_length
   have CW := r10whole (l.countP (fun v => !decide (v.t = 0)) : Nat) (by omega) wr
   rw [hr'.out] at CW
   have CW := Lib.hid CW
   clear hr'
   obtain ⟨hr0, hr1, hr2, hr3, hr4, hs0, hs1, hs2, hs3, hs4⟩ := res5 hbr
   generalize l.countP (fun v => !decide (v.t = 0)) = q at *
   go_wp2_with (refine CW.out.mono ?_; rintro e w9 ⟨rfl, hb⟩; obtain ⟨hc, hf, hz⟩ := bkeep hb wr.heap.size (by first | omega | (simp <;> omega)))
   refine bodyPost_ret (v := .agg #[.int .i64 (r).t, .int .i64 (r).n, .string (r).s, .bool (r).b, .int .i64 (r).c]) ?_ rfl ⟨rfl, belq⟩
   simp [results, Tryz.results41, go_sem, *]
theorem mulV_in (a b : Int) : -9223372036854775808 ≤ mulV a b ∧ mulV a b ≤ 9223372036854775807 := by
 unfold mulV exV
 split
 ·omega
 ·split <;> omega
theorem r10prod (l : List VL) (hl : ∀ x ∈ l, x.ok) (hlen : l.length ≤ 2932031007402) (w : World) (A : Option Addr) (cap : Nat) (hR : RdB w w.heap.size A 5 (l.map VL.cs)) : Calls Tryz.prog 133 #[.slice A l.length cap] w fun e w' => e = .returned (.agg #[.int .i64 ((prodG 10000 (numsL (l)))).t, .int .i64 ((prodG 10000 (numsL (l)))).n, .string ((prodG 10000 (numsL (l)))).s, .bool ((prodG 10000 (numsL (l)))).b, .int .i64 ((prodG 10000 (numsL (l)))).c]) ∧ Below w.heap.size w w' := by
 have hR' := Lib.hid hR
 have hl' := Lib.hid hl
 clear hR hl
 have b0 : Below w.heap.size w (w.alloc (.cells #[.int .i64 0, .int .i64 0, .string ⟨#[]⟩, .bool false, .int .i64 0] 26)) := (Below.refl _ _).alloc (Nat.le_refl _) _
 obtain ⟨rs, hrs⟩ : ∃ r, prodG 10000 (numsL (l)) = r := ⟨_, rfl⟩
 rw [hrs]
 have hrs' := Lib.hid hrs.symm
 clear hrs
 go_enter Tryz.func133, Tryz.ntmps133
 go_wp2
 go_loopw [3, 4] (fun pv i wr => ∃ (k : Nat) (p : Int), k ≤ l.length ∧ i = .int .i64 (k : Int) ∧ pv = .int .i64 p ∧ (-9223372036854775808 ≤ p ∧ p ≤ 9223372036854775807) ∧ Hid (rs = prodG p (numsL (l.drop k))) ∧ Below (w.heap.size + 1) (w.alloc (.cells #[.int .i64 0, .int .i64 0, .string ⟨#[]⟩, .bool false, .int .i64 0] 26)) wr) (fun _ i _ => l.length - (intOf i).toNat)
 case atStart => exact ⟨0, 10000, Nat.zero_le _, rfl, rfl, by omega, by simpa using hrs', Below.refl _ _⟩
 case round =>
  obtain ⟨k, p, hk, rfl, rfl, hpb, hP, hbr⟩ := hrel
  have hzr := hbr.size
  simp only [World.size_alloc] at hzr
  have g1 : Below w.heap.size w wr := b0.trans (hbr.mono (by omega))
  have hl0 : w.heap.size < wr.heap.size := by omega
  by_cases hlt : k < l.length
  ·obtain ⟨y, hy⟩ : ∃ y, l[k]? = some y := ⟨_, List.getElem?_eq_getElem hlt⟩
   have hdk : l.drop k = y :: l.drop (k + 1) := by rw [List.drop_eq_getElem_cons hlt, (List.getElem?_eq_some_iff.1 hy).2]
   obtain ⟨ab, ao, hA2, hab, hcell⟩ := (hR'.out.below g1) k y.cs (by rw [List.getElem?_map, hy]; rfl)
   obtain rfl : A = some ⟨ab, ao, none⟩ := hA2
   have hc0 : wr.cell? ⟨ab, ao + k * 5, none⟩ = some (.int .i64 y.t) := hcell 0 _ rfl
   have hc1 : wr.cell? ⟨ab, ao + k * 5 + 1, none⟩ = some (.int .i64 y.n) := hcell 1 _ rfl
   have hyb := hl'.out y (List.mem_of_getElem? hy)
   obtain ⟨x, hx⟩ : ∃ x, y.n = x := ⟨_, rfl⟩
   unfold VL.ok at hyb
   rw [hx] at hc1 hyb
   have hkl : (k : Int) < (l.length : Int) := by omega
   have hk0 : (0 : Int) ≤ (k : Int) := by omega
   have hwk : IntKind.i64.wrap ((k : Int) + 1) = (k : Int) + 1 := IntWalk.i64_in _ (by omega)
   clear hy hcell
   by_cases h1 : y.t = 1
   ·have q0 : (y.t != 1) = false := by simp [h1]
    have hnx : Hid (numsL (l.drop k) = x :: numsL (l.drop (k + 1))) := Lib.hid (by rw [hdk]; unfold numsL; simp [h1, hx])
    clear hdk h1 hx
    obtain ⟨q, hq⟩ : ∃ q, mulV p x = q := ⟨_, rfl⟩
    obtain ⟨c, hc⟩ : ∃ c, mulC p x = c := ⟨_, rfl⟩
    have hqb := mulV_in p x
    have CM := rmul_any p x hpb hyb wr
    rw [hq, hc] at CM
    rw [hq] at hqb
    have CM := Lib.hid CM
    have hPn : Hid (rs = if c = 0 then prodG q (numsL (l.drop (k + 1))) else errL c) := Lib.hid (by rw [← hc, ← hq, hP.out, hnx.out]; rfl)
    clear hq hc hnx hP
    go_wp2_with fail
    refine CM.out.mono ?_
    clear CM
    rintro e w3 ⟨rfl, hb3⟩
    have h3 : Below (w.heap.size + 1) (w.alloc (.cells #[.int .i64 0, .int .i64 0, .string ⟨#[]⟩, .bool false, .int .i64 0] 26)) w3 := hbr.trans (hb3.mono (by omega))
    have z3 := h3.size
    simp only [World.size_alloc] at z3
    have g3 : Below w.heap.size w w3 := b0.trans (h3.mono (by omega))
    have l3 : w.heap.size < w3.heap.size := by omega
    by_cases c0 : c = 0
    ·subst c0
     rw [if_pos rfl] at hPn
     go_wp2
     go_roundw
     case rel => exact ⟨k + 1, q, by omega, by go_num, rfl, hqb, hPn, h3⟩
     case measure => simp [intOf]; omega
    ·rw [if_neg c0] at hPn
     have q9 : (c != 0) = true := by simpa using c0
     obtain ⟨hr0, hr1, hr2, hr3, hr4, hs0, hs1, hs2, hs3, hs4⟩ := res5 h3
     go_wp2_with (go_at_call 20; refine (rverrA c _).mono ?_; rintro e w9 ⟨rfl, hb⟩; obtain ⟨hc, hf, hz⟩ := bkeep hb w3.heap.size (by first | omega | (simp <;> omega)))
     refine bodyPost_ret (v := .agg #[.int .i64 4, .int .i64 0, .string ⟨#[]⟩, .bool false, .int .i64 (errC c)]) ?_ rfl ⟨by rw [hPn.out]; rfl, belq⟩
     simp [results, Tryz.results133, go_sem, *]
   ·have q0 : (y.t != 1) = true := by simp [h1]
    have hnx : Hid (rs = prodG p (numsL (l.drop (k + 1)))) := Lib.hid (by rw [hP.out, hdk]; unfold numsL; simp [h1])
    clear hdk h1 hx hP
    go_wp2
    go_roundw
    case rel => exact ⟨k + 1, p, by omega, by go_num, rfl, hpb, hnx, hbr⟩
    case measure => simp [intOf]; omega
  ·obtain rfl : k = l.length := by omega
   have hkl : ¬ (l.length : Int) < (l.length : Int) := by omega
   rw [List.drop_length] at hP
   have hPe := Lib.hid (show rs = numL p from hP.out)
   have CN := rvnumA p hpb
   obtain ⟨hr0, hr1, hr2, hr3, hr4, hs0, hs1, hs2, hs3, hs4⟩ := res5 hbr
   go_wp2_with (refine (CN _).mono ?_; rintro e w9 ⟨rfl, hb⟩; obtain ⟨hc, hf, hz⟩ := bkeep hb wr.heap.size (by first | omega | (simp <;> omega)))
   refine bodyPost_ret (v := .agg #[.int .i64 ((numL p)).t, .int .i64 ((numL p)).n, .string ((numL p)).s, .bool ((numL p)).b, .int .i64 ((numL p)).c]) ?_ rfl ⟨by rw [hPe.out], belq⟩
   simp [results, Tryz.results133, go_sem, numL, *]

theorem aprod_any (l : List Int) (hl : ∀ x ∈ l, -9223372036854775808 ≤ x ∧ x ≤ 9223372036854775807) (hlen : l.length ≤ 2932031007402) (w : World) (A : Option Addr) (cap : Nat) (hR : RdI w A l) : Calls Tryz.prog 104 #[.slice A l.length cap] w fun e w' => e = .returned (.agg #[.int .i64 ((prodG 10000 ((l)))).t, .int .i64 ((prodG 10000 ((l)))).n, .string ((prodG 10000 ((l)))).s, .bool ((prodG 10000 ((l)))).b, .int .i64 ((prodG 10000 ((l)))).c]) ∧ Below w.heap.size w w' := by
 have hR' := Lib.hid hR
 have hl' := Lib.hid hl
 clear hR hl
 have b0 : Below w.heap.size w (w.alloc (.cells #[.int .i64 0, .int .i64 0, .string ⟨#[]⟩, .bool false, .int .i64 0] 26)) := (Below.refl _ _).alloc (Nat.le_refl _) _
 obtain ⟨rs, hrs⟩ : ∃ r, prodG 10000 ((l)) = r := ⟨_, rfl⟩
 rw [hrs]
 have hrs' := Lib.hid hrs.symm
 clear hrs
 go_enter Tryz.func104, Tryz.ntmps104
 go_wp2
 go_loopw [3, 10] (fun pv i wr => ∃ (k : Nat) (p : Int), k ≤ l.length ∧ i = .int .i64 (k : Int) ∧ pv = .int .i64 p ∧ (-9223372036854775808 ≤ p ∧ p ≤ 9223372036854775807) ∧ Hid (rs = prodG p ((l.drop k))) ∧ Below (w.heap.size + 1) (w.alloc (.cells #[.int .i64 0, .int .i64 0, .string ⟨#[]⟩, .bool false, .int .i64 0] 26)) wr) (fun _ i _ => l.length - (intOf i).toNat)
 case atStart => exact ⟨0, 10000, Nat.zero_le _, rfl, rfl, by omega, by simpa using hrs', Below.refl _ _⟩
 case round =>
  obtain ⟨k, p, hk, rfl, rfl, hpb, hP, hbr⟩ := hrel
  have hzr := hbr.size
  simp only [World.size_alloc] at hzr
  have g1 : Below w.heap.size w wr := b0.trans (hbr.mono (by omega))
  have hl0 : w.heap.size < wr.heap.size := by omega
  by_cases hlt : k < l.length
  ·obtain ⟨x, hx⟩ : ∃ y, l[k]? = some y := ⟨_, List.getElem?_eq_getElem hlt⟩
   have hdk : l.drop k = x :: l.drop (k + 1) := by rw [List.drop_eq_getElem_cons hlt, (List.getElem?_eq_some_iff.1 hx).2]
   obtain ⟨ab, ao, hA2, hab, hcell⟩ := (RdB.below hR'.out g1) k [.int .i64 x] (by rw [List.getElem?_map, hx]; rfl)
   obtain rfl : A = some ⟨ab, ao, none⟩ := hA2
   have hc1 : wr.cell? ⟨ab, ao + k, none⟩ = some (.int .i64 x) := by simpa using hcell 0 _ rfl
   have hyb := hl'.out x (List.mem_of_getElem? hx)
   have hkl : (k : Int) < (l.length : Int) := by omega
   have hk0 : (0 : Int) ≤ (k : Int) := by omega
   have hwk : IntKind.i64.wrap ((k : Int) + 1) = (k : Int) + 1 := IntWalk.i64_in _ (by omega)
   clear hx hcell
   have hnx : Hid ((l.drop k) = x :: (l.drop (k + 1))) := Lib.hid hdk
   clear hdk
   obtain ⟨q, hq⟩ : ∃ q, mulV p x = q := ⟨_, rfl⟩
   obtain ⟨c, hc⟩ : ∃ c, mulC p x = c := ⟨_, rfl⟩
   have hqb := mulV_in p x
   have CM := mul_any p x hpb hyb wr
   rw [hq, hc] at CM
   rw [hq] at hqb
   have CM := Lib.hid CM
   have hPn : Hid (rs = if c = 0 then prodG q ((l.drop (k + 1))) else errL c) := Lib.hid (by rw [← hc, ← hq, hP.out, hnx.out]; rfl)
   clear hq hc hnx hP
   go_wp2_with fail
   refine CM.out.mono ?_
   clear CM
   rintro e w3 ⟨rfl, hb3⟩
   have h3 : Below (w.heap.size + 1) (w.alloc (.cells #[.int .i64 0, .int .i64 0, .string ⟨#[]⟩, .bool false, .int .i64 0] 26)) w3 := hbr.trans (hb3.mono (by omega))
   have z3 := h3.size
   simp only [World.size_alloc] at z3
   have g3 : Below w.heap.size w w3 := b0.trans (h3.mono (by omega))
   have l3 : w.heap.size < w3.heap.size := by omega
   by_cases c0 : c = 0
   ·subst c0
    rw [if_pos rfl] at hPn
    go_wp2
    go_roundw
    case rel => exact ⟨k + 1, q, by omega, by go_num, rfl, hqb, hPn, h3⟩
    case measure => simp [intOf]; omega
   ·rw [if_neg c0] at hPn
    have q9 : (c != 0) = true := by simpa using c0
    obtain ⟨hr0, hr1, hr2, hr3, hr4, hs0, hs1, hs2, hs3, hs4⟩ := res5 h3
    go_wp2_with (go_at_call 11; refine (verr_any c _).mono ?_; rintro e w9 ⟨rfl, hb⟩; obtain ⟨hc, hf, hz⟩ := bkeep hb w3.heap.size (by first | omega | (simp <;> omega)))
    refine bodyPost_ret (v := .agg #[.int .i64 4, .int .i64 0, .string ⟨#[]⟩, .bool false, .int .i64 (errC c)]) ?_ rfl ⟨by rw [hPn.out]; rfl, belq⟩
    simp [results, Tryz.results104, go_sem, *]
  ·obtain rfl : k = l.length := by omega
   have hkl : ¬ (l.length : Int) < (l.length : Int) := by omega
   rw [List.drop_length] at hP
   have hPe := Lib.hid (show rs = numL p from hP.out)
   have CN := vnum_any p hpb
   obtain ⟨hr0, hr1, hr2, hr3, hr4, hs0, hs1, hs2, hs3, hs4⟩ := res5 hbr
   go_wp2_with (refine (CN _).mono ?_; rintro e w9 ⟨rfl, hb⟩; obtain ⟨hc, hf, hz⟩ := bkeep hb wr.heap.size (by first | omega | (simp <;> omega)))
   refine bodyPost_ret (v := .agg #[.int .i64 ((numL p)).t, .int .i64 ((numL p)).n, .string ((numL p)).s, .bool ((numL p)).b, .int .i64 ((numL p)).c]) ?_ rfl ⟨by rw [hPe.out], belq⟩
   simp [results, Tryz.results104, go_sem, numL, *]
theorem ata_PROD (l : List AL) (hlen : l.length ≤ 16) (hN : (itemsL l).length ≤ 2932031007402) (text : Int) : DoA ⟨#[80, 82, 79, 68]⟩ l text (faultR (itemsL l) (prodG 10000 (numsL (itemsL l)))) := ⟨fun w bl base kd lo hi d A cap hlk hBx hTab hcap hR hin => by
 have e : lookL aZero (aTab bl) ⟨#[80, 82, 79, 68]⟩ = .agg #[.string ⟨#[120]⟩, .int .i64 1, .int .i64 16, .func (.func 169) #[] #[.pointer (some ⟨bl.getD 1 0, 0, none⟩)]] := by kernel_rfl
 have hd := fourth_of (e.symm.trans hlk)
 exact ⟨169, #[.pointer (some ⟨bl.getD 1 0, 0, none⟩)], hd.symm, fun _ _ => by simp [go_sem], anum_any l (by omega) hN text w A cap hR hin (bl.getD 1 0) 104 #[] (hBx (bl.getD 1 0, .func (.func 104) #[] #[]) (by simp [aSrc])).2 (fun _ _ => by simp [go_sem]) _ (fun _ w2 A2 cap2 _ h => aprod_any _ (nums_ok (items_ok hin)) (Nat.le_trans (numsL_len _) hN) w2 A2 cap2 h)⟩⟩
end Go.Proofs.YtgmhifafbebjfaaGreatDoor
