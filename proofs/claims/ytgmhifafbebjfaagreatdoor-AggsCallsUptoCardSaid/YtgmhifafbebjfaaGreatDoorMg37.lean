/-
 the document's aggs: numbers; the document's aggs: large.
-/
import Derived.Test.YtgmhifafbebjfaaGreatDoorR10G
set_option maxRecDepth 100000
set_option maxHeartbeats 32000000
namespace Go.Proofs.YtgmhifafbebjfaaGreatDoor
open Go.RowKit

theorem own_frozen {w : World} {B size n g m cap : Nat} {e : TypeId} {xs : List Value} (h : w.ownsRow B e size (.slice (some ⟨g, 0, none⟩) m cap) n xs) (j : Nat) : w.frozen? ⟨g, j, none⟩ = false := by
 rcases h.2 with ⟨hv, _⟩ | ⟨g2, c2, cur, hv, hg, hh, _⟩
 ·cases hv
 ·cases hv; simp [World.frozen?, hh]
theorem sorted_eq {c m : List Int} (hc : c.Pairwise (fun x y => x ≤ y)) (hp : c.Perm m) : c = sortL m := by
 have h1 : sortL c = c := by
  unfold sortL
  exact List.mergeSort_of_pairwise (hc.imp fun h => by simpa using h)
 rw [← h1]
 exact sortL_perm hp
theorem put_sorted {S : List Int} (hS : S.Pairwise (fun x y => x ≤ y)) {k : Nat} (hk : k ≤ S.length) {x : Int} (hgt : ∀ y ∈ S.drop k, x < y) (hle : ∀ y, k = 0 ∨ (S[k - 1]? = some y → y ≤ x)) : (S.take k ++ x :: S.drop k).Pairwise (fun x y => x ≤ y) := by
 rw [List.pairwise_append]
 have hsp : S.take k ++ S.drop k = S := List.take_append_drop k S
 have hS2 := hS
 rw [← hsp, List.pairwise_append] at hS2
 refine ⟨hS2.1, List.pairwise_cons.2 ⟨fun y hy => Int.le_of_lt (hgt y hy), hS2.2.1⟩, fun a ha b hb => ?_⟩
 have hax : a ≤ x := by
  obtain ⟨i, hi, rfl⟩ := List.mem_take_iff_getElem.1 ha
  have hk0 : ¬ k = 0 := by omega
  have hkl : k - 1 < S.length := by omega
  have h1 : S[k - 1] ≤ x := by
   rcases hle S[k - 1] with h | h
   ·omega
   ·exact h (List.getElem?_eq_getElem hkl)
  have h2 : S[i] ≤ S[k - 1] := by
   by_cases e : i = k - 1
   ·subst e; exact Int.le_refl _
   ·exact List.pairwise_iff_getElem.1 hS i (k - 1) (by omega) hkl (by omega)
  exact Int.le_trans h2 h1
 rcases List.mem_cons.1 hb with rfl | hb
 ·exact hax
 ·exact Int.le_trans hax (Int.le_of_lt (hgt b hb))
theorem put_perm (S : List Int) (k : Nat) (x : Int) : (S.take k ++ x :: S.drop k).Perm (S ++ [x]) := by
 have h1 : (S.take k ++ x :: S.drop k).Perm (x :: (S.take k ++ S.drop k)) := List.perm_middle
 rw [List.take_append_drop] at h1
 exact h1.trans (List.perm_append_comm (l₁ := [x]) (l₂ := S))
theorem put_len (S : List Int) (k : Nat) (x : Int) : (S.take k ++ x :: S.drop k).length = S.length + 1 := (put_perm S k x).length_eq.trans (by simp)
theorem put_at (S : List Int) (k : Nat) (hk : k ≤ S.length) (x : Int) : (S.take k ++ x :: S.drop k)[k]? = some x := by
 rw [List.getElem?_append_right (by rw [List.length_take]; omega), List.length_take, Nat.min_eq_left hk, Nat.sub_self]; rfl
theorem put_before (S : List Int) (k : Nat) (hk : k < S.length) (x : Int) : (S.take (k + 1) ++ x :: S.drop (k + 1))[k]? = S[k]? := by
 rw [List.getElem?_append_left (by rw [List.length_take]; omega), List.getElem?_take_of_lt (by omega)]
theorem put_step (S : List Int) (k : Nat) (hk : k < S.length) (x : Int) : ((S.take (k + 1) ++ x :: S.drop (k + 1)).set (k + 1) S[k]).set k x = (S.take k ++ x :: S.drop k) := by
 have e1 : S.take (k + 1) = S.take k ++ [S[k]] := by rw [List.take_add_one, List.getElem?_eq_getElem hk]; rfl
 have e2 : S.drop k = S[k] :: S.drop (k + 1) := List.drop_eq_getElem_cons hk
 have hl : (S.take k).length = k := by rw [List.length_take]; omega
 rw [e1, e2, List.append_assoc, List.set_append_right _ _ (by omega), List.set_append_right _ _ (by omega), hl, Nat.sub_self, show k + 1 - k = 1 by omega]
 simp
theorem r10numbers (l : List VL) (hlen : l.length ≤ 2932031007402) (w : World) (A : Option Addr) (cap : Nat) (hR : RdB w w.heap.size A 5 (l.map VL.cs)) : Calls Tryz.prog 130 #[.slice A l.length cap] w fun e w' => (∃ v, e = .returned v ∧ OwnI w' w.heap.size v (sortL (numsL l))) ∧ Below w.heap.size w w' := by
 obtain ⟨i0, hi, hi0, hi1, hi2⟩ := info_parts i64_info'
 have hR' := Lib.hid hR
 clear hR
 go_enter Tryz.func130, Tryz.ntmps130
 go_wp2
 go_loopw [3, 4] (fun v i wr => ∃ (k : Nat) (S : List Int), k ≤ l.length ∧ i = .int .i64 (k : Int) ∧ S.length ≤ k ∧ Hid (S = sortL (numsL (l.take k))) ∧ Hid (wr.ownsRow w.heap.size 2 1 v S.length (S.map (Value.int .i64))) ∧ Below w.heap.size w wr) (fun _ i _ => l.length - (intOf i).toNat)
 case atStart => exact ⟨0, [], Nat.zero_le _, rfl, by simp, Lib.hid (by simp [numsL, sortL]), Lib.hid (World.ownsRow_nil _ _ _ _), Below.refl _ _⟩
 case round =>
  obtain ⟨k, S, hk, rfl, hSl, hS, hown, hbr⟩ := hrel
  have hzr := hbr.size
  by_cases hlt : k < l.length
  ·obtain ⟨y, hy⟩ : ∃ y, l[k]? = some y := ⟨_, List.getElem?_eq_getElem hlt⟩
   obtain ⟨ab, ao, hA2, hab, hcell⟩ := (hR'.out.below hbr) k y.cs (by rw [List.getElem?_map, hy]; rfl)
   obtain rfl : A = some ⟨ab, ao, none⟩ := hA2
   have hc0 : wr.cell? ⟨ab, ao + k * 5, none⟩ = some (.int .i64 y.t) := hcell 0 _ rfl
   have hc1 : wr.cell? ⟨ab, ao + k * 5 + 1, none⟩ = some (.int .i64 y.n) := hcell 1 _ rfl
   have habr : ab < wr.heap.size := by omega
   have hkl : (k : Int) < (l.length : Int) := by omega
   have hk0 : (0 : Int) ≤ (k : Int) := by omega
   have hwk : IntKind.i64.wrap ((k : Int) + 1) = (k : Int) + 1 := IntWalk.i64_in _ (by omega)
   have hnx : Hid (numsL (l.take (k + 1)) = numsL (l.take k) ++ if y.t = 1 then [y.n] else []) := Lib.hid (by rw [List.take_add_one, hy]; exact numsL_snoc _ _)
   clear hy hcell
   by_cases h1 : y.t = 1
   ·have hb1 : (y.t != 1) = false := by simp [h1]
    have hnx2 : Hid (numsL (l.take (k + 1)) = numsL (l.take k) ++ [y.n]) := Lib.hid (by rw [hnx.out, if_pos h1])
    have hown3 := hown.out
    have hsrt : Hid (S.Pairwise (fun x y => x ≤ y)) := Lib.hid (by rw [hS.out]; exact sortL_sorted _)
    obtain ⟨x, hx⟩ : ∃ x, y.n = x := ⟨_, rfl⟩
    rw [hx] at hc1 hnx2
    clear hnx h1 hx
    go_wp2_with (at_builtin; refine wpList_append_own_at _ rfl _ _ 90 rfl w.heap.size 2 i0 (.int .i64 0) 1 8 Tryz.underlying90 hi hi0 hi1 hi2 rfl (by decide) _ _ _ rfl (hown3.alloc _) ⟨wr.heap.size, 0, none⟩ 1 1 [.int .i64 x] rfl rfl (cell_one_new _ _ _) (by simp [Value.oneCell']) (by unfold maxLen; omega) (by omega) (by simp; omega) ?_; intro v' w4 hown4 hgrow4 _ _; obtain ⟨g, cp, rfl⟩ := ownsRow_succ hown4)
    have hb4 : Below w.heap.size w w4 := (hbr.alloc hzr _).grown hgrow4 (by simp; omega) (fun j hj => (hown3.lt j hj).1)
    clear hgrow4 hown3
    go_loopw [5] (fun kk wq => ∃ q : Nat, kk = .int .i64 (q : Int) ∧ q ≤ S.length ∧ Hid (wq.ownsRow w.heap.size 2 1 (.slice (some ⟨g, 0, none⟩) (S.length + 1) cp) (S.length + 1) ((S.take q ++ x :: S.drop q).map (Value.int .i64))) ∧ Hid (∀ y ∈ S.drop q, x < y) ∧ Below w.heap.size w wq) (fun kk _ => (intOf kk).toNat)
    case atStart => exact ⟨S.length, by go_num, Nat.le_refl _, Lib.hid (by simpa using hown4), Lib.hid (by simp), hb4⟩
    case round =>
     obtain ⟨q, rfl, hq, hown5, hgt, hb5⟩ := hrel
     have hz5 := hb5.size
     have hgl := (hown5.out.lt g rfl).2
     have hgb := (hown5.out.lt g rfl).1
     have hcq : wr.cell? ⟨g, q, none⟩ = some (.int .i64 x) := by
      refine (World.ownsRow.cellAt hown5.out q (by omega)).trans ?_
      rw [List.getElem?_map, put_at S q hq x]; rfl
     have hwq : IntKind.i64.wrap ((q : Int) - 1) = (q : Int) - 1 := IntWalk.i64_in _ (by omega)
     by_cases hq0 : q = 0
     ·have hg0 : decide ((q : Int) > 0) = false := by simp; omega
      have hg01 : decide (0 < q) = false := by simp; omega
      have hg02 : ¬ (0 : Int) < (q : Int) := by omega
      have hfin : Hid (S.take q ++ x :: S.drop q = sortL (numsL (l.take (k + 1)))) := Lib.hid (sorted_eq (put_sorted hsrt.out hq hgt.out (fun y => Or.inl hq0)) ((put_perm S q x).trans (by rw [hnx2.out, hS.out]; exact (List.mergeSort_perm _ _).append_right [x])))
      clear hq0
      go_wp2
      go_quiet (fail)
      go_wp2
      go_roundw
      case rel => exact ⟨k + 1, S.take q ++ x :: S.drop q, by omega, by go_num, by rw [put_len]; omega, hfin, Lib.hid (by rw [put_len]; exact hown5.out), below_drewN hb5 _⟩
      case measure => simp [intOf]; omega
     ·obtain ⟨p, hp⟩ : ∃ p, q = p + 1 := ⟨q - 1, by omega⟩
      have hpl : p < S.length := by omega
      obtain ⟨z, hz⟩ : ∃ z, S[p] = z := ⟨_, rfl⟩
      have hzq := Lib.hid (show S[q - 1]? = some z by rw [← hz, List.getElem?_eq_getElem (by omega)]; congr 1; simp [hp])
      have hcp : wr.cell? ⟨g, p, none⟩ = some (.int .i64 z) := by
       refine (World.ownsRow.cellAt hown5.out p (by omega)).trans ?_
       rw [List.getElem?_map, hp, put_before S p hpl x, List.getElem?_eq_getElem hpl, hz]; rfl
      have hqp : (q : Int) - 1 = (p : Int) := by omega
      have hwp : IntKind.i64.wrap ((q : Int) - 1) = (p : Int) := by rw [hwq, hqp]
      have hg0 : decide ((q : Int) > 0) = true := by simp; omega
      have hg01 : decide (0 < q) = true := by simp; omega
      have hg02 : (0 : Int) < (q : Int) := by omega
      have hp0 : (0 : Int) ≤ (p : Int) := by omega
      have hpS : (p : Int) < (S.length : Int) + 1 := by omega
      have hq00 : (0 : Int) ≤ (q : Int) := by omega
      have hqS : (q : Int) < (S.length : Int) + 1 := by omega
      by_cases hxz : x < z
      ·have hg1 : decide (x < z) = true := by simp [hxz]
       have hpH := Lib.hid hp
       have hpq : p ≠ q := by omega
       have hfq := own_frozen hown5.out q
       have hfp := own_frozen hown5.out p
       have hlist := Lib.hid (show (((S.take q ++ x :: S.drop q).map (Value.int .i64)).set q (.int .i64 z)).set p (.int .i64 x) = (S.take p ++ x :: S.drop p).map (Value.int .i64) by rw [hp, ← List.map_set, ← List.map_set, ← hz, put_step S p hpl x])
       have hgt2 : Hid (∀ y ∈ S.drop p, x < y) := Lib.hid fun y hy => by
        rw [List.drop_eq_getElem_cons hpl, hz] at hy
        rcases List.mem_cons.1 hy with h | h
        ·rw [h]; exact hxz
        ·exact hgt.out y (by rw [hp]; exact h)
       clear hgt hxz hp hq0 hz
       go_wp2
       go_quiet (fail)
       go_wp2
       go_roundw
       case rel =>
        have h1 := (show (wr.drewN nq).ownsRow w.heap.size 2 1 (.slice (some ⟨g, 0, none⟩) (S.length + 1) cp) (S.length + 1) ((S.take q ++ x :: S.drop q).map (Value.int .i64)) from hown5.out).stored q (.int .i64 z)
        have h2 := h1.1.stored p (.int .i64 x)
        rw [hlist.out] at h2
        exact ⟨p, rfl, by omega, Lib.hid h2.1, hgt2, ((below_drewN hb5 nq).setCell (p := ⟨g, q, none⟩) hgb _).setCell (p := ⟨g, p, none⟩) hgb _⟩
       case measure => simp [intOf]; have := hpH.out; omega
      ·have hg1 : decide (x < z) = false := by simp; omega
       have hfin : Hid (S.take q ++ x :: S.drop q = sortL (numsL (l.take (k + 1)))) := Lib.hid (sorted_eq (put_sorted hsrt.out hq hgt.out (fun y => Or.inr fun h => by rw [hzq.out] at h; injection h with h; omega)) ((put_perm S q x).trans (by rw [hnx2.out, hS.out]; exact (List.mergeSort_perm _ _).append_right [x])))
       clear hq0 hz hxz hp
       go_wp2
       go_quiet (fail)
       go_wp2
       go_roundw
       case rel => exact ⟨k + 1, S.take q ++ x :: S.drop q, by omega, by go_num, by rw [put_len]; omega, hfin, Lib.hid (by rw [put_len]; exact hown5.out), below_drewN hb5 _⟩
       case measure => simp [intOf]; omega
   ·have hb1 : (y.t != 1) = true := by simp [h1]
    have hS2 : Hid (S = sortL (numsL (l.take (k + 1)))) := Lib.hid (by rw [hnx.out, if_neg h1, List.append_nil]; exact hS.out)
    clear h1
    go_wp2
    go_roundw
    case rel => exact ⟨k + 1, S, by omega, by go_num, by omega, hS2, hown, hbr⟩
    case measure => simp [intOf]; omega
  ·obtain rfl : k = l.length := by omega
   have hkl : ¬ (l.length : Int) < (l.length : Int) := by omega
   have hSe : S = sortL (numsL l) := by rw [hS.out, List.take_length]
   have ho := hown.out
   go_wp2
   go_ret
   exact ⟨⟨_, rfl, by unfold OwnI; rw [← hSe]; exact ho⟩, hbr⟩

theorem rdb_new1 {w : World} {C : List Value} {T : TypeId} {k : Nat} (_h : C.length = k) : RdB (w.alloc (.cells C.toArray T)) (w.heap.size + 1) (some ⟨w.heap.size, 0, none⟩) k [C] := fun i c hi => by
 have e : i = 0 := by have := (List.getElem?_eq_some_iff.1 hi).1; simp at this; exact this
 subst e
 injection hi with hi
 subst hi
 exact ⟨w.heap.size, 0, rfl, by omega, fun j u hj => by
  rw [Nat.zero_mul, Nat.add_zero, Nat.zero_add]
  exact c_at rfl (by rw [List.getElem?_toArray]; exact hj)⟩
theorem fltV_some {l : List VL} {f : VL} (h : fltL l = some f) : fltV l = f := by unfold fltV; rw [h]
def largeV (x : AL) (v : VL) : VL := if intC v = 0 then faultR (itemsL [x]) (kthL (numsL (itemsL [x])) (intV v)) else errL (intC v)
theorem r10large (x : AL) (v : VL) (hv : v.ok) (hN : (itemsL [x]).length ≤ 1073741824) (w : World) (hin : x.In w w.heap.size) : Calls Tryz.prog 48 #[.agg #[.bool x.many, .int .i64 x.v.t, .int .i64 x.v.n, .string x.v.s, .bool x.v.b, .int .i64 x.v.c, .int .i64 x.t, .int .i64 x.l, .int .i64 x.b, .int .i64 x.r, .slice x.A x.es.length x.cap], .agg #[.int .i64 v.t, .int .i64 v.n, .string v.s, .bool v.b, .int .i64 v.c]] w fun e w' => e = .returned (.agg #[.int .i64 ((largeV x v)).t, .int .i64 ((largeV x v)).n, .string ((largeV x v)).s, .bool ((largeV x v)).b, .int .i64 ((largeV x v)).c]) ∧ Below w.heap.size w w' := by
 obtain ⟨V, hV0⟩ : ∃ V, largeV x v = V := ⟨_, rfl⟩
 have hV := Lib.hid hV0
 rw [hV0]
 have b0 : Below w.heap.size w (((w.alloc (.cells #[.bool x.many, .int .i64 x.v.t, .int .i64 x.v.n, .string x.v.s, .bool x.v.b, .int .i64 x.v.c, .int .i64 x.t, .int .i64 x.l, .int .i64 x.b, .int .i64 x.r, .slice x.A x.es.length x.cap] 36)).alloc (.cells #[.int .i64 v.t, .int .i64 v.n, .string v.s, .bool v.b, .int .i64 v.c] 26)).alloc (.cells #[.int .i64 0, .int .i64 0, .string ⟨#[]⟩, .bool false, .int .i64 0] 26)) := belq
 have CI := fun w => Lib.hid (r10int v hv w)
 obtain ⟨k, hk⟩ : ∃ k, intV v = k := ⟨_, rfl⟩
 obtain ⟨c, hc⟩ : ∃ c, intC v = c := ⟨_, rfl⟩
 have hkb := intV_in v hv
 rw [hk] at hkb
 have hok : Hid (∀ y ∈ itemsL [x], y.ok) := Lib.hid (items_ok (w := w) (B := w.heap.size) (by intro y hy; simp at hy; subst hy; exact hin))
 have hVV := Lib.hid (show (if c = 0 then faultR (itemsL [x]) (kthL (numsL (itemsL [x])) k) else errL c) = V by rw [← hV.out]; unfold largeV; rw [hk, hc])
 simp only [hk, hc] at CI
 have hin' := Lib.hid hin
 have CT : ∀ w1 : World, Below w.heap.size w w1 → Hid (Calls Tryz.prog 42 #[.slice (some ⟨w1.heap.size, 0, none⟩) 1 1] (w1.alloc (.cells #[.bool x.many, .int .i64 x.v.t, .int .i64 x.v.n, .string x.v.s, .bool x.v.b, .int .i64 x.v.c, .int .i64 x.t, .int .i64 x.l, .int .i64 x.b, .int .i64 x.r, .slice x.A x.es.length x.cap] 36)) fun e w' => (∃ u, e = .returned u ∧ OwnV w' (w1.heap.size + 1) u (itemsL [x])) ∧ Below (w1.heap.size + 1) (w1.alloc (.cells #[.bool x.many, .int .i64 x.v.t, .int .i64 x.v.n, .string x.v.s, .bool x.v.b, .int .i64 x.v.c, .int .i64 x.t, .int .i64 x.l, .int .i64 x.b, .int .i64 x.r, .slice x.A x.es.length x.cap] 36)) w') := fun w1 h1 => Lib.hid (by
  have h9 := r10items [x] (by simp) (by omega) (w1.alloc (.cells #[.bool x.many, .int .i64 x.v.t, .int .i64 x.v.n, .string x.v.s, .bool x.v.b, .int .i64 x.v.c, .int .i64 x.t, .int .i64 x.l, .int .i64 x.b, .int .i64 x.r, .slice x.A x.es.length x.cap] 36)) (some ⟨w1.heap.size, 0, none⟩) 1 (by rw [World.size_alloc]; exact rdb_new1 (C := x.cs) rfl) (fun y hy => by simp at hy; subst hy; exact ((hin'.out.below h1).mono h1.size).below ((Below.refl _ _).alloc (Nat.le_refl _) _) |>.mono (by simp))
  rw [World.size_alloc] at h9
  exact h9)
 clear hin hV0 hk hc hv hV
 go_enter Tryz.func48, Tryz.ntmps48
 go_wp2_with fail
 refine ((CI _).out).mono ?_
 rintro e w1 ⟨rfl, hb9⟩
 have h1 : Below (w.heap.size + 3) (((w.alloc (.cells #[.bool x.many, .int .i64 x.v.t, .int .i64 x.v.n, .string x.v.s, .bool x.v.b, .int .i64 x.v.c, .int .i64 x.t, .int .i64 x.l, .int .i64 x.b, .int .i64 x.r, .slice x.A x.es.length x.cap] 36)).alloc (.cells #[.int .i64 v.t, .int .i64 v.n, .string v.s, .bool v.b, .int .i64 v.c] 26)).alloc (.cells #[.int .i64 0, .int .i64 0, .string ⟨#[]⟩, .bool false, .int .i64 0] 26)) w1 := hb9.mono (by simp)
 clear hb9
 have hz_w1 := h1.size
 simp only [World.size_alloc] at hz_w1
 have g_w1 : Below w.heap.size w w1 := b0.trans (h1.mono (by omega))
 have l0_w1 : w.heap.size < w1.heap.size := by omega
 have l1_w1 : w.heap.size + 1 < w1.heap.size := by omega
 have l2_w1 : w.heap.size + 2 < w1.heap.size := by omega
 have hx0 : w1.cell? ⟨w.heap.size, 0, none⟩ = some (.bool x.many) := by rw [h1.cell (by dsimp only; omega), World.cell?_alloc_lt _ _ _ (by first | (simp; done) | (simp; omega)), World.cell?_alloc_lt _ _ _ (by first | (simp; done) | (simp; omega))]; exact c_at rfl rfl
 have hx1 : w1.cell? ⟨w.heap.size, 1, none⟩ = some (.int .i64 x.v.t) := by rw [h1.cell (by dsimp only; omega), World.cell?_alloc_lt _ _ _ (by first | (simp; done) | (simp; omega)), World.cell?_alloc_lt _ _ _ (by first | (simp; done) | (simp; omega))]; exact c_at rfl rfl
 have hx2 : w1.cell? ⟨w.heap.size, 2, none⟩ = some (.int .i64 x.v.n) := by rw [h1.cell (by dsimp only; omega), World.cell?_alloc_lt _ _ _ (by first | (simp; done) | (simp; omega)), World.cell?_alloc_lt _ _ _ (by first | (simp; done) | (simp; omega))]; exact c_at rfl rfl
 have hx3 : w1.cell? ⟨w.heap.size, 3, none⟩ = some (.string x.v.s) := by rw [h1.cell (by dsimp only; omega), World.cell?_alloc_lt _ _ _ (by first | (simp; done) | (simp; omega)), World.cell?_alloc_lt _ _ _ (by first | (simp; done) | (simp; omega))]; exact c_at rfl rfl
 have hx4 : w1.cell? ⟨w.heap.size, 4, none⟩ = some (.bool x.v.b) := by rw [h1.cell (by dsimp only; omega), World.cell?_alloc_lt _ _ _ (by first | (simp; done) | (simp; omega)), World.cell?_alloc_lt _ _ _ (by first | (simp; done) | (simp; omega))]; exact c_at rfl rfl
 have hx5 : w1.cell? ⟨w.heap.size, 5, none⟩ = some (.int .i64 x.v.c) := by rw [h1.cell (by dsimp only; omega), World.cell?_alloc_lt _ _ _ (by first | (simp; done) | (simp; omega)), World.cell?_alloc_lt _ _ _ (by first | (simp; done) | (simp; omega))]; exact c_at rfl rfl
 have hx6 : w1.cell? ⟨w.heap.size, 6, none⟩ = some (.int .i64 x.t) := by rw [h1.cell (by dsimp only; omega), World.cell?_alloc_lt _ _ _ (by first | (simp; done) | (simp; omega)), World.cell?_alloc_lt _ _ _ (by first | (simp; done) | (simp; omega))]; exact c_at rfl rfl
 have hx7 : w1.cell? ⟨w.heap.size, 7, none⟩ = some (.int .i64 x.l) := by rw [h1.cell (by dsimp only; omega), World.cell?_alloc_lt _ _ _ (by first | (simp; done) | (simp; omega)), World.cell?_alloc_lt _ _ _ (by first | (simp; done) | (simp; omega))]; exact c_at rfl rfl
 have hx8 : w1.cell? ⟨w.heap.size, 8, none⟩ = some (.int .i64 x.b) := by rw [h1.cell (by dsimp only; omega), World.cell?_alloc_lt _ _ _ (by first | (simp; done) | (simp; omega)), World.cell?_alloc_lt _ _ _ (by first | (simp; done) | (simp; omega))]; exact c_at rfl rfl
 have hx9 : w1.cell? ⟨w.heap.size, 9, none⟩ = some (.int .i64 x.r) := by rw [h1.cell (by dsimp only; omega), World.cell?_alloc_lt _ _ _ (by first | (simp; done) | (simp; omega)), World.cell?_alloc_lt _ _ _ (by first | (simp; done) | (simp; omega))]; exact c_at rfl rfl
 have hx10 : w1.cell? ⟨w.heap.size, 10, none⟩ = some (.slice x.A x.es.length x.cap) := by rw [h1.cell (by dsimp only; omega), World.cell?_alloc_lt _ _ _ (by first | (simp; done) | (simp; omega)), World.cell?_alloc_lt _ _ _ (by first | (simp; done) | (simp; omega))]; exact c_at rfl rfl
 obtain ⟨hr0, hr1, hr2, hr3, hr4, hrs0, hrs1, hrs2, hrs3, hrs4⟩ := res5 h1
 by_cases c0 : c = 0
 ·subst c0
  have hVV2 := Lib.hid (show faultR (itemsL [x]) (kthL (numsL (itemsL [x])) k) = V by rw [← hVV.out, if_pos rfl])
  have CT1 := CT w1 g_w1
  clear CT
  go_wp2_with fail
  refine (CT1.out).mono ?_
  rintro e w2 ⟨⟨u, rfl, hown⟩, hb2⟩
  have h2 : Below (w.heap.size + 3) (((w.alloc (.cells #[.bool x.many, .int .i64 x.v.t, .int .i64 x.v.n, .string x.v.s, .bool x.v.b, .int .i64 x.v.c, .int .i64 x.t, .int .i64 x.l, .int .i64 x.b, .int .i64 x.r, .slice x.A x.es.length x.cap] 36)).alloc (.cells #[.int .i64 v.t, .int .i64 v.n, .string v.s, .bool v.b, .int .i64 v.c] 26)).alloc (.cells #[.int .i64 0, .int .i64 0, .string ⟨#[]⟩, .bool false, .int .i64 0] 26)) w2 := (h1.alloc (by omega) (.cells #[.bool x.many, .int .i64 x.v.t, .int .i64 x.v.n, .string x.v.s, .bool x.v.b, .int .i64 x.v.c, .int .i64 x.t, .int .i64 x.l, .int .i64 x.b, .int .i64 x.r, .slice x.A x.es.length x.cap] 36)).trans (hb2.mono (by simp; omega))
  clear h1 hz_w1 g_w1 l0_w1 l1_w1 l2_w1 CT1
  clear hx0 hx1 hx2 hx3 hx4 hx5 hx6 hx7 hx8 hx9 hx10 hr0 hr1 hr2 hr3 hr4 hrs0 hrs1 hrs2 hrs3 hrs4
  have hz_w2 := h2.size
  simp only [World.size_alloc] at hz_w2
  have g_w2 : Below w.heap.size w w2 := b0.trans (h2.mono (by omega))
  have l0_w2 : w.heap.size < w2.heap.size := by omega
  have l1_w2 : w.heap.size + 1 < w2.heap.size := by omega
  have l2_w2 : w.heap.size + 2 < w2.heap.size := by omega
  obtain ⟨hr0, hr1, hr2, hr3, hr4, hrs0, hrs1, hrs2, hrs3, hrs4⟩ := res5 h2
  have hz2 := hb2.size
  simp only [World.size_alloc] at hz2
  have hown' := Lib.hid (show OwnV w2 (w1.heap.size + 1) u (itemsL [x]) from hown)
  clear hown hb2
  generalize hL : itemsL [x] = L at *
  obtain ⟨A, cap, rfl, hrd⟩ := own_rdv hown'.out
  have CF := Lib.hid (r10faulty L (by omega) w2 A cap hrd)
  have CN := fun w3 (h : Below w2.heap.size w2 w3) => Lib.hid (r10numbers L (by omega) w3 A cap ((hrd.below h).mono h.size))
  have hnl := numsL_len L
  have hno := nums_ok hok.out
  clear hown' hrd hL
  cases hfl : fltL L with
  |
   some f =>
   have hVe := Lib.hid (show V = f from by rw [← hVV2.out]; unfold faultR; rw [show L.find? (fun v => decide (v.t = 4)) = some f from hfl])
   rw [fltV_some hfl, hfl] at CF
   simp only [Option.isSome_some] at CF
   go_wp2_with (refine CF.out.mono ?_; rintro e w9 ⟨rfl, hb⟩; obtain ⟨hc, hf, hz⟩ := bkeep hb w2.heap.size (by first | omega | (simp <;> omega)); have hz9 : w.heap.size + 2 ≠ w9.heap.size := (by omega); have hz8 : w.heap.size + 2 < w9.heap.size := by omega)
   refine bodyPost_ret (v := .agg #[.int .i64 (f).t, .int .i64 (f).n, .string (f).s, .bool (f).b, .int .i64 (f).c]) ?_ rfl ⟨by rw [hVe.out], belq⟩
   simp [results, Tryz.results48, go_sem, *]
  |
   none =>
   have hVV3 := Lib.hid (show V = kthL (numsL L) k from by rw [← hVV2.out]; unfold faultR; rw [show L.find? (fun v => decide (v.t = 4)) = none from hfl])
   rw [hfl] at CF
   simp only [Option.isSome_none] at CF
   clear hVV2 hfl
   have CF2 := CF.out
   clear CF
   go_wp2_with fail
   refine CF2.mono ?_
   rintro e w3 ⟨rfl, hb3⟩
   have hb3a := hb3.alloc hb3.size (.cells #[.int .i64 (fltV L).t, .int .i64 (fltV L).n, .string (fltV L).s, .bool (fltV L).b, .int .i64 (fltV L).c] 26)
   have CN3 := CN _ hb3a
   have hz3 := hb3.size
   have h3 : Below (w.heap.size + 3) (((w.alloc (.cells #[.bool x.many, .int .i64 x.v.t, .int .i64 x.v.n, .string x.v.s, .bool x.v.b, .int .i64 x.v.c, .int .i64 x.t, .int .i64 x.l, .int .i64 x.b, .int .i64 x.r, .slice x.A x.es.length x.cap] 36)).alloc (.cells #[.int .i64 v.t, .int .i64 v.n, .string v.s, .bool v.b, .int .i64 v.c] 26)).alloc (.cells #[.int .i64 0, .int .i64 0, .string ⟨#[]⟩, .bool false, .int .i64 0] 26)) (w3.alloc (.cells #[.int .i64 (fltV L).t, .int .i64 (fltV L).n, .string (fltV L).s, .bool (fltV L).b, .int .i64 (fltV L).c] 26)) := h2.trans (hb3a.mono (by omega))
   clear CF2 CN hb3 hb3a g_w2 l0_w2 l1_w2 l2_w2
   clear hr0 hr1 hr2 hr3 hr4 hrs0 hrs1 hrs2 hrs3 hrs4
   go_wp2_with fail
   refine CN3.out.mono ?_
   clear CN3
   rintro e w4 ⟨⟨u4, rfl, hown4⟩, hb4⟩
   have h4 : Below (w.heap.size + 3) (((w.alloc (.cells #[.bool x.many, .int .i64 x.v.t, .int .i64 x.v.n, .string x.v.s, .bool x.v.b, .int .i64 x.v.c, .int .i64 x.t, .int .i64 x.l, .int .i64 x.b, .int .i64 x.r, .slice x.A x.es.length x.cap] 36)).alloc (.cells #[.int .i64 v.t, .int .i64 v.n, .string v.s, .bool v.b, .int .i64 v.c] 26)).alloc (.cells #[.int .i64 0, .int .i64 0, .string ⟨#[]⟩, .bool false, .int .i64 0] 26)) w4 := h3.trans (hb4.mono (by simp; omega))
   obtain ⟨A4, cap4, rfl, hrd4⟩ := own_rdi hown4
   rw [sortL_len] at *
   clear hb4 h3 hown4
   have hz_w4 := h4.size
   simp only [World.size_alloc] at hz_w4
   have g_w4 : Below w.heap.size w w4 := b0.trans (h4.mono (by omega))
   have l0_w4 : w.heap.size < w4.heap.size := by omega
   have l1_w4 : w.heap.size + 1 < w4.heap.size := by omega
   have l2_w4 : w.heap.size + 2 < w4.heap.size := by omega
   obtain ⟨hr0, hr1, hr2, hr3, hr4, hrs0, hrs1, hrs2, hrs3, hrs4⟩ := res5 h4
   by_cases a1 : k < 1
   ·have t1 : decide (k < 1) = true := by simp; omega
    have y1 : k < 1 := by omega
    have z1 : decide (1 > k) = true := by simp; omega
    have hVe := Lib.hid (show V = errL 5 from by rw [hVV3.out]; unfold kthL; rw [if_pos (by omega)])
    go_wp2_with (go_at_call 20; refine (rverrA 5 _).mono ?_; rintro e w9 ⟨rfl, hb⟩; obtain ⟨hc, hf, hz⟩ := bkeep hb w4.heap.size (by first | omega | (simp <;> omega)))
    refine bodyPost_ret (v := .agg #[.int .i64 4, .int .i64 0, .string ⟨#[]⟩, .bool false, .int .i64 (errC 5)]) ?_ rfl ⟨by rw [hVe.out]; rfl, belq⟩
    simp [results, Tryz.results48, go_sem, *]
   ·have t1 : decide (k < 1) = false := by simp; omega
    have y1 : ¬ k < 1 := by omega
    have z1 : decide (1 > k) = false := by simp; omega
    by_cases a2 : ((numsL L).length : Int) < k
    ·have t2 : decide (((numsL L).length : Int) < k) = true := by simp; omega
     have y2 : ((numsL L).length : Int) < k := by omega
     have z2 : decide (k > ((numsL L).length : Int)) = true := by simp; omega
     have hVe := Lib.hid (show V = errL 5 from by rw [hVV3.out]; unfold kthL; rw [if_pos (by omega)])
     go_wp2_with (go_at_call 20; refine (rverrA 5 _).mono ?_; rintro e w9 ⟨rfl, hb⟩; obtain ⟨hc, hf, hz⟩ := bkeep hb w4.heap.size (by first | omega | (simp <;> omega)))
     refine bodyPost_ret (v := .agg #[.int .i64 4, .int .i64 0, .string ⟨#[]⟩, .bool false, .int .i64 (errC 5)]) ?_ rfl ⟨by rw [hVe.out]; rfl, belq⟩
     simp [results, Tryz.results48, go_sem, *]
    ·have t2 : decide (((numsL L).length : Int) < k) = false := by simp; omega
     have y2 : ¬ ((numsL L).length : Int) < k := by omega
     have z2 : decide (k > ((numsL L).length : Int)) = false := by simp; omega
     obtain ⟨m, hm⟩ : ∃ m : Nat, (numsL L).length - k.toNat = m := ⟨_, rfl⟩
     have hml : m < (sortL (numsL L)).length := by rw [sortL_len]; omega
     obtain ⟨y, hy⟩ : ∃ y, (sortL (numsL L))[m]? = some y := ⟨_, List.getElem?_eq_getElem hml⟩
     obtain ⟨nb, no_, hA8, hnb, hq⟩ := hrd4 m [.int .i64 y] (by rw [List.getElem?_map, hy]; rfl)
     subst hA8
     have hcy : w4.cell? ⟨nb, no_ + m, none⟩ = some (.int .i64 y) := by simpa using hq 0 _ rfl
     have hyb := hno y (sortL_mem.1 (List.mem_of_getElem? hy))
     have hVe := Lib.hid (show V = numL y from by
      rw [hVV3.out]; unfold kthL
      rw [if_neg (by omega), hm]
      show numL ((sortL (numsL L)).getD m 0) = _
      rw [List.getD_eq_getElem?_getD, hy]; rfl)
     have hmi : ((numsL L).length : Int) - k = (m : Int) := by omega
     have wmi : IntKind.i64.wrap (((numsL L).length : Int) - k) = (m : Int) := by rw [hmi]; exact IntWalk.i64_in _ (by omega)
     have wm0 : (0 : Int) ≤ (m : Int) := by omega
     have wml : (m : Int) < ((numsL L).length : Int) := by rw [sortL_len] at hml; omega
     have CY := rvnumA y hyb
     clear hq hy hml hno hm
     go_wp2_with (refine (CY _).mono ?_; rintro e w9 ⟨rfl, hb⟩; obtain ⟨hc, hf, hz⟩ := bkeep hb w4.heap.size (by first | omega | (simp <;> omega)))
     refine bodyPost_ret (v := .agg #[.int .i64 (numL y).t, .int .i64 (numL y).n, .string (numL y).s, .bool (numL y).b, .int .i64 (numL y).c]) ?_ rfl ⟨by rw [hVe.out], belq⟩
     simp [results, Tryz.results48, go_sem, numL, *]
 ·have hVe := Lib.hid (show V = errL c from by rw [← hVV.out, if_neg c0])
  have q9 : (c != 0) = true := by simpa using c0
  go_wp2_with (go_at_call 20; refine (rverrA c _).mono ?_; rintro e w9 ⟨rfl, hb⟩; obtain ⟨hc, hf, hz⟩ := bkeep hb w1.heap.size (by first | omega | (simp <;> omega)))
  refine bodyPost_ret (v := .agg #[.int .i64 4, .int .i64 0, .string ⟨#[]⟩, .bool false, .int .i64 (errC c)]) ?_ rfl ⟨by rw [hVe.out]; rfl, belq⟩
  simp [results, Tryz.results48, go_sem, *]
end Go.Proofs.YtgmhifafbebjfaaGreatDoor
