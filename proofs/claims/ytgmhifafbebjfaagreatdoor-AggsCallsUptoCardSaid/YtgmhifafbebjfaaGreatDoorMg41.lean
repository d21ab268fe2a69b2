/-
 slices.Values, AppendSeq, Collect, Sorted at int64; aggs: slices.Min, slices.Max, the median; functions of one number at least.
-/
import Derived.Test.YtgmhifafbebjfaaGreatDoorMg30
import Derived.RangeFuncBox
import Derived.RangeFuncLeaves
import Derived.Shelf.Abstract
import Derived.OwnWalkIn
import Derived.TacticsInMore
import Derived.LoopNIn
import Derived.LoopIn
import Derived.Lib.MinMax
set_option maxRecDepth 100000
set_option maxHeartbeats 32000000
namespace Go.Proofs.YtgmhifafbebjfaaGreatDoor
open Go.RowKit Go.Shelf

attribute [local go_sem] Oper.semAt_some

def uptoI (f : Nat → Int) (k : Nat) : List Int := (List.range k).map f
theorem uptoI_succ (f : Nat → Int) (k : Nat) : uptoI f (k + 1) = uptoI f k ++ [f k] := by simp [uptoI, List.range_succ]
theorem uptoI_length (f : Nat → Int) (k : Nat) : (uptoI f k).length = k := by simp [uptoI]
theorem uptoI_all (zs : List Int) : uptoI (fun j => zs[j]?.getD 0) zs.length = zs := by
 apply List.ext_getElem
 ·simp [uptoI]
 ·intro i h1 h2
  simp [uptoI, h2]
theorem values1_in (F : Fence) (n : Nat) (h7 : F.fn 209) (hro : F.round = none) (hn : 1 ≤ n) (l Bs n₀ b off len cap : Nat) (zs : List Int) (hreach : len * 8 ≤ 140737488351232) (hb : b < n₀) (J Jx : List Int → World → Prop)
  (hY : ∀ pre x W, J pre W → pre.length < len → YieldAt F (n - 1) Tryz.prog l #[.int .i64 x] W fun e W' =>
   (e = .returned (.bool true) ∧ J (pre ++ [x]) W' ∧ Below n₀ W W') ∨ (e = .returned (.bool false) ∧ Jx (pre ++ [x]) W'))
  (W : World) (hBs : W.cell? ⟨Bs, 0, none⟩ = some (.slice (some ⟨b, off, none⟩) len cap)) (hc : ∀ j, j < len → W.cell? ⟨b, off + j, none⟩ = some (.int .i64 (zs[j]?.getD 0))) (h0 : J [] W) :
  CallsIn F n Tryz.prog 209 #[.func (.yield l) #[] #[], .pointer (some ⟨Bs, 0, none⟩)] W fun e W' => (∃ v, e = .returned v) ∧
   ((∃ ys, ys = uptoI (fun j => zs[j]?.getD 0) len ∧ J ys W') ∨ (∃ pre, True ∧ Jx pre W')) := by
 refine callsIn_of_wp Tryz.func209 rfl h7 ?_ hro
 simp only [Tryz.ntmps209, List.size_toArray, List.length_cons, List.length_nil, Nat.reduceAdd, Nat.reduceSub, Array.replicate_succ, Array.replicate_zero, List.push_toArray, List.append_toArray, List.nil_append, List.cons_append]
 gi_wp2
 gi_loopw [7] (fun i wr => ∃ k : Nat, k ≤ len ∧ i = .int .i64 k ∧ J (uptoI (fun j => zs[j]?.getD 0) k) wr ∧ Below n₀ W wr)
  (fun i _ => len - (intOf i).toNat)
 case atStart => exact ⟨0, Nat.zero_le _, rfl, h0, Below.refl _ _⟩
 case round =>
  obtain ⟨k, hk, rfl, hJs, hnx⟩ := hrel
  have hcx : k < len → wr.cell? ⟨b, off + k, none⟩ = some (.int .i64 (zs[k]?.getD 0)) := fun h => (hnx.cell (p := ⟨b, off + k, none⟩) hb).trans (hc k h)
  by_cases hlt : k < len
  ·obtain ⟨fn, tmps, assign, body, hy, hR⟩ := hY _ (zs[k]?.getD 0) wr hJs (by rw [uptoI_length]; exact hlt)
   have hcx' := hcx hlt
   gi_wp2
   refine hR.mono ?_
   rintro e W3 (⟨rfl, hJ3, hk3⟩ | ⟨rfl, hJx3⟩)
   ·gi_wp2
    go_roundw
    case rel => exact ⟨k + 1, by omega, by simp, by rw [uptoI_succ]; exact hJ3, hnx.trans hk3⟩
    case measure => simp [intOf]; omega
   ·gi_wp2
    refine bodyPost_ret (results_none rfl _ _ _) rfl ?_
    exact ⟨⟨_, rfl⟩, .inr ⟨_, trivial, hJx3⟩⟩
  ·obtain rfl : k = len := by omega
   gi_wp2
   go_end0
   exact ⟨⟨_, rfl⟩, .inl ⟨_, rfl, hJs⟩⟩
theorem values_in (F : Fence) (n : Nat) (h5 : F.fn 178) (hro : F.round = none) (a : Option Addr) (len cap : Nat) (w : World) :
  CallsIn F n Tryz.prog 178 #[.slice a len cap] w fun e w' => e = .returned (.func (.func 209) #[] #[.pointer (some ⟨w.heap.size, 0, none⟩)]) ∧ w' = w.alloc (.cells #[.slice a len cap] 90) := by
 refine callsIn_of_wp Tryz.func178 rfl h5 ?_ hro
 simp only [Tryz.ntmps178, List.size_toArray, List.length_cons, List.length_nil, Nat.reduceAdd, Nat.reduceSub, Array.replicate_succ, Array.replicate_zero, List.push_toArray, List.append_toArray, List.nil_append, List.cons_append]
 gi_wp2
 go_ret
 exact ⟨rfl, rfl⟩
theorem values_stops (F : Fence) (n : Nat) (h7 : F.fn 209) (hro : F.round = none) (hn : 1 ≤ n) (Bs n₀ b off cap : Nat) (zs : List Int) (hreach : zs.length * 8 ≤ 140737488351232) (w : World) (hBs : Bs < w.heap.size) (hn₀ : n₀ ≤ w.heap.size)
  (hc : w.cell? ⟨Bs, 0, none⟩ = some (.slice (some ⟨b, off, none⟩) zs.length cap)) (hb : b < n₀) (hI : ∀ j, j < zs.length → w.cell? ⟨b, off + j, none⟩ = some (.int .i64 (zs[j]?.getD 0))) :
  SeqStopsK F n Tryz.prog 209 #[.pointer (some ⟨Bs, 0, none⟩)] (fun x : Int => #[Value.int .i64 x]) (Below n₀) (fun ys => ys = zs) (fun _ => True) zs.length w := fun l J Jx W hW _ _ hY h0 => by
 have hc' := (hW.cell (p := ⟨Bs, 0, none⟩) hBs).trans hc
 refine (values1_in F n h7 hro hn l Bs n₀ b off zs.length cap zs hreach hb J Jx hY W hc' (fun j hj => (hW.cell (p := ⟨b, off + j, none⟩) (by dsimp only; omega)).trans (hI j hj)) h0).mono ?_
 rintro e W' ⟨he, ⟨ys, rfl, hj⟩ | ⟨pre, hk, hj⟩⟩
 ·exact ⟨he, .inl ⟨_, uptoI_all zs, hj⟩⟩
 ·exact ⟨he, .inr ⟨_, hk, hj⟩⟩
theorem appendseq_in (F : Fence) (n : Nat) (h3 : F.fn 232) (h5 : F.fn 209) (hro : F.round = none) (hn : 3 ≤ n) (Bs b off cap : Nat) (zs : List Int) (hlen : zs.length ≤ maxLen) (hreach : zs.length * 8 ≤ 140737488351232) (w : World) (hBs : w.cell? ⟨Bs, 0, none⟩ = some (.slice (some ⟨b, off, none⟩) zs.length cap)) (hb : b < w.heap.size) (hI : ∀ j, j < zs.length → w.cell? ⟨b, off + j, none⟩ = some (.int .i64 (zs[j]?.getD 0))) :
  CallsIn F n Tryz.prog 232 #[.slice none 0 0, .func (.func 209) #[] #[.pointer (some ⟨Bs, 0, none⟩)]] w fun e W' => (∃ v, e = .returned v ∧ OwnI W' w.heap.size v zs) ∧ Below w.heap.size w W' := by
 have h1 : 1 ≤ n := by omega
 have hbs : Bs < w.heap.size := World.block_lt_of_cell? _ _ hBs
 obtain ⟨i0, hi, hz0, hz1, hz2⟩ := info_parts i64_info'
 refine callsIn_of_wp_marks Tryz.func232 rfl h3 ?_ hro
 simp only [Tryz.ntmps232, List.size_toArray, List.length_cons, List.length_nil, Nat.reduceAdd, Nat.reduceSub, Array.replicate_succ, Array.replicate_zero, List.push_toArray, List.append_toArray, List.nil_append, List.cons_append]
 gi_wp2
 have bO := Boxed.new w 90 (.slice none 0 0)
 have hB0 : Below w.heap.size w (w.alloc (.cells #[.slice none 0 0] 90)) := (Below.refl _ w).alloc (Nat.le_refl _) _
 refine wpIn_rangeFunc_ownG hro h1 (gf := 209) (lb := #[.pointer (some ⟨Bs, 0, none⟩)]) rfl h5 (enters_of Tryz.func209 (by kernel_rfl) rfl)
  (values_stops F (n - 1) h5 hro (by omega) Bs w.heap.size b off cap zs hreach _ (by first | (simp; done) | (simp; omega)) (by simp) ((hB0.cell (p := ⟨Bs, 0, none⟩) hbs).trans hBs) hb (fun j hj => (hB0.cell (p := ⟨b, off + j, none⟩) hb).trans (hI j hj))) belowK_t (belowK_b (by first | (simp; done) | (simp; omega))) (Below.refl _ _) (fun _ => rfl)
  (fun pre W => (∃ v, Boxed W w.heap.size 90 v ∧ W.ownsRow w.heap.size 2 1 v pre.length (pre.map (Value.int .i64)) ∧ True) ∧ Below w.heap.size w W)
  (fun _ _ _ => False)
  (OwnFrom.and (Own.from (holdsRow_own w.heap.size w.heap.size 90 2 1 (fun pre : List Int => pre.length) (fun pre => pre.map (Value.int .i64)) (fun _ _ => True)) _) (ownFrom_below (Nat.le_refl _) (by first | (simp; done) | (simp; omega))))
  (fun _ _ _ _ _ hs _ _ => hs)
  ⟨⟨_, bO, World.ownsRow_nil _ _ _ _, trivial⟩, hB0⟩
  (fun x => { tmps := #[.slice none 0 0, .func (.func 209) #[] #[.pointer (some ⟨Bs, 0, none⟩)], .pointer (some ⟨w.heap.size, 0, none⟩), undef, .slice none 0 0, .int .i64 x, .func (.func 209) #[] #[.pointer (some ⟨Bs, 0, none⟩)], .int .i64 x, undef, undef, undef, undef, undef], defers := [] }) ?assign ?body ?done ?stop
 case assign =>
  intro l x W K hK
  gi_wp2
  exact hK
 case body =>
  rintro l pre x W ⟨⟨v, hv, hrow, hnil⟩, hB⟩ hlt
  have hc := hv.cell
  gi_wp2_with (gi_at_builtin; refine wpListIn_append_own _ rfl _ _ 90 rfl w.heap.size 2 i0 (.int .i64 0) 1 8 Tryz.underlying90 hi hz0 hz1 hz2 rfl (by decide) _ _ _ rfl (hrow.alloc _) ⟨W.heap.size, 0, none⟩ 1 1 [.int .i64 x] rfl rfl (cell_one_new _ _ _) (by simp [Value.oneCell']) (by omega) (by omega) (by have := hB.size; simp; omega) ?_; intro v' w1 hown' hgrow _; obtain ⟨g', cap', rfl⟩ := ownsRow_succ hown'; obtain ⟨hv1, hv2, hr2, hk2, hb2⟩ := hv.appended (by decide) hrow hB.size (Nat.le_refl _) hown' hgrow; have hc1 := hv1.cell; have hf1 := hv1.frozen)
  exact ⟨hk2.from _, hb2, ⟨_, hv2, by simpa using hr2, trivial⟩, hB.trans hb2⟩
 case done =>
  rintro D ys W hD rfl ⟨⟨v, hv, hrow, hnil⟩, hB⟩ hK
  have hc := hv.cell
  gi_wp2
  refine ⟨by simp, .inl ⟨_, _, rfl, run_takeDeferred hK, ?_⟩⟩
  exact ⟨_, results_tmp rfl _ _ _, ⟨v, rfl, ownsRow_putObj hrow _ hK rfl⟩, hB.trans (belowK_b (w := w) (Nat.le_refl _) W D _ _ (by simp at hD; omega) hK rfl rfl)⟩
 case stop =>
  rintro D c pre W _ _ h _
  exact h.elim
theorem collect_in (F : Fence) (n : Nat) (h2 : F.fn 208) (h3 : F.fn 232) (h5 : F.fn 209) (hro : F.round = none) (hn : 4 ≤ n) (Bs b off cap : Nat) (zs : List Int) (hlen : zs.length ≤ maxLen) (hreach : zs.length * 8 ≤ 140737488351232) (w : World) (hBs : w.cell? ⟨Bs, 0, none⟩ = some (.slice (some ⟨b, off, none⟩) zs.length cap)) (hb : b < w.heap.size) (hI : ∀ j, j < zs.length → w.cell? ⟨b, off + j, none⟩ = some (.int .i64 (zs[j]?.getD 0))) :
  CallsIn F n Tryz.prog 208 #[.func (.func 209) #[] #[.pointer (some ⟨Bs, 0, none⟩)]] w fun e W' => (∃ v, e = .returned v ∧ OwnI W' w.heap.size v zs) ∧ Below w.heap.size w W' := by
 have h1 : 1 ≤ n := by omega
 have CA := appendseq_in F (n - 1) h3 h5 hro (by omega) Bs b off cap zs hlen hreach w hBs hb hI
 refine callsIn_of_wp Tryz.func208 rfl h2 ?_ hro
 simp only [Tryz.ntmps208, List.size_toArray, List.length_cons, List.length_nil, Nat.reduceAdd, Nat.reduceSub, Array.replicate_succ, Array.replicate_zero, List.push_toArray, List.append_toArray, List.nil_append, List.cons_append]
 gi_wp2_with (gi_at_call 232; refine CA.mono ?_; rintro e w1 ⟨⟨v, rfl, hown⟩, hB⟩)
 go_ret
 exact ⟨⟨_, rfl, hown⟩, hB⟩
theorem sorted_any (Bs b off cap : Nat) (zs : List Int) (hlen : zs.length ≤ 2932031007402) (w : World) (hBs : w.cell? ⟨Bs, 0, none⟩ = some (.slice (some ⟨b, off, none⟩) zs.length cap)) (hb : b < w.heap.size) (hI : ∀ j, j < zs.length → w.cell? ⟨b, off + j, none⟩ = some (.int .i64 (zs[j]?.getD 0))) :
  Calls Tryz.prog 177 #[.func (.func 209) #[] #[.pointer (some ⟨Bs, 0, none⟩)]] w fun e W' => (∃ v, e = .returned v ∧ OwnI W' w.heap.size v (zs.mergeSort fun x y => decide (x ≤ y))) ∧ Below w.heap.size w W' := by
 have CC := (callsIn_wide (n := 5)).1 (collect_in Fence.wide 5 trivial trivial trivial rfl (by omega) Bs b off cap zs (by unfold maxLen; omega) (by omega) w hBs hb hI)
 go_enter Tryz.func177, Tryz.ntmps177
 go_wp2_with fail
 refine CC.mono ?_
 clear CC
 rintro e w1 ⟨⟨v, rfl, hown⟩, hB⟩
 have CS := Lib.hid (sorti_any zs (by omega) w1 w.heap.size v hown)
 have hlt := hown.lt
 go_wp2_with fail
 refine CS.out.mono ?_
 clear CS
 rintro e w2 ⟨rfl, hown2, hgr⟩
 have hB2 : Below w.heap.size w w2 := hB.grown hgr hB.size (fun q hq => (hlt q hq).1)
 go_wp2
 go_ret
 exact ⟨⟨_, rfl, hown2⟩, hB2⟩
theorem values_any (a : Option Addr) (len cap : Nat) (w : World) : Calls Tryz.prog 178 #[.slice a len cap] w fun e w' => e = .returned (.func (.func 209) #[] #[.pointer (some ⟨w.heap.size, 0, none⟩)]) ∧ w' = w.alloc (.cells #[.slice a len cap] 90) := (callsIn_wide (n := 3)).1 (values_in Fence.wide 3 trivial rfl a len cap w)
end Go.Proofs.YtgmhifafbebjfaaGreatDoor
namespace Go.Proofs.YtgmhifafbebjfaaGreatDoor
open Go.RowKit

theorem amin_any (l : List Int) (h0 : l ≠ []) (hlen : l.length ≤ 2932031007402) (w : World) (A : Option Addr) (cap : Nat) (hR : RdI w A l) : Calls Tryz.prog 106 #[.slice A l.length cap] w fun e w' => e = .returned (.int .i64 (Lib.minOf l)) ∧ Below w.heap.size w w' := by
 have hn : 0 < l.length := List.length_pos_iff.2 h0
 obtain ⟨ab, ao, rfl, hab, hcell0⟩ := hR 0 [.int .i64 (l[0]'hn)] (by rw [List.getElem?_map, List.getElem?_eq_getElem hn]; rfl)
 have hc : ∀ j, j < l.length → w.cell? ⟨ab, ao + j, none⟩ = some (.int .i64 (l.getD j 0)) := fun j hj => by
  obtain ⟨ab2, ao2, hA3, _, hcell⟩ := hR j [.int .i64 (l[j]'hj)] (by rw [List.getElem?_map, List.getElem?_eq_getElem hj]; rfl)
  cases hA3
  have h9 := hcell 0 _ rfl
  rw [List.getD_eq_getElem?_getD, List.getElem?_eq_getElem hj]
  simpa using h9
 have h0c : w.cell? ⟨ab, ao, none⟩ = some (.int .i64 (l.getD 0 0)) := by have h9 := hc 0 hn; rwa [Nat.add_zero] at h9
 have hn1 : ¬ (l.length : Int) < 1 := by omega
 clear hR hcell0
 go_enter Tryz.func106, Tryz.ntmps106
 go_wp2
 go_loop [3, 4] (fun m i => ∃ k : Nat, 0 < k ∧ k ≤ l.length ∧ i = .int .i64 k ∧ m = .int .i64 (Lib.minOf (l.take k))) (fun _ i => l.length - (intOf i).toNat)
 case atStart => exact ⟨1, Nat.one_pos, hn, rfl, by rw [Lib.minOf_one]; simp [List.getD, List.getElem?_eq_getElem hn]⟩
 case round =>
  obtain ⟨k, hk0, hk, rfl, rfl⟩ := hrel
  by_cases hlt : k < l.length
  ·have ck : w.cell? ⟨ab, ao + k, none⟩ = some (.int .i64 (l.getD k 0)) := hc k hlt
   have S : Hid (Lib.minOf (l.take (k + 1)) = min (Lib.minOf (l.take k)) (l.getD k 0)) := Lib.hid (Lib.minOf_step l k hk0 hlt)
   have hkl : (k : Int) < (l.length : Int) := by omega
   clear hc h0c
   generalize l.getD k 0 = y at *
   generalize Lib.minOf (l.take k) = m at *
   go_wp2
   exact ⟨⟨k + 1, Nat.succ_pos k, by omega, by go_num, by rw [S.out]⟩, by simp [intOf]; omega⟩
  ·obtain rfl : k = l.length := by omega
   have hkl : ¬ (l.length : Int) < (l.length : Int) := by omega
   rw [List.take_length]
   clear hc h0c
   go_wp2
   go_ret
   exact ⟨rfl, Below.refl _ _⟩
theorem amax_any (l : List Int) (h0 : l ≠ []) (hlen : l.length ≤ 2932031007402) (w : World) (A : Option Addr) (cap : Nat) (hR : RdI w A l) : Calls Tryz.prog 107 #[.slice A l.length cap] w fun e w' => e = .returned (.int .i64 (Lib.maxOf l)) ∧ Below w.heap.size w w' := by
 have hn : 0 < l.length := List.length_pos_iff.2 h0
 obtain ⟨ab, ao, rfl, hab, hcell0⟩ := hR 0 [.int .i64 (l[0]'hn)] (by rw [List.getElem?_map, List.getElem?_eq_getElem hn]; rfl)
 have hc : ∀ j, j < l.length → w.cell? ⟨ab, ao + j, none⟩ = some (.int .i64 (l.getD j 0)) := fun j hj => by
  obtain ⟨ab2, ao2, hA3, _, hcell⟩ := hR j [.int .i64 (l[j]'hj)] (by rw [List.getElem?_map, List.getElem?_eq_getElem hj]; rfl)
  cases hA3
  have h9 := hcell 0 _ rfl
  rw [List.getD_eq_getElem?_getD, List.getElem?_eq_getElem hj]
  simpa using h9
 have h0c : w.cell? ⟨ab, ao, none⟩ = some (.int .i64 (l.getD 0 0)) := by have h9 := hc 0 hn; rwa [Nat.add_zero] at h9
 have hn1 : ¬ (l.length : Int) < 1 := by omega
 clear hR hcell0
 go_enter Tryz.func107, Tryz.ntmps107
 go_wp2
 go_loop [3, 4] (fun m i => ∃ k : Nat, 0 < k ∧ k ≤ l.length ∧ i = .int .i64 k ∧ m = .int .i64 (Lib.maxOf (l.take k))) (fun _ i => l.length - (intOf i).toNat)
 case atStart => exact ⟨1, Nat.one_pos, hn, rfl, by rw [Lib.maxOf_one]; simp [List.getD, List.getElem?_eq_getElem hn]⟩
 case round =>
  obtain ⟨k, hk0, hk, rfl, rfl⟩ := hrel
  by_cases hlt : k < l.length
  ·have ck : w.cell? ⟨ab, ao + k, none⟩ = some (.int .i64 (l.getD k 0)) := hc k hlt
   have S : Hid (Lib.maxOf (l.take (k + 1)) = max (Lib.maxOf (l.take k)) (l.getD k 0)) := Lib.hid (Lib.maxOf_step l k hk0 hlt)
   have hkl : (k : Int) < (l.length : Int) := by omega
   clear hc h0c
   generalize l.getD k 0 = y at *
   generalize Lib.maxOf (l.take k) = m at *
   go_wp2
   exact ⟨⟨k + 1, Nat.succ_pos k, by omega, by go_num, by rw [S.out]⟩, by simp [intOf]; omega⟩
  ·obtain rfl : k = l.length := by omega
   have hkl : ¬ (l.length : Int) < (l.length : Int) := by omega
   rw [List.take_length]
   clear hc h0c
   go_wp2
   go_ret
   exact ⟨rfl, Below.refl _ _⟩
theorem own_rdc {w : World} {B : Nat} {v : Value} {l : List Int} (h : OwnI w B v l) (h0 : l ≠ []) : ∃ b cap, v = .slice (some ⟨b, 0, none⟩) l.length cap ∧ b < w.heap.size ∧ l.length ≤ cap ∧ ∀ j, j < l.length → w.cell? ⟨b, j, none⟩ = some (.int .i64 (l.getD j 0)) := by
 have h9 := h
 unfold OwnI at h
 rcases h.2 with ⟨_, hz⟩ | ⟨g, cap, cur, rfl, hbase, hb, h1, h2, h3, h4⟩
 ·exact absurd (List.eq_nil_of_length_eq_zero hz) h0
 ·refine ⟨g, cap, rfl, (Array.getElem?_eq_some_iff.1 hb).1, h1, fun j hj => ?_⟩
  obtain ⟨A, cap', e, hr⟩ := own_rdi h9
  injection e with e
  subst e
  obtain ⟨ab2, ao2, hA3, _, hcell⟩ := hr j [.int .i64 (l[j]'hj)] (by rw [List.getElem?_map, List.getElem?_eq_getElem hj]; rfl)
  cases hA3
  have h8 := hcell 0 _ rfl
  rw [List.getD_eq_getElem?_getD, List.getElem?_eq_getElem hj]
  simpa using h8
theorem amedian_o (l : List Int) (hl : ∀ x ∈ l, -9223372036854775808 ≤ x ∧ x ≤ 9223372036854775807) (h0 : l ≠ []) (hlen : l.length ≤ 2932031007402) (k : Nat) (hk : l.length = 2 * k + 1) (w : World) (A : Option Addr) (cap : Nat) (hR : RdI w A l) : Calls Tryz.prog 109 #[.slice A l.length cap] w fun e w' => e = .returned (.int .i64 ((sortL l).getD k 0)) ∧ Below w.heap.size w w' := by
 have hn : 0 < l.length := List.length_pos_iff.2 h0
 obtain ⟨ab, ao, rfl, hab, hcell0⟩ := hR 0 [.int .i64 (l[0]'hn)] (by rw [List.getElem?_map, List.getElem?_eq_getElem hn]; rfl)
 have b0 : Below w.heap.size w (w.alloc (.cells #[.slice (some ⟨ab, ao, none⟩) l.length cap] 90)) := (Below.refl _ _).alloc (Nat.le_refl _) _
 have hc : ∀ j, j < l.length → (w.alloc (.cells #[.slice (some ⟨ab, ao, none⟩) l.length cap] 90)).cell? ⟨ab, ao + j, none⟩ = some (.int .i64 (l[j]?.getD 0)) := fun j hj => by
  obtain ⟨ab2, ao2, hA3, _, hcell⟩ := hR j [.int .i64 (l[j]'hj)] (by rw [List.getElem?_map, List.getElem?_eq_getElem hj]; rfl)
  cases hA3
  have h9 := hcell 0 _ rfl
  rw [b0.cell (p := ⟨ab, ao + j, none⟩) hab, List.getElem?_eq_getElem hj]
  simpa using h9
 have CS := sorted_any w.heap.size ab ao cap l hlen (w.alloc (.cells #[.slice (some ⟨ab, ao, none⟩) l.length cap] 90)) (by simp) (by simp; omega) hc
 have CS' := Lib.hid CS
 have hsl : (sortL l).length = l.length := sortL_len l
 have hl' := Lib.hid hl
 have hk' := Lib.hid hk
 clear hR hcell0 hc CS hl hk
 go_enter Tryz.func109, Tryz.ntmps109
 go_wp2_with fail
 refine (values_any _ _ _ _).mono ?_
 rintro e w1 ⟨rfl, rfl⟩
 go_wp2_with fail
 refine CS'.out.mono ?_
 clear CS'
 rintro e w2 ⟨⟨v, rfl, hown⟩, hb2⟩
 have hown' : OwnI w2 (w.alloc (.cells #[.slice (some ⟨ab, ao, none⟩) l.length cap] 90)).heap.size v (sortL l) := hown
 obtain ⟨gb, gcap, rfl, hgb, hgc, hcs⟩ := own_rdc hown' (by intro e9; rw [e9] at hsl; simp at hsl; omega)
 clear hown hown'
 rw [hsl] at hgc hcs ⊢
 have q2 : Below w.heap.size w w2 := b0.trans (hb2.mono (by simp))
 clear hb2 b0
 have hk := hk'.out
 have hq1 : (l.length : Int).tdiv 2 = (k : Int) := by rw [Int.tdiv_eq_ediv_of_nonneg (by omega)]; omega
 have hq2 : (l.length : Int) / 2 = (k : Int) := by omega
 have hr1 : (l.length : Int).tmod 2 = 1 := by rw [Int.tmod_eq_emod_of_nonneg (by omega)]; omega
 have hr2 : (l.length : Int) % 2 = 1 := by omega
 have hck : w2.cell? ⟨gb, k, none⟩ = some (.int .i64 ((sortL l).getD k 0)) := hcs k (by omega)
 have hkl : (k : Int) < (l.length : Int) := by omega
 have hk0 : (0 : Int) ≤ (k : Int) := by omega
 obtain ⟨y, hy⟩ : ∃ y, (sortL l).getD k 0 = y := ⟨_, rfl⟩
 rw [hy] at hck
 have hy' := Lib.hid hy
 clear hcs hsl hk hk' hy
 go_wp2
 go_ret
 exact ⟨by rw [hy'.out]; rfl, q2⟩
theorem amedian_e (l : List Int) (hl : ∀ x ∈ l, -9223372036854775808 ≤ x ∧ x ≤ 9223372036854775807) (h0 : l ≠ []) (hlen : l.length ≤ 2932031007402) (k : Nat) (hk : l.length = 2 * (k + 1)) (w : World) (A : Option Addr) (cap : Nat) (hR : RdI w A l) : Calls Tryz.prog 109 #[.slice A l.length cap] w fun e w' => e = .returned (.int .i64 (meanL [(sortL l).getD k 0, (sortL l).getD (k + 1) 0])) ∧ Below w.heap.size w w' := by
 have hn : 0 < l.length := List.length_pos_iff.2 h0
 obtain ⟨ab, ao, rfl, hab, hcell0⟩ := hR 0 [.int .i64 (l[0]'hn)] (by rw [List.getElem?_map, List.getElem?_eq_getElem hn]; rfl)
 have b0 : Below w.heap.size w (w.alloc (.cells #[.slice (some ⟨ab, ao, none⟩) l.length cap] 90)) := (Below.refl _ _).alloc (Nat.le_refl _) _
 have hc : ∀ j, j < l.length → (w.alloc (.cells #[.slice (some ⟨ab, ao, none⟩) l.length cap] 90)).cell? ⟨ab, ao + j, none⟩ = some (.int .i64 (l[j]?.getD 0)) := fun j hj => by
  obtain ⟨ab2, ao2, hA3, _, hcell⟩ := hR j [.int .i64 (l[j]'hj)] (by rw [List.getElem?_map, List.getElem?_eq_getElem hj]; rfl)
  cases hA3
  have h9 := hcell 0 _ rfl
  rw [b0.cell (p := ⟨ab, ao + j, none⟩) hab, List.getElem?_eq_getElem hj]
  simpa using h9
 have CS := sorted_any w.heap.size ab ao cap l hlen (w.alloc (.cells #[.slice (some ⟨ab, ao, none⟩) l.length cap] 90)) (by simp) (by simp; omega) hc
 have CS' := Lib.hid CS
 have hsl : (sortL l).length = l.length := sortL_len l
 have hl' := Lib.hid hl
 have hk' := Lib.hid hk
 clear hR hcell0 hc CS hl hk
 go_enter Tryz.func109, Tryz.ntmps109
 go_wp2_with fail
 refine (values_any _ _ _ _).mono ?_
 rintro e w1 ⟨rfl, rfl⟩
 go_wp2_with fail
 refine CS'.out.mono ?_
 clear CS'
 rintro e w2 ⟨⟨v, rfl, hown⟩, hb2⟩
 have hown' : OwnI w2 (w.alloc (.cells #[.slice (some ⟨ab, ao, none⟩) l.length cap] 90)).heap.size v (sortL l) := hown
 obtain ⟨gb, gcap, rfl, hgb, hgc, hcs⟩ := own_rdc hown' (by intro e9; rw [e9] at hsl; simp at hsl; omega)
 clear hown hown'
 rw [hsl] at hgc hcs ⊢
 have q2 : Below w.heap.size w w2 := b0.trans (hb2.mono (by simp))
 clear hb2 b0
 have hk := hk'.out
 have hq1 : (l.length : Int).tdiv 2 = (k : Int) + 1 := by rw [Int.tdiv_eq_ediv_of_nonneg (by omega)]; omega
 have hq2 : (l.length : Int) / 2 = (k : Int) + 1 := by omega
 have hr1 : (l.length : Int).tmod 2 = 0 := by rw [Int.tmod_eq_emod_of_nonneg (by omega)]; omega
 have hr2 : (l.length : Int) % 2 = 0 := by omega
 have hm0 := hl'.out _ (sortL_getD_mem (l := l) (i := k) (by omega))
 have hm1 := hl'.out _ (sortL_getD_mem (l := l) (i := k + 1) (by omega))
 have hck0 : w2.cell? ⟨gb, k, none⟩ = some (.int .i64 ((sortL l).getD k 0)) := hcs k (by omega)
 have hck1 : w2.cell? ⟨gb, k + 1, none⟩ = some (.int .i64 ((sortL l).getD (k + 1) 0)) := hcs (k + 1) (by omega)
 obtain ⟨y0, hy0⟩ : ∃ y, (sortL l).getD k 0 = y := ⟨_, rfl⟩
 obtain ⟨y1, hy1⟩ : ∃ y, (sortL l).getD (k + 1) 0 = y := ⟨_, rfl⟩
 rw [hy0] at hck0 hm0
 rw [hy1] at hck1 hm1
 have hy0' := Lib.hid hy0
 have hy1' := Lib.hid hy1
 clear hy0 hy1
 have CM : ∀ cap9 : Nat, Calls Tryz.prog 108 #[.slice (some ⟨gb, k, none⟩) 2 cap9] w2 fun e w' => e = .returned (.int .i64 (meanL [y0, y1])) ∧ Below w2.heap.size w2 w' := fun cap9 => amean_any [y0, y1] (by intro x hx; simp at hx; rcases hx with rfl | rfl; exact hm0; exact hm1) (by simp) (by simp) w2 (some ⟨gb, k, none⟩) cap9 (by
  intro i c hi
  refine ⟨gb, k, rfl, hgb, ?_⟩
  cases i with
  |
   zero => simp at hi; subst hi; intro j u hj; cases j with
   | zero => simp at hj; subst hj; simpa using hck0
   | succ j => simp at hj
  |
   succ i => cases i with
   |
    zero => simp at hi; subst hi; intro j u hj; cases j with
    | zero => simp at hj; subst hj; simpa using hck1
    | succ j => simp at hj
   | succ i => simp at hi)
 have CM' := Lib.hid CM
 have hkc : (k : Int) + 2 ≤ (gcap : Int) := by omega
 have hw1 : IntKind.i64.wrap ((k : Int) + 1 - 1) = (k : Int) := by rw [show (k : Int) + 1 - 1 = (k : Int) by omega]; exact IntWalk.i64_in _ (by omega)
 have hw2 : IntKind.i64.wrap ((k : Int) + 1 + 1) = (k : Int) + 2 := by rw [show (k : Int) + 1 + 1 = (k : Int) + 2 by omega]; exact IntWalk.i64_in _ (by omega)
 clear hcs hsl CM hm0 hm1 hck0 hck1 hk hk'
 go_wp2_with fail
 refine (CM'.out _).mono ?_
 clear CM'
 rintro e w3 ⟨rfl, hb3⟩
 go_wp2
 go_ret
 exact ⟨by rw [hy0'.out, hy1'.out]; rfl, q2.trans (hb3.mono q2.size)⟩
theorem amedian_any (l : List Int) (hl : ∀ x ∈ l, -9223372036854775808 ≤ x ∧ x ≤ 9223372036854775807) (h0 : l ≠ []) (hlen : l.length ≤ 2932031007402) (w : World) (A : Option Addr) (cap : Nat) (hR : RdI w A l) : Calls Tryz.prog 109 #[.slice A l.length cap] w fun e w' => e = .returned (.int .i64 (medianL l)) ∧ Below w.heap.size w w' := by
 have hn : 0 < l.length := List.length_pos_iff.2 h0
 unfold medianL
 by_cases h : l.length % 2 = 1
 ·rw [if_pos h]; exact amedian_o l hl h0 hlen (l.length / 2) (by omega) w A cap hR
 ·rw [if_neg h]
  have := amedian_e l hl h0 hlen (l.length / 2 - 1) (by omega) w A cap hR
  rw [show l.length / 2 - 1 + 1 = l.length / 2 by omega] at this
  exact this
def someR (l : List Int) (r : Int) : VL := if l = [] then errL 6 else numL r
theorem agsome_no (w : World) (A : Option Addr) (cap pb : Nat) : Calls Tryz.prog 174 #[.slice A 0 cap, .pointer (some ⟨pb, 0, none⟩)] w fun e w' => e = .returned (.agg #[.int .i64 ((errL 6)).t, .int .i64 ((errL 6)).n, .string ((errL 6)).s, .bool ((errL 6)).b, .int .i64 ((errL 6)).c]) ∧ Below w.heap.size w w' := by
 go_enter Tryz.func174, Tryz.ntmps174
 go_wp2_with (go_at_call 11; refine (verr_any 6 _).mono ?_; rintro e w9 ⟨rfl, hb9⟩; obtain ⟨gc9, gf9, gz9⟩ := bkeep hb9 (w.heap.size + 1) (by first | omega | (simp <;> omega)))
 refine bodyPost_ret (v := .agg #[.int .i64 ((errL 6)).t, .int .i64 ((errL 6)).n, .string ((errL 6)).s, .bool ((errL 6)).b, .int .i64 ((errL 6)).c]) ?_ rfl ⟨rfl, belq⟩
 simp [results, Tryz.results174, go_sem, errL, *]
theorem agsome_yes (l : List Int) (h0 : l ≠ []) (w : World) (A : Option Addr) (cap pb g : Nat) (hbox : w.cell? ⟨pb, 0, none⟩ = some (.func (.func g) #[] #[])) (hgo : ∀ args w, Sem.run Tryz.prog (callFunc g args) w = .ok (.enter g args) w) (r : Int) (hr : -9223372036854775808 ≤ r ∧ r ≤ 9223372036854775807) (hC : Calls Tryz.prog g #[.slice A l.length cap] (w.alloc (.cells #[.int .i64 0, .int .i64 0, .string ⟨#[]⟩, .bool false, .int .i64 0] 26)) fun e w' => e = .returned (.int .i64 r) ∧ Below (w.alloc (.cells #[.int .i64 0, .int .i64 0, .string ⟨#[]⟩, .bool false, .int .i64 0] 26)).heap.size (w.alloc (.cells #[.int .i64 0, .int .i64 0, .string ⟨#[]⟩, .bool false, .int .i64 0] 26)) w') : Calls Tryz.prog 174 #[.slice A l.length cap, .pointer (some ⟨pb, 0, none⟩)] w fun e w' => e = .returned (.agg #[.int .i64 ((numL r)).t, .int .i64 ((numL r)).n, .string ((numL r)).s, .bool ((numL r)).b, .int .i64 ((numL r)).c]) ∧ Below w.heap.size w w' := by
 have hn : 0 < l.length := List.length_pos_iff.2 h0
 have hn0 : ¬ (l.length : Int) = 0 := by omega
 have hpl : pb < w.heap.size := World.block_lt_of_cell? _ _ hbox
 have hpn : pb ≠ w.heap.size := by omega
 have hC' := Lib.hid hC
 clear hC
 generalize l.length = N at *
 clear h0
 go_enter Tryz.func174, Tryz.ntmps174
 go_wp2_with fail
 refine hC'.out.mono ?_
 clear hC'
 rintro e w1 ⟨rfl, hb1⟩
 obtain ⟨gc1, gf1, gz1⟩ := bkeep hb1 (w.heap.size + 1) (by simp)
 have l1 : w.heap.size < w1.heap.size := by omega
 go_wp2_with (go_at_call 141; refine (vnum_any r hr _).mono ?_; rintro e w9 ⟨rfl, hb9⟩; obtain ⟨gc9, gf9, gz9⟩ := bkeep hb9 (w.heap.size + 1) (by first | omega | (simp <;> omega)))
 refine bodyPost_ret (v := .agg #[.int .i64 ((numL r)).t, .int .i64 ((numL r)).n, .string ((numL r)).s, .bool ((numL r)).b, .int .i64 ((numL r)).c]) ?_ rfl ⟨rfl, belq⟩
 simp [results, Tryz.results174, go_sem, numL, *]
theorem agsome_any (l : List Int) (w : World) (A : Option Addr) (cap pb g : Nat) (hR : RdI w A l) (hbox : w.cell? ⟨pb, 0, none⟩ = some (.func (.func g) #[] #[])) (hgo : ∀ args w, Sem.run Tryz.prog (callFunc g args) w = .ok (.enter g args) w) (r : Int) (hr : l ≠ [] → -9223372036854775808 ≤ r ∧ r ≤ 9223372036854775807) (hC : l ≠ [] → ∀ (w2 : World) (A2 : Option Addr) (cap2 : Nat), RdI w2 A2 l → Calls Tryz.prog g #[.slice A2 l.length cap2] w2 fun e w' => e = .returned (.int .i64 r) ∧ Below w2.heap.size w2 w') : Calls Tryz.prog 174 #[.slice A l.length cap, .pointer (some ⟨pb, 0, none⟩)] w fun e w' => e = .returned (.agg #[.int .i64 ((someR l r)).t, .int .i64 ((someR l r)).n, .string ((someR l r)).s, .bool ((someR l r)).b, .int .i64 ((someR l r)).c]) ∧ Below w.heap.size w w' := by
 unfold someR
 by_cases h : l = []
 ·rw [if_pos h]
  subst h
  exact agsome_no w A cap pb
 ·rw [if_neg h]
  exact agsome_yes l h w A cap pb g hbox hgo r (hr h) (hC h (w.alloc (.cells #[.int .i64 0, .int .i64 0, .string ⟨#[]⟩, .bool false, .int .i64 0] 26)) A cap (RdB.mono (RdB.below hR ((Below.refl _ _).alloc (Nat.le_refl _) _)) (by simp)))
end Go.Proofs.YtgmhifafbebjfaaGreatDoor
