/-
 aggs: items; the document's aggs: items, faulty.
-/
import Derived.Test.YtgmhifafbebjfaaGreatDoorMg8
import Derived.IntWalk
set_option maxRecDepth 100000
set_option maxHeartbeats 32000000
namespace Go.Proofs.YtgmhifafbebjfaaGreatDoor
open Go.RowKit

theorem val_info : (Tryz.prog.info? 26).map (fun i => (i.zero, i.size, i.bytes)) = some (some (.agg #[.int .i64 0, .int .i64 0, .string ⟨#[]⟩, .bool false, .int .i64 0]), 5, 48) := by kernel_rfl
def itemsX (x : AL) : List VL := (if x.many = true then [] else [x.v]) ++ x.es.map EL.v
def itemsL (l : List AL) : List VL := (l.map itemsX).flatten
theorem itemsL_snoc (l : List AL) (x : AL) : itemsL (l ++ [x]) = itemsL l ++ itemsX x := by simp [itemsL]
def vRow (l : List VL) : List Value := (l.map VL.cs).flatten
theorem vRow_app (a b : List VL) : vRow (a ++ b) = vRow a ++ vRow b := by simp [vRow]
theorem vRow_one (v : VL) : vRow [v] = v.cs := by simp [vRow]
theorem itemsL_take (l : List AL) (k : Nat) : (itemsL (l.take k)).length ≤ (itemsL l).length := by
 have h : itemsL l = itemsL (l.take k) ++ itemsL (l.drop k) := by
  unfold itemsL; rw [← List.flatten_append, ← List.map_append, List.take_append_drop]
 rw [h, List.length_append]; omega
theorem vget {w : World} {g : Nat} {v : VL} {T : TypeId} (h : w.heap[g]? = some (.cells #[.int .i64 v.t, .int .i64 v.n, .string v.s, .bool v.b, .int .i64 v.c] T (0, 0))) : ∀ (j : Nat) (u : Value), v.cs[j]? = some u → w.cell? ((⟨g, 0, none⟩ : Addr).add j) = some u := fun j u hj => by
 rw [show (⟨g, 0, none⟩ : Addr).add j = ⟨g, j, none⟩ by unfold Addr.add; split <;> simp [*], cell_of_row w g j _ T (0, 0) h, ← Array.getElem?_toList]
 exact hj
def OwnV (w : World) (B : Nat) (v : Value) (l : List VL) : Prop := w.ownsRow B 26 5 v l.length (vRow l)
theorem aitems_any (l : List AL) (hlen : l.length ≤ 1649267441664) (hN : (itemsL l).length ≤ 2932031007402) (w : World) (A : Option Addr) (cap : Nat) (hR : RdB w w.heap.size A 11 (l.map AL.cs)) (hin : ∀ x ∈ l, x.In w w.heap.size) : Calls Tryz.prog 171 #[.slice A l.length cap] w fun e w' => (∃ v, e = .returned v ∧ OwnV w' w.heap.size v (itemsL l)) ∧ Below w.heap.size w w' := by
 obtain ⟨i0, hi, hz0, hz1, hz2⟩ := info_parts val_info
 have hR' := Lib.hid hR
 have hin' := Lib.hid hin
 clear hR hin
 go_enter Tryz.func171, Tryz.ntmps171
 go_wp2
 go_loopw [3, 10] (fun v i wr => ∃ k : Nat, k ≤ l.length ∧ i = .int .i64 (k : Int) ∧ OwnV wr w.heap.size v (itemsL (l.take k)) ∧ Below w.heap.size w wr) (fun _ i _ => l.length - (intOf i).toNat)
 case atStart => exact ⟨0, Nat.zero_le _, rfl, World.ownsRow_nil _ _ _ _, Below.refl _ _⟩
 case round =>
  obtain ⟨k, hk, rfl, hown, hbr⟩ := hrel
  have hzr := hbr.size
  by_cases hlt : k < l.length
  ·obtain ⟨x, hx⟩ : ∃ x, l[k]? = some x := ⟨_, List.getElem?_eq_getElem hlt⟩
   have hxm := List.mem_of_getElem? hx
   obtain ⟨ab, ao, hA2, hab, hcell⟩ := (hR'.out.below hbr) k x.cs (by rw [List.getElem?_map, hx]; rfl)
   obtain rfl : A = some ⟨ab, ao, none⟩ := hA2
   have hc0 : wr.cell? ⟨ab, ao + k * 11, none⟩ = some (.bool x.many) := hcell 0 _ rfl
   have hc1 : wr.cell? ⟨ab, ao + k * 11 + 1, none⟩ = some (.int .i64 x.v.t) := hcell 1 _ rfl
   have hc2 : wr.cell? ⟨ab, ao + k * 11 + 2, none⟩ = some (.int .i64 x.v.n) := hcell 2 _ rfl
   have hc3 : wr.cell? ⟨ab, ao + k * 11 + 3, none⟩ = some (.string x.v.s) := hcell 3 _ rfl
   have hc4 : wr.cell? ⟨ab, ao + k * 11 + 4, none⟩ = some (.bool x.v.b) := hcell 4 _ rfl
   have hc5 : wr.cell? ⟨ab, ao + k * 11 + 5, none⟩ = some (.int .i64 x.v.c) := hcell 5 _ rfl
   have hc6 : wr.cell? ⟨ab, ao + k * 11 + 6, none⟩ = some (.int .i64 x.t) := hcell 6 _ rfl
   have hc7 : wr.cell? ⟨ab, ao + k * 11 + 7, none⟩ = some (.int .i64 x.l) := hcell 7 _ rfl
   have hc8 : wr.cell? ⟨ab, ao + k * 11 + 8, none⟩ = some (.int .i64 x.b) := hcell 8 _ rfl
   have hc9 : wr.cell? ⟨ab, ao + k * 11 + 9, none⟩ = some (.int .i64 x.r) := hcell 9 _ rfl
   have hc10 : wr.cell? ⟨ab, ao + k * 11 + 10, none⟩ = some (.slice x.A x.es.length x.cap) := hcell 10 _ rfl
   have hin : x.In wr w.heap.size := (hin'.out x hxm).below hbr
   have habr : ab < wr.heap.size := by omega
   have hkl : (k : Int) < (l.length : Int) := by omega
   have hne : ab ≠ wr.heap.size := by omega
   have hts : itemsL (l.take (k + 1)) = itemsL (l.take k) ++ itemsX x := by rw [List.take_add_one, hx]; exact itemsL_snoc _ _
   have hle := itemsL_take l (k + 1)
   have htl : (l.take (k + 1)).length ≤ l.length := by rw [List.length_take]; omega
   rw [hts, List.length_append] at hle
   have hts' : Hid (itemsL (l.take (k + 1)) = itemsL (l.take k) ++ itemsX x) := Lib.hid hts
   have hE' : Hid (RdB w w.heap.size x.A 7 (x.es.map EL.cs)) := Lib.hid (hin'.out x hxm).2.1
   clear hx hcell hts hxm hin htl
   generalize hbase : itemsL (l.take k) = base at *
   obtain ⟨xm, xv, xt, xl, xb, xr, xA, xcap, xes⟩ := x
   dsimp only at *
   have hbx : Below w.heap.size w (wr.alloc (.cells #[.bool xm, .int .i64 xv.t, .int .i64 xv.n, .string xv.s, .bool xv.b, .int .i64 xv.c, .int .i64 xt, .int .i64 xl, .int .i64 xb, .int .i64 xr, .slice xA xes.length xcap] 36)) := hbr.alloc hzr _
   have hok1 := hown.alloc (.cells #[.bool xm, .int .i64 xv.t, .int .i64 xv.n, .string xv.s, .bool xv.b, .int .i64 xv.c, .int .i64 xt, .int .i64 xl, .int .i64 xb, .int .i64 xr, .slice xA xes.length xcap] 36)
   have ye : (wr.alloc (.cells #[.bool xm, .int .i64 xv.t, .int .i64 xv.n, .string xv.s, .bool xv.b, .int .i64 xv.c, .int .i64 xt, .int .i64 xl, .int .i64 xb, .int .i64 xr, .slice xA xes.length xcap] 36)).cell? ⟨wr.heap.size, 10, none⟩ = some (.slice xA xes.length xcap) := by simp
   have yz : wr.heap.size < (wr.alloc (.cells #[.bool xm, .int .i64 xv.t, .int .i64 xv.n, .string xv.s, .bool xv.b, .int .i64 xv.c, .int .i64 xt, .int .i64 xl, .int .i64 xb, .int .i64 xr, .slice xA xes.length xcap] 36)).heap.size := by simp
   cases xm
   ·have hix : itemsX ⟨false, xv, xt, xl, xb, xr, xA, xcap, xes⟩ = [xv] ++ xes.map EL.v := rfl
    rw [hix] at hts' hle
    have hle2 : base.length + 1 + xes.length ≤ (itemsL l).length := by have h9 := hle; simp at h9; omega
    rw [← List.append_assoc] at hts'
    have hvg := heap_alloc_new (wr.alloc (.cells #[.bool false, .int .i64 xv.t, .int .i64 xv.n, .string xv.s, .bool xv.b, .int .i64 xv.c, .int .i64 xt, .int .i64 xl, .int .i64 xb, .int .i64 xr, .slice xA xes.length xcap] 36)) (.cells #[.int .i64 xv.t, .int .i64 xv.n, .string xv.s, .bool xv.b, .int .i64 xv.c] 26)
    rw [World.size_alloc] at hvg
    go_wp2_with (at_builtin; go_loud (refine wpList_append_own_at _ rfl _ _ 78 rfl w.heap.size 26 i0 (.agg #[.int .i64 0, .int .i64 0, .string ⟨#[]⟩, .bool false, .int .i64 0]) 5 48 Tryz.underlying78 hi hz0 hz1 hz2 rfl (by decide) _ _ _ rfl (hok1.alloc _) ⟨wr.heap.size + 1, 0, none⟩ 1 1 xv.cs rfl rfl (vget hvg) (by simp [VL.cs, Value.oneCell']) (by unfold maxLen; omega) (by omega) (by simp; omega) ?_); intro v' w5 hown5 hgrow5 _ _; have yf : w5.cell? ⟨wr.heap.size, 10, none⟩ = some (.slice xA xes.length xcap) := (World.cell?_of_block (a := ⟨wr.heap.size, 10, none⟩) (hgrow5.block wr.heap.size (by simp; omega) (fun e => by have := (hown.lt _ (by first | exact e | exact e.symm)).2; omega))).trans ((World.cell?_alloc_lt _ _ ⟨wr.heap.size, 10, none⟩ (by simp)).trans ye))
    clear hvg
    have hbr5 : Below w.heap.size w w5 := (hbx.alloc (by simp; omega) (.cells #[.int .i64 xv.t, .int .i64 xv.n, .string xv.s, .bool xv.b, .int .i64 xv.c] 26)).grown hgrow5 (by simp; omega) (fun q hq => (hok1.lt q hq).1)
    have ho5 : OwnV w5 w.heap.size v' (base ++ [xv]) := by unfold OwnV; rw [vRow_app, vRow_one, List.length_append]; exact hown5
    clear hgrow5 hown5 ye hok1 hbx hown hbr hix
    go_wp2
    go_loopw [3, 25] (fun v i wq => ∃ j : Nat, j ≤ xes.length ∧ i = .int .i64 (j : Int) ∧ OwnV wq w.heap.size v (base ++ [xv] ++ (xes.take j).map EL.v) ∧ Below w.heap.size w wq) (fun _ i _ => xes.length - (intOf i).toNat)
    case atStart => exact ⟨0, Nat.zero_le _, rfl, by simpa using ho5, hbr5⟩
    case round =>
     obtain ⟨j, hj, rfl, hown2, hbr2⟩ := hrel
     have hzr2 := hbr2.size
     by_cases hlt2 : j < xes.length
     ·obtain ⟨y, hy⟩ : ∃ y, xes[j]? = some y := ⟨_, List.getElem?_eq_getElem hlt2⟩
      obtain ⟨eb, eo, hA3, heb, hcell⟩ := (hE'.out.below hbr2) j y.cs (by rw [List.getElem?_map, hy]; rfl)
      obtain rfl : xA = some ⟨eb, eo, none⟩ := hA3
      have he0 : wr.cell? ⟨eb, eo + j * 7, none⟩ = some (.int .i64 y.r) := hcell 0 _ rfl
      have he1 : wr.cell? ⟨eb, eo + j * 7 + 1, none⟩ = some (.int .i64 y.c) := hcell 1 _ rfl
      have he2 : wr.cell? ⟨eb, eo + j * 7 + 2, none⟩ = some (.int .i64 y.v.t) := hcell 2 _ rfl
      have he3 : wr.cell? ⟨eb, eo + j * 7 + 3, none⟩ = some (.int .i64 y.v.n) := hcell 3 _ rfl
      have he4 : wr.cell? ⟨eb, eo + j * 7 + 4, none⟩ = some (.string y.v.s) := hcell 4 _ rfl
      have he5 : wr.cell? ⟨eb, eo + j * 7 + 5, none⟩ = some (.bool y.v.b) := hcell 5 _ rfl
      have he6 : wr.cell? ⟨eb, eo + j * 7 + 6, none⟩ = some (.int .i64 y.v.c) := hcell 6 _ rfl
      have hebr : eb < wr.heap.size := by omega
      have hkl2 : (j : Int) < (xes.length : Int) := by omega
      have hne2 : eb ≠ wr.heap.size := by omega
      have hts2 : Hid ((xes.take (j + 1)).map EL.v = (xes.take j).map EL.v ++ [y.v]) := Lib.hid (by rw [List.take_add_one, hy, List.map_append]; rfl)
      have hlb : (base ++ [xv] ++ (xes.take j).map EL.v).length + 1 ≤ 2932031007402 := by
       rw [List.length_append, List.length_map, List.length_take]
       first | omega | (simp only [List.length_append, List.length_cons, List.length_nil]; omega)
      have hown3 := hown2.alloc (.cells #[.int .i64 y.r, .int .i64 y.c, .int .i64 y.v.t, .int .i64 y.v.n, .string y.v.s, .bool y.v.b, .int .i64 y.v.c] 99)
      have hbr3 := hbr2.alloc hzr2 (.cells #[.int .i64 y.r, .int .i64 y.c, .int .i64 y.v.t, .int .i64 y.v.n, .string y.v.s, .bool y.v.b, .int .i64 y.v.c] 99)
      have hvg := heap_alloc_new (wr.alloc (.cells #[.int .i64 y.r, .int .i64 y.c, .int .i64 y.v.t, .int .i64 y.v.n, .string y.v.s, .bool y.v.b, .int .i64 y.v.c] 99)) (.cells #[.int .i64 y.v.t, .int .i64 y.v.n, .string y.v.s, .bool y.v.b, .int .i64 y.v.c] 26)
      rw [World.size_alloc] at hvg
      clear hy hcell
      go_wp2_with (at_builtin; go_loud (refine wpList_append_own_at _ rfl _ _ 78 rfl w.heap.size 26 i0 (.agg #[.int .i64 0, .int .i64 0, .string ⟨#[]⟩, .bool false, .int .i64 0]) 5 48 Tryz.underlying78 hi hz0 hz1 hz2 rfl (by decide) _ _ _ rfl (hown3.alloc _) ⟨wr.heap.size + 1, 0, none⟩ 1 1 y.v.cs rfl rfl (vget hvg) (by simp [VL.cs, Value.oneCell']) (by unfold maxLen; omega) (by omega) (by simp; omega) ?_); intro v' w5 hown5 hgrow5 _ _)
      clear hvg
      have hbr5 : Below w.heap.size w w5 := (hbr3.alloc (by simp; omega) (.cells #[.int .i64 y.v.t, .int .i64 y.v.n, .string y.v.s, .bool y.v.b, .int .i64 y.v.c] 26)).grown hgrow5 (by simp; omega) (fun q hq => (hown3.lt q hq).1)
      clear hgrow5
      go_roundw
      case rel => exact ⟨j + 1, by omega, by go_num, by rw [hts2.out, ← List.append_assoc]; unfold OwnV; rw [vRow_app _ [y.v], vRow_one, List.length_append]; exact hown5, hbr5⟩
      case measure => simp [intOf]; omega
     ·obtain rfl : j = xes.length := by omega
      rw [List.take_length] at hown2
      go_wp2
      go_roundw
      case rel => exact ⟨k + 1, by omega, by go_num, by rw [hts'.out]; exact hown2, hbr2⟩
      case measure => simp [intOf]; omega
   ·have hix : itemsX ⟨true, xv, xt, xl, xb, xr, xA, xcap, xes⟩ = xes.map EL.v := rfl
    rw [hix] at hts' hle
    have hle2 : base.length + xes.length ≤ (itemsL l).length := by have h9 := hle; simp at h9; omega
    have ho5 : OwnV (wr.alloc (.cells #[.bool true, .int .i64 xv.t, .int .i64 xv.n, .string xv.s, .bool xv.b, .int .i64 xv.c, .int .i64 xt, .int .i64 xl, .int .i64 xb, .int .i64 xr, .slice xA xes.length xcap] 36)) w.heap.size _ base := hok1
    clear hok1 hown hbr hix
    go_wp2
    go_loopw [3, 25] (fun v i wq => ∃ j : Nat, j ≤ xes.length ∧ i = .int .i64 (j : Int) ∧ OwnV wq w.heap.size v (base ++ (xes.take j).map EL.v) ∧ Below w.heap.size w wq) (fun _ i _ => xes.length - (intOf i).toNat)
    case atStart => exact ⟨0, Nat.zero_le _, rfl, by simpa using ho5, hbx⟩
    case round =>
     obtain ⟨j, hj, rfl, hown2, hbr2⟩ := hrel
     have hzr2 := hbr2.size
     by_cases hlt2 : j < xes.length
     ·obtain ⟨y, hy⟩ : ∃ y, xes[j]? = some y := ⟨_, List.getElem?_eq_getElem hlt2⟩
      obtain ⟨eb, eo, hA3, heb, hcell⟩ := (hE'.out.below hbr2) j y.cs (by rw [List.getElem?_map, hy]; rfl)
      obtain rfl : xA = some ⟨eb, eo, none⟩ := hA3
      have he0 : wr.cell? ⟨eb, eo + j * 7, none⟩ = some (.int .i64 y.r) := hcell 0 _ rfl
      have he1 : wr.cell? ⟨eb, eo + j * 7 + 1, none⟩ = some (.int .i64 y.c) := hcell 1 _ rfl
      have he2 : wr.cell? ⟨eb, eo + j * 7 + 2, none⟩ = some (.int .i64 y.v.t) := hcell 2 _ rfl
      have he3 : wr.cell? ⟨eb, eo + j * 7 + 3, none⟩ = some (.int .i64 y.v.n) := hcell 3 _ rfl
      have he4 : wr.cell? ⟨eb, eo + j * 7 + 4, none⟩ = some (.string y.v.s) := hcell 4 _ rfl
      have he5 : wr.cell? ⟨eb, eo + j * 7 + 5, none⟩ = some (.bool y.v.b) := hcell 5 _ rfl
      have he6 : wr.cell? ⟨eb, eo + j * 7 + 6, none⟩ = some (.int .i64 y.v.c) := hcell 6 _ rfl
      have hebr : eb < wr.heap.size := by omega
      have hkl2 : (j : Int) < (xes.length : Int) := by omega
      have hne2 : eb ≠ wr.heap.size := by omega
      have hts2 : Hid ((xes.take (j + 1)).map EL.v = (xes.take j).map EL.v ++ [y.v]) := Lib.hid (by rw [List.take_add_one, hy, List.map_append]; rfl)
      have hlb : (base ++ (xes.take j).map EL.v).length + 1 ≤ 2932031007402 := by
       rw [List.length_append, List.length_map, List.length_take]
       first | omega | (simp only [List.length_append, List.length_cons, List.length_nil]; omega)
      have hown3 := hown2.alloc (.cells #[.int .i64 y.r, .int .i64 y.c, .int .i64 y.v.t, .int .i64 y.v.n, .string y.v.s, .bool y.v.b, .int .i64 y.v.c] 99)
      have hbr3 := hbr2.alloc hzr2 (.cells #[.int .i64 y.r, .int .i64 y.c, .int .i64 y.v.t, .int .i64 y.v.n, .string y.v.s, .bool y.v.b, .int .i64 y.v.c] 99)
      have hvg := heap_alloc_new (wr.alloc (.cells #[.int .i64 y.r, .int .i64 y.c, .int .i64 y.v.t, .int .i64 y.v.n, .string y.v.s, .bool y.v.b, .int .i64 y.v.c] 99)) (.cells #[.int .i64 y.v.t, .int .i64 y.v.n, .string y.v.s, .bool y.v.b, .int .i64 y.v.c] 26)
      rw [World.size_alloc] at hvg
      clear hy hcell
      go_wp2_with (at_builtin; go_loud (refine wpList_append_own_at _ rfl _ _ 78 rfl w.heap.size 26 i0 (.agg #[.int .i64 0, .int .i64 0, .string ⟨#[]⟩, .bool false, .int .i64 0]) 5 48 Tryz.underlying78 hi hz0 hz1 hz2 rfl (by decide) _ _ _ rfl (hown3.alloc _) ⟨wr.heap.size + 1, 0, none⟩ 1 1 y.v.cs rfl rfl (vget hvg) (by simp [VL.cs, Value.oneCell']) (by unfold maxLen; omega) (by omega) (by simp; omega) ?_); intro v' w5 hown5 hgrow5 _ _)
      clear hvg
      have hbr5 : Below w.heap.size w w5 := (hbr3.alloc (by simp; omega) (.cells #[.int .i64 y.v.t, .int .i64 y.v.n, .string y.v.s, .bool y.v.b, .int .i64 y.v.c] 26)).grown hgrow5 (by simp; omega) (fun q hq => (hown3.lt q hq).1)
      clear hgrow5
      go_roundw
      case rel => exact ⟨j + 1, by omega, by go_num, by rw [hts2.out, ← List.append_assoc]; unfold OwnV; rw [vRow_app _ [y.v], vRow_one, List.length_append]; exact hown5, hbr5⟩
      case measure => simp [intOf]; omega
     ·obtain rfl : j = xes.length := by omega
      rw [List.take_length] at hown2
      go_wp2
      go_roundw
      case rel => exact ⟨k + 1, by omega, by go_num, by rw [hts'.out]; exact hown2, hbr2⟩
      case measure => simp [intOf]; omega
  ·obtain rfl : k = l.length := by omega
   rw [List.take_length] at hown
   go_wp2
   go_ret
   exact ⟨⟨_, rfl, hown⟩, hbr⟩

theorem r10items (l : List AL) (hlen : l.length ≤ 1649267441664) (hN : (itemsL l).length ≤ 2932031007402) (w : World) (A : Option Addr) (cap : Nat) (hR : RdB w w.heap.size A 11 (l.map AL.cs)) (hin : ∀ x ∈ l, x.In w w.heap.size) : Calls Tryz.prog 42 #[.slice A l.length cap] w fun e w' => (∃ v, e = .returned v ∧ OwnV w' w.heap.size v (itemsL l)) ∧ Below w.heap.size w w' := by
 obtain ⟨i0, hi, hz0, hz1, hz2⟩ := info_parts val_info
 have hR' := Lib.hid hR
 have hin' := Lib.hid hin
 clear hR hin
 go_enter Tryz.func42, Tryz.ntmps42
 go_wp2
 go_loopw [3, 4] (fun v i wr => ∃ k : Nat, k ≤ l.length ∧ i = .int .i64 (k : Int) ∧ OwnV wr w.heap.size v (itemsL (l.take k)) ∧ Below w.heap.size w wr) (fun _ i _ => l.length - (intOf i).toNat)
 case atStart => exact ⟨0, Nat.zero_le _, rfl, World.ownsRow_nil _ _ _ _, Below.refl _ _⟩
 case round =>
  obtain ⟨k, hk, rfl, hown, hbr⟩ := hrel
  have hzr := hbr.size
  by_cases hlt : k < l.length
  ·obtain ⟨x, hx⟩ : ∃ x, l[k]? = some x := ⟨_, List.getElem?_eq_getElem hlt⟩
   have hxm := List.mem_of_getElem? hx
   have hkx : Hid ((l.map AL.cs)[k]? = some x.cs) := Lib.hid (by rw [List.getElem?_map, hx]; rfl)
   obtain ⟨ab, ao, hA2, hab, hcell⟩ := (hR'.out.below hbr) k x.cs hkx.out
   obtain rfl : A = some ⟨ab, ao, none⟩ := hA2
   have hc0 : wr.cell? ⟨ab, ao + k * 11, none⟩ = some (.bool x.many) := hcell 0 _ rfl
   have hc1 : wr.cell? ⟨ab, ao + k * 11 + 1, none⟩ = some (.int .i64 x.v.t) := hcell 1 _ rfl
   have hc2 : wr.cell? ⟨ab, ao + k * 11 + 2, none⟩ = some (.int .i64 x.v.n) := hcell 2 _ rfl
   have hc3 : wr.cell? ⟨ab, ao + k * 11 + 3, none⟩ = some (.string x.v.s) := hcell 3 _ rfl
   have hc4 : wr.cell? ⟨ab, ao + k * 11 + 4, none⟩ = some (.bool x.v.b) := hcell 4 _ rfl
   have hc5 : wr.cell? ⟨ab, ao + k * 11 + 5, none⟩ = some (.int .i64 x.v.c) := hcell 5 _ rfl
   have hc6 : wr.cell? ⟨ab, ao + k * 11 + 6, none⟩ = some (.int .i64 x.t) := hcell 6 _ rfl
   have hc7 : wr.cell? ⟨ab, ao + k * 11 + 7, none⟩ = some (.int .i64 x.l) := hcell 7 _ rfl
   have hc8 : wr.cell? ⟨ab, ao + k * 11 + 8, none⟩ = some (.int .i64 x.b) := hcell 8 _ rfl
   have hc9 : wr.cell? ⟨ab, ao + k * 11 + 9, none⟩ = some (.int .i64 x.r) := hcell 9 _ rfl
   have hc10 : wr.cell? ⟨ab, ao + k * 11 + 10, none⟩ = some (.slice x.A x.es.length x.cap) := hcell 10 _ rfl
   have habr : ab < wr.heap.size := by omega
   have hkl : (k : Int) < (l.length : Int) := by omega
   have hk0 : (0 : Int) ≤ (k : Int) := by omega
   have hwk : IntKind.i64.wrap ((k : Int) + 1) = (k : Int) + 1 := IntWalk.i64_in _ (by omega)
   have hts : itemsL (l.take (k + 1)) = itemsL (l.take k) ++ itemsX x := by rw [List.take_add_one, hx]; exact itemsL_snoc _ _
   have hle := itemsL_take l (k + 1)
   rw [hts, List.length_append] at hle
   have hts' : Hid (itemsL (l.take (k + 1)) = itemsL (l.take k) ++ itemsX x) := Lib.hid hts
   have hE' : Hid (RdB w w.heap.size x.A 7 (x.es.map EL.cs)) := Lib.hid (hin'.out x hxm).2.1
   clear hx hcell hts hxm
   generalize hbase : itemsL (l.take k) = base at *
   cases hm : x.many with
   |
    false =>
    have hix : itemsX x = [x.v] ++ x.es.map EL.v := by unfold itemsX; rw [hm]; rfl
    rw [hix] at hts' hle
    rw [hm] at hc0
    have hle2 : base.length + 1 + x.es.length ≤ (itemsL l).length := by have h9 := hle; simp at h9; omega
    rw [← List.append_assoc] at hts'
    have hvg := heap_alloc_new wr (.cells #[.int .i64 x.v.t, .int .i64 x.v.n, .string x.v.s, .bool x.v.b, .int .i64 x.v.c] 26)
    clear hm hix
    go_wp2_with (at_builtin; go_loud (refine wpList_append_own_at _ rfl _ _ 78 rfl w.heap.size 26 i0 (.agg #[.int .i64 0, .int .i64 0, .string ⟨#[]⟩, .bool false, .int .i64 0]) 5 48 Tryz.underlying78 hi hz0 hz1 hz2 rfl (by decide) _ _ _ rfl (hown.alloc _) ⟨wr.heap.size, 0, none⟩ 1 1 x.v.cs rfl rfl (vget hvg) (by simp [VL.cs, Value.oneCell']) (by unfold maxLen; omega) (by omega) (by simp; omega) ?_); intro v' w5 hown5 hgrow5 _ _)
    clear hvg
    have hbr5 : Below w.heap.size w w5 := (hbr.alloc hzr (.cells #[.int .i64 x.v.t, .int .i64 x.v.n, .string x.v.s, .bool x.v.b, .int .i64 x.v.c] 26)).grown hgrow5 (by simp; omega) (fun q hq => (hown.lt q hq).1)
    have ho5 : OwnV w5 w.heap.size v' (base ++ [x.v]) := by unfold OwnV; rw [vRow_app, vRow_one, List.length_append]; exact hown5
    clear hgrow5 hown5 hown hbr hc0 hc1 hc2 hc3 hc4 hc5 hc6 hc7 hc8 hc9 hc10 habr
    go_wp2
    go_loopw [3, 5] (fun v i wq => ∃ j : Nat, j ≤ x.es.length ∧ i = .int .i64 (j : Int) ∧ OwnV wq w.heap.size v (base ++ [x.v] ++ (x.es.take j).map EL.v) ∧ Below w.heap.size w wq) (fun _ i _ => x.es.length - (intOf i).toNat)
    case atStart => exact ⟨0, Nat.zero_le _, rfl, by simpa using ho5, hbr5⟩
    case round =>
     obtain ⟨j, hj, rfl, hown2, hbr2⟩ := hrel
     have hzr2 := hbr2.size
     obtain ⟨ab2, ao2, hA4, hab2, hcell2⟩ := (hR'.out.below hbr2) k x.cs hkx.out
     obtain ⟨rfl, rfl⟩ : ab = ab2 ∧ ao = ao2 := by injection hA4 with h9; injection h9 with h1 h2 _; exact ⟨h1, h2⟩
     have hd10 : wr.cell? ⟨ab, ao + k * 11 + 10, none⟩ = some (.slice x.A x.es.length x.cap) := hcell2 10 _ rfl
     have habr2 : ab < wr.heap.size := by omega
     clear hcell2 hA4
     by_cases hlt2 : j < x.es.length
     ·obtain ⟨y, hy⟩ : ∃ y, x.es[j]? = some y := ⟨_, List.getElem?_eq_getElem hlt2⟩
      obtain ⟨eb, eo, hA3, heb, hcell⟩ := (hE'.out.below hbr2) j y.cs (by rw [List.getElem?_map, hy]; rfl)
      rw [hA3] at hd10
      have he0 : wr.cell? ⟨eb, eo + j * 7, none⟩ = some (.int .i64 y.r) := hcell 0 _ rfl
      have he1 : wr.cell? ⟨eb, eo + j * 7 + 1, none⟩ = some (.int .i64 y.c) := hcell 1 _ rfl
      have he2 : wr.cell? ⟨eb, eo + j * 7 + 2, none⟩ = some (.int .i64 y.v.t) := hcell 2 _ rfl
      have he3 : wr.cell? ⟨eb, eo + j * 7 + 3, none⟩ = some (.int .i64 y.v.n) := hcell 3 _ rfl
      have he4 : wr.cell? ⟨eb, eo + j * 7 + 4, none⟩ = some (.string y.v.s) := hcell 4 _ rfl
      have he5 : wr.cell? ⟨eb, eo + j * 7 + 5, none⟩ = some (.bool y.v.b) := hcell 5 _ rfl
      have he6 : wr.cell? ⟨eb, eo + j * 7 + 6, none⟩ = some (.int .i64 y.v.c) := hcell 6 _ rfl
      have hebr : eb < wr.heap.size := by omega
      have hkl2 : (j : Int) < (x.es.length : Int) := by omega
      have hj0 : (0 : Int) ≤ (j : Int) := by omega
      have hwj : IntKind.i64.wrap ((j : Int) + 1) = (j : Int) + 1 := IntWalk.i64_in _ (by omega)
      have hts2 : Hid ((x.es.take (j + 1)).map EL.v = (x.es.take j).map EL.v ++ [y.v]) := Lib.hid (by rw [List.take_add_one, hy, List.map_append]; rfl)
      have hlb : (base ++ [x.v] ++ (x.es.take j).map EL.v).length + 1 ≤ 2932031007402 := by
       rw [List.length_append, List.length_map, List.length_take]
       first | omega | (simp only [List.length_append, List.length_cons, List.length_nil]; omega)
      have hvg := heap_alloc_new wr (.cells #[.int .i64 y.v.t, .int .i64 y.v.n, .string y.v.s, .bool y.v.b, .int .i64 y.v.c] 26)
      clear hy hcell hA3
      go_wp2_with (at_builtin; go_loud (refine wpList_append_own_at _ rfl _ _ 78 rfl w.heap.size 26 i0 (.agg #[.int .i64 0, .int .i64 0, .string ⟨#[]⟩, .bool false, .int .i64 0]) 5 48 Tryz.underlying78 hi hz0 hz1 hz2 rfl (by decide) _ _ _ rfl (hown2.alloc _) ⟨wr.heap.size, 0, none⟩ 1 1 y.v.cs rfl rfl (vget hvg) (by simp [VL.cs, Value.oneCell']) (by unfold maxLen; omega) (by omega) (by simp; omega) ?_); intro v' w5 hown5 hgrow5 _ _)
      clear hvg
      have hbr5 : Below w.heap.size w w5 := (hbr2.alloc hzr2 (.cells #[.int .i64 y.v.t, .int .i64 y.v.n, .string y.v.s, .bool y.v.b, .int .i64 y.v.c] 26)).grown hgrow5 (by simp; omega) (fun q hq => (hown2.lt q hq).1)
      clear hgrow5
      go_roundw
      case rel => exact ⟨j + 1, by omega, by go_num, by unfold OwnV; rw [hts2.out, ← List.append_assoc, vRow_app, vRow_one, List.length_append]; exact hown5, hbr5⟩
      case measure => simp [intOf]; omega
     ·obtain rfl : j = x.es.length := by omega
      have hkl2 : ¬ (x.es.length : Int) < (x.es.length : Int) := by omega
      rw [List.take_of_length_le (Nat.le_refl _)] at hown2
      go_wp2
      go_roundw
      case rel => exact ⟨k + 1, by omega, by go_num, by rw [hts'.out]; exact hown2, hbr2⟩
      case measure => simp [intOf]; omega
   |
    true =>
    have hix : itemsX x = x.es.map EL.v := by unfold itemsX; rw [hm]; rfl
    rw [hix] at hts' hle
    rw [hm] at hc0
    have hle2 : base.length + x.es.length ≤ (itemsL l).length := by have h9 := hle; simp at h9; omega
    clear hm hix
    go_wp2
    clear hc0 hc1 hc2 hc3 hc4 hc5 hc6 hc7 hc8 hc9 hc10 habr
    go_loopw [3, 5] (fun v i wq => ∃ j : Nat, j ≤ x.es.length ∧ i = .int .i64 (j : Int) ∧ OwnV wq w.heap.size v (base ++ (x.es.take j).map EL.v) ∧ Below w.heap.size w wq) (fun _ i _ => x.es.length - (intOf i).toNat)
    case atStart => exact ⟨0, Nat.zero_le _, rfl, by simpa using hown, hbr⟩
    case round =>
     obtain ⟨j, hj, rfl, hown2, hbr2⟩ := hrel
     have hzr2 := hbr2.size
     obtain ⟨ab2, ao2, hA4, hab2, hcell2⟩ := (hR'.out.below hbr2) k x.cs hkx.out
     obtain ⟨rfl, rfl⟩ : ab = ab2 ∧ ao = ao2 := by injection hA4 with h9; injection h9 with h1 h2 _; exact ⟨h1, h2⟩
     have hd10 : wr.cell? ⟨ab, ao + k * 11 + 10, none⟩ = some (.slice x.A x.es.length x.cap) := hcell2 10 _ rfl
     have habr2 : ab < wr.heap.size := by omega
     clear hcell2 hA4
     by_cases hlt2 : j < x.es.length
     ·obtain ⟨y, hy⟩ : ∃ y, x.es[j]? = some y := ⟨_, List.getElem?_eq_getElem hlt2⟩
      obtain ⟨eb, eo, hA3, heb, hcell⟩ := (hE'.out.below hbr2) j y.cs (by rw [List.getElem?_map, hy]; rfl)
      rw [hA3] at hd10
      have he0 : wr.cell? ⟨eb, eo + j * 7, none⟩ = some (.int .i64 y.r) := hcell 0 _ rfl
      have he1 : wr.cell? ⟨eb, eo + j * 7 + 1, none⟩ = some (.int .i64 y.c) := hcell 1 _ rfl
      have he2 : wr.cell? ⟨eb, eo + j * 7 + 2, none⟩ = some (.int .i64 y.v.t) := hcell 2 _ rfl
      have he3 : wr.cell? ⟨eb, eo + j * 7 + 3, none⟩ = some (.int .i64 y.v.n) := hcell 3 _ rfl
      have he4 : wr.cell? ⟨eb, eo + j * 7 + 4, none⟩ = some (.string y.v.s) := hcell 4 _ rfl
      have he5 : wr.cell? ⟨eb, eo + j * 7 + 5, none⟩ = some (.bool y.v.b) := hcell 5 _ rfl
      have he6 : wr.cell? ⟨eb, eo + j * 7 + 6, none⟩ = some (.int .i64 y.v.c) := hcell 6 _ rfl
      have hebr : eb < wr.heap.size := by omega
      have hkl2 : (j : Int) < (x.es.length : Int) := by omega
      have hj0 : (0 : Int) ≤ (j : Int) := by omega
      have hwj : IntKind.i64.wrap ((j : Int) + 1) = (j : Int) + 1 := IntWalk.i64_in _ (by omega)
      have hts2 : Hid ((x.es.take (j + 1)).map EL.v = (x.es.take j).map EL.v ++ [y.v]) := Lib.hid (by rw [List.take_add_one, hy, List.map_append]; rfl)
      have hlb : (base ++ (x.es.take j).map EL.v).length + 1 ≤ 2932031007402 := by
       rw [List.length_append, List.length_map, List.length_take]
       first | omega | (simp only [List.length_append, List.length_cons, List.length_nil]; omega)
      have hvg := heap_alloc_new wr (.cells #[.int .i64 y.v.t, .int .i64 y.v.n, .string y.v.s, .bool y.v.b, .int .i64 y.v.c] 26)
      clear hy hcell hA3
      go_wp2_with (at_builtin; go_loud (refine wpList_append_own_at _ rfl _ _ 78 rfl w.heap.size 26 i0 (.agg #[.int .i64 0, .int .i64 0, .string ⟨#[]⟩, .bool false, .int .i64 0]) 5 48 Tryz.underlying78 hi hz0 hz1 hz2 rfl (by decide) _ _ _ rfl (hown2.alloc _) ⟨wr.heap.size, 0, none⟩ 1 1 y.v.cs rfl rfl (vget hvg) (by simp [VL.cs, Value.oneCell']) (by unfold maxLen; omega) (by omega) (by simp; omega) ?_); intro v' w5 hown5 hgrow5 _ _)
      clear hvg
      have hbr5 : Below w.heap.size w w5 := (hbr2.alloc hzr2 (.cells #[.int .i64 y.v.t, .int .i64 y.v.n, .string y.v.s, .bool y.v.b, .int .i64 y.v.c] 26)).grown hgrow5 (by simp; omega) (fun q hq => (hown2.lt q hq).1)
      clear hgrow5
      go_roundw
      case rel => exact ⟨j + 1, by omega, by go_num, by unfold OwnV; rw [hts2.out, ← List.append_assoc, vRow_app, vRow_one, List.length_append]; exact hown5, hbr5⟩
      case measure => simp [intOf]; omega
     ·obtain rfl : j = x.es.length := by omega
      have hkl2 : ¬ (x.es.length : Int) < (x.es.length : Int) := by omega
      rw [List.take_of_length_le (Nat.le_refl _)] at hown2
      go_wp2
      go_roundw
      case rel => exact ⟨k + 1, by omega, by go_num, by rw [hts'.out]; exact hown2, hbr2⟩
      case measure => simp [intOf]; omega
  ·obtain rfl : k = l.length := by omega
   have hkl : ¬ (l.length : Int) < (l.length : Int) := by omega
   rw [List.take_length] at hown
   go_wp2
   go_ret
   exact ⟨⟨_, rfl, hown⟩, hbr⟩
def fltL (l : List VL) : Option VL := l.find? fun v => decide (v.t = 4)
def fltV (l : List VL) : VL := match fltL l with | some v => v | none => v0
theorem r10faulty (l : List VL) (hlen : l.length ≤ 2932031007402) (w : World) (A : Option Addr) (cap : Nat) (hR : RdB w w.heap.size A 5 (l.map VL.cs)) : Calls Tryz.prog 51 #[.slice A l.length cap] w fun e w' => e = .returned (.tuple #[.agg #[.int .i64 (fltV l).t, .int .i64 (fltV l).n, .string (fltV l).s, .bool (fltV l).b, .int .i64 (fltV l).c], .bool (fltL l).isSome]) ∧ Below w.heap.size w w' := by
 have hR' := Lib.hid hR
 clear hR
 obtain ⟨V, hV0⟩ : ∃ V, fltV l = V := ⟨_, rfl⟩
 obtain ⟨z, hz0⟩ : ∃ z, (fltL l).isSome = z := ⟨_, rfl⟩
 have hV := Lib.hid hV0
 have hz := Lib.hid hz0
 rw [hV0, hz0]
 clear hV0 hz0
 go_enter Tryz.func51, Tryz.ntmps51
 go_wp2
 go_loop [4] (fun i => ∃ k : Nat, k ≤ l.length ∧ i = .int .i64 (k : Int) ∧ Hid (∀ y ∈ l.take k, ¬ y.t = 4)) (fun i => l.length - (intOf i).toNat)
 case atStart => exact ⟨0, Nat.zero_le _, rfl, Lib.hid (by simp)⟩
 case round =>
  obtain ⟨k, hk, rfl, hno⟩ := hrel
  by_cases hlt : k < l.length
  ·obtain ⟨x, hx⟩ : ∃ x, l[k]? = some x := ⟨_, List.getElem?_eq_getElem hlt⟩
   obtain ⟨ab, ao, hA2, hab, hcell⟩ := hR'.out k x.cs (by rw [List.getElem?_map, hx]; rfl)
   obtain rfl : A = some ⟨ab, ao, none⟩ := hA2
   have hc0 : w.cell? ⟨ab, ao + k * 5, none⟩ = some (.int .i64 x.t) := hcell 0 _ rfl
   have hc1 : w.cell? ⟨ab, ao + k * 5 + 1, none⟩ = some (.int .i64 x.n) := hcell 1 _ rfl
   have hc2 : w.cell? ⟨ab, ao + k * 5 + 2, none⟩ = some (.string x.s) := hcell 2 _ rfl
   have hc3 : w.cell? ⟨ab, ao + k * 5 + 3, none⟩ = some (.bool x.b) := hcell 3 _ rfl
   have hc4 : w.cell? ⟨ab, ao + k * 5 + 4, none⟩ = some (.int .i64 x.c) := hcell 4 _ rfl
   have hkl : (k : Int) < (l.length : Int) := by omega
   have hk0 : (0 : Int) ≤ (k : Int) := by omega
   have hne : ab ≠ w.heap.size := by omega
   have hab2 : ab < w.heap.size + 1 := by omega
   have hwk : IntKind.i64.wrap ((k : Int) + 1) = (k : Int) + 1 := IntWalk.i64_in _ (by omega)
   have hx' := Lib.hid hx
   clear hcell hx
   by_cases h4 : x.t = 4
   ·have hfd := find_snoc_none l k x hx'.out hno.out h4
    have hVx := Lib.hid (show V = x from by rw [← hV.out]; unfold fltV fltL; rw [hfd])
    have hzt := Lib.hid (show z = true from by rw [← hz.out]; unfold fltL; rw [hfd]; rfl)
    have hb4 : (x.t == 4) = true := by simp [h4]
    clear hfd h4
    go_wp2
    refine bodyPost_ret (v := .tuple #[.agg #[.int .i64 x.t, .int .i64 x.n, .string x.s, .bool x.b, .int .i64 x.c], .bool true]) ?_ rfl ⟨by rw [hVx.out, hzt.out], belq⟩
    simp [results, Tryz.results51, go_sem, *]
   ·have hb4 : (x.t == 4) = false := by simp [h4]
    have hno2 : Hid (∀ y ∈ l.take (k + 1), ¬ y.t = 4) := Lib.hid fun y hy => by
     rw [List.take_add_one, hx'.out] at hy
     rcases List.mem_append.1 hy with h | h
     ·exact hno.out y h
     ·simp at h; subst h; exact h4
    clear h4
    go_wp2
    go_round
    case rel => exact ⟨k + 1, by omega, by go_num, hno2⟩
    case measure => simp [intOf]; omega
  ·obtain rfl : k = l.length := by omega
   have hkl : ¬ (l.length : Int) < (l.length : Int) := by omega
   have hfd : fltL l = none := by
    unfold fltL
    rw [List.find?_eq_none]
    intro y hy
    have := hno.out y (by rw [List.take_length]; exact hy)
    simpa using this
   have hVx := Lib.hid (show V = v0 from by rw [← hV.out]; unfold fltV; rw [hfd])
   have hzt := Lib.hid (show z = false from by rw [← hz.out, hfd]; rfl)
   clear hfd
   go_wp2
   refine bodyPost_ret (v := .tuple #[.agg #[.int .i64 0, .int .i64 0, .string ⟨#[]⟩, .bool false, .int .i64 0], .bool false]) ?_ rfl ⟨by rw [hVx.out, hzt.out]; rfl, belq⟩
   simp [results, Tryz.results51, go_sem, *]
end Go.Proofs.YtgmhifafbebjfaaGreatDoor
