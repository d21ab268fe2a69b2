/-
 the laws of aggs: number, single, column.
-/
import Derived.Test.YtgmhifafbebjfaaGreatDoorALar
import Derived.Deep.AppendLies
import Derived.Deep.RegionLaw
set_option maxRecDepth 100000
set_option maxHeartbeats 32000000
namespace Go.Proofs.YtgmhifafbebjfaaGreatDoor
open Go.RowKit

theorem ent_info : (Tryz.prog.info? 99).map (fun i => (i.zero, i.size, i.bytes)) = some (some (.agg #[.int .i64 0, .int .i64 0, .int .i64 0, .int .i64 0, .string ⟨#[]⟩, .bool false, .int .i64 0]), 7, 64) := by kernel_rfl
theorem lnumber_any (x : Int) (w : World) : Calls Tryz.prog 55 #[.int .i64 x] w fun e w' => e = .returned (.agg #[.int .i64 1, .int .i64 x, .string ⟨#[]⟩, .bool false, .int .i64 0]) ∧ Below w.heap.size w w' := by
 go_enter Tryz.func55, Tryz.ntmps55
 go_wp2
 refine bodyPost_ret (v := .agg #[.int .i64 1, .int .i64 x, .string ⟨#[]⟩, .bool false, .int .i64 0]) ?_ rfl ⟨rfl, belq⟩
 simp [results, Tryz.results55, go_sem, *]
theorem lsingle_any (t n : Int) (s : ByteArray) (b : Bool) (c : Int) (w : World) : Calls Tryz.prog 56 #[.agg #[.int .i64 t, .int .i64 n, .string s, .bool b, .int .i64 c]] w fun e w' => e = .returned (.agg #[.bool false, .int .i64 t, .int .i64 n, .string s, .bool b, .int .i64 c, .int .i64 0, .int .i64 0, .int .i64 0, .int .i64 0, .slice none 0 0]) ∧ Below w.heap.size w w' := by
 go_enter Tryz.func56, Tryz.ntmps56
 go_wp2
 refine bodyPost_ret (v := .agg #[.bool false, .int .i64 t, .int .i64 n, .string s, .bool b, .int .i64 c, .int .i64 0, .int .i64 0, .int .i64 0, .int .i64 0, .slice none 0 0]) ?_ rfl ⟨rfl, belq⟩
 simp [results, Tryz.results56, go_sem, *]
def okN (x : Int) : Int := if x = -9223372036854775808 then 0 else x
def colE (l : List Int) : List EL := l.mapIdx fun i x => ⟨(i : Int) + 1, 1, ⟨1, okN x, ⟨#[]⟩, false, 0⟩⟩
def eRow (l : List EL) : List Value := (l.map EL.cs).flatten
theorem colE_len (l : List Int) : (colE l).length = l.length := by simp [colE]
theorem colE_snoc (l : List Int) (x : Int) : colE (l ++ [x]) = colE l ++ [⟨(l.length : Int) + 1, 1, ⟨1, okN x, ⟨#[]⟩, false, 0⟩⟩] := by
 unfold colE; rw [List.mapIdx_append]; simp
theorem eRow_app (a b : List EL) : eRow (a ++ b) = eRow a ++ eRow b := by simp [eRow]
structure ColAt (l : List Int) (w : World) (e : Ending) (w' : World) : Prop where
 out : ∃ v, e = .returned (.agg #[.bool true, .int .i64 0, .int .i64 0, .string ⟨#[]⟩, .bool false, .int .i64 0, .int .i64 1, .int .i64 1, .int .i64 (max 1 (l.length : Int)), .int .i64 1, v]) ∧ w'.ownsRow w.heap.size 99 7 v l.length (eRow (colE l))
 bel : Below w.heap.size w w'
theorem own_form {w : World} {B size n : Nat} {e : TypeId} {v : Value} {xs : List Value} (h : w.ownsRow B e size v n xs) : ∃ A cap, v = .slice A n cap := by
 rcases h.2 with ⟨rfl, rfl⟩ | ⟨g, cap, _, rfl, _⟩
 ·exact ⟨_, _, rfl⟩
 ·exact ⟨_, _, rfl⟩
theorem row_set {w : World} {b j : Nat} {cs : Array Value} {t : TypeId} {v : Value} (h : w.heap[b]? = some (.cells cs t (0, 0))) : (w.setCell ⟨b, j, none⟩ v).heap[b]? = some (.cells (cs.setIfInBounds j v) t (0, 0)) := by
 simp [World.setCell, Array.getElem?_modify, h]
theorem lcolumn_any (l : List Int) (hlen : l.length ≤ 4096) (w : World) (A : Option Addr) (cap : Nat) (hR : RdI w A l) : Calls Tryz.prog 54 #[.slice A l.length cap] w (ColAt l w) := by
 obtain ⟨i0, hi, hz0, hz1, hz2⟩ := info_parts ent_info
 have hR' := Lib.hid hR
 clear hR
 have b0 : Below w.heap.size w (w.alloc (.cells #[.bool false, .int .i64 0, .int .i64 0, .string ⟨#[]⟩, .bool false, .int .i64 0, .int .i64 0, .int .i64 0, .int .i64 0, .int .i64 0, .slice none 0 0] 36)) := (Below.refl _ _).alloc (Nat.le_refl _) _
 go_enter Tryz.func54, Tryz.ntmps54
 go_wp2
 go_loopw [4] (fun i wr => ∃ (k : Nat) (v : Value), k ≤ l.length ∧ i = .int .i64 (k : Int) ∧ wr.heap[w.heap.size + 1]? = some (.cells #[.bool true, .int .i64 0, .int .i64 0, .string ⟨#[]⟩, .bool false, .int .i64 0, .int .i64 1, .int .i64 1, .int .i64 (max 1 (k : Int)), .int .i64 1, v] 36 (0, 0)) ∧ wr.ownsRow (w.heap.size + 2) 99 7 v k (eRow (colE (l.take k))) ∧ Below (w.heap.size + 1) (w.alloc (.cells #[.bool false, .int .i64 0, .int .i64 0, .string ⟨#[]⟩, .bool false, .int .i64 0, .int .i64 0, .int .i64 0, .int .i64 0, .int .i64 0, .slice none 0 0] 36)) wr ∧ w.heap.size + 2 ≤ wr.heap.size) (fun i _ => l.length - (intOf i).toNat)
 case atStart =>
  have h9 := heap_alloc_new (w.alloc (.cells #[.bool false, .int .i64 0, .int .i64 0, .string ⟨#[]⟩, .bool false, .int .i64 0, .int .i64 0, .int .i64 0, .int .i64 0, .int .i64 0, .slice none 0 0] 36)) (.cells #[.bool true, .int .i64 0, .int .i64 0, .string ⟨#[]⟩, .bool false, .int .i64 0, .int .i64 1, .int .i64 1, .int .i64 1, .int .i64 1, .slice none 0 0] 36)
  simp only [World.size_alloc] at h9
  exact ⟨0, .slice none 0 0, Nat.zero_le _, rfl, h9, World.ownsRow_nil _ _ _ _, (Below.refl _ _).alloc (by simp) _, by simp⟩
 case round =>
  obtain ⟨k, v, hk, rfl, hrow, hown, hbr, hz⟩ := hrel
  have g0 : Below w.heap.size w wr := b0.trans (hbr.mono (by omega))
  have hcell := fun j => blk_cell hrow j
  have hfr := fun j => blk_frozen hrow j
  have e8 : wr.cell? ⟨w.heap.size + 1, 8, none⟩ = some (.int .i64 (max 1 (k : Int))) := hcell 8
  have e10 : wr.cell? ⟨w.heap.size + 1, 10, none⟩ = some v := hcell 10
  have f8 := hfr 8
  have f10 := hfr 10
  by_cases hlt : k < l.length
  ·obtain ⟨x, hx⟩ : ∃ x, l[k]? = some x := ⟨_, List.getElem?_eq_getElem hlt⟩
   obtain ⟨ab, ao, hA2, hab, hcl⟩ := (hR'.out.below g0) k [.int .i64 x] (by rw [List.getElem?_map, hx]; rfl)
   obtain rfl : A = some ⟨ab, ao, none⟩ := hA2
   have hck : wr.cell? ⟨ab, ao + k, none⟩ = some (.int .i64 x) := by simpa using hcl 0 _ rfl
   have hkl : (k : Int) < (l.length : Int) := by omega
   have hk4 : (k : Int) < 4096 := by omega
   have hne : ab ≠ w.heap.size + 1 := by omega
   have hts : Hid (colE (l.take (k + 1)) = colE (l.take k) ++ [⟨(k : Int) + 1, 1, ⟨1, okN x, ⟨#[]⟩, false, 0⟩⟩]) := Lib.hid (by
    rw [List.take_add_one, hx]
    have h9 := colE_snoc (l.take k) x
    rw [List.length_take, Nat.min_eq_left (by omega)] at h9
    exact h9)
   clear hx hcl hcell hfr
   by_cases hm : x = -9223372036854775808
   ·have hyx : okN x = 0 := by unfold okN; rw [if_pos hm]
    rw [hyx] at hts
    go_wp2_with fail
    clear hyx hm hck
    have hrow2 : (wr.setCell ⟨w.heap.size + 1, 8, none⟩ (.int .i64 ((k : Int) + 1))).heap[w.heap.size + 1]? = some (.cells #[.bool true, .int .i64 0, .int .i64 0, .string ⟨#[]⟩, .bool false, .int .i64 0, .int .i64 1, .int .i64 1, .int .i64 ((k : Int) + 1), .int .i64 1, v] 36 (0, 0)) := row_set hrow
    have hown2 : (wr.setCell ⟨w.heap.size + 1, 8, none⟩ (.int .i64 ((k : Int) + 1))).ownsRow (w.heap.size + 2) 99 7 v k (eRow (colE (l.take k))) := own_set hown _ _ (by simp)
    have hbr2 : Below (w.heap.size + 1) (w.alloc (.cells #[.bool false, .int .i64 0, .int .i64 0, .string ⟨#[]⟩, .bool false, .int .i64 0, .int .i64 0, .int .i64 0, .int .i64 0, .int .i64 0, .slice none 0 0] 36)) (wr.setCell ⟨w.heap.size + 1, 8, none⟩ (.int .i64 ((k : Int) + 1))) := hbr.setCell (p := ⟨w.heap.size + 1, 8, none⟩) (Nat.le_refl _) _
    have hz2' : w.heap.size + 2 ≤ (wr.setCell ⟨w.heap.size + 1, 8, none⟩ (.int .i64 ((k : Int) + 1))).heap.size := by simp; omega
    clear hrow hown hbr e8 e10 f8 f10 g0
    generalize (wr.setCell ⟨w.heap.size + 1, 8, none⟩ (.int .i64 ((k : Int) + 1))) = wq at *
    have q10 : wq.cell? ⟨w.heap.size + 1, 10, none⟩ = some v := blk_cell hrow2 10
    have hlq : w.heap.size + 1 < wq.heap.size := by omega
    have hwk : IntKind.i64.wrap ((k : Int) + 1) = (k : Int) + 1 := IntWalk.i64_in _ (by omega)
    refine wp_region_noPanic ?_
    refine wp_region_held_drew (S := fun _ => True) (by kernel_rfl) trivial (fun hHeld => ?_)
    refine sqT 0 trivial ?_
    refine sqT 2 trivial ?_
    refine sqT 3 trivial ?_
    refine sqT 4 trivial ?_
    refine sqT 5 trivial ?_
    refine wpAnyH_ready (rs := [1, 6]) (by kernel_rfl) (by simp) ?_
    refine AllReadyH.cons (o := ⟨_, _, _, _, _, _⟩) rfl (fun K hK => ?_) (AllReadyH.cons (o := ⟨_, _, _, _, _, _⟩) rfl (fun K hK => ?_) AllReadyH.nil)
    ·go_simp
     refine hK.out _ _ trivial (fun _ => ?_)
     clear hK K
     try simp only [Act.put, List.setIfInBounds_toArray, List.set_cons_zero, List.set_cons_succ]
     refine sqC 6 (fun K hK => ?_)
     go_simp
     refine (lnumber_any 0 _).mono ?_
     rintro e w1 ⟨rfl, hb0⟩
     have hb : Below wq.heap.size wq w1 := ((Below.refl wq.heap.size wq).drew).trans hb0
     have hown3 := ownsRow_below hown2 hb
     have hrow3 := (hb.block (w.heap.size + 1) hlq).trans hrow2
     have g10 := (hb.cell (p := ⟨w.heap.size + 1, 10, none⟩) hlq).trans q10
     have hb3 := hbr2.trans (hb.mono (show w.heap.size + 1 ≤ wq.heap.size by omega))
     have hl1 : w.heap.size + 1 < w1.heap.size := Nat.lt_of_lt_of_le hlq hb.size
     refine hK.out _ _ trivial (fun _ => ?_)
     clear hK K
     try simp only [Act.put, List.setIfInBounds_toArray, List.set_cons_zero, List.set_cons_succ]
     refine sqT 7 trivial ?_
     refine sqC 8 (fun K hK => ?_)
     go_simp
     refine hK.out _ _ trivial (fun _ => ?_)
     clear hK K
     try simp only [Act.put, List.setIfInBounds_toArray, List.set_cons_zero, List.set_cons_succ]
     refine sqC 9 (fun K hK => ?_)
     refine step_append_lies _ (by rfl) _ _ _ (by rfl) (w.heap.size + 2) 99 i0 _ 7 64 Tryz.underlying34 hi hz0 hz1 hz2 rfl (by omega) v k _ (by rfl) (hown3.alloc _) ⟨w1.heap.size, 0, none⟩ 1 1 [.int .i64 ((k : Int) + 1), .int .i64 1, .int .i64 1, .int .i64 0, .string ⟨#[]⟩, .bool false, .int .i64 0] (by rfl) (by rfl) (World.news_of_block (cs := #[.int .i64 ((k : Int) + 1), .int .i64 1, .int .i64 1, .int .i64 0, .string ⟨#[]⟩, .bool false, .int .i64 0]) (t := 99) (fr := (0, 0)) (heap_alloc_new w1 _)) (by simp [Value.oneCell']) (by omega) (by unfold maxLen; omega) (by omega) (by simp; omega) (w1.heap.size + 1) (by simp) ?_
     intro gg cap5 w5 hown5 hgrow5 hat5 hlt5
     have hrw5 := (hgrow5.block (w.heap.size + 1) (by simp; omega) (fun e => by have := (hown3.lt _ (by first | exact e | exact e.symm)).1; omega)).trans ((Lib.alloc_old w1 _ _ hl1).trans hrow3)
     have g5 : w5.cell? ⟨w.heap.size + 1, 10, none⟩ = some v := blk_cell hrw5 10
     have f5 := blk_frozen hrw5 10
     have hb5 : Below (w.heap.size + 1) (w.alloc (.cells #[.bool false, .int .i64 0, .int .i64 0, .string ⟨#[]⟩, .bool false, .int .i64 0, .int .i64 0, .int .i64 0, .int .i64 0, .int .i64 0, .slice none 0 0] 36)) w5 := (hb3.alloc (by omega) _).grown hgrow5 (by simp; omega) (fun q hq => by have := (hown3.lt q hq).1; omega)
     have hz5 : w.heap.size + 2 ≤ w5.heap.size := by (have := hgrow5.size; simp at this; omega)
     refine hK.out _ _ trivial (fun _ => ?_)
     clear hK K
     try simp only [Act.put, List.setIfInBounds_toArray, List.set_cons_zero, List.set_cons_succ]
     refine sqT 10 trivial ?_
     refine sqC 11 (fun K hK => ?_)
     go_simp
     refine hK.out _ _ trivial (fun _ => ?_)
     clear hK K
     try simp only [Act.put, List.setIfInBounds_toArray, List.set_cons_zero, List.set_cons_succ]
     refine wpAnyH_done (by kernel_rfl) ?_ _
     refine NoPanic.normal ?_
     go_wp2
     exact ⟨⟨k + 1, _, by omega, by go_num, by rw [show max 1 (((k + 1 : Nat)) : Int) = (k : Int) + 1 by omega]; exact row_set hrw5, by rw [hts.out, eRow_app]; exact own_set hown5 _ _ (by simp), hb5.setCell (p := ⟨w.heap.size + 1, 10, none⟩) (Nat.le_refl _) _, by simp; omega⟩, by simp [intOf]; omega⟩
    ·go_simp
     refine (lnumber_any 0 _).mono ?_
     rintro e w1 ⟨rfl, hb0⟩
     have hb : Below wq.heap.size wq w1 := ((Below.refl wq.heap.size wq).drew).trans hb0
     have hown3 := ownsRow_below hown2 hb
     have hrow3 := (hb.block (w.heap.size + 1) hlq).trans hrow2
     have g10 := (hb.cell (p := ⟨w.heap.size + 1, 10, none⟩) hlq).trans q10
     have hb3 := hbr2.trans (hb.mono (show w.heap.size + 1 ≤ wq.heap.size by omega))
     have hl1 : w.heap.size + 1 < w1.heap.size := Nat.lt_of_lt_of_le hlq hb.size
     refine hK.out _ _ trivial (fun _ => ?_)
     clear hK K
     try simp only [Act.put, List.setIfInBounds_toArray, List.set_cons_zero, List.set_cons_succ]
     refine sqT 7 trivial ?_
     refine wpAnyH_ready (rs := [1, 8]) (by kernel_rfl) (by simp) ?_
     refine AllReadyH.cons (o := ⟨_, _, _, _, _, _⟩) rfl (fun K hK => ?_) (AllReadyH.cons (o := ⟨_, _, _, _, _, _⟩) rfl (fun K hK => ?_) AllReadyH.nil)
     ·go_simp
      refine hK.out _ _ trivial (fun _ => ?_)
      clear hK K
      try simp only [Act.put, List.setIfInBounds_toArray, List.set_cons_zero, List.set_cons_succ]
      refine sqC 8 (fun K hK => ?_)
      go_simp
      refine hK.out _ _ trivial (fun _ => ?_)
      clear hK K
      try simp only [Act.put, List.setIfInBounds_toArray, List.set_cons_zero, List.set_cons_succ]
      refine sqC 9 (fun K hK => ?_)
      refine step_append_lies _ (by rfl) _ _ _ (by rfl) (w.heap.size + 2) 99 i0 _ 7 64 Tryz.underlying34 hi hz0 hz1 hz2 rfl (by omega) v k _ (by rfl) (hown3.alloc _) ⟨w1.heap.size, 0, none⟩ 1 1 [.int .i64 ((k : Int) + 1), .int .i64 1, .int .i64 1, .int .i64 0, .string ⟨#[]⟩, .bool false, .int .i64 0] (by rfl) (by rfl) (World.news_of_block (cs := #[.int .i64 ((k : Int) + 1), .int .i64 1, .int .i64 1, .int .i64 0, .string ⟨#[]⟩, .bool false, .int .i64 0]) (t := 99) (fr := (0, 0)) (heap_alloc_new w1 _)) (by simp [Value.oneCell']) (by omega) (by unfold maxLen; omega) (by omega) (by simp; omega) (w1.heap.size + 1) (by simp) ?_
      intro gg cap5 w5 hown5 hgrow5 hat5 hlt5
      have hrw5 := (hgrow5.block (w.heap.size + 1) (by simp; omega) (fun e => by have := (hown3.lt _ (by first | exact e | exact e.symm)).1; omega)).trans ((Lib.alloc_old w1 _ _ hl1).trans hrow3)
      have g5 : w5.cell? ⟨w.heap.size + 1, 10, none⟩ = some v := blk_cell hrw5 10
      have f5 := blk_frozen hrw5 10
      have hb5 : Below (w.heap.size + 1) (w.alloc (.cells #[.bool false, .int .i64 0, .int .i64 0, .string ⟨#[]⟩, .bool false, .int .i64 0, .int .i64 0, .int .i64 0, .int .i64 0, .int .i64 0, .slice none 0 0] 36)) w5 := (hb3.alloc (by omega) _).grown hgrow5 (by simp; omega) (fun q hq => by have := (hown3.lt q hq).1; omega)
      have hz5 : w.heap.size + 2 ≤ w5.heap.size := by (have := hgrow5.size; simp at this; omega)
      refine hK.out _ _ trivial (fun _ => ?_)
      clear hK K
      try simp only [Act.put, List.setIfInBounds_toArray, List.set_cons_zero, List.set_cons_succ]
      refine sqT 10 trivial ?_
      refine sqC 11 (fun K hK => ?_)
      go_simp
      refine hK.out _ _ trivial (fun _ => ?_)
      clear hK K
      try simp only [Act.put, List.setIfInBounds_toArray, List.set_cons_zero, List.set_cons_succ]
      refine wpAnyH_done (by kernel_rfl) ?_ _
      refine NoPanic.normal ?_
      go_wp2
      exact ⟨⟨k + 1, _, by omega, by go_num, by rw [show max 1 (((k + 1 : Nat)) : Int) = (k : Int) + 1 by omega]; exact row_set hrw5, by rw [hts.out, eRow_app]; exact own_set hown5 _ _ (by simp), hb5.setCell (p := ⟨w.heap.size + 1, 10, none⟩) (Nat.le_refl _) _, by simp; omega⟩, by simp [intOf]; omega⟩
     ·go_simp
      refine hK.out _ _ trivial (fun _ => ?_)
      clear hK K
      try simp only [Act.put, List.setIfInBounds_toArray, List.set_cons_zero, List.set_cons_succ]
      refine sqC 1 (fun K hK => ?_)
      go_simp
      refine hK.out _ _ trivial (fun _ => ?_)
      clear hK K
      try simp only [Act.put, List.setIfInBounds_toArray, List.set_cons_zero, List.set_cons_succ]
      refine sqC 9 (fun K hK => ?_)
      refine step_append_lies _ (by rfl) _ _ _ (by rfl) (w.heap.size + 2) 99 i0 _ 7 64 Tryz.underlying34 hi hz0 hz1 hz2 rfl (by omega) v k _ (by rfl) (hown3.alloc _) ⟨w1.heap.size, 0, none⟩ 1 1 [.int .i64 ((k : Int) + 1), .int .i64 1, .int .i64 1, .int .i64 0, .string ⟨#[]⟩, .bool false, .int .i64 0] (by rfl) (by rfl) (World.news_of_block (cs := #[.int .i64 ((k : Int) + 1), .int .i64 1, .int .i64 1, .int .i64 0, .string ⟨#[]⟩, .bool false, .int .i64 0]) (t := 99) (fr := (0, 0)) (heap_alloc_new w1 _)) (by simp [Value.oneCell']) (by omega) (by unfold maxLen; omega) (by omega) (by simp; omega) (w1.heap.size + 1) (by simp) ?_
      intro gg cap5 w5 hown5 hgrow5 hat5 hlt5
      have hrw5 := (hgrow5.block (w.heap.size + 1) (by simp; omega) (fun e => by have := (hown3.lt _ (by first | exact e | exact e.symm)).1; omega)).trans ((Lib.alloc_old w1 _ _ hl1).trans hrow3)
      have g5 : w5.cell? ⟨w.heap.size + 1, 10, none⟩ = some v := blk_cell hrw5 10
      have f5 := blk_frozen hrw5 10
      have hb5 : Below (w.heap.size + 1) (w.alloc (.cells #[.bool false, .int .i64 0, .int .i64 0, .string ⟨#[]⟩, .bool false, .int .i64 0, .int .i64 0, .int .i64 0, .int .i64 0, .int .i64 0, .slice none 0 0] 36)) w5 := (hb3.alloc (by omega) _).grown hgrow5 (by simp; omega) (fun q hq => by have := (hown3.lt q hq).1; omega)
      have hz5 : w.heap.size + 2 ≤ w5.heap.size := by (have := hgrow5.size; simp at this; omega)
      refine hK.out _ _ trivial (fun _ => ?_)
      clear hK K
      try simp only [Act.put, List.setIfInBounds_toArray, List.set_cons_zero, List.set_cons_succ]
      refine sqT 10 trivial ?_
      refine sqC 11 (fun K hK => ?_)
      go_simp
      refine hK.out _ _ trivial (fun _ => ?_)
      clear hK K
      try simp only [Act.put, List.setIfInBounds_toArray, List.set_cons_zero, List.set_cons_succ]
      refine wpAnyH_done (by kernel_rfl) ?_ _
      refine NoPanic.normal ?_
      go_wp2
      exact ⟨⟨k + 1, _, by omega, by go_num, by rw [show max 1 (((k + 1 : Nat)) : Int) = (k : Int) + 1 by omega]; exact row_set hrw5, by rw [hts.out, eRow_app]; exact own_set hown5 _ _ (by simp), hb5.setCell (p := ⟨w.heap.size + 1, 10, none⟩) (Nat.le_refl _) _, by simp; omega⟩, by simp [intOf]; omega⟩
   ·have hyx : okN x = x := by unfold okN; rw [if_neg hm]
    rw [hyx] at hts
    go_wp2_with fail
    generalize hyg : x = y at hts ⊢
    clear hyg hyx hm hck
    have hrow2 : (wr.setCell ⟨w.heap.size + 1, 8, none⟩ (.int .i64 ((k : Int) + 1))).heap[w.heap.size + 1]? = some (.cells #[.bool true, .int .i64 0, .int .i64 0, .string ⟨#[]⟩, .bool false, .int .i64 0, .int .i64 1, .int .i64 1, .int .i64 ((k : Int) + 1), .int .i64 1, v] 36 (0, 0)) := row_set hrow
    have hown2 : (wr.setCell ⟨w.heap.size + 1, 8, none⟩ (.int .i64 ((k : Int) + 1))).ownsRow (w.heap.size + 2) 99 7 v k (eRow (colE (l.take k))) := own_set hown _ _ (by simp)
    have hbr2 : Below (w.heap.size + 1) (w.alloc (.cells #[.bool false, .int .i64 0, .int .i64 0, .string ⟨#[]⟩, .bool false, .int .i64 0, .int .i64 0, .int .i64 0, .int .i64 0, .int .i64 0, .slice none 0 0] 36)) (wr.setCell ⟨w.heap.size + 1, 8, none⟩ (.int .i64 ((k : Int) + 1))) := hbr.setCell (p := ⟨w.heap.size + 1, 8, none⟩) (Nat.le_refl _) _
    have hz2' : w.heap.size + 2 ≤ (wr.setCell ⟨w.heap.size + 1, 8, none⟩ (.int .i64 ((k : Int) + 1))).heap.size := by simp; omega
    clear hrow hown hbr e8 e10 f8 f10 g0
    generalize (wr.setCell ⟨w.heap.size + 1, 8, none⟩ (.int .i64 ((k : Int) + 1))) = wq at *
    have q10 : wq.cell? ⟨w.heap.size + 1, 10, none⟩ = some v := blk_cell hrow2 10
    have hlq : w.heap.size + 1 < wq.heap.size := by omega
    have hwk : IntKind.i64.wrap ((k : Int) + 1) = (k : Int) + 1 := IntWalk.i64_in _ (by omega)
    refine wp_region_noPanic ?_
    refine wp_region_held_drew (S := fun _ => True) (by kernel_rfl) trivial (fun hHeld => ?_)
    refine sqT 0 trivial ?_
    refine sqT 2 trivial ?_
    refine sqT 3 trivial ?_
    refine sqT 4 trivial ?_
    refine sqT 5 trivial ?_
    refine wpAnyH_ready (rs := [1, 6]) (by kernel_rfl) (by simp) ?_
    refine AllReadyH.cons (o := ⟨_, _, _, _, _, _⟩) rfl (fun K hK => ?_) (AllReadyH.cons (o := ⟨_, _, _, _, _, _⟩) rfl (fun K hK => ?_) AllReadyH.nil)
    ·go_simp
     refine hK.out _ _ trivial (fun _ => ?_)
     clear hK K
     try simp only [Act.put, List.setIfInBounds_toArray, List.set_cons_zero, List.set_cons_succ]
     refine sqC 6 (fun K hK => ?_)
     go_simp
     refine (lnumber_any y _).mono ?_
     rintro e w1 ⟨rfl, hb0⟩
     have hb : Below wq.heap.size wq w1 := ((Below.refl wq.heap.size wq).drew).trans hb0
     have hown3 := ownsRow_below hown2 hb
     have hrow3 := (hb.block (w.heap.size + 1) hlq).trans hrow2
     have g10 := (hb.cell (p := ⟨w.heap.size + 1, 10, none⟩) hlq).trans q10
     have hb3 := hbr2.trans (hb.mono (show w.heap.size + 1 ≤ wq.heap.size by omega))
     have hl1 : w.heap.size + 1 < w1.heap.size := Nat.lt_of_lt_of_le hlq hb.size
     refine hK.out _ _ trivial (fun _ => ?_)
     clear hK K
     try simp only [Act.put, List.setIfInBounds_toArray, List.set_cons_zero, List.set_cons_succ]
     refine sqT 7 trivial ?_
     refine sqC 8 (fun K hK => ?_)
     go_simp
     refine hK.out _ _ trivial (fun _ => ?_)
     clear hK K
     try simp only [Act.put, List.setIfInBounds_toArray, List.set_cons_zero, List.set_cons_succ]
     refine sqC 9 (fun K hK => ?_)
     refine step_append_lies _ (by rfl) _ _ _ (by rfl) (w.heap.size + 2) 99 i0 _ 7 64 Tryz.underlying34 hi hz0 hz1 hz2 rfl (by omega) v k _ (by rfl) (hown3.alloc _) ⟨w1.heap.size, 0, none⟩ 1 1 [.int .i64 ((k : Int) + 1), .int .i64 1, .int .i64 1, .int .i64 y, .string ⟨#[]⟩, .bool false, .int .i64 0] (by rfl) (by rfl) (World.news_of_block (cs := #[.int .i64 ((k : Int) + 1), .int .i64 1, .int .i64 1, .int .i64 y, .string ⟨#[]⟩, .bool false, .int .i64 0]) (t := 99) (fr := (0, 0)) (heap_alloc_new w1 _)) (by simp [Value.oneCell']) (by omega) (by unfold maxLen; omega) (by omega) (by simp; omega) (w1.heap.size + 1) (by simp) ?_
     intro gg cap5 w5 hown5 hgrow5 hat5 hlt5
     have hrw5 := (hgrow5.block (w.heap.size + 1) (by simp; omega) (fun e => by have := (hown3.lt _ (by first | exact e | exact e.symm)).1; omega)).trans ((Lib.alloc_old w1 _ _ hl1).trans hrow3)
     have g5 : w5.cell? ⟨w.heap.size + 1, 10, none⟩ = some v := blk_cell hrw5 10
     have f5 := blk_frozen hrw5 10
     have hb5 : Below (w.heap.size + 1) (w.alloc (.cells #[.bool false, .int .i64 0, .int .i64 0, .string ⟨#[]⟩, .bool false, .int .i64 0, .int .i64 0, .int .i64 0, .int .i64 0, .int .i64 0, .slice none 0 0] 36)) w5 := (hb3.alloc (by omega) _).grown hgrow5 (by simp; omega) (fun q hq => by have := (hown3.lt q hq).1; omega)
     have hz5 : w.heap.size + 2 ≤ w5.heap.size := by (have := hgrow5.size; simp at this; omega)
     refine hK.out _ _ trivial (fun _ => ?_)
     clear hK K
     try simp only [Act.put, List.setIfInBounds_toArray, List.set_cons_zero, List.set_cons_succ]
     refine sqT 10 trivial ?_
     refine sqC 11 (fun K hK => ?_)
     go_simp
     refine hK.out _ _ trivial (fun _ => ?_)
     clear hK K
     try simp only [Act.put, List.setIfInBounds_toArray, List.set_cons_zero, List.set_cons_succ]
     refine wpAnyH_done (by kernel_rfl) ?_ _
     refine NoPanic.normal ?_
     go_wp2
     exact ⟨⟨k + 1, _, by omega, by go_num, by rw [show max 1 (((k + 1 : Nat)) : Int) = (k : Int) + 1 by omega]; exact row_set hrw5, by rw [hts.out, eRow_app]; exact own_set hown5 _ _ (by simp), hb5.setCell (p := ⟨w.heap.size + 1, 10, none⟩) (Nat.le_refl _) _, by simp; omega⟩, by simp [intOf]; omega⟩
    ·go_simp
     refine (lnumber_any y _).mono ?_
     rintro e w1 ⟨rfl, hb0⟩
     have hb : Below wq.heap.size wq w1 := ((Below.refl wq.heap.size wq).drew).trans hb0
     have hown3 := ownsRow_below hown2 hb
     have hrow3 := (hb.block (w.heap.size + 1) hlq).trans hrow2
     have g10 := (hb.cell (p := ⟨w.heap.size + 1, 10, none⟩) hlq).trans q10
     have hb3 := hbr2.trans (hb.mono (show w.heap.size + 1 ≤ wq.heap.size by omega))
     have hl1 : w.heap.size + 1 < w1.heap.size := Nat.lt_of_lt_of_le hlq hb.size
     refine hK.out _ _ trivial (fun _ => ?_)
     clear hK K
     try simp only [Act.put, List.setIfInBounds_toArray, List.set_cons_zero, List.set_cons_succ]
     refine sqT 7 trivial ?_
     refine wpAnyH_ready (rs := [1, 8]) (by kernel_rfl) (by simp) ?_
     refine AllReadyH.cons (o := ⟨_, _, _, _, _, _⟩) rfl (fun K hK => ?_) (AllReadyH.cons (o := ⟨_, _, _, _, _, _⟩) rfl (fun K hK => ?_) AllReadyH.nil)
     ·go_simp
      refine hK.out _ _ trivial (fun _ => ?_)
      clear hK K
      try simp only [Act.put, List.setIfInBounds_toArray, List.set_cons_zero, List.set_cons_succ]
      refine sqC 8 (fun K hK => ?_)
      go_simp
      refine hK.out _ _ trivial (fun _ => ?_)
      clear hK K
      try simp only [Act.put, List.setIfInBounds_toArray, List.set_cons_zero, List.set_cons_succ]
      refine sqC 9 (fun K hK => ?_)
      refine step_append_lies _ (by rfl) _ _ _ (by rfl) (w.heap.size + 2) 99 i0 _ 7 64 Tryz.underlying34 hi hz0 hz1 hz2 rfl (by omega) v k _ (by rfl) (hown3.alloc _) ⟨w1.heap.size, 0, none⟩ 1 1 [.int .i64 ((k : Int) + 1), .int .i64 1, .int .i64 1, .int .i64 y, .string ⟨#[]⟩, .bool false, .int .i64 0] (by rfl) (by rfl) (World.news_of_block (cs := #[.int .i64 ((k : Int) + 1), .int .i64 1, .int .i64 1, .int .i64 y, .string ⟨#[]⟩, .bool false, .int .i64 0]) (t := 99) (fr := (0, 0)) (heap_alloc_new w1 _)) (by simp [Value.oneCell']) (by omega) (by unfold maxLen; omega) (by omega) (by simp; omega) (w1.heap.size + 1) (by simp) ?_
      intro gg cap5 w5 hown5 hgrow5 hat5 hlt5
      have hrw5 := (hgrow5.block (w.heap.size + 1) (by simp; omega) (fun e => by have := (hown3.lt _ (by first | exact e | exact e.symm)).1; omega)).trans ((Lib.alloc_old w1 _ _ hl1).trans hrow3)
      have g5 : w5.cell? ⟨w.heap.size + 1, 10, none⟩ = some v := blk_cell hrw5 10
      have f5 := blk_frozen hrw5 10
      have hb5 : Below (w.heap.size + 1) (w.alloc (.cells #[.bool false, .int .i64 0, .int .i64 0, .string ⟨#[]⟩, .bool false, .int .i64 0, .int .i64 0, .int .i64 0, .int .i64 0, .int .i64 0, .slice none 0 0] 36)) w5 := (hb3.alloc (by omega) _).grown hgrow5 (by simp; omega) (fun q hq => by have := (hown3.lt q hq).1; omega)
      have hz5 : w.heap.size + 2 ≤ w5.heap.size := by (have := hgrow5.size; simp at this; omega)
      refine hK.out _ _ trivial (fun _ => ?_)
      clear hK K
      try simp only [Act.put, List.setIfInBounds_toArray, List.set_cons_zero, List.set_cons_succ]
      refine sqT 10 trivial ?_
      refine sqC 11 (fun K hK => ?_)
      go_simp
      refine hK.out _ _ trivial (fun _ => ?_)
      clear hK K
      try simp only [Act.put, List.setIfInBounds_toArray, List.set_cons_zero, List.set_cons_succ]
      refine wpAnyH_done (by kernel_rfl) ?_ _
      refine NoPanic.normal ?_
      go_wp2
      exact ⟨⟨k + 1, _, by omega, by go_num, by rw [show max 1 (((k + 1 : Nat)) : Int) = (k : Int) + 1 by omega]; exact row_set hrw5, by rw [hts.out, eRow_app]; exact own_set hown5 _ _ (by simp), hb5.setCell (p := ⟨w.heap.size + 1, 10, none⟩) (Nat.le_refl _) _, by simp; omega⟩, by simp [intOf]; omega⟩
     ·go_simp
      refine hK.out _ _ trivial (fun _ => ?_)
      clear hK K
      try simp only [Act.put, List.setIfInBounds_toArray, List.set_cons_zero, List.set_cons_succ]
      refine sqC 1 (fun K hK => ?_)
      go_simp
      refine hK.out _ _ trivial (fun _ => ?_)
      clear hK K
      try simp only [Act.put, List.setIfInBounds_toArray, List.set_cons_zero, List.set_cons_succ]
      refine sqC 9 (fun K hK => ?_)
      refine step_append_lies _ (by rfl) _ _ _ (by rfl) (w.heap.size + 2) 99 i0 _ 7 64 Tryz.underlying34 hi hz0 hz1 hz2 rfl (by omega) v k _ (by rfl) (hown3.alloc _) ⟨w1.heap.size, 0, none⟩ 1 1 [.int .i64 ((k : Int) + 1), .int .i64 1, .int .i64 1, .int .i64 y, .string ⟨#[]⟩, .bool false, .int .i64 0] (by rfl) (by rfl) (World.news_of_block (cs := #[.int .i64 ((k : Int) + 1), .int .i64 1, .int .i64 1, .int .i64 y, .string ⟨#[]⟩, .bool false, .int .i64 0]) (t := 99) (fr := (0, 0)) (heap_alloc_new w1 _)) (by simp [Value.oneCell']) (by omega) (by unfold maxLen; omega) (by omega) (by simp; omega) (w1.heap.size + 1) (by simp) ?_
      intro gg cap5 w5 hown5 hgrow5 hat5 hlt5
      have hrw5 := (hgrow5.block (w.heap.size + 1) (by simp; omega) (fun e => by have := (hown3.lt _ (by first | exact e | exact e.symm)).1; omega)).trans ((Lib.alloc_old w1 _ _ hl1).trans hrow3)
      have g5 : w5.cell? ⟨w.heap.size + 1, 10, none⟩ = some v := blk_cell hrw5 10
      have f5 := blk_frozen hrw5 10
      have hb5 : Below (w.heap.size + 1) (w.alloc (.cells #[.bool false, .int .i64 0, .int .i64 0, .string ⟨#[]⟩, .bool false, .int .i64 0, .int .i64 0, .int .i64 0, .int .i64 0, .int .i64 0, .slice none 0 0] 36)) w5 := (hb3.alloc (by omega) _).grown hgrow5 (by simp; omega) (fun q hq => by have := (hown3.lt q hq).1; omega)
      have hz5 : w.heap.size + 2 ≤ w5.heap.size := by (have := hgrow5.size; simp at this; omega)
      refine hK.out _ _ trivial (fun _ => ?_)
      clear hK K
      try simp only [Act.put, List.setIfInBounds_toArray, List.set_cons_zero, List.set_cons_succ]
      refine sqT 10 trivial ?_
      refine sqC 11 (fun K hK => ?_)
      go_simp
      refine hK.out _ _ trivial (fun _ => ?_)
      clear hK K
      try simp only [Act.put, List.setIfInBounds_toArray, List.set_cons_zero, List.set_cons_succ]
      refine wpAnyH_done (by kernel_rfl) ?_ _
      refine NoPanic.normal ?_
      go_wp2
      exact ⟨⟨k + 1, _, by omega, by go_num, by rw [show max 1 (((k + 1 : Nat)) : Int) = (k : Int) + 1 by omega]; exact row_set hrw5, by rw [hts.out, eRow_app]; exact own_set hown5 _ _ (by simp), hb5.setCell (p := ⟨w.heap.size + 1, 10, none⟩) (Nat.le_refl _) _, by simp; omega⟩, by simp [intOf]; omega⟩
  ·obtain rfl : k = l.length := by omega
   rw [List.take_length] at hown
   obtain ⟨vA, vc, hvf⟩ := own_form hown
   subst hvf
   have e0 : wr.cell? ⟨w.heap.size + 1, 0, none⟩ = some (.bool true) := hcell 0
   have e1 : wr.cell? ⟨w.heap.size + 1, 1, none⟩ = some (.int .i64 0) := hcell 1
   have e2 : wr.cell? ⟨w.heap.size + 1, 2, none⟩ = some (.int .i64 0) := hcell 2
   have e3 : wr.cell? ⟨w.heap.size + 1, 3, none⟩ = some (.string ⟨#[]⟩) := hcell 3
   have e4 : wr.cell? ⟨w.heap.size + 1, 4, none⟩ = some (.bool false) := hcell 4
   have e5 : wr.cell? ⟨w.heap.size + 1, 5, none⟩ = some (.int .i64 0) := hcell 5
   have e6 : wr.cell? ⟨w.heap.size + 1, 6, none⟩ = some (.int .i64 1) := hcell 6
   have e7 : wr.cell? ⟨w.heap.size + 1, 7, none⟩ = some (.int .i64 1) := hcell 7
   have e8 : wr.cell? ⟨w.heap.size + 1, 8, none⟩ = some (.int .i64 (max 1 (l.length : Int))) := hcell 8
   have e9 : wr.cell? ⟨w.heap.size + 1, 9, none⟩ = some (.int .i64 1) := hcell 9
   have e10 : wr.cell? ⟨w.heap.size + 1, 10, none⟩ = some (.slice vA l.length vc) := hcell 10
   have f0 := hfr 0
   have f1 := hfr 1
   have f2 := hfr 2
   have f3 := hfr 3
   have f4 := hfr 4
   have f5 := hfr 5
   have f6 := hfr 6
   have f7 := hfr 7
   have f8 := hfr 8
   have f9 := hfr 9
   have f10 := hfr 10
   have hrR : wr.heap[w.heap.size]? = some (.cells #[.bool false, .int .i64 0, .int .i64 0, .string ⟨#[]⟩, .bool false, .int .i64 0, .int .i64 0, .int .i64 0, .int .i64 0, .int .i64 0, .slice none 0 0] 36 (0, 0)) := (hbr.block w.heap.size (by omega)).trans (blk_new w _ _)
   have r0 : wr.cell? ⟨w.heap.size, 0, none⟩ = some (.bool false) := blk_cell hrR 0
   have r1 : wr.cell? ⟨w.heap.size, 1, none⟩ = some (.int .i64 0) := blk_cell hrR 1
   have r2 : wr.cell? ⟨w.heap.size, 2, none⟩ = some (.int .i64 0) := blk_cell hrR 2
   have r3 : wr.cell? ⟨w.heap.size, 3, none⟩ = some (.string ⟨#[]⟩) := blk_cell hrR 3
   have r4 : wr.cell? ⟨w.heap.size, 4, none⟩ = some (.bool false) := blk_cell hrR 4
   have r5 : wr.cell? ⟨w.heap.size, 5, none⟩ = some (.int .i64 0) := blk_cell hrR 5
   have r6 : wr.cell? ⟨w.heap.size, 6, none⟩ = some (.int .i64 0) := blk_cell hrR 6
   have r7 : wr.cell? ⟨w.heap.size, 7, none⟩ = some (.int .i64 0) := blk_cell hrR 7
   have r8 : wr.cell? ⟨w.heap.size, 8, none⟩ = some (.int .i64 0) := blk_cell hrR 8
   have r9 : wr.cell? ⟨w.heap.size, 9, none⟩ = some (.int .i64 0) := blk_cell hrR 9
   have r10 : wr.cell? ⟨w.heap.size, 10, none⟩ = some (.slice none 0 0) := blk_cell hrR 10
   have s0 := blk_frozen hrR 0
   have s1 := blk_frozen hrR 1
   have s2 := blk_frozen hrR 2
   have s3 := blk_frozen hrR 3
   have s4 := blk_frozen hrR 4
   have s5 := blk_frozen hrR 5
   have s6 := blk_frozen hrR 6
   have s7 := blk_frozen hrR 7
   have s8 := blk_frozen hrR 8
   have s9 := blk_frozen hrR 9
   have s10 := blk_frozen hrR 10
   clear hcell hfr
   have hown' := Lib.hid hown
   clear hrow hrR hown
   go_wp2
   refine bodyPost_ret (v := .agg #[.bool true, .int .i64 0, .int .i64 0, .string ⟨#[]⟩, .bool false, .int .i64 0, .int .i64 1, .int .i64 1, .int .i64 (max 1 (l.length : Int)), .int .i64 1, .slice vA l.length vc]) ?_ rfl ⟨⟨_, rfl, ?_⟩, belq⟩
   ·simp [results, Tryz.results54, go_sem, *]
   ·exact ownsRow_base (own_set (own_set (own_set (own_set (own_set (own_set (own_set (own_set (own_set (own_set (own_set hown'.out _ _ (by dsimp only; omega)) _ _ (by dsimp only; omega)) _ _ (by dsimp only; omega)) _ _ (by dsimp only; omega)) _ _ (by dsimp only; omega)) _ _ (by dsimp only; omega)) _ _ (by dsimp only; omega)) _ _ (by dsimp only; omega)) _ _ (by dsimp only; omega)) _ _ (by dsimp only; omega)) _ _ (by dsimp only; omega)) (by omega)
end Go.Proofs.YtgmhifafbebjfaaGreatDoor
