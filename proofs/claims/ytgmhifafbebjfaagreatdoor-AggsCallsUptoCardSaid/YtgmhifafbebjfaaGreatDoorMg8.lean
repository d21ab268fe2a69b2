/-
 Package dec: Round of both; nums: numbers, faults, wholes; nums: Call, what its parts answer; aggs: among; Package dec: Mul; Package dec: Mul; the plain law of the ring.
-/
import Derived.Test.YtgmhifafbebjfaaGreatDoorDDivA
import Derived.Test.YtgmhifafbebjfaaGreatDoorValL
import Derived.Laws.EntriesVeiled
import Derived.Deep.RegionWith
set_option maxRecDepth 100000
set_option maxHeartbeats 32000000
namespace Go.Proofs.YtgmhifafbebjfaaGreatDoor
open Go.RowKit

theorem mul64_r (z : Int) (x y q m : Nat) (hz : z = (x : Int)) (hx : x < 18446744073709551616) (hy : y < 18446744073709551616) (hq : x * y / 18446744073709551616 = q) (hm : x * y % 18446744073709551616 = m) (w : World) : Calls Tryz.prog 192 #[.int .u64 z, .int .u64 (y : Int)] w fun e w' => e = .returned (.tuple #[.int .u64 (q : Int), .int .u64 (m : Int)]) ∧ w = w' := by
 subst hz
 subst hq
 subst hm
 exact (Tryz.bits_Mul64 x y hx hy w).mono fun _ _ ⟨he, hw⟩ => ⟨he, hw.symm⟩

def VL.val (v : VL) : Value := .agg #[.int .i64 v.t, .int .i64 v.n, .string v.s, .bool v.b, .int .i64 v.c]
def errL (c : Int) : VL := ⟨4, 0, ⟨#[]⟩, false, errC c⟩
def numL (x : Int) : VL := ⟨numT x, numN x, ⟨#[]⟩, false, numF x⟩
theorem verr_any (c : Int) (w : World) : Calls Tryz.prog 11 #[.int .i64 c] w fun e w' => e = .returned (.agg #[.int .i64 4, .int .i64 0, .string ⟨#[]⟩, .bool false, .int .i64 (errC c)]) ∧ Below w.heap.size w w' := by
 unfold errC
 by_cases h : 1 ≤ c ∧ c ≤ 8
 ·rw [if_pos h]; exact verr_yes c h w
 ·rw [if_neg h]; exact verr_no c h w
theorem vnum_any (x : Int) (hx : -9223372036854775808 ≤ x ∧ x ≤ 9223372036854775807) (w : World) : Calls Tryz.prog 141 #[.int .i64 x] w fun e w' => e = .returned (.agg #[.int .i64 (numT x), .int .i64 (numN x), .string ⟨#[]⟩, .bool false, .int .i64 (numF x)]) ∧ Below w.heap.size w w' := by
 unfold numT numN numF
 by_cases h : x = -9223372036854775808
 ·rw [if_pos h, if_pos h, if_pos h]; exact vnum_no x hx h w
 ·rw [if_neg h, if_neg h, if_neg h]; exact vnum_yes x hx h w

def VL.asN (v : VL) : Int := if v.may = true then (if v.t = 1 then v.n else if v.t = 3 then (if v.b = true then 10000 else 0) else 0) else 0
def VL.asC (v : VL) : Int := if v.may = true then (if v.t = 4 then v.c else if v.t = 2 then 4 else 0) else 8
theorem asnum_any (v : VL) (hv : v.ok) (w : World) : Calls Tryz.prog 16 #[.agg #[.int .i64 v.t, .int .i64 v.n, .string v.s, .bool v.b, .int .i64 v.c]] w fun e w' => e = .returned (.tuple #[.int .i64 v.asN, .int .i64 v.asC]) ∧ Below w.heap.size w w' := by
 obtain ⟨t, n, s, b, c⟩ := v
 have hn : -9223372036854775808 ≤ n ∧ n ≤ 9223372036854775807 := hv
 unfold VL.asN VL.asC VL.may
 cases m : vMay t n s b c
 ·exact asnum_N t n s b c hn m w
 ·obtain ⟨h1, h2, h3, h4, h5, h6, h7, h8⟩ := (vMay_iff t n s b c).1 m
  have ht : t = 0 ∨ t = 1 ∨ t = 2 ∨ t = 3 ∨ t = 4 := by omega
  rcases ht with rfl | rfl | rfl | rfl | rfl
  ·obtain rfl : n = 0 := by omega
   obtain rfl : s = ⟨#[]⟩ := by rcases h4 with h | h; omega; exact h
   obtain rfl : b = false := by rcases h5 with h | h; omega; exact h
   obtain rfl : c = 0 := by omega
   exact asnum_0 w
  ·obtain rfl : s = ⟨#[]⟩ := by rcases h4 with h | h; omega; exact h
   obtain rfl : b = false := by rcases h5 with h | h; omega; exact h
   obtain rfl : c = 0 := by omega
   exact asnum_1 n hn (h7 rfl) w
  ·obtain rfl : n = 0 := by omega
   obtain rfl : b = false := by rcases h5 with h | h; omega; exact h
   obtain rfl : c = 0 := by omega
   exact asnum_2 s w
  ·obtain rfl : n = 0 := by omega
   obtain rfl : s = ⟨#[]⟩ := by rcases h4 with h | h; omega; exact h
   obtain rfl : c = 0 := by omega
   cases b
   ·exact asnum_f w
   ·exact asnum_t w
  ·obtain rfl : n = 0 := by omega
   obtain rfl : s = ⟨#[]⟩ := by rcases h4 with h | h; omega; exact h
   obtain rfl : b = false := by rcases h5 with h | h; omega; exact h
   exact asnum_4 c (h8 rfl) w
theorem asN_in (v : VL) (hv : v.ok) : -9223372036854775807 ≤ v.asN ∧ v.asN ≤ 9223372036854775807 := by
 have hn : -9223372036854775808 ≤ v.n ∧ v.n ≤ 9223372036854775807 := hv
 unfold VL.asN
 split
 ·rename_i h
  obtain ⟨h1, h2, h3, h4, h5, h6, h7, h8⟩ := (vMay_iff v.t v.n v.s v.b v.c).1 h
  split
  ·rename_i ht; have := h7 ht; omega
  ·split
   ·split <;> omega
   ·omega
 ·omega
theorem bool_info : (Tryz.prog.info? 4).map (fun i => (i.zero, i.size, i.bytes)) = some (some (.bool false), 1, 1) := by kernel_rfl
theorem ownsRow_rd {w : World} {B : Nat} {e : TypeId} {v : Value} {n : Nat} {xs : List Value} (h : w.ownsRow B e 1 v n xs) : ∃ A cap, v = .slice A n cap ∧ RdB w w.heap.size A 1 (xs.map fun x => [x]) := by
 obtain ⟨h1, h2⟩ := h
 rcases h2 with ⟨rfl, rfl⟩ | ⟨g, cap, cur, rfl, hB, hh, hnc, hm, hs, ht⟩
 ·obtain rfl : xs = [] := List.eq_nil_of_length_eq_zero (by simpa using h1)
  exact ⟨none, 0, rfl, fun i c hi => by simp at hi⟩
 ·refine ⟨_, cap, rfl, fun i c hi => ?_⟩
  rw [List.getElem?_map] at hi
  cases hx : xs[i]? with
  | none => rw [hx] at hi; cases hi
  |
   some x =>
   rw [hx] at hi; simp at hi; subst hi
   refine ⟨g, 0, rfl, (Array.getElem?_eq_some_iff.1 hh).1, fun j u hj => ?_⟩
   rcases j with _ | j
   ·simp at hj; subst hj
    have hi2 : i < xs.length := (List.getElem?_eq_some_iff.1 hx).1
    rw [cell_of_row w g _ cur _ (0, 0) hh, ← Array.getElem?_toList]
    have : (cur.toList.take (n * 1))[i]? = some x := by rw [ht, hx]
    rw [List.getElem?_take, if_pos (by omega)] at this
    simpa using this
   ·simp at hj

theorem i64_info' : (Tryz.prog.info? 2).map (fun i => (i.zero, i.size, i.bytes)) = some (some (.int .i64 0), 1, 8) := by kernel_rfl
def numsL (l : List VL) : List Int := l.filterMap fun v => if v.t = 1 then some v.n else none
theorem numsL_snoc (l : List VL) (x : VL) : numsL (l ++ [x]) = numsL l ++ (if x.t = 1 then [x.n] else []) := by
 unfold numsL; rw [List.filterMap_append]; congr 1
 by_cases h : x.t = 1 <;> simp [h]
theorem numsL_len (l : List VL) : (numsL l).length ≤ l.length := List.length_filterMap_le _ _
def OwnI (w : World) (B : Nat) (v : Value) (l : List Int) : Prop := w.ownsRow B 2 1 v l.length (l.map (Value.int .i64))
structure AmongAt (l : List VL) (w : World) (e : Ending) (w' : World) : Prop where
 bad : ∀ x, l.find? (fun v => decide (v.t = 4)) = some x → e = .returned (.tuple #[.slice none 0 0, .agg #[.int .i64 x.t, .int .i64 x.n, .string x.s, .bool x.b, .int .i64 x.c]])
 good : l.find? (fun v => decide (v.t = 4)) = none → ∃ v, e = .returned (.tuple #[v, .agg #[.int .i64 0, .int .i64 0, .string ⟨#[]⟩, .bool false, .int .i64 0]]) ∧ OwnI w' w.heap.size v (numsL l)
 bel : Below w.heap.size w w'
theorem own_set {w : World} {B size n : Nat} {e : TypeId} {v : Value} {xs : List Value} (h : w.ownsRow B e size v n xs) (p : Addr) (u : Value) (hp : p.block < B) : (w.setCell p u).ownsRow B e size v n xs := by
 obtain ⟨h1, h2⟩ := h
 refine ⟨h1, ?_⟩
 rcases h2 with h2 | ⟨g, cap, cur, hv, hB, hh, hr⟩
 ·exact .inl h2
 ·exact .inr ⟨g, cap, cur, hv, hB, (Below.heap_setCell _ _ _ _ (by omega)).trans hh, hr⟩
theorem find_snoc_none (l : List VL) (k : Nat) (x : VL) (hx : l[k]? = some x) (h : ∀ y ∈ l.take k, ¬ y.t = 4) (h4 : x.t = 4) : l.find? (fun v => decide (v.t = 4)) = some x := by
 rw [List.find?_eq_some_iff_getElem]
 exact ⟨by simpa using h4, k, (List.getElem?_eq_some_iff.1 hx).1, (List.getElem?_eq_some_iff.1 hx).2, fun j hj => by
  simp
  exact h _ (List.mem_take_iff_getElem.2 ⟨j, by have := (List.getElem?_eq_some_iff.1 hx).1; omega, rfl⟩)⟩
theorem aamong_any (l : List VL) (hlen : l.length ≤ 2932031007402) (w : World) (A : Option Addr) (cap : Nat) (hR : RdB w w.heap.size A 5 (l.map VL.cs)) : Calls Tryz.prog 170 #[.slice A l.length cap] w (AmongAt l w) := by
 obtain ⟨i0, hi, hz0, hz1, hz2⟩ := info_parts i64_info'
 have hR' := Lib.hid hR
 clear hR
 have b0 : Below w.heap.size w (w.alloc (.cells #[.int .i64 0, .int .i64 0, .string ⟨#[]⟩, .bool false, .int .i64 0] 26)) := (Below.refl _ _).alloc (Nat.le_refl _) _
 go_enter Tryz.func170, Tryz.ntmps170
 go_wp2
 go_loopw [4, 9] (fun v i wr => ∃ k : Nat, k ≤ l.length ∧ i = .int .i64 (k : Int) ∧ Hid (∀ y ∈ l.take k, ¬ y.t = 4) ∧ OwnI wr (w.heap.size + 1) v (numsL (l.take k)) ∧ Below (w.heap.size + 1) (w.alloc (.cells #[.int .i64 0, .int .i64 0, .string ⟨#[]⟩, .bool false, .int .i64 0] 26)) wr) (fun _ i _ => l.length - (intOf i).toNat)
 case atStart => exact ⟨0, Nat.zero_le _, rfl, Lib.hid (by simp), World.ownsRow_nil _ _ _ _, Below.refl _ _⟩
 case round =>
  obtain ⟨k, hk, rfl, hno, hown, hbr⟩ := hrel
  have hzr := hbr.size
  simp only [World.size_alloc] at hzr
  have g0 : Below w.heap.size w wr := b0.trans (hbr.mono (by omega))
  obtain ⟨hr0, hr1, hr2, hr3, hr4, hs0, hs1, hs2, hs3, hs4⟩ := res5a (n := w.heap.size) hbr
  have hlr : w.heap.size < wr.heap.size := by omega
  have hnr : w.heap.size ≠ wr.heap.size := by omega
  by_cases hlt : k < l.length
  ·obtain ⟨x, hx⟩ : ∃ x, l[k]? = some x := ⟨_, List.getElem?_eq_getElem hlt⟩
   obtain ⟨ab, ao, hA2, hab, hcell⟩ := (hR'.out.below g0) k x.cs (by rw [List.getElem?_map, hx]; rfl)
   obtain rfl : A = some ⟨ab, ao, none⟩ := hA2
   have hc0 : wr.cell? ⟨ab, ao + k * 5, none⟩ = some (.int .i64 x.t) := hcell 0 _ rfl
   have hc1 : wr.cell? ⟨ab, ao + k * 5 + 1, none⟩ = some (.int .i64 x.n) := hcell 1 _ rfl
   have hc2 : wr.cell? ⟨ab, ao + k * 5 + 2, none⟩ = some (.string x.s) := hcell 2 _ rfl
   have hc3 : wr.cell? ⟨ab, ao + k * 5 + 3, none⟩ = some (.bool x.b) := hcell 3 _ rfl
   have hc4 : wr.cell? ⟨ab, ao + k * 5 + 4, none⟩ = some (.int .i64 x.c) := hcell 4 _ rfl
   have habr : ab < wr.heap.size := by omega
   have hkl : (k : Int) < (l.length : Int) := by omega
   have hne : ab ≠ wr.heap.size := by omega
   have hts : l.take (k + 1) = l.take k ++ [x] := by rw [List.take_add_one, hx]; rfl
   have hts' := Lib.hid hts
   have hx' := Lib.hid hx
   clear hx hcell hts
   by_cases h4 : x.t = 4
   ·have hf := Lib.hid (find_snoc_none l k x hx'.out hno.out h4)
    clear hx' hts'
    obtain ⟨xt, xn, xs, xb, xc⟩ := x
    dsimp only at h4 hc0 hc1 hc2 hc3 hc4
    subst h4
    have hr5 : ResAt (wr.alloc (.cells #[.int .i64 4, .int .i64 xn, .string xs, .bool xb, .int .i64 xc] 26)) w.heap.size 5 := by
     have h9 := ResAt.new5 w (.int .i64 0) (.int .i64 0) (.string ⟨#[]⟩) (.bool false) (.int .i64 0) 26
     exact ((h9.below hbr (by omega)).below ((Below.refl _ _).alloc (Nat.le_refl _) _) hlr)
    have yx0 : (wr.alloc (.cells #[.int .i64 4, .int .i64 xn, .string xs, .bool xb, .int .i64 xc] 26)).cell? ⟨wr.heap.size, 0, none⟩ = some (.int .i64 4) := by simp
    have yx1 : (wr.alloc (.cells #[.int .i64 4, .int .i64 xn, .string xs, .bool xb, .int .i64 xc] 26)).cell? ⟨wr.heap.size, 1, none⟩ = some (.int .i64 xn) := by simp
    have yx2 : (wr.alloc (.cells #[.int .i64 4, .int .i64 xn, .string xs, .bool xb, .int .i64 xc] 26)).cell? ⟨wr.heap.size, 2, none⟩ = some (.string xs) := by simp
    have yx3 : (wr.alloc (.cells #[.int .i64 4, .int .i64 xn, .string xs, .bool xb, .int .i64 xc] 26)).cell? ⟨wr.heap.size, 3, none⟩ = some (.bool xb) := by simp
    have yx4 : (wr.alloc (.cells #[.int .i64 4, .int .i64 xn, .string xs, .bool xb, .int .i64 xc] 26)).cell? ⟨wr.heap.size, 4, none⟩ = some (.int .i64 xc) := by simp
    have g1 : Below w.heap.size w (wr.alloc (.cells #[.int .i64 4, .int .i64 xn, .string xs, .bool xb, .int .i64 xc] 26)) := g0.alloc (by omega) _
    have z1 : wr.heap.size < (wr.alloc (.cells #[.int .i64 4, .int .i64 xn, .string xs, .bool xb, .int .i64 xc] 26)).heap.size := by simp
    have z2 : w.heap.size + 1 ≤ (wr.alloc (.cells #[.int .i64 4, .int .i64 xn, .string xs, .bool xb, .int .i64 xc] 26)).heap.size := by simp; omega
    clear hno hown hr0 hs0 hr1 hs1 hr2 hs2 hr3 hs3 hr4 hs4 b0 hbr
    go_wp2_with fail
    clear hc0 hc1 hc2 hc3 hc4 habr hne hab hR' g0
    generalize (wr.alloc (.cells #[.int .i64 4, .int .i64 xn, .string xs, .bool xb, .int .i64 xc] 26)) = w2 at *
    first | (go_loud (go_region_held3 (fun w' => w'.cell? ⟨wr.heap.size, 0, none⟩ = some (.int .i64 4) ∧ w'.cell? ⟨wr.heap.size, 1, none⟩ = some (.int .i64 xn) ∧ w'.cell? ⟨wr.heap.size, 2, none⟩ = some (.string xs) ∧ w'.cell? ⟨wr.heap.size, 3, none⟩ = some (.bool xb) ∧ w'.cell? ⟨wr.heap.size, 4, none⟩ = some (.int .i64 xc) ∧ ResAt w' (w.heap.size) 5 ∧ Below w.heap.size w w' ∧ w.heap.size + 1 ≤ w'.heap.size)
     (first | (go_split_ands; exact ⟨(by simp [go_sem, *]), (by simp [go_sem, *]), (by simp [go_sem, *]), (by simp [go_sem, *]), (by simp [go_sem, *]), (by first | (with_reducible exact ResAt.drew (ResAt.new5 _ _ _ _ _ _ _)) | (repeat (first | (with_reducible assumption) | (with_reducible refine ResAt.setCell ?_ _ _) | (with_reducible refine ResAt.drew ?_)))), (belq), (by first | (simp; done) | (simp; omega))⟩) | (exact ⟨(by simp [go_sem, *]), (by simp [go_sem, *]), (by simp [go_sem, *]), (by simp [go_sem, *]), (by simp [go_sem, *]), (by first | (with_reducible exact ResAt.drew (ResAt.new5 _ _ _ _ _ _ _)) | (repeat (first | (with_reducible assumption) | (with_reducible refine ResAt.setCell ?_ _ _) | (with_reducible refine ResAt.drew ?_)))), (belq), (by first | (simp; done) | (simp; omega))⟩) | exact hk1)
     (first | fail))) | fail "region"
    go_split_ands
    go_wp2
    refine bodyPost_ret (v := .tuple #[.slice none 0 0, .agg #[.int .i64 4, .int .i64 xn, .string xs, .bool xb, .int .i64 xc]]) ?_ rfl ⟨fun y hy => by rw [hf.out] at hy; cases hy; rfl, fun hn => (by rw [hf.out] at hn; cases hn), by first | assumption | (go_split_ands; assumption) | exact belq⟩
    simp [results, Tryz.results170, go_sem, *]
   ·have h4b : (x.t == 4) = false := by simpa using h4
    by_cases h1 : x.t = 1
    ·have hnl : numsL (l.take (k + 1)) = numsL (l.take k) ++ [x.n] := by rw [hts'.out, numsL_snoc, if_pos h1]
     have hnl' := Lib.hid hnl
     have hln := numsL_len (l.take k)
     rw [List.length_take] at hln
     have hno2 : Hid (∀ y ∈ l.take (k + 1), ¬ y.t = 4) := Lib.hid (fun y hy => by
      rw [hts'.out] at hy
      rcases List.mem_append.1 hy with h | h
      ·exact hno.out y h
      ·simp at h; subst h; exact h4)
     have h1b : (x.t == 1) = true := by simpa using h1
     have hown1 := hown.alloc (.cells #[.int .i64 x.t, .int .i64 x.n, .string x.s, .bool x.b, .int .i64 x.c] 26)
     have hvg := cell_one_new (wr.alloc (.cells #[.int .i64 x.t, .int .i64 x.n, .string x.s, .bool x.b, .int .i64 x.c] 26)) (.int .i64 x.n) 2
     rw [World.size_alloc] at hvg
     clear hnl hno h4 h1 hown
     go_wp2_with (at_builtin; go_loud (refine wpList_append_own_at _ rfl _ _ 90 rfl (w.heap.size + 1) 2 i0 (.int .i64 0) 1 8 Tryz.underlying90 hi hz0 hz1 hz2 rfl (by decide) _ _ _ rfl (hown1.alloc _) ⟨wr.heap.size + 1, 0, none⟩ 1 1 [.int .i64 x.n] rfl rfl hvg (by simp [Value.oneCell']) (by unfold maxLen; omega) (by omega) (by simp; omega) ?_); intro v' w5 hown5 hgrow5 _ _)
     have hbr5 : Below (w.heap.size + 1) (w.alloc (.cells #[.int .i64 0, .int .i64 0, .string ⟨#[]⟩, .bool false, .int .i64 0] 26)) w5 := ((hbr.alloc (by omega) (.cells #[.int .i64 x.t, .int .i64 x.n, .string x.s, .bool x.b, .int .i64 x.c] 26)).alloc (by simp; omega) (.cells #[.int .i64 x.n] 2)).grown hgrow5 (by simp; omega) (fun q hq => (hown1.lt q hq).1)
     go_roundw
     case rel => exact ⟨k + 1, by omega, by go_num, hno2, by rw [hnl'.out]; unfold OwnI; rw [List.map_append, List.length_append]; exact hown5, hbr5⟩
     case measure => simp [intOf]; omega
    ·have hnl : numsL (l.take (k + 1)) = numsL (l.take k) := by rw [hts'.out, numsL_snoc, if_neg h1, List.append_nil]
     have hnl' := Lib.hid hnl
     have hno2 : Hid (∀ y ∈ l.take (k + 1), ¬ y.t = 4) := Lib.hid (fun y hy => by
      rw [hts'.out] at hy
      rcases List.mem_append.1 hy with h | h
      ·exact hno.out y h
      ·simp at h; subst h; exact h4)
     have h1b : (x.t == 1) = false := by simpa using h1
     have hown1 := hown.alloc (.cells #[.int .i64 x.t, .int .i64 x.n, .string x.s, .bool x.b, .int .i64 x.c] 26)
     have hbr5 : Below (w.heap.size + 1) (w.alloc (.cells #[.int .i64 0, .int .i64 0, .string ⟨#[]⟩, .bool false, .int .i64 0] 26)) (wr.alloc (.cells #[.int .i64 x.t, .int .i64 x.n, .string x.s, .bool x.b, .int .i64 x.c] 26)) := hbr.alloc (by omega) (.cells #[.int .i64 x.t, .int .i64 x.n, .string x.s, .bool x.b, .int .i64 x.c] 26)
     clear hnl hno h4 h1 hown
     go_wp2
     go_roundw
     case rel => exact ⟨k + 1, by omega, by go_num, hno2, by rw [hnl'.out]; exact hown1, hbr5⟩
     case measure => simp [intOf]; omega
  ·obtain rfl : k = l.length := by omega
   rw [List.take_length] at hown hno
   have hfn : Hid (l.find? (fun v => decide (v.t = 4)) = none) := Lib.hid (by
    rw [List.find?_eq_none]; intro y hy; simpa using hno.out y hy)
   have hown' := Lib.hid hown
   clear hno hown
   go_wp2
   refine bodyPost_ret (v := .tuple #[u4, .agg #[.int .i64 0, .int .i64 0, .string ⟨#[]⟩, .bool false, .int .i64 0]]) ?_ rfl ⟨fun y hy => (by rw [hfn.out] at hy; cases hy), fun _ => ⟨_, rfl, ?_⟩, belq⟩
   ·simp [results, Tryz.results170, go_sem, *]
   ·exact ownsRow_base (own_set (own_set (own_set (own_set (own_set hown'.out _ _ (by simp)) _ _ (by simp)) _ _ (by simp)) _ _ (by simp)) _ _ (by simp)) (by omega)

def mulN (m n : Nat) : Nat := m * n / 10000 + if 5000 ≤ m * n % 10000 then 1 else 0
def sgn2 (a b : Int) (n : Nat) : Int := if (decide (a < 0) != decide (b < 0)) = true then -(n : Int) else (n : Int)
def mulV (a b : Int) : Int := if a = -9223372036854775808 ∨ b = -9223372036854775808 then 0 else exV (sgn2 a b (mulN a.natAbs b.natAbs))
def mulC (a b : Int) : Int := if a = -9223372036854775808 ∨ b = -9223372036854775808 then 2 else exC (sgn2 a b (mulN a.natAbs b.natAbs))
theorem mul_a (a b : Int) (ha : -9223372036854775808 ≤ a ∧ a ≤ 9223372036854775807) (_hb : -9223372036854775808 ≤ b ∧ b ≤ 9223372036854775807) (h : a = -9223372036854775808) (w : World) : Calls Tryz.prog 173 #[.int .i64 a, .int .i64 b] w fun e w' => e = .returned (.tuple #[.int .i64 0, .int .i64 2]) ∧ w = w' := by
 have m1 := may_no h
 clear h
 go_enter Tryz.func173, Tryz.ntmps173
 go_wp2_with (go_at_call 87; refine (dmay_any _ (by first | assumption | (constructor <;> omega)) _).mono ?_; rintro e w1 ⟨rfl, rfl⟩)
 go_ret2
 exact ⟨rfl, rfl⟩
theorem mul_b (a b : Int) (ha : -9223372036854775808 ≤ a ∧ a ≤ 9223372036854775807) (hb : -9223372036854775808 ≤ b ∧ b ≤ 9223372036854775807) (h : a ≠ -9223372036854775808) (h2 : b = -9223372036854775808) (w : World) : Calls Tryz.prog 173 #[.int .i64 a, .int .i64 b] w fun e w' => e = .returned (.tuple #[.int .i64 0, .int .i64 2]) ∧ w = w' := by
 have m1 := may_yes h
 have m2 := may_no h2
 clear h h2
 go_enter Tryz.func173, Tryz.ntmps173
 go_wp2_with (go_at_call 87; refine (dmay_any _ (by first | assumption | (constructor <;> omega)) _).mono ?_; rintro e w1 ⟨rfl, rfl⟩)
 go_ret2
 exact ⟨rfl, rfl⟩
theorem div64_r (z z2 z3 : Int) (hi lo y q r : Nat) (hz : z = (hi : Int)) (hz2 : z2 = (lo : Int)) (hz3 : z3 = (y : Int)) (hlo : lo < 18446744073709551616) (hy : y < 18446744073709551616) (hhy : hi < y) (hq : (hi * 18446744073709551616 + lo) / y = q) (hr : (hi * 18446744073709551616 + lo) % y = r) (w : World) : Calls Tryz.prog 176 #[.int .u64 z, .int .u64 z2, .int .u64 z3] w fun e w' => e = .returned (.tuple #[.int .u64 (q : Int), .int .u64 (r : Int)]) ∧ Below w.heap.size w w' := by
 subst hz
 subst hz2
 subst hz3
 subst hq
 subst hr
 exact div64_any hi lo y hlo hy hhy w
theorem mul_big (a b : Int) (ha : -9223372036854775808 ≤ a ∧ a ≤ 9223372036854775807) (hb : -9223372036854775808 ≤ b ∧ b ≤ 9223372036854775807) (h : a ≠ -9223372036854775808) (h2 : b ≠ -9223372036854775808) (m n gh gl : Nat) (hm : a.natAbs = m) (hn : b.natAbs = n) (hm1 : m ≤ 9223372036854775807 ∧ 0 ≤ m) (hn1 : n ≤ 9223372036854775807 ∧ 0 ≤ n) (hgh : Hid (m * n / 18446744073709551616 = gh)) (hgl : Hid (m * n % 18446744073709551616 = gl)) (_hgb : gl < 18446744073709551616 ∧ 0 ≤ gl) (_hgb2 : gh < 18446744073709551616 ∧ 0 ≤ gh) (hc : decide ((10000 : Int) ≤ (gh : Int)) = true) (w : World) : Calls Tryz.prog 173 #[.int .i64 a, .int .i64 b] w fun e w' => e = .returned (.tuple #[.int .i64 0, .int .i64 2]) ∧ w = w' := by
 have m1 := may_yes h
 have m2 := may_yes h2
 have hm' := Lib.hid hm
 have hn' := Lib.hid hn
 clear h h2 hm hn
 go_enter Tryz.func173, Tryz.ntmps173
 go_wp2_with (go_at_call 87; refine (dmay_any _ (by first | assumption | (constructor <;> omega)) _).mono ?_; rintro e w1 ⟨rfl, rfl⟩)
 refine (size_nat a m ha hm'.out _).mono ?_
 rintro e w' ⟨rfl, rfl⟩
 go_wp2_with fail
 refine (size_nat b n hb hn'.out _).mono ?_
 rintro e w' ⟨rfl, rfl⟩
 go_wp2_with fail
 refine (mul64_r _ m n gh gl rfl (by omega) (by omega) hgh.out hgl.out _).mono ?_
 rintro e w' ⟨rfl, rfl⟩
 go_wp2
 go_ret2
 exact ⟨rfl, rfl⟩
theorem mul_dn (a b : Int) (ha : -9223372036854775808 ≤ a ∧ a ≤ 9223372036854775807) (hb : -9223372036854775808 ≤ b ∧ b ≤ 9223372036854775807) (h : a ≠ -9223372036854775808) (h2 : b ≠ -9223372036854775808) (m n gh gl : Nat) (hm : a.natAbs = m) (hn : b.natAbs = n) (hm1 : m ≤ 9223372036854775807 ∧ 0 ≤ m) (hn1 : n ≤ 9223372036854775807 ∧ 0 ≤ n) (hgh : Hid (m * n / 18446744073709551616 = gh)) (hgl : Hid (m * n % 18446744073709551616 = gl)) (hgb : gl < 18446744073709551616 ∧ 0 ≤ gl) (hgb2 : gh < 18446744073709551616 ∧ 0 ≤ gh) (hc : decide ((10000 : Int) ≤ (gh : Int)) = false) (q r : Nat) (hq : Hid ((gh * 18446744073709551616 + gl) / 10000 = q)) (hr : Hid ((gh * 18446744073709551616 + gl) % 10000 = r)) (hqb : q < 18446744073709551616 ∧ 0 ≤ q) (low : Bool) (hlow : (decide (a < 0) != decide (b < 0)) = low) (hu : decide ((5000 : Int) ≤ (r : Int)) = false) (w : World) : Calls Tryz.prog 173 #[.int .i64 a, .int .i64 b] w fun e w' => e = .returned (.tuple #[.int .i64 (exV (if low then -(q : Int) else (q : Int))), .int .i64 (exC (if low then -(q : Int) else (q : Int)))]) ∧ Below w.heap.size w w' := by
 have m1 := may_yes h
 have m2 := may_yes h2
 have hm' := Lib.hid hm
 have hn' := Lib.hid hn
 clear h h2 hm hn
 go_enter Tryz.func173, Tryz.ntmps173
 go_wp2_with (go_at_call 87; refine (dmay_any _ (by first | assumption | (constructor <;> omega)) _).mono ?_; rintro e w1 ⟨rfl, rfl⟩)
 refine (size_nat a m ha hm'.out _).mono ?_
 rintro e w' ⟨rfl, rfl⟩
 go_wp2_with fail
 refine (size_nat b n hb hn'.out _).mono ?_
 rintro e w' ⟨rfl, rfl⟩
 go_wp2_with fail
 refine (mul64_r _ m n gh gl rfl (by omega) (by omega) hgh.out hgl.out _).mono ?_
 rintro e w' ⟨rfl, rfl⟩
 have hl2 : (!(decide (a < 0) == decide (b < 0))) = low := hlow
 clear hlow
 go_wp2_with fail
 have hghc : gh < 10000 := by have := of_decide_eq_false hc; omega
 refine (div64_r _ _ _ gh gl 10000 q r rfl rfl rfl (by omega) (by omega) hghc hq.out hr.out _).mono ?_
 rintro e w1 ⟨rfl, hb1⟩
 go_wp2_with fail
 have hsg := signed_any (q : Int) (by omega) low w1
 with_reducible refine hsg.mono ?_
 clear hsg
 rintro e w' ⟨rfl, rfl⟩
 go_wp2
 all_goals go_ret2
 all_goals exact ⟨rfl, hb1⟩
theorem mul_up (a b : Int) (ha : -9223372036854775808 ≤ a ∧ a ≤ 9223372036854775807) (hb : -9223372036854775808 ≤ b ∧ b ≤ 9223372036854775807) (h : a ≠ -9223372036854775808) (h2 : b ≠ -9223372036854775808) (m n gh gl : Nat) (hm : a.natAbs = m) (hn : b.natAbs = n) (hm1 : m ≤ 9223372036854775807 ∧ 0 ≤ m) (hn1 : n ≤ 9223372036854775807 ∧ 0 ≤ n) (hgh : Hid (m * n / 18446744073709551616 = gh)) (hgl : Hid (m * n % 18446744073709551616 = gl)) (hgb : gl < 18446744073709551616 ∧ 0 ≤ gl) (hgb2 : gh < 18446744073709551616 ∧ 0 ≤ gh) (hc : decide ((10000 : Int) ≤ (gh : Int)) = false) (q r : Nat) (hq : Hid ((gh * 18446744073709551616 + gl) / 10000 = q)) (hr : Hid ((gh * 18446744073709551616 + gl) % 10000 = r)) (hqb : q < 18446744073709551616 ∧ 0 ≤ q) (low : Bool) (hlow : (decide (a < 0) != decide (b < 0)) = low) (hu : decide ((5000 : Int) ≤ (r : Int)) = true) (hk : decide ((q : Int) ≤ 9223372036854775807) = true) (w : World) : Calls Tryz.prog 173 #[.int .i64 a, .int .i64 b] w fun e w' => e = .returned (.tuple #[.int .i64 (exV (if low then -((q : Int) + 1) else ((q : Int) + 1))), .int .i64 (exC (if low then -((q : Int) + 1) else ((q : Int) + 1)))]) ∧ Below w.heap.size w w' := by
 have m1 := may_yes h
 have m2 := may_yes h2
 have hm' := Lib.hid hm
 have hn' := Lib.hid hn
 clear h h2 hm hn
 go_enter Tryz.func173, Tryz.ntmps173
 go_wp2_with (go_at_call 87; refine (dmay_any _ (by first | assumption | (constructor <;> omega)) _).mono ?_; rintro e w1 ⟨rfl, rfl⟩)
 refine (size_nat a m ha hm'.out _).mono ?_
 rintro e w' ⟨rfl, rfl⟩
 go_wp2_with fail
 refine (size_nat b n hb hn'.out _).mono ?_
 rintro e w' ⟨rfl, rfl⟩
 go_wp2_with fail
 refine (mul64_r _ m n gh gl rfl (by omega) (by omega) hgh.out hgl.out _).mono ?_
 rintro e w' ⟨rfl, rfl⟩
 have hk2 : q ≤ 9223372036854775807 ∧ 0 ≤ q := by have := of_decide_eq_true hk; omega
 have hl2 : (!(decide (a < 0) == decide (b < 0))) = low := hlow
 clear hlow
 go_wp2_with fail
 have hghc : gh < 10000 := by have := of_decide_eq_false hc; omega
 refine (div64_r _ _ _ gh gl 10000 q r rfl rfl rfl (by omega) (by omega) hghc hq.out hr.out _).mono ?_
 rintro e w1 ⟨rfl, hb1⟩
 go_wp2_with fail
 have hsg := signed_any ((q : Int) + 1) (by have := of_decide_eq_true hk; omega) low w1
 with_reducible refine hsg.mono ?_
 clear hsg
 rintro e w' ⟨rfl, rfl⟩
 go_wp2
 all_goals go_ret2
 all_goals exact ⟨rfl, hb1⟩
theorem mul_cap (a b : Int) (ha : -9223372036854775808 ≤ a ∧ a ≤ 9223372036854775807) (hb : -9223372036854775808 ≤ b ∧ b ≤ 9223372036854775807) (h : a ≠ -9223372036854775808) (h2 : b ≠ -9223372036854775808) (m n gh gl : Nat) (hm : a.natAbs = m) (hn : b.natAbs = n) (hm1 : m ≤ 9223372036854775807 ∧ 0 ≤ m) (hn1 : n ≤ 9223372036854775807 ∧ 0 ≤ n) (hgh : Hid (m * n / 18446744073709551616 = gh)) (hgl : Hid (m * n % 18446744073709551616 = gl)) (hgb : gl < 18446744073709551616 ∧ 0 ≤ gl) (hgb2 : gh < 18446744073709551616 ∧ 0 ≤ gh) (hc : decide ((10000 : Int) ≤ (gh : Int)) = false) (q r : Nat) (hq : Hid ((gh * 18446744073709551616 + gl) / 10000 = q)) (hr : Hid ((gh * 18446744073709551616 + gl) % 10000 = r)) (hqb : q < 18446744073709551616 ∧ 0 ≤ q) (low : Bool) (hlow : (decide (a < 0) != decide (b < 0)) = low) (hu : decide ((5000 : Int) ≤ (r : Int)) = true) (hk : decide ((q : Int) ≤ 9223372036854775807) = false) (w : World) : Calls Tryz.prog 173 #[.int .i64 a, .int .i64 b] w fun e w' => e = .returned (.tuple #[.int .i64 (exV (if low then -(q : Int) else (q : Int))), .int .i64 (exC (if low then -(q : Int) else (q : Int)))]) ∧ Below w.heap.size w w' := by
 have m1 := may_yes h
 have m2 := may_yes h2
 have hm' := Lib.hid hm
 have hn' := Lib.hid hn
 clear h h2 hm hn
 go_enter Tryz.func173, Tryz.ntmps173
 go_wp2_with (go_at_call 87; refine (dmay_any _ (by first | assumption | (constructor <;> omega)) _).mono ?_; rintro e w1 ⟨rfl, rfl⟩)
 refine (size_nat a m ha hm'.out _).mono ?_
 rintro e w' ⟨rfl, rfl⟩
 go_wp2_with fail
 refine (size_nat b n hb hn'.out _).mono ?_
 rintro e w' ⟨rfl, rfl⟩
 go_wp2_with fail
 refine (mul64_r _ m n gh gl rfl (by omega) (by omega) hgh.out hgl.out _).mono ?_
 rintro e w' ⟨rfl, rfl⟩
 have hl2 : (!(decide (a < 0) == decide (b < 0))) = low := hlow
 clear hlow
 go_wp2_with fail
 have hghc : gh < 10000 := by have := of_decide_eq_false hc; omega
 refine (div64_r _ _ _ gh gl 10000 q r rfl rfl rfl (by omega) (by omega) hghc hq.out hr.out _).mono ?_
 rintro e w1 ⟨rfl, hb1⟩
 go_wp2_with fail
 have hsg := signed_any (q : Int) (by omega) low w1
 with_reducible refine hsg.mono ?_
 clear hsg
 rintro e w' ⟨rfl, rfl⟩
 go_wp2
 all_goals go_ret2
 all_goals exact ⟨rfl, hb1⟩

theorem sgn2_big (a b : Int) (n : Nat) (h : 9223372036854775807 < n) : exV (sgn2 a b n) = 0 ∧ exC (sgn2 a b n) = 2 := by
 refine sum_out ?_
 unfold sgn2
 split <;> omega
theorem big_q (low : Bool) (n : Nat) (h : 9223372036854775807 < n) : exV (if low = true then -(n : Int) else (n : Int)) = 0 ∧ exC (if low = true then -(n : Int) else (n : Int)) = 2 := by
 refine sum_out ?_
 split <;> omega
theorem mul_any (a b : Int) (ha : -9223372036854775808 ≤ a ∧ a ≤ 9223372036854775807) (hb : -9223372036854775808 ≤ b ∧ b ≤ 9223372036854775807) (w : World) : Calls Tryz.prog 173 #[.int .i64 a, .int .i64 b] w fun e w' => e = .returned (.tuple #[.int .i64 (mulV a b), .int .i64 (mulC a b)]) ∧ Below w.heap.size w w' := by
 have lift : ∀ {P : Ending → Prop}, Calls Tryz.prog 173 #[.int .i64 a, .int .i64 b] w (fun e w' => P e ∧ w = w') → Calls Tryz.prog 173 #[.int .i64 a, .int .i64 b] w (fun e w' => P e ∧ Below w.heap.size w w') :=
  fun c => c.mono fun _ _ ⟨he, hw⟩ => ⟨he, by rw [← hw]; exact Below.refl _ _⟩
 unfold mulV mulC
 by_cases h : a = -9223372036854775808
 ·rw [if_pos (.inl h), if_pos (.inl h)]; exact lift (mul_a a b ha hb h w)
 by_cases h2 : b = -9223372036854775808
 ·rw [if_pos (.inr h2), if_pos (.inr h2)]; exact lift (mul_b a b ha hb h h2 w)
 rw [if_neg (by omega), if_neg (by omega)]
 obtain ⟨m, hm⟩ : ∃ m, a.natAbs = m := ⟨_, rfl⟩
 obtain ⟨n, hn⟩ : ∃ n, b.natAbs = n := ⟨_, rfl⟩
 rw [hm, hn]
 obtain ⟨p, hp⟩ : ∃ p, m * n = p := ⟨_, rfl⟩
 have hpb : p < 340282366920938463463374607431768211456 := by
  rw [← hp]
  have : m * n ≤ 9223372036854775807 * 9223372036854775807 := Nat.mul_le_mul (by omega) (by omega)
  omega
 by_cases hc : 10000 ≤ p / 18446744073709551616
 ·obtain ⟨b1, b2⟩ := sgn2_big a b (mulN m n) (by unfold mulN; rw [hp]; omega)
  rw [b1, b2]
  exact lift (mul_big a b ha hb h h2 m n _ _ hm hn (by omega) (by omega) (Lib.hid (by rw [hp])) (Lib.hid (by rw [hp])) (by omega) (by omega) (decide_eq_true (by omega)) w)
 have e1 : (p / 18446744073709551616 * 18446744073709551616 + p % 18446744073709551616) / 10000 = p / 10000 := by rw [Nat.div_add_mod']
 have e2 : (p / 18446744073709551616 * 18446744073709551616 + p % 18446744073709551616) % 10000 = p % 10000 := by rw [Nat.div_add_mod']
 by_cases hu : 5000 ≤ p % 10000
 ·have hN : mulN m n = p / 10000 + 1 := by unfold mulN; rw [hp, if_pos hu]
  rw [hN]
  by_cases hk : p / 10000 ≤ 9223372036854775807
  ·have := mul_up a b ha hb h h2 m n _ _ hm hn (by omega) (by omega) (Lib.hid (by rw [hp])) (Lib.hid (by rw [hp])) (by omega) (by omega) (decide_eq_false (by omega)) (p / 10000) (p % 10000) (Lib.hid e1) (Lib.hid e2) (by omega) _ rfl (decide_eq_true (by omega)) (decide_eq_true (by omega)) w
   unfold sgn2
   rw [show ((p / 10000 + 1 : Nat) : Int) = ((p / 10000 : Nat) : Int) + 1 from rfl]
   exact this
  ·have := mul_cap a b ha hb h h2 m n _ _ hm hn (by omega) (by omega) (Lib.hid (by rw [hp])) (Lib.hid (by rw [hp])) (by omega) (by omega) (decide_eq_false (by omega)) (p / 10000) (p % 10000) (Lib.hid e1) (Lib.hid e2) (by omega) _ rfl (decide_eq_true (by omega)) (decide_eq_false (by omega)) w
   obtain ⟨b1, b2⟩ := sgn2_big a b (p / 10000 + 1) (by omega)
   obtain ⟨b3, b4⟩ := big_q (decide (a < 0) != decide (b < 0)) (p / 10000) (by omega)
   rw [b1, b2]
   rw [b3, b4] at this
   exact this
 ·have hN : mulN m n = p / 10000 := by unfold mulN; rw [hp, if_neg hu]; rfl
  rw [hN]
  exact mul_dn a b ha hb h h2 m n _ _ hm hn (by omega) (by omega) (Lib.hid (by rw [hp])) (Lib.hid (by rw [hp])) (by omega) (by omega) (decide_eq_false (by omega)) (p / 10000) (p % 10000) (Lib.hid e1) (Lib.hid e2) (by omega) _ rfl (decide_eq_false (by omega)) w
end Go.Proofs.YtgmhifafbebjfaaGreatDoor
