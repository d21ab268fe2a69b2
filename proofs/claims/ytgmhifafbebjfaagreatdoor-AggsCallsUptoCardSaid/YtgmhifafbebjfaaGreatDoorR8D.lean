/-
 the document's nums: which arguments may be, the first Fault, a number of a value.
-/
import Derived.Test.YtgmhifafbebjfaaGreatDoorRArgM
import Derived.Test.YtgmhifafbebjfaaGreatDoorMg8
set_option maxRecDepth 100000
set_option maxHeartbeats 32000000
namespace Go.Proofs.YtgmhifafbebjfaaGreatDoor
open Go.RowKit

theorem rasnum_any (v : VL) (hv : v.ok) (w : World) : Calls Tryz.prog 24 #[.agg #[.int .i64 v.t, .int .i64 v.n, .string v.s, .bool v.b, .int .i64 v.c]] w fun e w' => e = .returned (.tuple #[.int .i64 v.asN, .int .i64 v.asC]) ∧ Below w.heap.size w w' := by
 obtain ⟨t, n, s, b, c⟩ := v
 have hn : -9223372036854775808 ≤ n ∧ n ≤ 9223372036854775807 := hv
 unfold VL.asN VL.asC VL.may
 cases m : vMay t n s b c
 ·exact rasnum_N t n s b c hn m w
 ·obtain ⟨h1, h2, h3, h4, h5, h6, h7, h8⟩ := (vMay_iff t n s b c).1 m
  have ht : t = 0 ∨ t = 1 ∨ t = 2 ∨ t = 3 ∨ t = 4 := by omega
  rcases ht with rfl | rfl | rfl | rfl | rfl
  ·obtain rfl : n = 0 := by omega
   obtain rfl : s = ⟨#[]⟩ := by rcases h4 with h | h; omega; exact h
   obtain rfl : b = false := by rcases h5 with h | h; omega; exact h
   obtain rfl : c = 0 := by omega
   exact rasnum_0 w
  ·obtain rfl : s = ⟨#[]⟩ := by rcases h4 with h | h; omega; exact h
   obtain rfl : b = false := by rcases h5 with h | h; omega; exact h
   obtain rfl : c = 0 := by omega
   exact rasnum_1 n hn (h7 rfl) w
  ·obtain rfl : n = 0 := by omega
   obtain rfl : b = false := by rcases h5 with h | h; omega; exact h
   obtain rfl : c = 0 := by omega
   exact rasnum_2 s w
  ·obtain rfl : n = 0 := by omega
   obtain rfl : s = ⟨#[]⟩ := by rcases h4 with h | h; omega; exact h
   obtain rfl : c = 0 := by omega
   cases b
   ·exact rasnum_f w
   ·exact rasnum_t w
  ·obtain rfl : n = 0 := by omega
   obtain rfl : s = ⟨#[]⟩ := by rcases h4 with h | h; omega; exact h
   obtain rfl : b = false := by rcases h5 with h | h; omega; exact h
   exact rasnum_4 c (h8 rfl) w
theorem rarg_any (x : AL) (w : World) (hin : x.In w w.heap.size) : Calls Tryz.prog 88 #[.agg #[.bool x.many, .int .i64 x.v.t, .int .i64 x.v.n, .string x.v.s, .bool x.v.b, .int .i64 x.v.c, .int .i64 x.t, .int .i64 x.l, .int .i64 x.b, .int .i64 x.r, .slice x.A x.es.length x.cap]] w fun e w' => e = .returned (.bool (argMay x)) ∧ Below w.heap.size w w' := by
 obtain ⟨h1, h2, h3, h4⟩ := hin
 obtain ⟨m, ⟨t, n, s, b, c⟩, rt, rl, rb, rr, A, cap, es⟩ := x
 have hn : -9223372036854775808 ≤ n ∧ n ≤ 9223372036854775807 := h1
 unfold argMay
 cases m
 ·have e : decide (es.length = 0) = decide (es = []) := by cases es <;> simp
  rw [if_neg (by simp)]
  have := rarg_single t n s b c hn rt rl rb rr A es.length cap w
  rw [e] at this
  exact this
 ·rw [if_pos rfl]
  cases hm : mayRectB rt rl rb rr
  ·have := rarg_m0 t n s b c hn rt rl rb rr A es.length cap hm w
   simpa using this
  ·cases hz : vEq t n s b c 0 0 ⟨#[]⟩ false 0
   ·have := rarg_m1 t n s b c hn rt rl rb rr A es.length cap hm hz w
    simpa [vZero, hz] using this
   ·have := rarg_many t n s b c hn rt rl rb rr A es.length cap ⟨true, ⟨t, n, s, b, c⟩, rt, rl, rb, rr, A, cap, es⟩ rfl rfl rfl rfl rfl rfl hm hz w h2 h3 h4
    simpa [vZero, hz] using this
def RArgsAt (w : World) (l : List AL) (e : Ending) (w' : World) : Prop :=
 ∃ u, e = .returned (.tuple #[u, .bool (l.all argMay)]) ∧ w'.ownsRow w.heap.size 4 1 u l.length (l.map fun x => Value.bool x.many) ∧ Below w.heap.size w w'
theorem rargs_any (l : List AL) (hlen : l.length ≤ 1649267441664) (w : World) (A : Option Addr) (cap : Nat) (hR : RdB w w.heap.size A 11 (l.map AL.cs)) (hin : ∀ x ∈ l, x.In w w.heap.size) : Calls Tryz.prog 18 #[.slice A l.length cap] w (RArgsAt w l) := by
 obtain ⟨i0, hi, hz0, hz1, hz2⟩ := info_parts bool_info
 have hR' := Lib.hid hR
 have hin' := Lib.hid hin
 clear hR hin
 go_enter Tryz.func18, Tryz.ntmps18
 go_wp2
 go_loopw [4, 5, 6] (fun v ok i wr => ∃ k : Nat, k ≤ l.length ∧ i = .int .i64 (k : Int) ∧ ok = .bool ((l.take k).all argMay) ∧ Hid (wr.ownsRow w.heap.size 4 1 v k ((l.take k).map fun x => Value.bool x.many)) ∧ Below w.heap.size w wr) (fun _ _ i _ => l.length - (intOf i).toNat)
 case atStart => exact ⟨0, Nat.zero_le _, rfl, rfl, Lib.hid (World.ownsRow_nil _ _ _ _), Below.refl _ _⟩
 case round =>
  obtain ⟨k, hk, rfl, rfl, hown, g0⟩ := hrel
  have hzr := g0.size
  by_cases hlt : k < l.length
  ·obtain ⟨x, hx⟩ : ∃ x, l[k]? = some x := ⟨_, List.getElem?_eq_getElem hlt⟩
   have hxm := List.mem_of_getElem? hx
   obtain ⟨ab, ao, hA2, hab, hcell⟩ := (hR'.out.below g0) k x.cs (by rw [List.getElem?_map, hx]; rfl)
   obtain rfl : A = some ⟨ab, ao, none⟩ := hA2
   have hc0 : wr.cell? ⟨ab, ao + k * 11, none⟩ = some (.bool x.many) := hcell 0 _ rfl
   have hc1 : wr.cell? ⟨ab, ao + k * 11 + 1, none⟩ = some (.int .i64 x.v.t) := hcell 1 _ rfl
   have hc2 : wr.cell? ⟨ab, ao + k * 11 + 2, none⟩ = some (.int .i64 x.v.n) := hcell 2 _ rfl
   have hc3 : wr.cell? ⟨ab, ao + k * 11 + 3, none⟩ = some (.string x.v.s) := hcell 3 _ rfl
   have hc4 : wr.cell? ⟨ab, ao + k * 11 + 4, none⟩ = some (.bool x.v.b) := hcell 4 _ rfl
   have hc5 : wr.cell? ⟨ab, ao + k * 11 + 5, none⟩ = some (.int .i64 x.v.c) := hcell 5 _ rfl
   have hc6 : wr.cell? ⟨ab, ao + k * 11 + 6, none⟩ = some (.int .i64 x.t) := hcell 6 _ rfl
   have hc7 : wr.cell? ⟨ab, ao + k * 11 + 7, none⟩ = some (.int .i64 x.l) := hcell 7 _ rfl
   have hc8 : wr.cell? ⟨ab, ao + k * 11 + 8, none⟩ = some (.int .i64 x.b) := hcell 8 _ rfl
   have hc9 : wr.cell? ⟨ab, ao + k * 11 + 9, none⟩ = some (.int .i64 x.r) := hcell 9 _ rfl
   have hc10 : wr.cell? ⟨ab, ao + k * 11 + 10, none⟩ = some (.slice x.A x.es.length x.cap) := hcell 10 _ rfl
   have hkl : (k : Int) < (l.length : Int) := by omega
   have hts : l.take (k + 1) = l.take k ++ [x] := by rw [List.take_add_one, hx]; rfl
   have hts' := Lib.hid hts
   have hxi := Lib.hid (hin'.out x hxm)
   clear hx hcell hts hxm
   cases hok : (l.take k).all argMay
   ·have hokN := Lib.hid (show (l.take (k + 1)).all argMay = false from by rw [hts'.out, List.all_append, hok]; rfl)
    go_wp2_with (at_builtin; refine wpList_append_own_at _ rfl _ _ 31 rfl w.heap.size 4 i0 (.bool false) 1 1 Tryz.underlying31 hi hz0 hz1 hz2 rfl (by decide) _ _ _ rfl (hown.out.alloc _) ⟨wr.heap.size, 0, none⟩ 1 1 [.bool x.many] rfl rfl (cell_one_new _ _ _) (by simp [Value.oneCell']) (by unfold maxLen; omega) (by omega) (by simp; omega) ?_; intro v' w2 hown2 hgrow2 _ hloc2; (have g2 : Below w.heap.size w w2 := (g0.alloc hzr _).grown hgrow2 (by simp; omega) (fun j hj => (hown.out.lt j hj).1)); (have kc0 : w2.cell? ⟨ab, ao + k * 11, none⟩ = some (.bool x.many) := (g2.cell (p := ⟨ab, _, none⟩) hab).trans ((g0.cell (p := ⟨ab, _, none⟩) hab).symm.trans hc0)); (have kc1 : w2.cell? ⟨ab, ao + k * 11 + 1, none⟩ = some (.int .i64 x.v.t) := (g2.cell (p := ⟨ab, _, none⟩) hab).trans ((g0.cell (p := ⟨ab, _, none⟩) hab).symm.trans hc1)); (have kc2 : w2.cell? ⟨ab, ao + k * 11 + 2, none⟩ = some (.int .i64 x.v.n) := (g2.cell (p := ⟨ab, _, none⟩) hab).trans ((g0.cell (p := ⟨ab, _, none⟩) hab).symm.trans hc2)); (have kc3 : w2.cell? ⟨ab, ao + k * 11 + 3, none⟩ = some (.string x.v.s) := (g2.cell (p := ⟨ab, _, none⟩) hab).trans ((g0.cell (p := ⟨ab, _, none⟩) hab).symm.trans hc3)); (have kc4 : w2.cell? ⟨ab, ao + k * 11 + 4, none⟩ = some (.bool x.v.b) := (g2.cell (p := ⟨ab, _, none⟩) hab).trans ((g0.cell (p := ⟨ab, _, none⟩) hab).symm.trans hc4)); (have kc5 : w2.cell? ⟨ab, ao + k * 11 + 5, none⟩ = some (.int .i64 x.v.c) := (g2.cell (p := ⟨ab, _, none⟩) hab).trans ((g0.cell (p := ⟨ab, _, none⟩) hab).symm.trans hc5)); (have kc6 : w2.cell? ⟨ab, ao + k * 11 + 6, none⟩ = some (.int .i64 x.t) := (g2.cell (p := ⟨ab, _, none⟩) hab).trans ((g0.cell (p := ⟨ab, _, none⟩) hab).symm.trans hc6)); (have kc7 : w2.cell? ⟨ab, ao + k * 11 + 7, none⟩ = some (.int .i64 x.l) := (g2.cell (p := ⟨ab, _, none⟩) hab).trans ((g0.cell (p := ⟨ab, _, none⟩) hab).symm.trans hc7)); (have kc8 : w2.cell? ⟨ab, ao + k * 11 + 8, none⟩ = some (.int .i64 x.b) := (g2.cell (p := ⟨ab, _, none⟩) hab).trans ((g0.cell (p := ⟨ab, _, none⟩) hab).symm.trans hc8)); (have kc9 : w2.cell? ⟨ab, ao + k * 11 + 9, none⟩ = some (.int .i64 x.r) := (g2.cell (p := ⟨ab, _, none⟩) hab).trans ((g0.cell (p := ⟨ab, _, none⟩) hab).symm.trans hc9)); (have kc10 : w2.cell? ⟨ab, ao + k * 11 + 10, none⟩ = some (.slice x.A x.es.length x.cap) := (g2.cell (p := ⟨ab, _, none⟩) hab).trans ((g0.cell (p := ⟨ab, _, none⟩) hab).symm.trans hc10)); (have hown2' := Lib.hid hown2); (clear hown2 hgrow2 hloc2 hc0 hc1 hc2 hc3 hc4 hc5 hc6 hc7 hc8 hc9 hc10))
    go_roundw
    case rel => exact ⟨k + 1, by omega, by go_num, by rw [hokN.out], Lib.hid (by rw [hts'.out, List.map_append]; exact hown2'.out), g2⟩
    case measure => simp [intOf]; omega
   ·have CM := Lib.hid (fun (w2 : World) (hb : Below w.heap.size w w2) => rarg_any x w2 ((hxi.out.below hb).mono hb.size))
    cases hm : argMay x
    ·have hokN := Lib.hid (show (l.take (k + 1)).all argMay = false from by rw [hts'.out, List.all_append, hok]; simp [hm])
     rw [hm] at CM
     clear hm
     go_wp2_with (first | (at_builtin; refine wpList_append_own_at _ rfl _ _ 31 rfl w.heap.size 4 i0 (.bool false) 1 1 Tryz.underlying31 hi hz0 hz1 hz2 rfl (by decide) _ _ _ rfl (hown.out.alloc _) ⟨wr.heap.size, 0, none⟩ 1 1 [.bool x.many] rfl rfl (cell_one_new _ _ _) (by simp [Value.oneCell']) (by unfold maxLen; omega) (by omega) (by simp; omega) ?_; intro v' w2 hown2 hgrow2 _ hloc2; (have g2 : Below w.heap.size w w2 := (g0.alloc hzr _).grown hgrow2 (by simp; omega) (fun j hj => (hown.out.lt j hj).1)); (have kc0 : w2.cell? ⟨ab, ao + k * 11, none⟩ = some (.bool x.many) := (g2.cell (p := ⟨ab, _, none⟩) hab).trans ((g0.cell (p := ⟨ab, _, none⟩) hab).symm.trans hc0)); (have kc1 : w2.cell? ⟨ab, ao + k * 11 + 1, none⟩ = some (.int .i64 x.v.t) := (g2.cell (p := ⟨ab, _, none⟩) hab).trans ((g0.cell (p := ⟨ab, _, none⟩) hab).symm.trans hc1)); (have kc2 : w2.cell? ⟨ab, ao + k * 11 + 2, none⟩ = some (.int .i64 x.v.n) := (g2.cell (p := ⟨ab, _, none⟩) hab).trans ((g0.cell (p := ⟨ab, _, none⟩) hab).symm.trans hc2)); (have kc3 : w2.cell? ⟨ab, ao + k * 11 + 3, none⟩ = some (.string x.v.s) := (g2.cell (p := ⟨ab, _, none⟩) hab).trans ((g0.cell (p := ⟨ab, _, none⟩) hab).symm.trans hc3)); (have kc4 : w2.cell? ⟨ab, ao + k * 11 + 4, none⟩ = some (.bool x.v.b) := (g2.cell (p := ⟨ab, _, none⟩) hab).trans ((g0.cell (p := ⟨ab, _, none⟩) hab).symm.trans hc4)); (have kc5 : w2.cell? ⟨ab, ao + k * 11 + 5, none⟩ = some (.int .i64 x.v.c) := (g2.cell (p := ⟨ab, _, none⟩) hab).trans ((g0.cell (p := ⟨ab, _, none⟩) hab).symm.trans hc5)); (have kc6 : w2.cell? ⟨ab, ao + k * 11 + 6, none⟩ = some (.int .i64 x.t) := (g2.cell (p := ⟨ab, _, none⟩) hab).trans ((g0.cell (p := ⟨ab, _, none⟩) hab).symm.trans hc6)); (have kc7 : w2.cell? ⟨ab, ao + k * 11 + 7, none⟩ = some (.int .i64 x.l) := (g2.cell (p := ⟨ab, _, none⟩) hab).trans ((g0.cell (p := ⟨ab, _, none⟩) hab).symm.trans hc7)); (have kc8 : w2.cell? ⟨ab, ao + k * 11 + 8, none⟩ = some (.int .i64 x.b) := (g2.cell (p := ⟨ab, _, none⟩) hab).trans ((g0.cell (p := ⟨ab, _, none⟩) hab).symm.trans hc8)); (have kc9 : w2.cell? ⟨ab, ao + k * 11 + 9, none⟩ = some (.int .i64 x.r) := (g2.cell (p := ⟨ab, _, none⟩) hab).trans ((g0.cell (p := ⟨ab, _, none⟩) hab).symm.trans hc9)); (have kc10 : w2.cell? ⟨ab, ao + k * 11 + 10, none⟩ = some (.slice x.A x.es.length x.cap) := (g2.cell (p := ⟨ab, _, none⟩) hab).trans ((g0.cell (p := ⟨ab, _, none⟩) hab).symm.trans hc10)); (have hown2' := Lib.hid hown2); (clear hown2 hgrow2 hloc2 hc0 hc1 hc2 hc3 hc4 hc5 hc6 hc7 hc8 hc9 hc10)) | (go_at_call 88; refine (CM.out _ (by assumption)).mono ?_; rintro e w3 ⟨rfl, hb3⟩; have g3 : Below w.heap.size w w3 := g2.trans (hb3.mono g2.size)))
     go_roundw
     case rel => exact ⟨k + 1, by omega, by go_num, by rw [hokN.out], Lib.hid (by rw [hts'.out, List.map_append]; exact ownsRow_below hown2'.out (by assumption)), g3⟩
     case measure => simp [intOf]; omega
    ·have hokN := Lib.hid (show (l.take (k + 1)).all argMay = true from by rw [hts'.out, List.all_append, hok]; simp [hm])
     rw [hm] at CM
     clear hm
     go_wp2_with (first | (at_builtin; refine wpList_append_own_at _ rfl _ _ 31 rfl w.heap.size 4 i0 (.bool false) 1 1 Tryz.underlying31 hi hz0 hz1 hz2 rfl (by decide) _ _ _ rfl (hown.out.alloc _) ⟨wr.heap.size, 0, none⟩ 1 1 [.bool x.many] rfl rfl (cell_one_new _ _ _) (by simp [Value.oneCell']) (by unfold maxLen; omega) (by omega) (by simp; omega) ?_; intro v' w2 hown2 hgrow2 _ hloc2; (have g2 : Below w.heap.size w w2 := (g0.alloc hzr _).grown hgrow2 (by simp; omega) (fun j hj => (hown.out.lt j hj).1)); (have kc0 : w2.cell? ⟨ab, ao + k * 11, none⟩ = some (.bool x.many) := (g2.cell (p := ⟨ab, _, none⟩) hab).trans ((g0.cell (p := ⟨ab, _, none⟩) hab).symm.trans hc0)); (have kc1 : w2.cell? ⟨ab, ao + k * 11 + 1, none⟩ = some (.int .i64 x.v.t) := (g2.cell (p := ⟨ab, _, none⟩) hab).trans ((g0.cell (p := ⟨ab, _, none⟩) hab).symm.trans hc1)); (have kc2 : w2.cell? ⟨ab, ao + k * 11 + 2, none⟩ = some (.int .i64 x.v.n) := (g2.cell (p := ⟨ab, _, none⟩) hab).trans ((g0.cell (p := ⟨ab, _, none⟩) hab).symm.trans hc2)); (have kc3 : w2.cell? ⟨ab, ao + k * 11 + 3, none⟩ = some (.string x.v.s) := (g2.cell (p := ⟨ab, _, none⟩) hab).trans ((g0.cell (p := ⟨ab, _, none⟩) hab).symm.trans hc3)); (have kc4 : w2.cell? ⟨ab, ao + k * 11 + 4, none⟩ = some (.bool x.v.b) := (g2.cell (p := ⟨ab, _, none⟩) hab).trans ((g0.cell (p := ⟨ab, _, none⟩) hab).symm.trans hc4)); (have kc5 : w2.cell? ⟨ab, ao + k * 11 + 5, none⟩ = some (.int .i64 x.v.c) := (g2.cell (p := ⟨ab, _, none⟩) hab).trans ((g0.cell (p := ⟨ab, _, none⟩) hab).symm.trans hc5)); (have kc6 : w2.cell? ⟨ab, ao + k * 11 + 6, none⟩ = some (.int .i64 x.t) := (g2.cell (p := ⟨ab, _, none⟩) hab).trans ((g0.cell (p := ⟨ab, _, none⟩) hab).symm.trans hc6)); (have kc7 : w2.cell? ⟨ab, ao + k * 11 + 7, none⟩ = some (.int .i64 x.l) := (g2.cell (p := ⟨ab, _, none⟩) hab).trans ((g0.cell (p := ⟨ab, _, none⟩) hab).symm.trans hc7)); (have kc8 : w2.cell? ⟨ab, ao + k * 11 + 8, none⟩ = some (.int .i64 x.b) := (g2.cell (p := ⟨ab, _, none⟩) hab).trans ((g0.cell (p := ⟨ab, _, none⟩) hab).symm.trans hc8)); (have kc9 : w2.cell? ⟨ab, ao + k * 11 + 9, none⟩ = some (.int .i64 x.r) := (g2.cell (p := ⟨ab, _, none⟩) hab).trans ((g0.cell (p := ⟨ab, _, none⟩) hab).symm.trans hc9)); (have kc10 : w2.cell? ⟨ab, ao + k * 11 + 10, none⟩ = some (.slice x.A x.es.length x.cap) := (g2.cell (p := ⟨ab, _, none⟩) hab).trans ((g0.cell (p := ⟨ab, _, none⟩) hab).symm.trans hc10)); (have hown2' := Lib.hid hown2); (clear hown2 hgrow2 hloc2 hc0 hc1 hc2 hc3 hc4 hc5 hc6 hc7 hc8 hc9 hc10)) | (go_at_call 88; refine (CM.out _ (by assumption)).mono ?_; rintro e w3 ⟨rfl, hb3⟩; have g3 : Below w.heap.size w w3 := g2.trans (hb3.mono g2.size)))
     go_roundw
     case rel => exact ⟨k + 1, by omega, by go_num, by rw [hokN.out], Lib.hid (by rw [hts'.out, List.map_append]; exact ownsRow_below hown2'.out (by assumption)), g3⟩
     case measure => simp [intOf]; omega
  ·obtain rfl : k = l.length := by omega
   rw [List.take_length] at hown ⊢
   go_wp2
   go_ret2
   exact ⟨_, rfl, hown.out, g0⟩
def faulL (l : List AL) : Option AL := l.find? fun x => !x.many && decide (x.v.t = 4)
def faulV (l : List AL) : VL := match faulL l with | some x => x.v | none => v0
theorem rfaulty_any (l : List AL) (hlen : l.length ≤ 1649267441664) (w : World) (A : Option Addr) (cap : Nat) (hR : RdB w w.heap.size A 11 (l.map AL.cs)) : Calls Tryz.prog 21 #[.slice A l.length cap] w fun e w' => e = .returned (.tuple #[.agg #[.int .i64 (faulV l).t, .int .i64 (faulV l).n, .string (faulV l).s, .bool (faulV l).b, .int .i64 (faulV l).c], .bool (faulL l).isSome]) ∧ Below w.heap.size w w' := by
 have hR' := Lib.hid hR
 clear hR
 have b0 : Below w.heap.size w (w.alloc (.cells #[.int .i64 0, .int .i64 0, .string ⟨#[]⟩, .bool false, .int .i64 0] 26)) := (Below.refl _ _).alloc (Nat.le_refl _) _
 go_enter Tryz.func21, Tryz.ntmps21
 go_wp2
 go_loop [4] (fun i => ∃ k : Nat, k ≤ l.length ∧ i = .int .i64 (k : Int) ∧ Hid (∀ x ∈ l.take k, (!x.many && decide (x.v.t = 4)) = false)) (fun i => l.length - (intOf i).toNat)
 case atStart => exact ⟨0, Nat.zero_le _, rfl, Lib.hid (by simp)⟩
 case round =>
  obtain ⟨k, hk, rfl, hno⟩ := hrel
  by_cases hlt : k < l.length
  ·obtain ⟨x, hx⟩ : ∃ x, l[k]? = some x := ⟨_, List.getElem?_eq_getElem hlt⟩
   obtain ⟨ab, ao, hA2, hab, hcell⟩ := (hR'.out.below b0) k x.cs (by rw [List.getElem?_map, hx]; rfl)
   obtain rfl : A = some ⟨ab, ao, none⟩ := hA2
   have hc0 : (w.alloc (.cells #[.int .i64 0, .int .i64 0, .string ⟨#[]⟩, .bool false, .int .i64 0] 26)).cell? ⟨ab, ao + k * 11, none⟩ = some (.bool x.many) := hcell 0 _ rfl
   have hc1 : (w.alloc (.cells #[.int .i64 0, .int .i64 0, .string ⟨#[]⟩, .bool false, .int .i64 0] 26)).cell? ⟨ab, ao + k * 11 + 1, none⟩ = some (.int .i64 x.v.t) := hcell 1 _ rfl
   have hc2 : (w.alloc (.cells #[.int .i64 0, .int .i64 0, .string ⟨#[]⟩, .bool false, .int .i64 0] 26)).cell? ⟨ab, ao + k * 11 + 2, none⟩ = some (.int .i64 x.v.n) := hcell 2 _ rfl
   have hc3 : (w.alloc (.cells #[.int .i64 0, .int .i64 0, .string ⟨#[]⟩, .bool false, .int .i64 0] 26)).cell? ⟨ab, ao + k * 11 + 3, none⟩ = some (.string x.v.s) := hcell 3 _ rfl
   have hc4 : (w.alloc (.cells #[.int .i64 0, .int .i64 0, .string ⟨#[]⟩, .bool false, .int .i64 0] 26)).cell? ⟨ab, ao + k * 11 + 4, none⟩ = some (.bool x.v.b) := hcell 4 _ rfl
   have hc5 : (w.alloc (.cells #[.int .i64 0, .int .i64 0, .string ⟨#[]⟩, .bool false, .int .i64 0] 26)).cell? ⟨ab, ao + k * 11 + 5, none⟩ = some (.int .i64 x.v.c) := hcell 5 _ rfl
   have hc6 : (w.alloc (.cells #[.int .i64 0, .int .i64 0, .string ⟨#[]⟩, .bool false, .int .i64 0] 26)).cell? ⟨ab, ao + k * 11 + 6, none⟩ = some (.int .i64 x.t) := hcell 6 _ rfl
   have hc7 : (w.alloc (.cells #[.int .i64 0, .int .i64 0, .string ⟨#[]⟩, .bool false, .int .i64 0] 26)).cell? ⟨ab, ao + k * 11 + 7, none⟩ = some (.int .i64 x.l) := hcell 7 _ rfl
   have hc8 : (w.alloc (.cells #[.int .i64 0, .int .i64 0, .string ⟨#[]⟩, .bool false, .int .i64 0] 26)).cell? ⟨ab, ao + k * 11 + 8, none⟩ = some (.int .i64 x.b) := hcell 8 _ rfl
   have hc9 : (w.alloc (.cells #[.int .i64 0, .int .i64 0, .string ⟨#[]⟩, .bool false, .int .i64 0] 26)).cell? ⟨ab, ao + k * 11 + 9, none⟩ = some (.int .i64 x.r) := hcell 9 _ rfl
   have hc10 : (w.alloc (.cells #[.int .i64 0, .int .i64 0, .string ⟨#[]⟩, .bool false, .int .i64 0] 26)).cell? ⟨ab, ao + k * 11 + 10, none⟩ = some (.slice x.A x.es.length x.cap) := hcell 10 _ rfl
   have hkl : (k : Int) < (l.length : Int) := by omega
   have hne : ab ≠ w.heap.size := by omega
   have hts : l.take (k + 1) = l.take k ++ [x] := by rw [List.take_add_one, hx]; rfl
   have hts' := Lib.hid hts
   have hx' := Lib.hid hx
   have hyes := Lib.hid (fun (h : (!x.many && decide (x.v.t = 4)) = true) => show faulL l = some x from by
    unfold faulL
    rw [List.find?_eq_some_iff_getElem]
    exact ⟨h, k, hlt, (List.getElem?_eq_some_iff.1 hx'.out).2, fun j hj => by
     rw [hno.out _ (List.mem_take_iff_getElem.2 ⟨j, by omega, rfl⟩)]; rfl⟩)
   have hnoN := Lib.hid (fun (h : (!x.many && decide (x.v.t = 4)) = false) => show ∀ y ∈ l.take (k + 1), (!y.many && decide (y.v.t = 4)) = false from fun y hy => by
    rw [hts'.out] at hy
    rcases List.mem_append.1 hy with h2 | h2
    ·exact hno.out y h2
    ·simp at h2; subst h2; exact h)
   clear hx hcell hts
   cases hmany : x.many
   ·rw [hmany] at hc0 hyes hnoN
    by_cases h4 : x.v.t = 4
    ·have hfl := Lib.hid (hyes.out (by simp [h4]))
     rw [h4] at hc1
     have h4' := Lib.hid h4
     clear h4
     go_wp2
     refine bodyPost_ret (v := .tuple #[.agg #[.int .i64 4, .int .i64 x.v.n, .string x.v.s, .bool x.v.b, .int .i64 x.v.c], .bool true]) ?_ rfl ⟨by unfold faulV; rw [hfl.out]; simp [h4'.out], belq⟩
     simp [results, Tryz.results21, go_sem, *]
    ·have h4b : (x.v.t == 4) = false := by simpa using h4
     have hnn := Lib.hid (hnoN.out (by simp [h4]))
     clear h4
     go_wp2
     go_round
     case rel => exact ⟨k + 1, by omega, by go_num, hnn⟩
     case measure => simp [intOf]; omega
   ·rw [hmany] at hc0 hyes hnoN
    have hnn := Lib.hid (hnoN.out (by simp))
    go_wp2
    go_round
    case rel => exact ⟨k + 1, by omega, by go_num, hnn⟩
    case measure => simp [intOf]; omega
  ·obtain rfl : k = l.length := by omega
   rw [List.take_length] at hno
   have hfl := Lib.hid (show faulL l = none from by
    unfold faulL
    rw [List.find?_eq_none]; intro x hx; rw [hno.out x hx]; simp)
   go_wp2
   refine bodyPost_ret (v := .tuple #[.agg #[.int .i64 0, .int .i64 0, .string ⟨#[]⟩, .bool false, .int .i64 0], .bool false]) ?_ rfl ⟨by unfold faulV; rw [hfl.out]; rfl, belq⟩
   simp [results, Tryz.results21, go_sem, *]
end Go.Proofs.YtgmhifafbebjfaaGreatDoor
