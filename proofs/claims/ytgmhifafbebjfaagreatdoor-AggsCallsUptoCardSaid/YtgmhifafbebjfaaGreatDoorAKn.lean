/-
 the laws of aggs: what is known.
-/
import Derived.Test.YtgmhifafbebjfaaGreatDoorMg21
set_option maxRecDepth 100000
set_option maxHeartbeats 32000000
namespace Go.Proofs.YtgmhifafbebjfaaGreatDoor
open Go.RowKit

def colA (l : List Int) (A : Option Addr) (cap : Nat) : AL := ⟨true, v0, 1, 1, max 1 (l.length : Int), 1, A, cap, colE l⟩
def numA (x : Int) : AL := ⟨false, ⟨1, x, ⟨#[]⟩, false, 0⟩, 0, 0, 0, 0, none, 0, []⟩
theorem vEq_self_a (t n : Int) (s : ByteArray) (b : Bool) (c : Int) : vEq t n s b c t n s b c = true := by simp [vEq]
theorem bx_cell {w : World} {o : Obj} {a : Addr} {v : Value} (h : a.block < w.heap.size) (h2 : w.cell? a = some v) : (w.alloc o).drew.cell? a = some v := by
 rw [show (w.alloc o).drew.cell? a = (w.alloc o).cell? a from rfl, World.cell?_alloc_lt _ _ _ h]
 exact h2
theorem bx_cellp {w : World} {o : Obj} {a : Addr} {v : Value} (h : a.block < w.heap.size) (h2 : w.cell? a = some v) : (w.alloc o).cell? a = some v := by
 rw [World.cell?_alloc_lt _ _ _ h]
 exact h2
theorem own_rdk {w : World} {B : Nat} {v : Value} {l : List Int} (h : w.ownsRow B 99 7 v l.length (eRow (colE l))) : ∃ A cap, v = .slice A l.length cap ∧ RdB w w.heap.size A 7 ((colE l).map EL.cs) :=
 ownsRow_rdk (by omega) (fun c hc => by obtain ⟨y, _, rfl⟩ := List.mem_map.1 hc; rfl) (by rw [List.length_map, colE_len]) h
theorem colE_ok (l : List Int) (hl : ∀ x ∈ l, -9223372036854775808 ≤ x ∧ x ≤ 9223372036854775807) : ∀ e ∈ colE l, e.v.ok := by
 intro e he
 unfold colE at he
 obtain ⟨i, hi, rfl⟩ := List.mem_mapIdx.1 he
 have := hl l[i] (List.getElem_mem hi)
 show -9223372036854775808 ≤ okN l[i] ∧ okN l[i] ≤ 9223372036854775807
 unfold okN
 split <;> omega
theorem colA_in {w : World} {B : Nat} {l : List Int} {A : Option Addr} {cap : Nat} (hl : ∀ x ∈ l, -9223372036854775808 ≤ x ∧ x ≤ 9223372036854775807) (hlen : l.length ≤ 4096) (h : RdB w B A 7 ((colE l).map EL.cs)) : (colA l A cap).In w B :=
 ⟨⟨by show (_ : Int) ≤ 0; omega, by show (0 : Int) ≤ _; omega⟩, h, colE_ok l hl, by show (colE l).length ≤ _; rw [colE_len]; omega⟩
theorem numA_in (w : World) (B : Nat) (x : Int) (hx : -9223372036854775808 ≤ x ∧ x ≤ 9223372036854775807) : (numA x).In w B :=
 ⟨hx, (fun i c hi => (by simp [numA] at hi)), (fun e he => (by cases he)), (by show 0 ≤ 9223372036854775807; omega)⟩
theorem itemsX_col (l : List Int) (A : Option Addr) (cap : Nat) : itemsL [colA l A cap] = l.map fun x => (⟨1, okN x, ⟨#[]⟩, false, 0⟩ : VL) := by
 simp only [itemsL, itemsX, colA, List.map_cons, List.map_nil, if_true, List.nil_append, List.flatten_cons, List.flatten_nil, List.append_nil]
 unfold colE
 apply List.ext_getElem
 ·simp
 ·intro i h1 h2; simp
theorem kn_may (A : Option Addr) (cap : Nat) : argMay (colA [20000, 50000, 10000] A cap) = true := by
 show argMay (colA [20000, 50000, 10000] none 0) = true
 decide +kernel
theorem kn_sum (A : Option Addr) (cap : Nat) : faultR (itemsL [colA [20000, 50000, 10000] A cap]) (fitL (numsL (itemsL [colA [20000, 50000, 10000] A cap])).sum) = numL 80000 := by
 rw [itemsX_col]
 kernel_rfl
theorem kn_sort : ([20000, 50000, 10000] : List Int).mergeSort (fun x y => decide (x ≤ y)) = [10000, 20000, 50000] := by
 simp [List.mergeSort, List.MergeSort.Internal.splitInTwo]
theorem kn_large (A : Option Addr) (cap : Nat) : largeR (colA [20000, 50000, 10000] A cap) (numA 20000) = numL 20000 := by
 have e1 : intC (numA 20000).v = 0 := by kernel_rfl
 have e2 : intV (numA 20000).v = 2 := by kernel_rfl
 have e3 : numsL (([20000, 50000, 10000] : List Int).map fun x => (⟨1, okN x, ⟨#[]⟩, false, 0⟩ : VL)) = [20000, 50000, 10000] := by kernel_rfl
 have e4 : (([20000, 50000, 10000] : List Int).map fun x => (⟨1, okN x, ⟨#[]⟩, false, 0⟩ : VL)).find? (fun v => decide (v.t = 4)) = none := by kernel_rfl
 unfold largeR faultR
 rw [itemsX_col, e1, if_pos rfl, e4, e3, e2]
 unfold kthL
 simp only [kn_sort]
 rfl
theorem lcolumn3 (w : World) (A : Option Addr) (cap : Nat) (hR : RdI w A [20000, 50000, 10000]) : Calls Tryz.prog 54 #[.slice A 3 cap] w fun e w' => (∃ vA vc, e = .returned (.agg #[.bool true, .int .i64 0, .int .i64 0, .string ⟨#[]⟩, .bool false, .int .i64 0, .int .i64 1, .int .i64 1, .int .i64 3, .int .i64 1, .slice vA 3 vc]) ∧ RdB w' w'.heap.size vA 7 ((colE [20000, 50000, 10000]).map EL.cs)) ∧ Below w.heap.size w w' := by
 refine (lcolumn_any [20000, 50000, 10000] (by decide) w A cap hR).mono ?_
 rintro e w' ⟨⟨v, rfl, hown⟩, hb⟩
 obtain ⟨vA, vc, rfl, hr⟩ := own_rdk hown
 exact ⟨⟨vA, vc, rfl, hr⟩, hb⟩
theorem lnum80 (w : World) : Calls Tryz.prog 55 #[.int .i64 80000] w fun e w' => e = .returned (.agg #[.int .i64 1, .int .i64 80000, .string ⟨#[]⟩, .bool false, .int .i64 0]) ∧ Below w.heap.size w w' := lnumber_any 80000 w
theorem lnum20 (w : World) : Calls Tryz.prog 55 #[.int .i64 20000] w fun e w' => e = .returned (.agg #[.int .i64 1, .int .i64 20000, .string ⟨#[]⟩, .bool false, .int .i64 0]) ∧ Below w.heap.size w w' := lnumber_any 20000 w
theorem lsing20 (w : World) : Calls Tryz.prog 56 #[.agg #[.int .i64 1, .int .i64 20000, .string ⟨#[]⟩, .bool false, .int .i64 0]] w fun e w' => e = .returned (.agg #[.bool false, .int .i64 1, .int .i64 20000, .string ⟨#[]⟩, .bool false, .int .i64 0, .int .i64 0, .int .i64 0, .int .i64 0, .int .i64 0, .slice none 0 0]) ∧ Below w.heap.size w w' := lsingle_any 1 20000 ⟨#[]⟩ false 0 w
theorem akn_JOIN (w : World) : Calls Tryz.prog 57 #[.string ⟨#[74, 79, 73, 78]⟩] w fun e w' => e = .returned (.bool true) ∧ Below w.heap.size w w' := by
 have := aknown_any ⟨#[74, 79, 73, 78]⟩ (by decide) w
 rwa [show aKnown ⟨#[74, 79, 73, 78]⟩ = true by decide +kernel] at this
theorem akn_LEN (w : World) : Calls Tryz.prog 57 #[.string ⟨#[76, 69, 78]⟩] w fun e w' => e = .returned (.bool false) ∧ Below w.heap.size w w' := by
 have := aknown_any ⟨#[76, 69, 78]⟩ (by decide) w
 rwa [show aKnown ⟨#[76, 69, 78]⟩ = false by decide +kernel] at this
theorem args_of {w : World} {B : Nat} {C : Array Value} (l : List AL) (hC : C.toList = (l.map AL.cs).flatten) (n : Nat) (hn : l.length = n) (hin : ∀ x ∈ l, x.In (w.alloc (.cells C 36)).drew B) (hB : B ≤ (w.alloc (.cells C 36)).drew.heap.size) : ArgsC (w.alloc (.cells C 36)).drew (.slice (some ⟨w.heap.size, 0, none⟩) n n) l := by
 subst hn
 refine ⟨_, _, rfl, Nat.le_refl _, ?_, fun x hx => (hin x hx).mono hB⟩
 intro i c hi
 refine ⟨w.heap.size, 0, rfl, by simp, fun j u hj => ?_⟩
 rw [show (w.alloc (.cells C 36)).drew.cell? ⟨w.heap.size, 0 + i * 11 + j, none⟩ = (w.alloc (.cells C 36)).cell? ⟨w.heap.size, 0 + i * 11 + j, none⟩ from rfl, cell_of_row _ w.heap.size _ C 36 (0, 0) (heap_alloc_new _ _), ← Array.getElem?_toList, hC, Nat.zero_add]
 exact flat_at (k := 11) _ (by intro c hc; obtain ⟨q, _, rfl⟩ := List.mem_map.1 hc; rfl) i c hi j u hj
theorem args_ofp {w : World} {B : Nat} {C : Array Value} (l : List AL) (hC : C.toList = (l.map AL.cs).flatten) (n : Nat) (hn : l.length = n) (hin : ∀ x ∈ l, x.In (w.alloc (.cells C 36)) B) (hB : B ≤ (w.alloc (.cells C 36)).heap.size) : ArgsC (w.alloc (.cells C 36)) (.slice (some ⟨w.heap.size, 0, none⟩) n n) l := by
 subst hn
 refine ⟨_, _, rfl, Nat.le_refl _, ?_, fun x hx => (hin x hx).mono hB⟩
 intro i c hi
 refine ⟨w.heap.size, 0, rfl, by simp, fun j u hj => ?_⟩
 rw [cell_of_row _ w.heap.size _ C 36 (0, 0) (heap_alloc_new _ _), ← Array.getElem?_toList, hC, Nat.zero_add]
 exact flat_at (k := 11) _ (by intro c hc; obtain ⟨q, _, rfl⟩ := List.mem_map.1 hc; rfl) i c hi j u hj
theorem ns_ok : ∀ x ∈ ([20000, 50000, 10000] : List Int), -9223372036854775808 ≤ x ∧ x ≤ 9223372036854775807 := by decide +kernel
theorem ns_items (A : Option Addr) (cap : Nat) : (itemsL [colA [20000, 50000, 10000] A cap]).length ≤ 2932031007402 := by rw [itemsX_col]; simp
theorem kc_SUM {w : World} {v : Value} (vA : Option Addr) (vc : Nat) (hTab : Tab w) (hv : ArgsC w v [colA [20000, 50000, 10000] vA vc]) : Calls Tryz.prog 8 #[.string ⟨#[83, 85, 77]⟩, v, .int .i64 8] w fun e w' => e = .returned (.agg #[.int .i64 1, .int .i64 80000, .string ⟨#[]⟩, .bool false, .int .i64 0]) ∧ Below w.heap.size w w' := by
 have := lacall_any (name := ⟨#[83, 85, 77]⟩) (text := 8) (by decide) (by simp) (by omega) (by simp only [List.all_cons, List.all_nil, kn_may]; rfl) (by show takesA ⟨#[83, 85, 77]⟩ [true] = true; decide +kernel) (by intro x hx; simp at hx; subst hx; show ¬ (0 : Int) = 4; omega) (ata_SUM [colA [20000, 50000, 10000] vA vc] (by simp) (ns_items vA vc) 8) hTab hv
 rw [kn_sum] at this
 exact this
theorem kc_LARGE {w : World} {v : Value} (vA : Option Addr) (vc : Nat) (hTab : Tab w) (hv : ArgsC w v [colA [20000, 50000, 10000] vA vc, numA 20000]) : Calls Tryz.prog 8 #[.string ⟨#[76, 65, 82, 71, 69]⟩, v, .int .i64 8] w fun e w' => e = .returned (.agg #[.int .i64 1, .int .i64 20000, .string ⟨#[]⟩, .bool false, .int .i64 0]) ∧ Below w.heap.size w w' := by
 have := lacall_any (name := ⟨#[76, 65, 82, 71, 69]⟩) (text := 8) (by decide) (by simp) (by omega) (by simp only [List.all_cons, List.all_nil, kn_may]; decide +kernel) (by show takesA ⟨#[76, 65, 82, 71, 69]⟩ [true, false] = true; decide +kernel) (by intro x hx; simp at hx; rcases hx with rfl | rfl; (show ¬ (0 : Int) = 4; omega); (show ¬ (1 : Int) = 4; omega)) (ata_LARGE (colA [20000, 50000, 10000] vA vc) (numA 20000) (ns_items vA vc) 8) hTab hv
 rw [kn_large] at this
 exact this
theorem akn_any (w : World) (ht : Tab w) : Calls Tryz.prog 10 #[] w fun e w' => e = .returned (.bool true) ∧ Below w.heap.size w w' := by
 have b0 : Below w.heap.size w (w.alloc (.cells #[.int .i64 20000, .int .i64 50000, .int .i64 10000] 2)) := (Below.refl _ _).alloc (Nat.le_refl _) _
 have hR0 : RdI (w.alloc (.cells #[.int .i64 20000, .int .i64 50000, .int .i64 10000] 2)) (some ⟨w.heap.size, 0, none⟩) [20000, 50000, 10000] := by
  intro i c hi
  refine ⟨w.heap.size, 0, rfl, by simp, fun j u hj => ?_⟩
  match i, hi with
  | 0, hi => cases hi; match j, hj with | 0, hj => cases hj; simp
  | 1, hi => cases hi; match j, hj with | 0, hj => cases hj; simp
  | 2, hi => cases hi; match j, hj with | 0, hj => cases hj; simp
 have C := Lib.hid (lcolumn3 (w.alloc (.cells #[.int .i64 20000, .int .i64 50000, .int .i64 10000] 2)) _ 3 hR0)
 clear hR0
 go_enter Tryz.func10, Tryz.ntmps10
 go_wp2_with fail
 refine C.out.mono ?_
 clear C
 rintro e u1 ⟨⟨vA, vc, rfl, hrd⟩, hb1⟩
 have b1 : Below w.heap.size w u1 := b0.trans (hb1.mono (by simp))
 have ht1 := Tab.below ht b1
 have hbx : Below u1.heap.size u1 (u1.alloc (.cells #[.bool true, .int .i64 0, .int .i64 0, .string ⟨#[]⟩, .bool false, .int .i64 0, .int .i64 1, .int .i64 1, .int .i64 3, .int .i64 1, .slice vA 3 vc] 36)) := (Below.refl _ _).alloc (Nat.le_refl _) _
 have q1 : Below w.heap.size w (u1.alloc (.cells #[.bool true, .int .i64 0, .int .i64 0, .string ⟨#[]⟩, .bool false, .int .i64 0, .int .i64 1, .int .i64 1, .int .i64 3, .int .i64 1, .slice vA 3 vc] 36)) := b1.trans (hbx.mono b1.size)
 have hT' := Lib.hid (Tab.below ht1 hbx)
 have hRD' := Lib.hid (hrd.below hbx)
 have x0 : (u1.alloc (.cells #[.bool true, .int .i64 0, .int .i64 0, .string ⟨#[]⟩, .bool false, .int .i64 0, .int .i64 1, .int .i64 1, .int .i64 3, .int .i64 1, .slice vA 3 vc] 36)).cell? ⟨u1.heap.size, 0, none⟩ = some (.bool true) := by simp
 have x1 : (u1.alloc (.cells #[.bool true, .int .i64 0, .int .i64 0, .string ⟨#[]⟩, .bool false, .int .i64 0, .int .i64 1, .int .i64 1, .int .i64 3, .int .i64 1, .slice vA 3 vc] 36)).cell? ⟨u1.heap.size, 1, none⟩ = some (.int .i64 0) := by simp
 have x2 : (u1.alloc (.cells #[.bool true, .int .i64 0, .int .i64 0, .string ⟨#[]⟩, .bool false, .int .i64 0, .int .i64 1, .int .i64 1, .int .i64 3, .int .i64 1, .slice vA 3 vc] 36)).cell? ⟨u1.heap.size, 2, none⟩ = some (.int .i64 0) := by simp
 have x3 : (u1.alloc (.cells #[.bool true, .int .i64 0, .int .i64 0, .string ⟨#[]⟩, .bool false, .int .i64 0, .int .i64 1, .int .i64 1, .int .i64 3, .int .i64 1, .slice vA 3 vc] 36)).cell? ⟨u1.heap.size, 3, none⟩ = some (.string ⟨#[]⟩) := by simp
 have x4 : (u1.alloc (.cells #[.bool true, .int .i64 0, .int .i64 0, .string ⟨#[]⟩, .bool false, .int .i64 0, .int .i64 1, .int .i64 1, .int .i64 3, .int .i64 1, .slice vA 3 vc] 36)).cell? ⟨u1.heap.size, 4, none⟩ = some (.bool false) := by simp
 have x5 : (u1.alloc (.cells #[.bool true, .int .i64 0, .int .i64 0, .string ⟨#[]⟩, .bool false, .int .i64 0, .int .i64 1, .int .i64 1, .int .i64 3, .int .i64 1, .slice vA 3 vc] 36)).cell? ⟨u1.heap.size, 5, none⟩ = some (.int .i64 0) := by simp
 have x6 : (u1.alloc (.cells #[.bool true, .int .i64 0, .int .i64 0, .string ⟨#[]⟩, .bool false, .int .i64 0, .int .i64 1, .int .i64 1, .int .i64 3, .int .i64 1, .slice vA 3 vc] 36)).cell? ⟨u1.heap.size, 6, none⟩ = some (.int .i64 1) := by simp
 have x7 : (u1.alloc (.cells #[.bool true, .int .i64 0, .int .i64 0, .string ⟨#[]⟩, .bool false, .int .i64 0, .int .i64 1, .int .i64 1, .int .i64 3, .int .i64 1, .slice vA 3 vc] 36)).cell? ⟨u1.heap.size, 7, none⟩ = some (.int .i64 1) := by simp
 have x8 : (u1.alloc (.cells #[.bool true, .int .i64 0, .int .i64 0, .string ⟨#[]⟩, .bool false, .int .i64 0, .int .i64 1, .int .i64 1, .int .i64 3, .int .i64 1, .slice vA 3 vc] 36)).cell? ⟨u1.heap.size, 8, none⟩ = some (.int .i64 3) := by simp
 have x9 : (u1.alloc (.cells #[.bool true, .int .i64 0, .int .i64 0, .string ⟨#[]⟩, .bool false, .int .i64 0, .int .i64 1, .int .i64 1, .int .i64 3, .int .i64 1, .slice vA 3 vc] 36)).cell? ⟨u1.heap.size, 9, none⟩ = some (.int .i64 1) := by simp
 have x10 : (u1.alloc (.cells #[.bool true, .int .i64 0, .int .i64 0, .string ⟨#[]⟩, .bool false, .int .i64 0, .int .i64 1, .int .i64 1, .int .i64 3, .int .i64 1, .slice vA 3 vc] 36)).cell? ⟨u1.heap.size, 10, none⟩ = some (.slice vA 3 vc) := by simp
 have hlx : u1.heap.size < (u1.alloc (.cells #[.bool true, .int .i64 0, .int .i64 0, .string ⟨#[]⟩, .bool false, .int .i64 0, .int .i64 1, .int .i64 1, .int .i64 3, .int .i64 1, .slice vA 3 vc] 36)).heap.size := by simp
 have hwB : w.heap.size ≤ u1.heap.size := b1.size
 clear b0 hb1 b1 ht1 hbx hrd ht
 go_wp2_with fail
 generalize (u1.alloc (.cells #[.bool true, .int .i64 0, .int .i64 0, .string ⟨#[]⟩, .bool false, .int .i64 0, .int .i64 1, .int .i64 1, .int .i64 3, .int .i64 1, .slice vA 3 vc] 36)) = u2 at *
 generalize u1.heap.size = B at *
 have hve1 := vEq_self_a 1 80000 ⟨#[]⟩ false 0
 have hve2 := vEq_self_a 1 20000 ⟨#[]⟩ false 0
 refine wp_region_held_drew (S := fun w' => w'.cell? ⟨B, 0, none⟩ = some (.bool true) ∧ w'.cell? ⟨B, 1, none⟩ = some (.int .i64 0) ∧ w'.cell? ⟨B, 2, none⟩ = some (.int .i64 0) ∧ w'.cell? ⟨B, 3, none⟩ = some (.string ⟨#[]⟩) ∧ w'.cell? ⟨B, 4, none⟩ = some (.bool false) ∧ w'.cell? ⟨B, 5, none⟩ = some (.int .i64 0) ∧ w'.cell? ⟨B, 6, none⟩ = some (.int .i64 1) ∧ w'.cell? ⟨B, 7, none⟩ = some (.int .i64 1) ∧ w'.cell? ⟨B, 8, none⟩ = some (.int .i64 3) ∧ w'.cell? ⟨B, 9, none⟩ = some (.int .i64 1) ∧ w'.cell? ⟨B, 10, none⟩ = some (.slice vA 3 vc) ∧ Below w.heap.size w w' ∧ B < w'.heap.size ∧ Hid (Tab w') ∧ Hid (RdB w' B vA 7 ((colE [20000, 50000, 10000]).map EL.cs))) (by kernel_rfl) ?_ (fun hHeld => ?_)
 ·((try dsimp only); refine ⟨?_, ?_, ?_, ?_, ?_, ?_, ?_, ?_, ?_, ?_, ?_, ?_, ?_, ?_, ?_⟩ <;> first | assumption | exact Below.drew (by assumption) | exact Lib.hid (Tab.below (Hid.out (by assumption)) ((Below.refl _ _).drew)) | exact Lib.hid (RdB.below (Hid.out (by assumption)) ((Below.refl _ _).drew)))
 refine sqT 0 (v := (.agg #[.bool true, .int .i64 0, .int .i64 0, .string ⟨#[]⟩, .bool false, .int .i64 0, .int .i64 1, .int .i64 1, .int .i64 3, .int .i64 1, .slice vA 3 vc])) hHeld ?_
 refine sqC 1 (fun K hK => ?_)
 go_split_ands
 go_simp
 refine hK.out _ _ ?_ (fun hHeld2 => ?_)
 ·((try dsimp only); refine ⟨?_, ?_, ?_, ?_, ?_, ?_, ?_, ?_, ?_, ?_, ?_, ?_, ?_, ?_, ?_⟩ <;> first | exact bx_cell (by dsimp only; omega) (by assumption) | exact Below.drew (Below.alloc (by assumption) (by omega) _) | (show _ < (World.alloc _ _).heap.size; simp; omega) | exact Lib.hid (Tab.below (Hid.out (by assumption)) (((Below.refl _ _).alloc (Nat.le_refl _) _).drew)) | exact Lib.hid (RdB.below (Hid.out (by assumption)) (((Below.refl _ _).alloc (by omega) _).drew)))
 clear hK K
 try clear hHeld
 have hHeld := hHeld2
 clear hHeld2
 try simp only [Act.put, List.setIfInBounds_toArray, List.set_cons_zero, List.set_cons_succ]
 refine sqC 2 (fun K hK => ?_)
 go_split_ands
 go_simp
 refine (kc_SUM vA vc (Hid.out (by assumption)) (args_of [colA [20000, 50000, 10000] vA vc] (by rfl) 1 rfl (fun x hx => by simp at hx; subst hx; exact colA_in ns_ok (by decide) (Hid.out (by assumption))) (by omega))).mono ?_
 rintro e w1 ⟨rfl, hb⟩
 refine hK.out _ _ ?_ (fun hHeld2 => ?_)
 ·((try dsimp only); refine ⟨?_, ?_, ?_, ?_, ?_, ?_, ?_, ?_, ?_, ?_, ?_, ?_, ?_, ?_, ?_⟩ <;> first | (rw [hb.cell (by dsimp only; omega)]; assumption) | exact Below.trans (by assumption) (hb.mono (by omega)) | (have := hb.size; omega) | exact Lib.hid (Tab.below (Hid.out (by assumption)) hb) | exact Lib.hid (RdB.below (Hid.out (by assumption)) (hb.mono (by omega))))
 clear hK K
 try clear hHeld
 have hHeld := hHeld2
 clear hHeld2
 try simp only [Act.put, List.setIfInBounds_toArray, List.set_cons_zero, List.set_cons_succ]
 refine sqC 3 (fun K hK => ?_)
 go_split_ands
 go_simp
 refine (lnum80 _).mono ?_
 rintro e w1 ⟨rfl, hb⟩
 refine hK.out _ _ ?_ (fun hHeld2 => ?_)
 ·((try dsimp only); refine ⟨?_, ?_, ?_, ?_, ?_, ?_, ?_, ?_, ?_, ?_, ?_, ?_, ?_, ?_, ?_⟩ <;> first | (rw [hb.cell (by dsimp only; omega)]; assumption) | exact Below.trans (by assumption) (hb.mono (by omega)) | (have := hb.size; omega) | exact Lib.hid (Tab.below (Hid.out (by assumption)) hb) | exact Lib.hid (RdB.below (Hid.out (by assumption)) (hb.mono (by omega))))
 clear hK K
 try clear hHeld
 have hHeld := hHeld2
 clear hHeld2
 refine sqT 4 (v := (.bool true)) hHeld ?_
 refine sqT 5 (v := (.bool true)) hHeld ?_
 refine sqT 6 (v := (.agg #[.bool true, .int .i64 0, .int .i64 0, .string ⟨#[]⟩, .bool false, .int .i64 0, .int .i64 1, .int .i64 1, .int .i64 3, .int .i64 1, .slice vA 3 vc])) hHeld ?_
 refine sqC 7 (fun K hK => ?_)
 go_split_ands
 go_simp
 refine (lnum20 _).mono ?_
 rintro e w1 ⟨rfl, hb⟩
 refine hK.out _ _ ?_ (fun hHeld2 => ?_)
 ·((try dsimp only); refine ⟨?_, ?_, ?_, ?_, ?_, ?_, ?_, ?_, ?_, ?_, ?_, ?_, ?_, ?_, ?_⟩ <;> first | (rw [hb.cell (by dsimp only; omega)]; assumption) | exact Below.trans (by assumption) (hb.mono (by omega)) | (have := hb.size; omega) | exact Lib.hid (Tab.below (Hid.out (by assumption)) hb) | exact Lib.hid (RdB.below (Hid.out (by assumption)) (hb.mono (by omega))))
 clear hK K
 try clear hHeld
 have hHeld := hHeld2
 clear hHeld2
 try simp only [Act.put, List.setIfInBounds_toArray, List.set_cons_zero, List.set_cons_succ]
 refine sqC 8 (fun K hK => ?_)
 go_split_ands
 go_simp
 refine (lsing20 _).mono ?_
 rintro e w1 ⟨rfl, hb⟩
 refine hK.out _ _ ?_ (fun hHeld2 => ?_)
 ·((try dsimp only); refine ⟨?_, ?_, ?_, ?_, ?_, ?_, ?_, ?_, ?_, ?_, ?_, ?_, ?_, ?_, ?_⟩ <;> first | (rw [hb.cell (by dsimp only; omega)]; assumption) | exact Below.trans (by assumption) (hb.mono (by omega)) | (have := hb.size; omega) | exact Lib.hid (Tab.below (Hid.out (by assumption)) hb) | exact Lib.hid (RdB.below (Hid.out (by assumption)) (hb.mono (by omega))))
 clear hK K
 try clear hHeld
 have hHeld := hHeld2
 clear hHeld2
 try simp only [Act.put, List.setIfInBounds_toArray, List.set_cons_zero, List.set_cons_succ]
 refine sqC 9 (fun K hK => ?_)
 go_split_ands
 go_simp
 refine hK.out _ _ ?_ (fun hHeld2 => ?_)
 ·((try dsimp only); refine ⟨?_, ?_, ?_, ?_, ?_, ?_, ?_, ?_, ?_, ?_, ?_, ?_, ?_, ?_, ?_⟩ <;> first | exact bx_cellp (by dsimp only; omega) (by assumption) | exact Below.alloc (by assumption) (by omega) _ | (simp; omega) | exact Lib.hid (Tab.below (Hid.out (by assumption)) ((Below.refl _ _).alloc (Nat.le_refl _) _)) | exact Lib.hid (RdB.below (Hid.out (by assumption)) ((Below.refl _ _).alloc (by omega) _)))
 clear hK K
 try clear hHeld
 have hHeld := hHeld2
 clear hHeld2
 try simp only [Act.put, List.setIfInBounds_toArray, List.set_cons_zero, List.set_cons_succ]
 refine sqC 10 (fun K hK => ?_)
 go_split_ands
 go_simp
 refine (kc_LARGE vA vc (Hid.out (by assumption)) (args_ofp [colA [20000, 50000, 10000] vA vc, numA 20000] (by rfl) 2 rfl (fun x hx => by simp at hx; rcases hx with rfl | rfl; exact colA_in ns_ok (by decide) (Hid.out (by assumption)); exact numA_in _ _ 20000 (by omega)) (by omega))).mono ?_
 rintro e w1 ⟨rfl, hb⟩
 refine hK.out _ _ ?_ (fun hHeld2 => ?_)
 ·((try dsimp only); refine ⟨?_, ?_, ?_, ?_, ?_, ?_, ?_, ?_, ?_, ?_, ?_, ?_, ?_, ?_, ?_⟩ <;> first | (rw [hb.cell (by dsimp only; omega)]; assumption) | exact Below.trans (by assumption) (hb.mono (by omega)) | (have := hb.size; omega) | exact Lib.hid (Tab.below (Hid.out (by assumption)) hb) | exact Lib.hid (RdB.below (Hid.out (by assumption)) (hb.mono (by omega))))
 clear hK K
 try clear hHeld
 have hHeld := hHeld2
 clear hHeld2
 try simp only [Act.put, List.setIfInBounds_toArray, List.set_cons_zero, List.set_cons_succ]
 refine sqC 11 (fun K hK => ?_)
 go_split_ands
 go_simp
 refine (lnum20 _).mono ?_
 rintro e w1 ⟨rfl, hb⟩
 refine hK.out _ _ ?_ (fun hHeld2 => ?_)
 ·((try dsimp only); refine ⟨?_, ?_, ?_, ?_, ?_, ?_, ?_, ?_, ?_, ?_, ?_, ?_, ?_, ?_, ?_⟩ <;> first | (rw [hb.cell (by dsimp only; omega)]; assumption) | exact Below.trans (by assumption) (hb.mono (by omega)) | (have := hb.size; omega) | exact Lib.hid (Tab.below (Hid.out (by assumption)) hb) | exact Lib.hid (RdB.below (Hid.out (by assumption)) (hb.mono (by omega))))
 clear hK K
 try clear hHeld
 have hHeld := hHeld2
 clear hHeld2
 refine sqT 12 (v := (.bool true)) hHeld ?_
 refine sqT 13 (v := (.bool true)) hHeld ?_
 refine sqT 14 (v := (.bool true)) hHeld ?_
 refine sqC 15 (fun K hK => ?_)
 go_split_ands
 go_simp
 refine (akn_JOIN _).mono ?_
 rintro e w1 ⟨rfl, hb⟩
 refine hK.out _ _ ?_ (fun hHeld2 => ?_)
 ·((try dsimp only); refine ⟨?_, ?_, ?_, ?_, ?_, ?_, ?_, ?_, ?_, ?_, ?_, ?_, ?_, ?_, ?_⟩ <;> first | (rw [hb.cell (by dsimp only; omega)]; assumption) | exact Below.trans (by assumption) (hb.mono (by omega)) | (have := hb.size; omega) | exact Lib.hid (Tab.below (Hid.out (by assumption)) hb) | exact Lib.hid (RdB.below (Hid.out (by assumption)) (hb.mono (by omega))))
 clear hK K
 try clear hHeld
 have hHeld := hHeld2
 clear hHeld2
 refine sqT 16 (v := (.bool true)) hHeld ?_
 refine sqT 17 (v := (.bool true)) hHeld ?_
 refine sqC 18 (fun K hK => ?_)
 go_split_ands
 go_simp
 refine (akn_LEN _).mono ?_
 rintro e w1 ⟨rfl, hb⟩
 refine hK.out _ _ ?_ (fun hHeld2 => ?_)
 ·((try dsimp only); refine ⟨?_, ?_, ?_, ?_, ?_, ?_, ?_, ?_, ?_, ?_, ?_, ?_, ?_, ?_, ?_⟩ <;> first | (rw [hb.cell (by dsimp only; omega)]; assumption) | exact Below.trans (by assumption) (hb.mono (by omega)) | (have := hb.size; omega) | exact Lib.hid (Tab.below (Hid.out (by assumption)) hb) | exact Lib.hid (RdB.below (Hid.out (by assumption)) (hb.mono (by omega))))
 clear hK K
 try clear hHeld
 have hHeld := hHeld2
 clear hHeld2
 refine sqT 19 (v := (.bool true)) hHeld ?_
 refine sqT 20 (v := (.bool true)) hHeld ?_
 refine sqT 21 (v := (.bool true)) hHeld ?_
 refine wpAnyH_done (by kernel_rfl) ?_ _
 go_split_ands
 go_wp2
 go_ret
 exact ⟨rfl, by assumption⟩
end Go.Proofs.YtgmhifafbebjfaaGreatDoor
