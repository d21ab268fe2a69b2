/-
 aggs: LARGE.
-/
import Derived.Test.YtgmhifafbebjfaaGreatDoorMg18
set_option maxRecDepth 100000
set_option maxHeartbeats 32000000
namespace Go.Proofs.YtgmhifafbebjfaaGreatDoor
open Go.RowKit

def kthL (ns : List Int) (k : Int) : VL := if k < 1 ∨ (ns.length : Int) < k then errL 5 else numL ((ns.mergeSort fun x y => decide (x ≤ y)).getD (ns.length - k.toNat) 0)
def largeR (x0 x1 : AL) : VL := if intC x1.v = 0 then faultR (itemsL [x0]) (kthL (numsL (itemsL [x0])) (intV x1.v)) else errL (intC x1.v)
theorem alarge_c (x0 x1 : AL) (hN : (itemsL [x0]).length ≤ 2932031007402) (text : Int) (w : World) (A : Option Addr) (cap : Nat) (hR : RdB w w.heap.size A 11 ([x0, x1].map AL.cs)) (hin : ∀ x ∈ [x0, x1], x.In w w.heap.size) (hcap : 2 ≤ cap) (c : Int) (hc : intC x1.v = c) (h : ¬ c = 0) : Calls Tryz.prog 119 #[.slice A 2 cap, .int .i64 text] w fun e w' => e = .returned (.agg #[.int .i64 4, .int .i64 0, .string ⟨#[]⟩, .bool false, .int .i64 (errC c)]) ∧ Below w.heap.size w w' := by
 have b0 : Below w.heap.size w (w.alloc (.cells #[.int .i64 0, .int .i64 0, .string ⟨#[]⟩, .bool false, .int .i64 0] 26)) := (Below.refl _ _).alloc (Nat.le_refl _) _
 obtain ⟨ab, ao, hA2, hab, hcell⟩ := hR 1 x1.cs rfl
 obtain rfl : A = some ⟨ab, ao, none⟩ := hA2
 obtain ⟨hc1, hc2, hc3, hc4, hc5⟩ := cs5_1 hcell
 have hne : ab ≠ w.heap.size := by omega
 have C1 := aint_any x1.v (hin x1 (by simp)).1 (w.alloc (.cells #[.int .i64 0, .int .i64 0, .string ⟨#[]⟩, .bool false, .int .i64 0] 26))
 have hR0 : RdB w w.heap.size (some ⟨ab, ao, none⟩) 11 ([x0].map AL.cs) := fun i c hi => hR i c (by
  cases i with
  | zero => exact hi
  | succ i => simp at hi)
 have C2 : ∀ w1, Below w.heap.size w w1 → Hid (Calls Tryz.prog 171 #[.slice (some ⟨ab, ao, none⟩) 1 cap] w1 fun e w' => (∃ v, e = .returned v ∧ OwnV w' w1.heap.size v (itemsL [x0])) ∧ Below w1.heap.size w1 w') := fun w1 h1 => Lib.hid (aitems_any [x0] (by simp) hN w1 _ cap ((hR0.below h1).mono h1.size) (fun x hx => ((hin x (by simp at hx; simp [hx])).below h1).mono h1.size))
 have hcp1 : (1 : Int) ≤ (cap : Int) := by omega
 clear hcell hR hR0 hin
 rw [hc] at C1
 have C1' := Lib.hid C1
 clear C1 C2 hc
 go_enter Tryz.func119, Tryz.ntmps119
 go_wp2_with fail
 refine C1'.out.mono ?_
 clear C1'
 rintro e w1 ⟨rfl, hb1⟩
 obtain ⟨gc, gf, gz⟩ := bkeep hb1 (w.heap.size + 1) (by simp)
 go_wp2_with (go_at_call 11; refine (verr_any c _).mono ?_; rintro e w2 ⟨rfl, hb2⟩; obtain ⟨gc2, gf2, gz2⟩ := bkeep hb2 (w.heap.size + 1) (by first | omega | (simp <;> omega)))
 refine bodyPost_ret (v := .agg #[.int .i64 4, .int .i64 0, .string ⟨#[]⟩, .bool false, .int .i64 (errC c)]) ?_ rfl ⟨rfl, belq⟩
 simp [results, Tryz.results119, go_sem, *]
theorem alarge_b (x0 x1 : AL) (hN : (itemsL [x0]).length ≤ 2932031007402) (text : Int) (w : World) (A : Option Addr) (cap : Nat) (hR : RdB w w.heap.size A 11 ([x0, x1].map AL.cs)) (hin : ∀ x ∈ [x0, x1], x.In w w.heap.size) (hcap : 2 ≤ cap) (hc : intC x1.v = 0) (k : Int) (hk : intV x1.v = k) (x : VL) (h4 : x.t = 4) (hbad : (itemsL [x0]).find? (fun v => decide (v.t = 4)) = some x) : Calls Tryz.prog 119 #[.slice A 2 cap, .int .i64 text] w fun e w' => e = .returned (.agg #[.int .i64 (x).t, .int .i64 (x).n, .string (x).s, .bool (x).b, .int .i64 (x).c]) ∧ Below w.heap.size w w' := by
 have b0 : Below w.heap.size w (w.alloc (.cells #[.int .i64 0, .int .i64 0, .string ⟨#[]⟩, .bool false, .int .i64 0] 26)) := (Below.refl _ _).alloc (Nat.le_refl _) _
 obtain ⟨ab, ao, hA2, hab, hcell⟩ := hR 1 x1.cs rfl
 obtain rfl : A = some ⟨ab, ao, none⟩ := hA2
 obtain ⟨hc1, hc2, hc3, hc4, hc5⟩ := cs5_1 hcell
 have hne : ab ≠ w.heap.size := by omega
 have C1 := aint_any x1.v (hin x1 (by simp)).1 (w.alloc (.cells #[.int .i64 0, .int .i64 0, .string ⟨#[]⟩, .bool false, .int .i64 0] 26))
 have hR0 : RdB w w.heap.size (some ⟨ab, ao, none⟩) 11 ([x0].map AL.cs) := fun i c hi => hR i c (by
  cases i with
  | zero => exact hi
  | succ i => simp at hi)
 have C2 : ∀ w1, Below w.heap.size w w1 → Hid (Calls Tryz.prog 171 #[.slice (some ⟨ab, ao, none⟩) 1 cap] w1 fun e w' => (∃ v, e = .returned v ∧ OwnV w' w1.heap.size v (itemsL [x0])) ∧ Below w1.heap.size w1 w') := fun w1 h1 => Lib.hid (aitems_any [x0] (by simp) hN w1 _ cap ((hR0.below h1).mono h1.size) (fun x hx => ((hin x (by simp at hx; simp [hx])).below h1).mono h1.size))
 have hcp1 : (1 : Int) ≤ (cap : Int) := by omega
 clear hcell hR hR0 hin
 have hbad' := Lib.hid hbad
 clear hbad
 rw [hc, hk] at C1
 have C1' := Lib.hid C1
 clear C1 hc hk
 go_enter Tryz.func119, Tryz.ntmps119
 go_wp2_with fail
 refine C1'.out.mono ?_
 clear C1'
 rintro e w1 ⟨rfl, hb1⟩
 have b1 : Below w.heap.size w w1 := b0.trans (hb1.mono (by simp))
 obtain ⟨gc, gf, gz⟩ := bkeep hb1 (w.heap.size + 1) (by simp)
 have C2' := C2 w1 b1
 clear C2
 go_wp2_with fail
 refine C2'.out.mono ?_
 clear C2'
 rintro e w2 ⟨⟨v2, rfl, hown2⟩, hb2⟩
 obtain ⟨A2, cap2, rfl, hr2⟩ := own_rdv hown2
 have C3 := Lib.hid (aamong_any (itemsL [x0]) hN w2 A2 cap2 hr2)
 clear hr2 hown2
 obtain ⟨gc2, gf2, gz2⟩ := bkeep hb2 (w.heap.size + 1) (by omega)
 go_wp2_with fail
 refine C3.out.mono ?_
 clear C3
 rintro e w3 hA
 have hb3 := hA.bel
 have hz23 := hb3.size
 obtain ⟨gc3, gf3, gz3⟩ := bkeep hb3 (w.heap.size + 1) (by omega)
 have l3 : w.heap.size < w3.heap.size := by omega
 have n3 : w.heap.size ≠ w3.heap.size := by omega
 obtain rfl := hA.bad x hbad'.out
 clear hA hbad'
 have h4b : (x.t == 4) = true := by simpa using h4
 go_wp2
 refine bodyPost_ret (v := .agg #[.int .i64 (x).t, .int .i64 (x).n, .string (x).s, .bool (x).b, .int .i64 (x).c]) ?_ rfl ⟨rfl, belq⟩
 simp [results, Tryz.results119, go_sem, *]
theorem alarge_r (x0 x1 : AL) (hN : (itemsL [x0]).length ≤ 2932031007402) (text : Int) (w : World) (A : Option Addr) (cap : Nat) (hR : RdB w w.heap.size A 11 ([x0, x1].map AL.cs)) (hin : ∀ x ∈ [x0, x1], x.In w w.heap.size) (hcap : 2 ≤ cap) (hc : intC x1.v = 0) (k : Int) (hk : intV x1.v = k) (hgood : (itemsL [x0]).find? (fun v => decide (v.t = 4)) = none) (ns : List Int) (hns : numsL (itemsL [x0]) = ns) (h : k < 1 ∨ (ns.length : Int) < k) : Calls Tryz.prog 119 #[.slice A 2 cap, .int .i64 text] w fun e w' => e = .returned (.agg #[.int .i64 4, .int .i64 0, .string ⟨#[]⟩, .bool false, .int .i64 (errC 5)]) ∧ Below w.heap.size w w' := by
 have b0 : Below w.heap.size w (w.alloc (.cells #[.int .i64 0, .int .i64 0, .string ⟨#[]⟩, .bool false, .int .i64 0] 26)) := (Below.refl _ _).alloc (Nat.le_refl _) _
 obtain ⟨ab, ao, hA2, hab, hcell⟩ := hR 1 x1.cs rfl
 obtain rfl : A = some ⟨ab, ao, none⟩ := hA2
 obtain ⟨hc1, hc2, hc3, hc4, hc5⟩ := cs5_1 hcell
 have hne : ab ≠ w.heap.size := by omega
 have C1 := aint_any x1.v (hin x1 (by simp)).1 (w.alloc (.cells #[.int .i64 0, .int .i64 0, .string ⟨#[]⟩, .bool false, .int .i64 0] 26))
 have hR0 : RdB w w.heap.size (some ⟨ab, ao, none⟩) 11 ([x0].map AL.cs) := fun i c hi => hR i c (by
  cases i with
  | zero => exact hi
  | succ i => simp at hi)
 have C2 : ∀ w1, Below w.heap.size w w1 → Hid (Calls Tryz.prog 171 #[.slice (some ⟨ab, ao, none⟩) 1 cap] w1 fun e w' => (∃ v, e = .returned v ∧ OwnV w' w1.heap.size v (itemsL [x0])) ∧ Below w1.heap.size w1 w') := fun w1 h1 => Lib.hid (aitems_any [x0] (by simp) hN w1 _ cap ((hR0.below h1).mono h1.size) (fun x hx => ((hin x (by simp at hx; simp [hx])).below h1).mono h1.size))
 have hcp1 : (1 : Int) ≤ (cap : Int) := by omega
 clear hcell hR hR0 hin
 have hgood' := Lib.hid hgood
 have hns' := Lib.hid hns
 clear hgood hns
 have h' := Lib.hid h
 clear h
 rw [hc, hk] at C1
 have C1' := Lib.hid C1
 clear C1 hc hk
 go_enter Tryz.func119, Tryz.ntmps119
 go_wp2_with fail
 refine C1'.out.mono ?_
 clear C1'
 rintro e w1 ⟨rfl, hb1⟩
 have b1 : Below w.heap.size w w1 := b0.trans (hb1.mono (by simp))
 obtain ⟨gc, gf, gz⟩ := bkeep hb1 (w.heap.size + 1) (by simp)
 have C2' := C2 w1 b1
 clear C2
 go_wp2_with fail
 refine C2'.out.mono ?_
 clear C2'
 rintro e w2 ⟨⟨v2, rfl, hown2⟩, hb2⟩
 obtain ⟨A2, cap2, rfl, hr2⟩ := own_rdv hown2
 have C3 := Lib.hid (aamong_any (itemsL [x0]) hN w2 A2 cap2 hr2)
 clear hr2 hown2
 obtain ⟨gc2, gf2, gz2⟩ := bkeep hb2 (w.heap.size + 1) (by omega)
 go_wp2_with fail
 refine C3.out.mono ?_
 clear C3
 rintro e w3 hA
 have hb3 := hA.bel
 have hz23 := hb3.size
 obtain ⟨gc3, gf3, gz3⟩ := bkeep hb3 (w.heap.size + 1) (by omega)
 have l3 : w.heap.size < w3.heap.size := by omega
 have n3 : w.heap.size ≠ w3.heap.size := by omega
 obtain ⟨v3, rfl, hown3⟩ := hA.good hgood'.out
 clear hA hgood'
 rw [hns'.out] at hown3
 obtain ⟨A3, cap3, rfl, hr3⟩ := own_rdi hown3
 clear hr3 hown3
 rcases h'.out with h | h
 all_goals clear h'
 ·go_wp2_with (go_at_call 11; refine (verr_any 5 _).mono ?_; rintro e w5 ⟨rfl, hb5⟩; obtain ⟨gc5, gf5, gz5⟩ := bkeep hb5 (w.heap.size + 1) (by first | omega | (simp <;> omega)))
  refine bodyPost_ret (v := .agg #[.int .i64 4, .int .i64 0, .string ⟨#[]⟩, .bool false, .int .i64 (errC 5)]) ?_ rfl ⟨rfl, belq⟩
  simp [results, Tryz.results119, go_sem, *]
 ·by_cases h1 : k < 1
  ·exfalso; omega
  ·go_wp2_with (go_at_call 11; refine (verr_any 5 _).mono ?_; rintro e w5 ⟨rfl, hb5⟩; obtain ⟨gc5, gf5, gz5⟩ := bkeep hb5 (w.heap.size + 1) (by first | omega | (simp <;> omega)))
   refine bodyPost_ret (v := .agg #[.int .i64 4, .int .i64 0, .string ⟨#[]⟩, .bool false, .int .i64 (errC 5)]) ?_ rfl ⟨rfl, belq⟩
   simp [results, Tryz.results119, go_sem, *]
theorem alarge_y (x0 x1 : AL) (hN : (itemsL [x0]).length ≤ 2932031007402) (text : Int) (w : World) (A : Option Addr) (cap : Nat) (hR : RdB w w.heap.size A 11 ([x0, x1].map AL.cs)) (hin : ∀ x ∈ [x0, x1], x.In w w.heap.size) (hcap : 2 ≤ cap) (hc : intC x1.v = 0) (k : Int) (hk : intV x1.v = k) (hgood : (itemsL [x0]).find? (fun v => decide (v.t = 4)) = none) (ns : List Int) (hns : numsL (itemsL [x0]) = ns) (h : 1 ≤ k ∧ k ≤ (ns.length : Int)) (y : Int) (hy : (ns.mergeSort fun x y => decide (x ≤ y))[ns.length - k.toNat]? = some y) (hyb : -9223372036854775808 ≤ y ∧ y ≤ 9223372036854775807) : Calls Tryz.prog 119 #[.slice A 2 cap, .int .i64 text] w fun e w' => e = .returned (.agg #[.int .i64 (numL y).t, .int .i64 (numL y).n, .string (numL y).s, .bool (numL y).b, .int .i64 (numL y).c]) ∧ Below w.heap.size w w' := by
 have b0 : Below w.heap.size w (w.alloc (.cells #[.int .i64 0, .int .i64 0, .string ⟨#[]⟩, .bool false, .int .i64 0] 26)) := (Below.refl _ _).alloc (Nat.le_refl _) _
 obtain ⟨ab, ao, hA2, hab, hcell⟩ := hR 1 x1.cs rfl
 obtain rfl : A = some ⟨ab, ao, none⟩ := hA2
 obtain ⟨hc1, hc2, hc3, hc4, hc5⟩ := cs5_1 hcell
 have hne : ab ≠ w.heap.size := by omega
 have C1 := aint_any x1.v (hin x1 (by simp)).1 (w.alloc (.cells #[.int .i64 0, .int .i64 0, .string ⟨#[]⟩, .bool false, .int .i64 0] 26))
 have hR0 : RdB w w.heap.size (some ⟨ab, ao, none⟩) 11 ([x0].map AL.cs) := fun i c hi => hR i c (by
  cases i with
  | zero => exact hi
  | succ i => simp at hi)
 have C2 : ∀ w1, Below w.heap.size w w1 → Hid (Calls Tryz.prog 171 #[.slice (some ⟨ab, ao, none⟩) 1 cap] w1 fun e w' => (∃ v, e = .returned v ∧ OwnV w' w1.heap.size v (itemsL [x0])) ∧ Below w1.heap.size w1 w') := fun w1 h1 => Lib.hid (aitems_any [x0] (by simp) hN w1 _ cap ((hR0.below h1).mono h1.size) (fun x hx => ((hin x (by simp at hx; simp [hx])).below h1).mono h1.size))
 have hcp1 : (1 : Int) ≤ (cap : Int) := by omega
 clear hcell hR hR0 hin
 have hgood' := Lib.hid hgood
 have hns' := Lib.hid hns
 clear hgood hns
 have hnl : ns.length ≤ 2932031007402 := by rw [← hns'.out]; exact Nat.le_trans (numsL_len _) hN
 obtain ⟨i, hi⟩ : ∃ i, ns.length - k.toNat = i := ⟨_, rfl⟩
 have hil : i < ns.length := by omega
 have hwi : IntKind.i64.wrap ((ns.length : Int) - k) = (i : Int) := by
  rw [show (ns.length : Int) - k = (i : Int) by omega]; exact IntWalk.i64_in _ (by omega)
 have hii : (i : Int) < (ns.length : Int) := by omega
 have hk1 : ¬ k < 1 := by omega
 have hk2 : ¬ (ns.length : Int) < k := by omega
 have hyb' := Lib.hid hyb
 have hy' : Hid ((ns.mergeSort fun x y => decide (x ≤ y))[i]? = some y) := Lib.hid (by rw [hi] at hy; exact hy)
 clear hi hy hyb
 rw [hc, hk] at C1
 have C1' := Lib.hid C1
 clear C1 hc hk
 go_enter Tryz.func119, Tryz.ntmps119
 go_wp2_with fail
 refine C1'.out.mono ?_
 clear C1'
 rintro e w1 ⟨rfl, hb1⟩
 have b1 : Below w.heap.size w w1 := b0.trans (hb1.mono (by simp))
 obtain ⟨gc, gf, gz⟩ := bkeep hb1 (w.heap.size + 1) (by simp)
 have C2' := C2 w1 b1
 clear C2
 go_wp2_with fail
 refine C2'.out.mono ?_
 clear C2'
 rintro e w2 ⟨⟨v2, rfl, hown2⟩, hb2⟩
 obtain ⟨A2, cap2, rfl, hr2⟩ := own_rdv hown2
 have C3 := Lib.hid (aamong_any (itemsL [x0]) hN w2 A2 cap2 hr2)
 clear hr2 hown2
 obtain ⟨gc2, gf2, gz2⟩ := bkeep hb2 (w.heap.size + 1) (by omega)
 go_wp2_with fail
 refine C3.out.mono ?_
 clear C3
 rintro e w3 hA
 have hb3 := hA.bel
 have hz23 := hb3.size
 obtain ⟨gc3, gf3, gz3⟩ := bkeep hb3 (w.heap.size + 1) (by omega)
 have l3 : w.heap.size < w3.heap.size := by omega
 have n3 : w.heap.size ≠ w3.heap.size := by omega
 obtain ⟨v3, rfl, hown3⟩ := hA.good hgood'.out
 clear hA hgood'
 rw [hns'.out] at hown3
 have C4 := Lib.hid (sorti_any ns (by omega) (w3.alloc (.cells #[.int .i64 0, .int .i64 0, .string ⟨#[]⟩, .bool false, .int .i64 0] 26)) w2.heap.size v3 (hown3.alloc _))
 obtain ⟨A3, cap3, hv3⟩ : ∃ A cap, v3 = .slice A ns.length cap := by obtain ⟨A3, cap3, e, _⟩ := own_rdi hown3; exact ⟨A3, cap3, e⟩
 have hlt3 := hown3.lt
 subst hv3
 go_wp2_with fail
 refine C4.out.mono ?_
 clear C4
 rintro e w5 ⟨rfl, hown5, hgr5⟩
 have hb5 : Below w2.heap.size (w3.alloc (.cells #[.int .i64 0, .int .i64 0, .string ⟨#[]⟩, .bool false, .int .i64 0] 26)) w5 := (Below.refl _ _).grown hgr5 (by simp; omega) (fun q hq => (hlt3 q hq).1)
 have gc5 : ∀ b o, b < w.heap.size + 1 → w5.cell? ⟨b, o, none⟩ = (w3.alloc (.cells #[.int .i64 0, .int .i64 0, .string ⟨#[]⟩, .bool false, .int .i64 0] 26)).cell? ⟨b, o, none⟩ := fun b o h => hb5.cell (p := ⟨b, o, none⟩) (by dsimp only; omega)
 have gf5 : ∀ b o, b < w.heap.size + 1 → w5.frozen? ⟨b, o, none⟩ = (w3.alloc (.cells #[.int .i64 0, .int .i64 0, .string ⟨#[]⟩, .bool false, .int .i64 0] 26)).frozen? ⟨b, o, none⟩ := fun b o h => hb5.frozen (p := ⟨b, o, none⟩) (by dsimp only; omega)
 have gz5 : w.heap.size + 1 ≤ w5.heap.size := by have := hb5.size; simp at this; omega
 have b5 : Below w.heap.size w w5 := b1.trans ((hb2.mono (by omega)).trans ((hb3.mono (by omega)).trans (((Below.refl w.heap.size w3).alloc (by omega) (.cells #[.int .i64 0, .int .i64 0, .string ⟨#[]⟩, .bool false, .int .i64 0] 26)).trans (hb5.mono (by omega)))))
 obtain ⟨A5, cap5, e5, hr5⟩ := own_rdi hown5
 obtain ⟨eb, eo, hA5, heb, hcell5⟩ := hr5 i [.int .i64 y] (by rw [List.getElem?_map, hy'.out]; rfl)
 injection e5 with e5 e6 e7
 subst e5
 clear e6 e7
 obtain rfl : A3 = some ⟨eb, eo, none⟩ := hA5
 have hcy : w5.cell? ⟨eb, eo + i, none⟩ = some (.int .i64 y) := by simpa using hcell5 0 _ rfl
 clear hr5 hcell5 hown5 hgr5 hlt3
 go_wp2_with (go_at_call 141; refine (vnum_any y hyb'.out _).mono ?_; rintro e w6 ⟨rfl, hb6⟩; obtain ⟨gc6, gf6, gz6⟩ := bkeep hb6 (w.heap.size + 1) (by first | omega | (simp <;> omega)))
 refine bodyPost_ret (v := .agg #[.int .i64 (numL y).t, .int .i64 (numL y).n, .string (numL y).s, .bool (numL y).b, .int .i64 (numL y).c]) ?_ rfl ⟨rfl, belq⟩
 simp [results, Tryz.results119, go_sem, numL, *]
theorem alarge_any (x0 x1 : AL) (hN : (itemsL [x0]).length ≤ 2932031007402) (text : Int) (w : World) (A : Option Addr) (cap : Nat) (hR : RdB w w.heap.size A 11 ([x0, x1].map AL.cs)) (hin : ∀ x ∈ [x0, x1], x.In w w.heap.size) (hcap : 2 ≤ cap) : Calls Tryz.prog 119 #[.slice A 2 cap, .int .i64 text] w fun e w' => e = .returned (.agg #[.int .i64 (largeR x0 x1).t, .int .i64 (largeR x0 x1).n, .string (largeR x0 x1).s, .bool (largeR x0 x1).b, .int .i64 (largeR x0 x1).c]) ∧ Below w.heap.size w w' := by
 unfold largeR
 by_cases hc : intC x1.v = 0
 ·rw [if_pos hc]
  unfold faultR
  cases hf : (itemsL [x0]).find? (fun v => decide (v.t = 4)) with
  | some x => exact alarge_b x0 x1 hN text w A cap hR hin hcap hc _ rfl x (by simpa using List.find?_some hf) hf
  |
   none =>
   simp only
   unfold kthL
   by_cases hk : intV x1.v < 1 ∨ ((numsL (itemsL [x0])).length : Int) < intV x1.v
   ·rw [if_pos hk]; exact alarge_r x0 x1 hN text w A cap hR hin hcap hc _ rfl hf _ rfl hk
   ·rw [if_neg hk]
    have hi : (numsL (itemsL [x0])).length - (intV x1.v).toNat < ((numsL (itemsL [x0])).mergeSort fun x y => decide (x ≤ y)).length := by rw [List.length_mergeSort]; omega
    have hy := List.getElem?_eq_getElem hi
    have hm : ((numsL (itemsL [x0])).mergeSort fun x y => decide (x ≤ y))[(numsL (itemsL [x0])).length - (intV x1.v).toNat] ∈ numsL (itemsL [x0]) := (List.mergeSort_perm _ _).mem_iff.1 (List.getElem_mem hi)
    have hb := nums_ok (items_ok (fun x hx => hin x (by simp at hx; simp [hx]))) _ hm
    rw [List.getD_eq_getElem?_getD, hy]
    exact alarge_y x0 x1 hN text w A cap hR hin hcap hc _ rfl hf _ rfl (by omega) _ hy hb
 ·rw [if_neg hc]; exact alarge_c x0 x1 hN text w A cap hR hin hcap _ rfl hc
end Go.Proofs.YtgmhifafbebjfaaGreatDoor
