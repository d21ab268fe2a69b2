/-
 Contracts of Go's library at generic instantiations of this seat's translation, laid by the kit's own command in its plain mode; aggs: a function of the numbers of all; aggs: integer; numbers sorted.
-/
import Derived.Test.YtgmhifafbebjfaaGreatDoorMg13
import Derived.Test.YtgmhifafbebjfaaGreatDoorASum
import Derived.Test.YtgmhifafbebjfaaGreatDoorACallB
import Derived.Shelf.SlGeneric
import Derived.Shelf.SortM.Plain
import Derived.Shelf.SortM.SortNone
import Derived.Ground.SlgmProg
import Derived.Sort.OwnSorted
import Derived.Sort.OwnSortedInts
set_option maxRecDepth 100000
set_option maxHeartbeats 32000000
namespace Go.Proofs
open Go.Shelf
def Tryz.sortL_ren : Go.Shelf.Ren := ⟨fun | 5 => 183 | 8 => 211 | 7 => 210 | 19 => 242 | 20 => 231 | 10 => 233 | 11 => 234 | 12 => 235 | 13 => 236 | 14 => 237 | 15 => 238 | 16 => 239 | 17 => 240 | 18 => 241 | 30 => 261 | 31 => 262 | 32 => 263 | 33 => 264 | 34 => 265 | 35 => 266 | 40 => 274 | n => n, fun | 23 => 90 | 25 => 2 | 3 => 3 | 32 => 162 | 22 => 90 | 0 => 0 | 44 => 194 | 46 => 119 | 4 => 4 | 36 => 233 | 35 => 232 | 41 => 144 | 5 => 5 | 9 => 9 | 53 => 250 | 57 => 254 | 63 => 264 | 64 => 265 | n => n, fun | n => n⟩
theorem Tryz.sortL : Go.Proofs.SlLaysM.n5 Tryz.prog Tryz.sortL_ren := {
 mixed := by kernel_rfl
 f5 := ⟨Tryz.f183.name, by decide, Tryz.func183.trans (congrArg some (by kernel_rfl))⟩
 f7 := ⟨Tryz.f210.name, by decide, Tryz.func210.trans (congrArg some (by kernel_rfl))⟩
 f8 := Tryz.func211.trans (congrArg some (by kernel_rfl))
 f10 := ⟨Tryz.f233.name, by decide, Tryz.func233.trans (congrArg some (by kernel_rfl))⟩
 f11 := ⟨Tryz.f234.name, by decide, Tryz.func234.trans (congrArg some (by kernel_rfl))⟩
 f12 := ⟨Tryz.f235.name, by decide, Tryz.func235.trans (congrArg some (by kernel_rfl))⟩
 f13 := ⟨Tryz.f236.name, by decide, Tryz.func236.trans (congrArg some (by kernel_rfl))⟩
 f14 := ⟨Tryz.f237.name, by decide, Tryz.func237.trans (congrArg some (by kernel_rfl))⟩
 f15 := ⟨Tryz.f238.name, by decide, Tryz.func238.trans (congrArg some (by kernel_rfl))⟩
 f16 := ⟨Tryz.f239.name, by decide, Tryz.func239.trans (congrArg some (by kernel_rfl))⟩
 f17 := ⟨Tryz.f240.name, by decide, Tryz.func240.trans (congrArg some (by kernel_rfl))⟩
 f18 := ⟨Tryz.f241.name, by decide, Tryz.func241.trans (congrArg some (by kernel_rfl))⟩
 f19 := Tryz.func242.trans (congrArg some (by kernel_rfl))
 f20 := Tryz.func231.trans (congrArg some (by kernel_rfl))
 f30 := ⟨Tryz.f261.name, by decide, Tryz.func261.trans (congrArg some (by kernel_rfl))⟩
 f31 := Tryz.func262.trans (congrArg some (by kernel_rfl))
 f32 := Tryz.func263.trans (congrArg some (by kernel_rfl))
 f33 := ⟨Tryz.f264.name, by decide, Tryz.func264.trans (congrArg some (by kernel_rfl))⟩
 f34 := ⟨Tryz.f265.name, by decide, Tryz.func265.trans (congrArg some (by kernel_rfl))⟩
 f35 := ⟨Tryz.f266.name, by decide, Tryz.func266.trans (congrArg some (by kernel_rfl))⟩
 f40 := ⟨Tryz.f274.name, by decide, Tryz.func274.trans (congrArg some (by kernel_rfl))⟩
 t0 := Tryz.underlying0
 a0 := Tryz.isAgg0
 z0 := Tryz.sizeOf0
 v0 := Tryz.zeroValue0
 t3 := Tryz.underlying3
 a3 := Tryz.isAgg3
 z3 := Tryz.sizeOf3
 v3 := Tryz.zeroValue3
 t4 := Tryz.underlying4
 a4 := Tryz.isAgg4
 z4 := Tryz.sizeOf4
 v4 := Tryz.zeroValue4
 t5 := Tryz.underlying5
 a5 := Tryz.isAgg5
 z5 := Tryz.sizeOf5
 v5 := Tryz.zeroValue5
 t9 := Tryz.underlying9
 a9 := Tryz.isAgg9
 z9 := Tryz.sizeOf9
 v9 := Tryz.zeroValue9
 t22 := Tryz.underlying90
 a22 := Tryz.isAgg90
 z22 := Tryz.sizeOf90
 v22 := Tryz.zeroValue90
 t23 := Tryz.underlying90
 a23 := Tryz.isAgg90
 z23 := Tryz.sizeOf90
 v23 := Tryz.zeroValue90
 t25 := Tryz.underlying2
 a25 := Tryz.isAgg2
 z25 := Tryz.sizeOf2
 v25 := Tryz.zeroValue2
 t32 := Tryz.underlying162
 a32 := Tryz.isAgg162
 z32 := Tryz.sizeOf162
 v32 := Tryz.zeroValue162
 t35 := Tryz.underlying232
 a35 := Tryz.isAgg232
 z35 := Tryz.sizeOf232
 v35 := Tryz.zeroValue232
 t36 := Tryz.underlying233
 a36 := Tryz.isAgg233
 z36 := Tryz.sizeOf233
 v36 := Tryz.zeroValue233
 t41 := Tryz.underlying144
 a41 := Tryz.isAgg144
 z41 := Tryz.sizeOf144
 v41 := Tryz.zeroValue144
 t44 := Tryz.underlying194
 a44 := Tryz.isAgg194
 z44 := Tryz.sizeOf194
 v44 := Tryz.zeroValue194
 t46 := Tryz.underlying119
 a46 := Tryz.isAgg119
 z46 := Tryz.sizeOf119
 v46 := Tryz.zeroValue119
 t53 := Tryz.underlying250
 a53 := Tryz.isAgg250
 z53 := Tryz.sizeOf250
 v53 := Tryz.zeroValue250
 t57 := Tryz.underlying254
 a57 := Tryz.isAgg254
 z57 := Tryz.sizeOf254
 v57 := Tryz.zeroValue254
 t63 := Tryz.underlying264
 a63 := Tryz.isAgg264
 z63 := Tryz.sizeOf264
 v63 := Tryz.zeroValue264
 t64 := Tryz.underlying265
 a64 := Tryz.isAgg265
 z64 := Tryz.sizeOf265
 v64 := Tryz.zeroValue265 }
open Go.RowKit Go.Lib in
theorem Tryz.slices_Sort_i64 (blk off cap : Nat) (zs : List Int) (w : World) (hH : Sort.Holds (Value.int .i64) w blk off zs.toArray) (hblk : blk < w.heap.size) (hsz : zs.length < 4611686018427387904) :
  Calls Tryz.prog 183 #[.slice (some ⟨blk, off, none⟩) zs.length cap] w fun e w' => e = .returned (.tuple #[]) ∧ ∃ n os, w' = Sort.grow (Sort.putRow (Value.int .i64) (Sort.ahead w n) blk off (zs.mergeSort fun x y => decide (x ≤ y)).toArray) os := AnyM.slices_Sort_int Tryz.sortL blk off cap zs w hH hblk hsz
open Go.RowKit Go.Lib in
theorem Tryz.slices_Sort_i64_none (p : Option Addr) (cap : Nat) (w : World) :
  Calls Tryz.prog 183 #[.slice p 0 cap] w fun e w' => e = .returned (.tuple #[]) ∧ w' = w := AnyM.slices_Sort_int_none Tryz.sortL p cap w
end Go.Proofs
namespace Go.Proofs.YtgmhifafbebjfaaGreatDoor
open Go.RowKit

def faultR (vs : List VL) (r : VL) : VL :=
 match vs.find? (fun v => decide (v.t = 4)) with
 | some x => x
 | none => r
theorem own_rdv {w : World} {B : Nat} {v : Value} {l : List VL} (h : OwnV w B v l) : ∃ A cap, v = .slice A l.length cap ∧ RdB w w.heap.size A 5 (l.map VL.cs) :=
 ownsRow_rdk (by omega) (fun c hc => by obtain ⟨y, _, rfl⟩ := List.mem_map.1 hc; rfl) (by simp) h
theorem own_rdi {w : World} {B : Nat} {v : Value} {l : List Int} (h : OwnI w B v l) : ∃ A cap, v = .slice A l.length cap ∧ RdI w A l := by
 obtain ⟨A, cap, e, h2⟩ := ownsRow_rd h
 exact ⟨A, cap, e, by unfold RdI; rw [List.map_map] at h2; exact h2⟩
theorem items_ok {l : List AL} {w : World} {B : Nat} (hin : ∀ x ∈ l, x.In w B) : ∀ v ∈ itemsL l, v.ok := by
 intro v hv
 unfold itemsL at hv
 obtain ⟨L, hL, hvL⟩ := List.mem_flatten.1 hv
 obtain ⟨x, hx, rfl⟩ := List.mem_map.1 hL
 have h := hin x hx
 unfold itemsX at hvL
 rcases List.mem_append.1 hvL with h1 | h1
 ·by_cases hm : x.many = true
  ·rw [if_pos hm] at h1; cases h1
  ·rw [if_neg hm] at h1; simp at h1; subst h1; exact h.1
 ·obtain ⟨e, he, rfl⟩ := List.mem_map.1 h1
  exact h.2.2.1 e he
theorem nums_ok {vs : List VL} (h : ∀ v ∈ vs, v.ok) : ∀ x ∈ numsL vs, -9223372036854775808 ≤ x ∧ x ≤ 9223372036854775807 := by
 intro x hx
 unfold numsL at hx
 obtain ⟨v, hv, he⟩ := List.mem_filterMap.1 hx
 by_cases h1 : v.t = 1
 ·rw [if_pos h1] at he; cases he; exact h v hv
 ·rw [if_neg h1] at he; cases he
theorem anum_bad (l : List AL) (hlen : l.length ≤ 1649267441664) (hN : (itemsL l).length ≤ 2932031007402) (text : Int) (w : World) (A : Option Addr) (cap : Nat) (hR : RdB w w.heap.size A 11 (l.map AL.cs)) (hin : ∀ x ∈ l, x.In w w.heap.size) (pb : Nat) (x : VL) (h4 : x.t = 4) (hbad : (itemsL l).find? (fun v => decide (v.t = 4)) = some x) : Calls Tryz.prog 169 #[.slice A l.length cap, .int .i64 text, .pointer (some ⟨pb, 0, none⟩)] w fun e w' => e = .returned (.agg #[.int .i64 (x).t, .int .i64 (x).n, .string (x).s, .bool (x).b, .int .i64 (x).c]) ∧ Below w.heap.size w w' := by
 have b0 : Below w.heap.size w (w.alloc (.cells #[.int .i64 0, .int .i64 0, .string ⟨#[]⟩, .bool false, .int .i64 0] 26)) := (Below.refl _ _).alloc (Nat.le_refl _) _
 have C1 := Lib.hid (aitems_any l hlen hN (w.alloc (.cells #[.int .i64 0, .int .i64 0, .string ⟨#[]⟩, .bool false, .int .i64 0] 26)) A cap ((hR.below b0).mono b0.size) (fun x hx => ((hin x hx).below b0).mono b0.size))
 have hbad' := Lib.hid hbad
 clear hR hin hbad
 go_enter Tryz.func169, Tryz.ntmps169
 go_wp2_with fail
 refine C1.out.mono ?_
 clear C1
 rintro e w1 ⟨⟨v1, rfl, hown1⟩, hb1⟩
 obtain ⟨A1, cap1, rfl, hr1⟩ := own_rdv hown1
 have C2 := Lib.hid (aamong_any (itemsL l) hN w1 A1 cap1 hr1)
 clear hr1 hown1
 obtain ⟨hc, hf, hz⟩ := bkeep hb1 (w.heap.size + 1) (by simp)
 go_wp2_with fail
 refine C2.out.mono ?_
 clear C2
 rintro e w2 hA
 obtain rfl := hA.bad x hbad'.out
 have hb2 := hA.bel
 clear hA hbad'
 obtain ⟨hc2, hf2, hz2⟩ := bkeep hb2 (w.heap.size + 1) (by omega)
 have l2 : w.heap.size < w2.heap.size := by omega
 have n2 : w.heap.size ≠ w2.heap.size := by omega
 have h4b : (x.t == 4) = true := by simpa using h4
 go_wp2
 refine bodyPost_ret (v := .agg #[.int .i64 (x).t, .int .i64 (x).n, .string (x).s, .bool (x).b, .int .i64 (x).c]) ?_ rfl ⟨rfl, belq⟩
 simp [results, Tryz.results169, go_sem, *]
theorem anum_good (l : List AL) (hlen : l.length ≤ 1649267441664) (hN : (itemsL l).length ≤ 2932031007402) (text : Int) (w : World) (A : Option Addr) (cap : Nat) (hR : RdB w w.heap.size A 11 (l.map AL.cs)) (hin : ∀ x ∈ l, x.In w w.heap.size) (pb g : Nat) (c : Array Value) (hbox : w.cell? ⟨pb, 0, none⟩ = some (.func (.func g) #[] c)) (hgo : ∀ args w, Sem.run Tryz.prog (callFunc g args) w = .ok (.enter g args) w) (r : VL) (hgood : (itemsL l).find? (fun v => decide (v.t = 4)) = none) (hF : ∀ (w2 : World) (A2 : Option Addr) (cap2 : Nat), Below w.heap.size w w2 → RdI w2 A2 (numsL (itemsL l)) → Calls Tryz.prog g (#[.slice A2 (numsL (itemsL l)).length cap2] ++ c) w2 fun e w' => e = .returned (.agg #[.int .i64 (r).t, .int .i64 (r).n, .string (r).s, .bool (r).b, .int .i64 (r).c]) ∧ Below w2.heap.size w2 w') : Calls Tryz.prog 169 #[.slice A l.length cap, .int .i64 text, .pointer (some ⟨pb, 0, none⟩)] w fun e w' => e = .returned (.agg #[.int .i64 (r).t, .int .i64 (r).n, .string (r).s, .bool (r).b, .int .i64 (r).c]) ∧ Below w.heap.size w w' := by
 have b0 : Below w.heap.size w (w.alloc (.cells #[.int .i64 0, .int .i64 0, .string ⟨#[]⟩, .bool false, .int .i64 0] 26)) := (Below.refl _ _).alloc (Nat.le_refl _) _
 have C1 := Lib.hid (aitems_any l hlen hN (w.alloc (.cells #[.int .i64 0, .int .i64 0, .string ⟨#[]⟩, .bool false, .int .i64 0] 26)) A cap ((hR.below b0).mono b0.size) (fun x hx => ((hin x hx).below b0).mono b0.size))
 have hgood' := Lib.hid hgood
 have hF' := Lib.hid hF
 have hpl : pb < w.heap.size := World.block_lt_of_cell? _ _ hbox
 clear hR hin hgood hF
 go_enter Tryz.func169, Tryz.ntmps169
 go_wp2_with fail
 refine C1.out.mono ?_
 clear C1
 rintro e w1 ⟨⟨v1, rfl, hown1⟩, hb1⟩
 obtain ⟨A1, cap1, rfl, hr1⟩ := own_rdv hown1
 have C2 := Lib.hid (aamong_any (itemsL l) hN w1 A1 cap1 hr1)
 clear hr1 hown1
 obtain ⟨hc, hf, hz⟩ := bkeep hb1 (w.heap.size + 1) (by simp)
 go_wp2_with fail
 refine C2.out.mono ?_
 clear C2
 rintro e w2 hA
 obtain ⟨v2, rfl, hown2⟩ := hA.good hgood'.out
 have hb2 := hA.bel
 clear hA hgood'
 obtain ⟨A2, cap2, rfl, hr2⟩ := own_rdi hown2
 have b2 : Below w.heap.size w w2 := b0.trans ((hb1.mono (by simp)).trans (hb2.mono (by omega)))
 obtain ⟨hc2, hf2, hz2⟩ := bkeep hb2 (w.heap.size + 1) (by omega)
 have l2 : w.heap.size < w2.heap.size := by omega
 have n2 : w.heap.size ≠ w2.heap.size := by omega
 have hbx : w2.cell? ⟨pb, 0, none⟩ = some (.func (.func g) #[] c) := (b2.cell (p := ⟨pb, 0, none⟩) hpl).trans hbox
 have hpn : pb ≠ w2.heap.size := by omega
 have hpl2 : pb < w2.heap.size := by omega
 have CF := Lib.hid (hF'.out (w2.alloc (.cells #[.int .i64 0, .int .i64 0, .string ⟨#[]⟩, .bool false, .int .i64 0] 26)) A2 cap2 (b2.alloc b2.size _) (RdB.mono (RdB.below hr2 ((Below.refl _ _).alloc (Nat.le_refl _) _)) (by simp)))
 clear hr2 hown2 hF'
 go_wp2_with fail
 refine CF.out.mono ?_
 clear CF
 rintro e w3 ⟨rfl, hb3⟩
 obtain ⟨hc3, hf3, hz3⟩ := bkeep hb3 (w.heap.size + 1) (by simp; omega)
 have l3 : w.heap.size < w3.heap.size := by omega
 go_wp2
 refine bodyPost_ret (v := .agg #[.int .i64 (r).t, .int .i64 (r).n, .string (r).s, .bool (r).b, .int .i64 (r).c]) ?_ rfl ⟨rfl, belq⟩
 simp [results, Tryz.results169, go_sem, *]
theorem anum_any (l : List AL) (hlen : l.length ≤ 1649267441664) (hN : (itemsL l).length ≤ 2932031007402) (text : Int) (w : World) (A : Option Addr) (cap : Nat) (hR : RdB w w.heap.size A 11 (l.map AL.cs)) (hin : ∀ x ∈ l, x.In w w.heap.size) (pb g : Nat) (c : Array Value) (hbox : w.cell? ⟨pb, 0, none⟩ = some (.func (.func g) #[] c)) (hgo : ∀ args w, Sem.run Tryz.prog (callFunc g args) w = .ok (.enter g args) w) (r : VL) (hF : (itemsL l).find? (fun v => decide (v.t = 4)) = none → ∀ (w2 : World) (A2 : Option Addr) (cap2 : Nat), Below w.heap.size w w2 → RdI w2 A2 (numsL (itemsL l)) → Calls Tryz.prog g (#[.slice A2 (numsL (itemsL l)).length cap2] ++ c) w2 fun e w' => e = .returned (.agg #[.int .i64 (r).t, .int .i64 (r).n, .string (r).s, .bool (r).b, .int .i64 (r).c]) ∧ Below w2.heap.size w2 w') : Calls Tryz.prog 169 #[.slice A l.length cap, .int .i64 text, .pointer (some ⟨pb, 0, none⟩)] w fun e w' => e = .returned (.agg #[.int .i64 (faultR (itemsL l) r).t, .int .i64 (faultR (itemsL l) r).n, .string (faultR (itemsL l) r).s, .bool (faultR (itemsL l) r).b, .int .i64 (faultR (itemsL l) r).c]) ∧ Below w.heap.size w w' := by
 unfold faultR
 cases h : (itemsL l).find? (fun v => decide (v.t = 4)) with
 | none => exact anum_good l hlen hN text w A cap hR hin pb g c hbox hgo r h (hF h)
 | some x => exact anum_bad l hlen hN text w A cap hR hin pb x (by simpa using List.find?_some h) h
end Go.Proofs.YtgmhifafbebjfaaGreatDoor
namespace Go.Proofs.YtgmhifafbebjfaaGreatDoor
open Go.RowKit

theorem sorti_any (zs : List Int) (hl : zs.length < 4611686018427387904) (w : World) (base : Nat) (v : Value) (h : OwnI w base v zs) : Calls Tryz.prog 183 #[v] w fun e w' => e = .returned (.tuple #[]) ∧ OwnI w' base v (zs.mergeSort fun x y => decide (x ≤ y)) ∧ w.grownBy w' v.ownBlock := by
 have h0 := h
 unfold OwnI at h
 rcases h.2 with ⟨rfl, hz⟩ | ⟨g, cap, cur, rfl, hbase, hb, h1, h2, h3, h4⟩
 ·have hz2 : zs = [] := List.eq_nil_of_length_eq_zero hz
  subst hz2
  refine (Tryz.slices_Sort_i64_none none 0 w).mono fun e w' ⟨h5, h6⟩ => ?_
  subst h6
  exact ⟨h5, by simpa using h0, ⟨rfl, rfl, rfl, Nat.le_refl _, fun _ _ _ => rfl⟩⟩
 ·have hH : Sort.Holds (Value.int .i64) w g 0 zs.toArray := holds_of_blockI hb (by simpa using h4)
  refine (Tryz.slices_Sort_i64 g 0 cap zs w hH (Array.getElem?_eq_some_iff.1 hb).1 hl).mono fun e w' ⟨h5, n, os, h6⟩ => ?_
  subst h6
  refine ⟨h5, ?_, grownBy_sortedI _⟩
  unfold OwnI
  rw [List.length_mergeSort]
  exact ownsRow_sortedI (by simp) hbase hb h1 h2 h3
def intV (v : VL) : Int := if v.asC = 0 then (if wholeB v.asN = true then wholeV v.asN else 0) else 0
def intC (v : VL) : Int := if v.asC = 0 then (if wholeB v.asN = true then 0 else 8) else v.asC
theorem aint_c (v : VL) (hv : v.ok) (c : Int) (hc : v.asC = c) (h : ¬ c = 0) (w : World) : Calls Tryz.prog 182 #[.agg #[.int .i64 v.t, .int .i64 v.n, .string v.s, .bool v.b, .int .i64 v.c]] w fun e w' => e = .returned (.tuple #[.int .i64 0, .int .i64 c]) ∧ Below w.heap.size w w' := by
 have C1 := Lib.hid (asnum_any v hv (w.alloc (.cells #[.int .i64 v.t, .int .i64 v.n, .string v.s, .bool v.b, .int .i64 v.c] 26)))
 have hnb := asN_in v hv
 rw [hc] at C1
 generalize v.asN = x at *
 clear hc
 go_enter Tryz.func182, Tryz.ntmps182
 go_wp2_with fail
 refine C1.out.mono ?_
 clear C1
 rintro e w1 ⟨rfl, hb1⟩
 go_wp2
 go_ret2
 exact ⟨rfl, belq⟩
theorem aint_n (v : VL) (hv : v.ok) (hc : v.asC = 0) (x : Int) (hn : v.asN = x) (hx : wholeB x = false) (w : World) : Calls Tryz.prog 182 #[.agg #[.int .i64 v.t, .int .i64 v.n, .string v.s, .bool v.b, .int .i64 v.c]] w fun e w' => e = .returned (.tuple #[.int .i64 0, .int .i64 8]) ∧ Below w.heap.size w w' := by
 have C1 := Lib.hid (asnum_any v hv (w.alloc (.cells #[.int .i64 v.t, .int .i64 v.n, .string v.s, .bool v.b, .int .i64 v.c] 26)))
 have hnb := asN_in v hv
 rw [hc, hn] at C1
 rw [hn] at hnb
 have C2 := whole_any x (by omega)
 rw [hx] at C2
 have C2' := Lib.hid C2
 clear C2
 generalize wholeV x = y at *
 clear hc hn hx
 go_enter Tryz.func182, Tryz.ntmps182
 go_wp2_with fail
 refine C1.out.mono ?_
 clear C1
 rintro e w1 ⟨rfl, hb1⟩
 go_wp2_with fail
 refine (C2'.out _).mono ?_
 clear C2'
 rintro e w2 ⟨rfl, rfl⟩
 go_wp2
 go_ret2
 exact ⟨rfl, belq⟩
theorem aint_y (v : VL) (hv : v.ok) (hc : v.asC = 0) (x : Int) (hn : v.asN = x) (hx : wholeB x = true) (y : Int) (hy : wholeV x = y) (w : World) : Calls Tryz.prog 182 #[.agg #[.int .i64 v.t, .int .i64 v.n, .string v.s, .bool v.b, .int .i64 v.c]] w fun e w' => e = .returned (.tuple #[.int .i64 y, .int .i64 0]) ∧ Below w.heap.size w w' := by
 have C1 := Lib.hid (asnum_any v hv (w.alloc (.cells #[.int .i64 v.t, .int .i64 v.n, .string v.s, .bool v.b, .int .i64 v.c] 26)))
 have hnb := asN_in v hv
 rw [hc, hn] at C1
 rw [hn] at hnb
 have C2 := whole_any x (by omega)
 rw [hx, hy] at C2
 have C2' := Lib.hid C2
 clear C2
 clear hc hn hx hy
 go_enter Tryz.func182, Tryz.ntmps182
 go_wp2_with fail
 refine C1.out.mono ?_
 clear C1
 rintro e w1 ⟨rfl, hb1⟩
 go_wp2_with fail
 refine (C2'.out _).mono ?_
 clear C2'
 rintro e w2 ⟨rfl, rfl⟩
 go_wp2
 go_ret2
 exact ⟨rfl, belq⟩
theorem aint_any (v : VL) (hv : v.ok) (w : World) : Calls Tryz.prog 182 #[.agg #[.int .i64 v.t, .int .i64 v.n, .string v.s, .bool v.b, .int .i64 v.c]] w fun e w' => e = .returned (.tuple #[.int .i64 (intV v), .int .i64 (intC v)]) ∧ Below w.heap.size w w' := by
 unfold intV intC
 by_cases h : v.asC = 0
 ·rw [if_pos h, if_pos h]
  cases hx : wholeB v.asN
  ·exact aint_n v hv h _ rfl hx w
  ·exact aint_y v hv h _ rfl hx _ rfl w
 ·rw [if_neg h, if_neg h]; exact aint_c v hv _ rfl h w
end Go.Proofs.YtgmhifafbebjfaaGreatDoor
