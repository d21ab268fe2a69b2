/-
 aggs: Call, over what the called function answers.
-/
import Derived.Test.YtgmhifafbebjfaaGreatDoorACall
set_option maxRecDepth 100000
set_option maxHeartbeats 32000000
namespace Go.Proofs.YtgmhifafbebjfaaGreatDoor
open Go.RowKit

structure DoA (name : ByteArray) (l : List AL) (text : Int) (r : VL) : Prop where
 out : ∀ (w : World) (bl : List Nat) (base : Nat) (kd : ByteArray) (lo hi : Int) (d : Value) (A : Option Addr) (cap : Nat), lookL aZero (aTab bl) name = .agg #[.string kd, .int .i64 lo, .int .i64 hi, d] → Bx w base (aSrc bl) → Tab w → l.length ≤ cap → RdB w w.heap.size A 11 (l.map AL.cs) → (∀ x ∈ l, x.In w w.heap.size) →
  ∃ g c, d = .func (.func g) #[] c ∧ (∀ args w, Sem.run Tryz.prog (callFunc g args) w = .ok (.enter g args) w) ∧ Calls Tryz.prog g (#[.slice A l.length cap, .int .i64 text] ++ c) w fun e w' => e = .returned (.agg #[.int .i64 (r).t, .int .i64 (r).n, .string (r).s, .bool (r).b, .int .i64 (r).c]) ∧ Below w.heap.size w w'
structure MaysA (l : List AL) : Prop where
 out : ∀ x ∈ l, ∀ w : World, x.In w w.heap.size → Calls Tryz.prog 37 #[.agg #[.bool x.many, .int .i64 x.v.t, .int .i64 x.v.n, .string x.v.s, .bool x.v.b, .int .i64 x.v.c, .int .i64 x.t, .int .i64 x.l, .int .i64 x.b, .int .i64 x.r, .slice x.A x.es.length x.cap]] w fun e w' => e = .returned (.bool (argMay x)) ∧ Below w.heap.size w w'
def callAS (l : List AL) (r : VL) : VL :=
 match l.find? (fun x => decide (x.v.t = 4)) with
  | some x => x.v
  | none => r
def callA (name : ByteArray) (l : List AL) (text : Int) (r : VL) : VL :=
 if text < 0 ∨ 1024 < text then errL 8
 else if l.all argMay = false then errL 8
 else if takesA name (l.map fun x => x.many) = false then errL 8
 else callAS l r
theorem takesA_known {name : ByteArray} {l : List Bool} (h : takesA name l = true) : aKnown name = true := by
 unfold takesA at h
 simp at h
 exact h.1.1.1
theorem takesA_len {name : ByteArray} {l : List Bool} (h : takesA name l = true) : aLo name ≤ (l.length : Int) ∧ (l.length : Int) ≤ aHi name := by
 unfold takesA at h
 simp at h
 exact ⟨h.1.1.2, h.1.2⟩
theorem aFunc {bl : List Nat} {s kd : ByteArray} {l h : Int} {d : Value} (hk : aKnown s = true) (hh : lookL aZero (aTab bl) s = .agg #[.string kd, .int .i64 l, .int .i64 h, d]) : ∃ g c, d = .func (.func g) #[] c := by
 have : ∃ kd' l' h' g c, lookL aZero (aTab bl) s = .agg #[.string kd', .int .i64 l', .int .i64 h', .func (.func g) #[] c] := by
  unfold aKnown aTab at hk
  unfold aTab
  rw [lookL]
  by_cases h0 : s = ⟨#[67, 79, 76, 83]⟩
  ·repeat (rw [if_pos h0])
   exact ⟨_, _, _, _, _, rfl⟩
  repeat (rw [if_neg h0])
  rw [lookL]
  by_cases h1 : s = ⟨#[82, 79, 87, 83]⟩
  ·repeat (rw [if_pos h1])
   exact ⟨_, _, _, _, _, rfl⟩
  repeat (rw [if_neg h1])
  rw [lookL]
  by_cases h2 : s = ⟨#[74, 79, 73, 78]⟩
  ·repeat (rw [if_pos h2])
   exact ⟨_, _, _, _, _, rfl⟩
  repeat (rw [if_neg h2])
  rw [lookL]
  by_cases h3 : s = ⟨#[76, 65, 82, 71, 69]⟩
  ·repeat (rw [if_pos h3])
   exact ⟨_, _, _, _, _, rfl⟩
  repeat (rw [if_neg h3])
  rw [lookL]
  by_cases h4 : s = ⟨#[73, 78, 68, 69, 88]⟩
  ·repeat (rw [if_pos h4])
   exact ⟨_, _, _, _, _, rfl⟩
  repeat (rw [if_neg h4])
  rw [lookL]
  by_cases h5 : s = ⟨#[76, 79, 79, 75, 85, 80]⟩
  ·repeat (rw [if_pos h5])
   exact ⟨_, _, _, _, _, rfl⟩
  repeat (rw [if_neg h5])
  rw [lookL]
  by_cases h6 : s = ⟨#[77, 65, 84, 67, 72]⟩
  ·repeat (rw [if_pos h6])
   exact ⟨_, _, _, _, _, rfl⟩
  repeat (rw [if_neg h6])
  rw [lookL]
  by_cases h7 : s = ⟨#[83, 85, 77, 73, 70]⟩
  ·repeat (rw [if_pos h7])
   exact ⟨_, _, _, _, _, rfl⟩
  repeat (rw [if_neg h7])
  rw [lookL]
  by_cases h8 : s = ⟨#[67, 79, 85, 78, 84, 73, 70]⟩
  ·repeat (rw [if_pos h8])
   exact ⟨_, _, _, _, _, rfl⟩
  repeat (rw [if_neg h8])
  rw [lookL]
  by_cases h9 : s = ⟨#[66, 76, 65, 78, 75, 83]⟩
  ·repeat (rw [if_pos h9])
   exact ⟨_, _, _, _, _, rfl⟩
  repeat (rw [if_neg h9])
  rw [lookL]
  by_cases h10 : s = ⟨#[67, 79, 85, 78, 84, 65]⟩
  ·repeat (rw [if_pos h10])
   exact ⟨_, _, _, _, _, rfl⟩
  repeat (rw [if_neg h10])
  rw [lookL]
  by_cases h11 : s = ⟨#[67, 79, 85, 78, 84]⟩
  ·repeat (rw [if_pos h11])
   exact ⟨_, _, _, _, _, rfl⟩
  repeat (rw [if_neg h11])
  rw [lookL]
  by_cases h12 : s = ⟨#[77, 69, 68, 73, 65, 78]⟩
  ·repeat (rw [if_pos h12])
   exact ⟨_, _, _, _, _, rfl⟩
  repeat (rw [if_neg h12])
  rw [lookL]
  by_cases h13 : s = ⟨#[65, 86, 71]⟩
  ·repeat (rw [if_pos h13])
   exact ⟨_, _, _, _, _, rfl⟩
  repeat (rw [if_neg h13])
  rw [lookL]
  by_cases h14 : s = ⟨#[77, 65, 88]⟩
  ·repeat (rw [if_pos h14])
   exact ⟨_, _, _, _, _, rfl⟩
  repeat (rw [if_neg h14])
  rw [lookL]
  by_cases h15 : s = ⟨#[77, 73, 78]⟩
  ·repeat (rw [if_pos h15])
   exact ⟨_, _, _, _, _, rfl⟩
  repeat (rw [if_neg h15])
  rw [lookL]
  by_cases h16 : s = ⟨#[80, 82, 79, 68]⟩
  ·repeat (rw [if_pos h16])
   exact ⟨_, _, _, _, _, rfl⟩
  repeat (rw [if_neg h16])
  rw [lookL]
  by_cases h17 : s = ⟨#[83, 85, 77]⟩
  ·repeat (rw [if_pos h17])
   exact ⟨_, _, _, _, _, rfl⟩
  repeat (rw [if_neg h17])
  simp only [hasL] at hk
  simp [h0, h1, h2, h3, h4, h5, h6, h7, h8, h9, h10, h11, h12, h13, h14, h15, h16, h17] at hk
 obtain ⟨kd', l', h', g, c, hd⟩ := this
 rw [hd] at hh
 injection hh with h
 injection h with h
 injection h with _ h
 injection h with _ h
 injection h with _ h
 injection h with h _
 exact ⟨g, c, h.symm⟩
theorem acall_bad (name : ByteArray) (_hs : name.size ≤ 9223372036854775807) (l : List AL) (_hlen : l.length ≤ 1649267441664) (text : Int) (ht : text < 0 ∨ 1024 < text) (r : VL) (w : World) (A : Option Addr) (cap : Nat) : Calls Tryz.prog 8 #[.string name, .slice A l.length cap, .int .i64 text] w fun e w' => e = .returned (.agg #[.int .i64 (callA name l text r).t, .int .i64 (callA name l text r).n, .string (callA name l text r).s, .bool (callA name l text r).b, .int .i64 (callA name l text r).c]) ∧ Below w.heap.size w w' := by
 have hcr : callA name l text r = errL 8 := by unfold callA; rw [if_pos ht]
 have hcr' := Lib.hid hcr
 clear hcr
 have e0 : Below w.heap.size w (w.alloc (.cells #[.int .i64 0, .int .i64 0, .string ⟨#[]⟩, .bool false, .int .i64 0] 26)) := (Below.refl _ _).alloc (Nat.le_refl _) _
 by_cases h0 : text < 0
 ·clear ht
  go_enter Tryz.func8, Tryz.ntmps8
  go_wp2_with (go_at_call 11; refine (verr_any 8 _).mono ?_; rintro e w1 ⟨rfl, hb⟩; obtain ⟨hc, hf, hz⟩ := bkeep hb (w.heap.size + 1) (by first | omega | (simp <;> omega)))
  refine bodyPost_ret (v := .agg #[.int .i64 4, .int .i64 0, .string ⟨#[]⟩, .bool false, .int .i64 (errC 8)]) ?_ rfl ⟨by rw [hcr'.out]; rfl, belq⟩
  simp [results, Tryz.results8, go_sem, *]
 ·have h1 : 1024 < text := by omega
  clear ht
  go_enter Tryz.func8, Tryz.ntmps8
  go_wp2_with (go_at_call 11; refine (verr_any 8 _).mono ?_; rintro e w1 ⟨rfl, hb⟩; obtain ⟨hc, hf, hz⟩ := bkeep hb (w.heap.size + 1) (by first | omega | (simp <;> omega)))
  refine bodyPost_ret (v := .agg #[.int .i64 4, .int .i64 0, .string ⟨#[]⟩, .bool false, .int .i64 (errC 8)]) ?_ rfl ⟨by rw [hcr'.out]; rfl, belq⟩
  simp [results, Tryz.results8, go_sem, *]
theorem acall_any (name : ByteArray) (hs : name.size ≤ 9223372036854775807) (l : List AL) (hlen : l.length ≤ 1649267441664) (text : Int) (ht0 : 0 ≤ text ∧ text ≤ 1024) (r : VL) (hM : MaysA l) (hD : takesA name (l.map fun x => x.many) = true → l.all argMay = true → (∀ x ∈ l, ¬ x.v.t = 4) → DoA name l text r) (w : World) (hTab : Tab w) (A : Option Addr) (cap : Nat) (hcap : l.length ≤ cap) (hR : RdB w w.heap.size A 11 (l.map AL.cs)) (hin : ∀ x ∈ l, x.In w w.heap.size) :
  Calls Tryz.prog 8 #[.string name, .slice A l.length cap, .int .i64 text] w fun e w' => e = .returned (.agg #[.int .i64 (callA name l text r).t, .int .i64 (callA name l text r).n, .string (callA name l text r).s, .bool (callA name l text r).b, .int .i64 (callA name l text r).c]) ∧ Below w.heap.size w w' := by
 obtain ⟨i0, hi, hz0, hz1, hz2⟩ := info_parts bool_info
 have hR' := Lib.hid hR
 have hin' := Lib.hid hin
 have hTab' := Lib.hid hTab
 have hD' := Lib.hid hD
 have htx : ¬ text < 0 := by omega
 have htx2 : ¬ 1024 < text := by omega
 have hct : ∀ v, callA name l text r = v ↔ (if l.all argMay = false then errL 8 else if takesA name (l.map fun x => x.many) = false then errL 8 else callAS l r) = v := fun v => by unfold callA; rw [if_neg (by omega)]
 have hct' := Lib.hid hct
 clear hR hin hTab hD hct ht0
 have b0 : Below w.heap.size w (w.alloc (.cells #[.int .i64 0, .int .i64 0, .string ⟨#[]⟩, .bool false, .int .i64 0] 26)) := (Below.refl _ _).alloc (Nat.le_refl _) _
 go_enter Tryz.func8, Tryz.ntmps8
 go_wp2
 go_loopw [7, 23] (fun v i wr => ∃ k : Nat, k ≤ l.length ∧ i = .int .i64 (k : Int) ∧ Hid (∀ x ∈ l.take k, argMay x = true) ∧ wr.ownsRow (w.heap.size + 1) 4 1 v k ((l.take k).map fun x => Value.bool x.many) ∧ Below (w.heap.size + 1) (w.alloc (.cells #[.int .i64 0, .int .i64 0, .string ⟨#[]⟩, .bool false, .int .i64 0] 26)) wr) (fun _ i _ => l.length - (intOf i).toNat)
 case atStart => exact ⟨0, Nat.zero_le _, rfl, Lib.hid (by simp), World.ownsRow_nil _ _ _ _, Below.refl _ _⟩
 case round =>
  obtain ⟨k, hk, rfl, hall, hown, hbr⟩ := hrel
  have hzr := hbr.size
  simp only [World.size_alloc] at hzr
  have g0 : Below w.heap.size w wr := b0.trans (hbr.mono (by omega))
  obtain ⟨hr0, hr1, hr2, hr3, hr4, hs0, hs1, hs2, hs3, hs4⟩ := res5a (n := w.heap.size) hbr
  by_cases hlt : k < l.length
  ·obtain ⟨x, hx⟩ : ∃ x, l[k]? = some x := ⟨_, List.getElem?_eq_getElem hlt⟩
   have hxm := List.mem_of_getElem? hx
   obtain ⟨ab, ao, hA2, hab, hcell⟩ := (hR'.out.below g0) k x.cs (by rw [List.getElem?_map, hx]; rfl)
   obtain rfl : A = some ⟨ab, ao, none⟩ := hA2
   have hc0 : wr.cell? ⟨ab, ao + k * 11, none⟩ = some (.bool x.many) := hcell 0 _ rfl
   have hc1 : wr.cell? ⟨ab, ao + k * 11 + 1, none⟩ = some (.int .i64 x.v.t) := hcell 1 _ rfl
   have hc2 : wr.cell? ⟨ab, ao + k * 11 + 2, none⟩ = some (.int .i64 x.v.n) := hcell 2 _ rfl
   have hc3 : wr.cell? ⟨ab, ao + k * 11 + 3, none⟩ = some (.string x.v.s) := hcell 3 _ rfl
   have hc4 : wr.cell? ⟨ab, ao + k * 11 + 4, none⟩ = some (.bool x.v.b) := hcell 4 _ rfl
   have hc5 : wr.cell? ⟨ab, ao + k * 11 + 5, none⟩ = some (.int .i64 x.v.c) := hcell 5 _ rfl
   have hc6 : wr.cell? ⟨ab, ao + k * 11 + 6, none⟩ = some (.int .i64 x.t) := hcell 6 _ rfl
   have hc7 : wr.cell? ⟨ab, ao + k * 11 + 7, none⟩ = some (.int .i64 x.l) := hcell 7 _ rfl
   have hc8 : wr.cell? ⟨ab, ao + k * 11 + 8, none⟩ = some (.int .i64 x.b) := hcell 8 _ rfl
   have hc9 : wr.cell? ⟨ab, ao + k * 11 + 9, none⟩ = some (.int .i64 x.r) := hcell 9 _ rfl
   have hc10 : wr.cell? ⟨ab, ao + k * 11 + 10, none⟩ = some (.slice x.A x.es.length x.cap) := hcell 10 _ rfl
   have hin : x.In wr w.heap.size := (hin'.out x hxm).below g0
   have habr : ab < wr.heap.size := by omega
   have hkl : (k : Int) < (l.length : Int) := by omega
   have hne : ab ≠ wr.heap.size := by omega
   have hne2 : w.heap.size ≠ wr.heap.size := by omega
   have hlr : w.heap.size < wr.heap.size := by omega
   have hlr2 : w.heap.size ≤ wr.heap.size := by omega
   have hlr3 : w.heap.size < wr.heap.size + 1 := by omega
   have hlr4 : ab ≤ wr.heap.size := by omega
   have hts : l.take (k + 1) = l.take k ++ [x] := by rw [List.take_add_one, hx]; rfl
   have hts' := Lib.hid hts
   have CM0 := hM.out x hxm
   have hxm' := Lib.hid hxm
   have hx' := Lib.hid hx
   cases hm : argMay x
   ·simp only [hm] at CM0
    have CM := Lib.hid CM0
    have hcr : callA name l text r = errL 8 := (hct'.out _).2 (by rw [if_pos (by rw [List.all_eq_false]; exact ⟨x, hxm, by rw [hm]; simp⟩)])
    have hcr' := Lib.hid hcr
    clear hx hcell hts hxm CM0 hm hcr
    go_wp2_with fail
    refine (CM.out _ (((hin.mono (by omega)).below ((Below.refl _ _).alloc (Nat.le_refl _) _)).mono (by simp))).mono ?_
    rintro e w1 ⟨rfl, hb1⟩
    obtain ⟨hc, hf, hz⟩ := bkeep hb1 (wr.heap.size + 1) (by simp)
    go_wp2_with (go_at_call 11; refine (verr_any 8 _).mono ?_; rintro e w1 ⟨rfl, hb⟩; obtain ⟨hc, hf, hz⟩ := bkeep hb (wr.heap.size + 1) (by first | omega | (simp <;> omega)))
    refine bodyPost_ret (v := .agg #[.int .i64 4, .int .i64 0, .string ⟨#[]⟩, .bool false, .int .i64 (errC 8)]) ?_ rfl ⟨by rw [hcr'.out]; rfl, belq⟩
    simp [results, Tryz.results8, go_sem, *]
   ·simp only [hm] at CM0
    have CM := Lib.hid CM0
    have hm' := Lib.hid hm
    clear hx hcell hts hxm CM0 hm
    go_wp2_with fail
    refine (CM.out _ (((hin.mono (by omega)).below ((Below.refl _ _).alloc (Nat.le_refl _) _)).mono (by simp))).mono ?_
    rintro e w1 ⟨rfl, hb1⟩
    obtain ⟨hc, hf, hz⟩ := bkeep hb1 (wr.heap.size + 1) (by simp)
    have hown1 := ownsRow_below (hown.alloc _) hb1
    have g1 : Below (w.heap.size + 1) (w.alloc (.cells #[.int .i64 0, .int .i64 0, .string ⟨#[]⟩, .bool false, .int .i64 0] 26)) w1 := (hbr.alloc hzr _).trans (hb1.mono (by simp; omega))
    go_wp2_with (at_builtin; refine wpList_append_own_at _ rfl _ _ 31 rfl (w.heap.size + 1) 4 i0 (.bool false) 1 1 Tryz.underlying31 hi hz0 hz1 hz2 rfl (by decide) _ _ _ rfl (hown1.alloc _) ⟨w1.heap.size, 0, none⟩ 1 1 [.bool x.many] rfl rfl (cell_one_new _ _ _) (by simp [Value.oneCell']) (by unfold maxLen; omega) (by omega) (by simp; omega) ?_; intro v' w2 hown2 hgrow2 hnil2 hloc2)
    go_roundw
    case rel =>
     refine ⟨k + 1, by omega, by go_num, Lib.hid (fun y hy => ?_), ?_, ?_⟩
     ·rw [hts'.out] at hy
      rcases List.mem_append.1 hy with h | h
      ·exact hall.out y h
      ·simp at h; subst h; exact hm'.out
     ·rw [hts'.out, List.map_append]; exact hown2
     ·refine (g1.alloc (by omega) _).grown hgrow2 (by simp; omega) (fun j hj => ?_)
      exact (hown1.lt j hj).1
    case measure => simp [intOf]; omega
  ·obtain rfl : k = l.length := by omega
   have htk : l.take l.length = l := List.take_length
   rw [htk] at hown hall
   clear htk
   have hall' := Lib.hid (show l.all argMay = true by rw [List.all_eq_true]; exact hall.out)
   clear hall
   obtain ⟨A2, cap2, rfl, hrd⟩ := ownsRow_rd hown
   have hrd2 : RdB wr wr.heap.size A2 1 ((l.map fun x => x.many).map fun (x : Bool) => [Value.bool x]) := by
    have e : ((l.map fun x => Value.bool x.many).map fun x => [x]) = ((l.map fun x => x.many).map fun (x : Bool) => [Value.bool x]) := by simp
    rw [← e]; exact hrd
   cases ht : takesA name (l.map fun x => x.many)
   ·have CT := atakes_any name hs (l.map fun x => x.many) (by simp; omega) false ht wr A2 cap2 hrd2
    rw [List.length_map] at CT
    have CT' := Lib.hid CT
    have hcr : callA name l text r = errL 8 := (hct'.out _).2 (by rw [if_neg (by rw [hall'.out]; simp), if_pos ht])
    have hcr' := Lib.hid hcr
    have hlr : w.heap.size < wr.heap.size := by omega
    have hlr2 : w.heap.size ≤ wr.heap.size := by omega
    clear CT ht hrd hrd2 hown hcr
    go_wp2_with fail
    refine CT'.out.mono ?_
    clear CT'
    rintro e w1 ⟨rfl, hb1⟩
    obtain ⟨hc, hf, hz⟩ := bkeep hb1 wr.heap.size (by simp)
    go_wp2_with (go_at_call 11; refine (verr_any 8 _).mono ?_; rintro e w1 ⟨rfl, hb⟩; obtain ⟨hc, hf, hz⟩ := bkeep hb (wr.heap.size) (by first | omega | (simp <;> omega)))
    refine bodyPost_ret (v := .agg #[.int .i64 4, .int .i64 0, .string ⟨#[]⟩, .bool false, .int .i64 (errC 8)]) ?_ rfl ⟨by rw [hcr'.out]; rfl, belq⟩
    simp [results, Tryz.results8, go_sem, *]
   ·have CT := atakes_any name hs (l.map fun x => x.many) (by simp; omega) true ht wr A2 cap2 hrd2
    rw [List.length_map] at CT
    have CT' := Lib.hid CT
    have hcr : callA name l text r = callAS l r := (hct'.out _).2 (by rw [if_neg (by rw [hall'.out]; simp), if_neg (by rw [ht]; simp)])
    have hcr' := Lib.hid hcr
    have ht' := Lib.hid ht
    clear CT ht hrd hrd2 hown hcr
    go_wp2_with fail
    refine CT'.out.mono ?_
    clear CT'
    rintro e wt ⟨rfl, hbt⟩
    have gt : Below (w.heap.size + 1) (w.alloc (.cells #[.int .i64 0, .int .i64 0, .string ⟨#[]⟩, .bool false, .int .i64 0] 26)) wt := hbr.trans (hbt.mono (by omega))
    have hzt := gt.size
    simp only [World.size_alloc] at hzt
    clear hr0 hr1 hr2 hr3 hr4 hs0 hs1 hs2 hs3 hs4
    go_wp2
    go_loopw [44] (fun i wr => ∃ k : Nat, k ≤ l.length ∧ i = .int .i64 (k : Int) ∧ Hid (∀ x ∈ l.take k, ¬ x.v.t = 4) ∧ Below (w.heap.size + 1) (w.alloc (.cells #[.int .i64 0, .int .i64 0, .string ⟨#[]⟩, .bool false, .int .i64 0] 26)) wr) (fun i _ => l.length - (intOf i).toNat)
    case atStart => exact ⟨0, Nat.zero_le _, rfl, Lib.hid (by simp), gt⟩
    case round =>
     rename_i wr0 _ _ _
     obtain ⟨k, hk, rfl, hno, hbr⟩ := hrel
     have hzr := hbr.size
     simp only [World.size_alloc] at hzr
     have g0 : Below w.heap.size w wr := b0.trans (hbr.mono (by omega))
     obtain ⟨hr0, hr1, hr2, hr3, hr4, hs0, hs1, hs2, hs3, hs4⟩ := res5a (n := w.heap.size) hbr
     by_cases hlt : k < l.length
     ·obtain ⟨x, hx⟩ : ∃ x, l[k]? = some x := ⟨_, List.getElem?_eq_getElem hlt⟩
      have hxm := List.mem_of_getElem? hx
      obtain ⟨ab, ao, hA2, hab, hcell⟩ := (hR'.out.below g0) k x.cs (by rw [List.getElem?_map, hx]; rfl)
      obtain rfl : A = some ⟨ab, ao, none⟩ := hA2
      have hc0 : wr.cell? ⟨ab, ao + k * 11, none⟩ = some (.bool x.many) := hcell 0 _ rfl
      have hc1 : wr.cell? ⟨ab, ao + k * 11 + 1, none⟩ = some (.int .i64 x.v.t) := hcell 1 _ rfl
      have hc2 : wr.cell? ⟨ab, ao + k * 11 + 2, none⟩ = some (.int .i64 x.v.n) := hcell 2 _ rfl
      have hc3 : wr.cell? ⟨ab, ao + k * 11 + 3, none⟩ = some (.string x.v.s) := hcell 3 _ rfl
      have hc4 : wr.cell? ⟨ab, ao + k * 11 + 4, none⟩ = some (.bool x.v.b) := hcell 4 _ rfl
      have hc5 : wr.cell? ⟨ab, ao + k * 11 + 5, none⟩ = some (.int .i64 x.v.c) := hcell 5 _ rfl
      have hc6 : wr.cell? ⟨ab, ao + k * 11 + 6, none⟩ = some (.int .i64 x.t) := hcell 6 _ rfl
      have hc7 : wr.cell? ⟨ab, ao + k * 11 + 7, none⟩ = some (.int .i64 x.l) := hcell 7 _ rfl
      have hc8 : wr.cell? ⟨ab, ao + k * 11 + 8, none⟩ = some (.int .i64 x.b) := hcell 8 _ rfl
      have hc9 : wr.cell? ⟨ab, ao + k * 11 + 9, none⟩ = some (.int .i64 x.r) := hcell 9 _ rfl
      have hc10 : wr.cell? ⟨ab, ao + k * 11 + 10, none⟩ = some (.slice x.A x.es.length x.cap) := hcell 10 _ rfl
      have hin : x.In wr w.heap.size := (hin'.out x hxm).below g0
      have habr : ab < wr.heap.size := by omega
      have hkl : (k : Int) < (l.length : Int) := by omega
      have hne : ab ≠ wr.heap.size := by omega
      have hne2 : w.heap.size ≠ wr.heap.size := by omega
      have hlr : w.heap.size < wr.heap.size := by omega
      have hlr2 : w.heap.size ≤ wr.heap.size := by omega
      have hlr3 : w.heap.size < wr.heap.size + 1 := by omega
      have hlr4 : ab ≤ wr.heap.size := by omega
      have hts : l.take (k + 1) = l.take k ++ [x] := by rw [List.take_add_one, hx]; rfl
      have hts' := Lib.hid hts
      have hx' := Lib.hid hx
      clear hx hcell hts hxm
      by_cases h4 : x.v.t = 4
      ·have hcs : callAS l r = x.v := by
        have : l.find? (fun x => decide (x.v.t = 4)) = some x := by
         rw [List.find?_eq_some_iff_getElem]
         exact ⟨by simpa using h4, k, hlt, (List.getElem?_eq_some_iff.1 hx'.out).2, fun j hj => by
          simp
          exact hno.out _ (List.mem_take_iff_getElem.2 ⟨j, by omega, rfl⟩)⟩
        unfold callAS; rw [this]
       have hcs' := Lib.hid hcs
       clear hcs
       go_wp2
       refine bodyPost_ret (v := .agg #[.int .i64 x.v.t, .int .i64 x.v.n, .string x.v.s, .bool x.v.b, .int .i64 x.v.c]) ?_ rfl ⟨by rw [hcr'.out, hcs'.out], belq⟩
       simp [results, Tryz.results8, go_sem, *]
      ·have h4b : (x.v.t == 4) = false := by simpa using h4
       have h4' := Lib.hid h4
       clear h4
       go_wp2
       go_roundw
       case rel =>
        refine ⟨k + 1, by omega, by go_num, Lib.hid (fun y hy => ?_), hbr.alloc (by omega) _⟩
        rw [hts'.out] at hy
        rcases List.mem_append.1 hy with h | h
        ·exact hno.out y h
        ·simp at h; subst h; exact h4'.out
       case measure => simp [intOf]; omega
     ·obtain rfl : k = l.length := by omega
      rw [List.take_length] at hno
      have hfn : l.find? (fun x => decide (x.v.t = 4)) = none := by
       rw [List.find?_eq_none]; intro x hx; simpa using hno.out x hx
      have hcs : callAS l r = r := by unfold callAS; rw [hfn]
      have hcs' := Lib.hid hcs
      have hno' := Lib.hid hno.out
      clear hcs hfn hno hr0 hr1 hr2 hr3 hr4 hs0 hs1 hs2 hs3 hs4
      go_wp2_with fail
      refine (afind_any name hs _).mono ?_
      rintro e wf ⟨bl, kd, lo, hi', d, rfl, hlk, hbf, hBx⟩
      obtain ⟨g, c, rfl⟩ := aFunc (takesA_known ht'.out) hlk
      have hlk' := Lib.hid hlk
      have gf : Below (w.heap.size + 1) (w.alloc (.cells #[.int .i64 0, .int .i64 0, .string ⟨#[]⟩, .bool false, .int .i64 0] 26)) wf := hbr.trans (hbf.mono (by omega))
      have hzf := hbf.size
      have bg : Below wf.heap.size wf (wf.alloc (.cells #[.string kd, .int .i64 lo, .int .i64 hi', .func (.func g) #[] c] 74)) := (Below.refl _ _).alloc (Nat.le_refl _) _
      have g1W : Below (w.heap.size + 1) (w.alloc (.cells #[.int .i64 0, .int .i64 0, .string ⟨#[]⟩, .bool false, .int .i64 0] 26)) (wf.alloc (.cells #[.string kd, .int .i64 lo, .int .i64 hi', .func (.func g) #[] c] 74)) := gf.trans (bg.mono (by omega))
      have g0 : Below w.heap.size w (wf.alloc (.cells #[.string kd, .int .i64 lo, .int .i64 hi', .func (.func g) #[] c] 74)) := b0.trans (g1W.mono (by omega))
      have hr0 : (wf.alloc (.cells #[.string kd, .int .i64 lo, .int .i64 hi', .func (.func g) #[] c] 74)).cell? ⟨w.heap.size, 0, none⟩ = some (.int .i64 0) := by rw [g1W.cell (by dsimp only; omega)]; simp
      have hs0 : (wf.alloc (.cells #[.string kd, .int .i64 lo, .int .i64 hi', .func (.func g) #[] c] 74)).frozen? ⟨w.heap.size, 0, none⟩ = false := by rw [g1W.frozen (by dsimp only; omega)]; simp
      have hr1 : (wf.alloc (.cells #[.string kd, .int .i64 lo, .int .i64 hi', .func (.func g) #[] c] 74)).cell? ⟨w.heap.size, 1, none⟩ = some (.int .i64 0) := by rw [g1W.cell (by dsimp only; omega)]; simp
      have hs1 : (wf.alloc (.cells #[.string kd, .int .i64 lo, .int .i64 hi', .func (.func g) #[] c] 74)).frozen? ⟨w.heap.size, 1, none⟩ = false := by rw [g1W.frozen (by dsimp only; omega)]; simp
      have hr2 : (wf.alloc (.cells #[.string kd, .int .i64 lo, .int .i64 hi', .func (.func g) #[] c] 74)).cell? ⟨w.heap.size, 2, none⟩ = some (.string ⟨#[]⟩) := by rw [g1W.cell (by dsimp only; omega)]; simp
      have hs2 : (wf.alloc (.cells #[.string kd, .int .i64 lo, .int .i64 hi', .func (.func g) #[] c] 74)).frozen? ⟨w.heap.size, 2, none⟩ = false := by rw [g1W.frozen (by dsimp only; omega)]; simp
      have hr3 : (wf.alloc (.cells #[.string kd, .int .i64 lo, .int .i64 hi', .func (.func g) #[] c] 74)).cell? ⟨w.heap.size, 3, none⟩ = some (.bool false) := by rw [g1W.cell (by dsimp only; omega)]; simp
      have hs3 : (wf.alloc (.cells #[.string kd, .int .i64 lo, .int .i64 hi', .func (.func g) #[] c] 74)).frozen? ⟨w.heap.size, 3, none⟩ = false := by rw [g1W.frozen (by dsimp only; omega)]; simp
      have hr4 : (wf.alloc (.cells #[.string kd, .int .i64 lo, .int .i64 hi', .func (.func g) #[] c] 74)).cell? ⟨w.heap.size, 4, none⟩ = some (.int .i64 0) := by rw [g1W.cell (by dsimp only; omega)]; simp
      have hs4 : (wf.alloc (.cells #[.string kd, .int .i64 lo, .int .i64 hi', .func (.func g) #[] c] 74)).frozen? ⟨w.heap.size, 4, none⟩ = false := by rw [g1W.frozen (by dsimp only; omega)]; simp
      have hfd : (wf.alloc (.cells #[.string kd, .int .i64 lo, .int .i64 hi', .func (.func g) #[] c] 74)).cell? ⟨wf.heap.size, 3, none⟩ = some (.func (.func g) #[] c) := by simp
      have hws : w.heap.size < (wf.alloc (.cells #[.string kd, .int .i64 lo, .int .i64 hi', .func (.func g) #[] c] 74)).heap.size := by simp; omega
      obtain ⟨g9, c9, he9, hgo, CD⟩ := (hD'.out ht'.out hall'.out hno'.out).out (wf.alloc (.cells #[.string kd, .int .i64 lo, .int .i64 hi', .func (.func g) #[] c] 74)) bl _ _ _ _ _ A cap hlk'.out (hBx.below bg) (Tab.below hTab'.out g0) hcap ((hR'.out.below g0).mono g0.size) (fun x hx => ((hin'.out x hx).below g0).mono g0.size)
      injection he9 with he9 _ hc9
      injection he9 with he9
      subst he9 hc9
      have CD' := Lib.hid CD
      clear hlk CD hBx bg gf hbf
      go_wp2
      generalize (wf.alloc (.cells #[.string kd, .int .i64 lo, .int .i64 hi', .func (.func g) #[] c] 74)) = wx at *
      go_wp2_with fail
      refine CD'.out.mono ?_
      rintro e wd ⟨rfl, hbd⟩
      obtain ⟨hc2, hf2, hz2⟩ := bkeep hbd wx.heap.size (by simp)
      go_wp2
      refine bodyPost_ret (v := .agg #[.int .i64 (r).t, .int .i64 (r).n, .string (r).s, .bool (r).b, .int .i64 (r).c]) ?_ rfl ⟨by rw [hcr'.out, hcs'.out], belq⟩
      simp [results, Tryz.results8, go_sem, *]
end Go.Proofs.YtgmhifafbebjfaaGreatDoor
