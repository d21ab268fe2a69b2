/-
  texts: Call.
-/
import Derived.Test.YtgmhifafbebjfaaGreatDoorTCallK
namespace Go.Proofs.YtgmhifafbebjfaaGreatDoor
open Go.RowKit

theorem takesT_known {name : ByteArray} {n : Nat} {z : Bool} (h : takesT name n z = true) : tKnown name = true := by
  unfold takesT at h
  simp at h
  exact h.1.1.1
set_option maxRecDepth 100000 in
theorem tFunc {b0 b1 b2 b3 : Nat} {s kd : ByteArray} {l : Int} {d : Value} (hk : tKnown s = true) (h : lookL tZero (tTab b0 b1 b2 b3) s = .agg #[.string kd, .int .i64 l, d]) : ∃ g c, d = .func (.func g) #[] c := by
  have : ∃ kd' l' g c, lookL tZero (tTab b0 b1 b2 b3) s = .agg #[.string kd', .int .i64 l', .func (.func g) #[] c] := by
    unfold tKnown tTab at hk
    unfold tTab
    rw [lookL]
    by_cases h0 : s = ⟨#[78, 85, 77]⟩
    · repeat (rw [if_pos h0])
      exact ⟨_, _, _, _, rfl⟩
    repeat (rw [if_neg h0])
    rw [lookL]
    by_cases h1 : s = ⟨#[82, 69, 86]⟩
    · repeat (rw [if_pos h1])
      exact ⟨_, _, _, _, rfl⟩
    repeat (rw [if_neg h1])
    rw [lookL]
    by_cases h2 : s = ⟨#[69, 88, 65, 67, 84]⟩
    · repeat (rw [if_pos h2])
      exact ⟨_, _, _, _, rfl⟩
    repeat (rw [if_neg h2])
    rw [lookL]
    by_cases h3 : s = ⟨#[67, 72, 65, 82]⟩
    · repeat (rw [if_pos h3])
      exact ⟨_, _, _, _, rfl⟩
    repeat (rw [if_neg h3])
    rw [lookL]
    by_cases h4 : s = ⟨#[79, 82, 68]⟩
    · repeat (rw [if_pos h4])
      exact ⟨_, _, _, _, rfl⟩
    repeat (rw [if_neg h4])
    rw [lookL]
    by_cases h5 : s = ⟨#[67, 79, 78, 67, 65, 84]⟩
    · repeat (rw [if_pos h5])
      exact ⟨_, _, _, _, rfl⟩
    repeat (rw [if_neg h5])
    rw [lookL]
    by_cases h6 : s = ⟨#[83, 85, 66, 83, 84]⟩
    · repeat (rw [if_pos h6])
      exact ⟨_, _, _, _, rfl⟩
    repeat (rw [if_neg h6])
    rw [lookL]
    by_cases h7 : s = ⟨#[70, 73, 78, 68]⟩
    · repeat (rw [if_pos h7])
      exact ⟨_, _, _, _, rfl⟩
    repeat (rw [if_neg h7])
    rw [lookL]
    by_cases h8 : s = ⟨#[82, 69, 80, 84]⟩
    · repeat (rw [if_pos h8])
      exact ⟨_, _, _, _, rfl⟩
    repeat (rw [if_neg h8])
    rw [lookL]
    by_cases h9 : s = ⟨#[84, 82, 73, 77]⟩
    · repeat (rw [if_pos h9])
      exact ⟨_, _, _, _, rfl⟩
    repeat (rw [if_neg h9])
    rw [lookL]
    by_cases h10 : s = ⟨#[76, 79, 87, 69, 82]⟩
    · repeat (rw [if_pos h10])
      exact ⟨_, _, _, _, rfl⟩
    repeat (rw [if_neg h10])
    rw [lookL]
    by_cases h11 : s = ⟨#[85, 80, 80, 69, 82]⟩
    · repeat (rw [if_pos h11])
      exact ⟨_, _, _, _, rfl⟩
    repeat (rw [if_neg h11])
    rw [lookL]
    by_cases h12 : s = ⟨#[77, 73, 68]⟩
    · repeat (rw [if_pos h12])
      exact ⟨_, _, _, _, rfl⟩
    repeat (rw [if_neg h12])
    rw [lookL]
    by_cases h13 : s = ⟨#[82, 73, 71, 72, 84]⟩
    · repeat (rw [if_pos h13])
      exact ⟨_, _, _, _, rfl⟩
    repeat (rw [if_neg h13])
    rw [lookL]
    by_cases h14 : s = ⟨#[76, 69, 70, 84]⟩
    · repeat (rw [if_pos h14])
      exact ⟨_, _, _, _, rfl⟩
    repeat (rw [if_neg h14])
    rw [lookL]
    by_cases h15 : s = ⟨#[76, 69, 78]⟩
    · repeat (rw [if_pos h15])
      exact ⟨_, _, _, _, rfl⟩
    repeat (rw [if_neg h15])
    simp only [hasL] at hk
    simp [h0, h1, h2, h3, h4, h5, h6, h7, h8, h9, h10, h11, h12, h13, h14, h15] at hk
  obtain ⟨kd', l', g, c, hd⟩ := this
  rw [hd] at h
  injection h with h
  injection h with h
  injection h with _ h
  injection h with _ h
  injection h with h _
  exact ⟨g, c, h.symm⟩
theorem slice_form {w : World} {B size n : Nat} {e : TypeId} {v : Value} {xs : List Value} (h : w.ownsRow B e size v n xs) : ∃ A cap, v = .slice A n cap := by
  rcases h.2 with ⟨rfl, rfl⟩ | ⟨g, cap, _, rfl, _⟩
  · exact ⟨_, _, rfl⟩
  · exact ⟨_, _, rfl⟩
theorem rows_ne {w : World} {B size1 size2 n1 n2 : Nat} {e1 e2 : TypeId} {v1 v2 : Value} {xs1 xs2 : List Value} (h1 : w.ownsRow B e1 size1 v1 n1 xs1) (h2 : w.ownsRow B e2 size2 v2 n2 xs2) (hne : e1 ≠ e2) : v2.ownBlock = none ∨ v2.ownBlock ≠ v1.ownBlock := by
  rcases h2.2 with ⟨rfl, _⟩ | ⟨g2, cap2, cur2, rfl, _, hh2, _⟩
  · exact .inl rfl
  · refine .inr (fun e => ?_)
    rcases h1.2 with ⟨rfl, _⟩ | ⟨g1, cap1, cur1, rfl, _, hh1, _⟩
    · simp [Value.ownBlock] at e
    · have : g2 = g1 := by simpa [Value.ownBlock] using e
      subst this
      rw [hh1] at hh2
      injection hh2 with hh2
      injection hh2 with _ hh2 _
      exact hne hh2
theorem row_set1 {w : World} {B size n : Nat} {e : TypeId} {v : Value} {xs : List Value} (h : w.ownsRow B e size v n xs) (p : Addr) (u : Value) (hb : p.block < B) : (w.setCell p u).ownsRow B e size v n xs := by
  refine h.kept (row := some p.block) ⟨rfl, rfl, rfl, by simp, fun i _ hi => Below.heap_setCell _ _ _ i (fun e => hi (by rw [e]))⟩ ?_
  cases hv : v.ownBlock with
  | none => exact .inl rfl
  | some g => exact .inr (fun e => by have := (h.lt g hv).1; injection e with e; omega)
theorem bel_grown2 {n : Nat} {w w1 w2 : World} {row : Option Nat} (h : Below n w w1) (hn : n ≤ w1.heap.size) (hg : w1.grownBy w2 row) (hr : ∀ g, row = some g → n ≤ g) : Below n w w2 :=
  h.trans ⟨hg.os, hg.tape, hg.output, hg.size, fun i hi => hg.block i (by omega) (fun e => by have := hr i (by first | exact e | exact e.symm); omega)⟩
theorem bel_set2 {n : Nat} {w w1 : World} (h : Below n w w1) (p : Addr) (v : Value) (hp : n ≤ p.block) : Below n w (w1.setCell p v) :=
  h.trans ⟨rfl, rfl, rfl, by simp, fun i hi => Below.heap_setCell _ _ _ i (by omega)⟩
theorem frozen_al (w : World) (x : Obj) {p : Addr} (hp : p.block < w.heap.size) : (w.alloc x).frozen? p = w.frozen? p := ((Below.refl w.heap.size w).alloc (Nat.le_refl _) x).frozen hp
theorem tPairs_take (name : ByteArray) (l : List AL) (k : Nat) (h1 : k < (tKd name).size) (x : AL) (hx : l[k]? = some x) : (tPairs name l).take (k + 1) = (tPairs name l).take k ++ [((tKd name)[k], x)] := by
  unfold tPairs
  rw [List.take_add_one]
  congr 1
  rw [List.getElem?_zip_eq_some (z := ((tKd name)[k], x)) |>.2 ⟨by rw [List.getElem?_eq_getElem (by simpa using h1)]; rfl, hx⟩]
  rfl
theorem tPairs_all (name : ByteArray) (l : List AL) (_h : l.length ≤ (tKd name).size) : (tPairs name l).take l.length = tPairs name l := by
  refine List.take_of_length_le ?_
  unfold tPairs
  rw [List.length_zip]
  omega
theorem takesT_len {name : ByteArray} {n : Nat} {z : Bool} (h : takesT name n z = true) : n ≤ (tKd name).size ∧ z = false := by
  unfold takesT at h
  simp at h
  exact ⟨h.1.2, by simpa using h.2⟩
theorem tsingle {name : ByteArray} {l : List AL} (h : takesT name l.length (l.any fun x => (true == x.many)) = true) (hall : l.all argMay = true) (hno : ∀ x ∈ l, ¬ x.v.t = 4) : ∀ x ∈ l, x.v.may = true ∧ ¬ x.v.t = 4 := by
  intro x hx
  have h1 := (takesT_len h).2
  rw [List.any_eq_false] at h1
  have h2 : x.many = false := by have := h1 x hx; simpa using this
  have h3 := List.all_eq_true.1 hall x hx
  unfold argMay at h3
  rw [h2] at h3
  simp at h3
  exact ⟨h3.2, hno x hx⟩
set_option maxRecDepth 100000 in
set_option maxHeartbeats 16000000 in
theorem tcall_any (name : ByteArray) (hs : name.size ≤ 9223372036854775807) (l : List AL) (hlen : l.length ≤ 1649267441664) (text : Int) (ht0 : 0 ≤ text ∧ text ≤ 1024) (r : VL) (hM : MaysT l) (hD : takesT name l.length (l.any fun x => (true == x.many)) = true → (∀ x ∈ l, x.v.may = true ∧ ¬ x.v.t = 4) → gE (tPairs name l) = none → DoT name (gS (tPairs name l)) (gN (tPairs name l)) text r) (w : World) (hTab : Tab w) (A : Option Addr) (cap : Nat) (hR : RdB w w.heap.size A 11 (l.map AL.cs)) (hin : ∀ x ∈ l, x.In w w.heap.size) :
    Calls Tryz.prog 5 #[.string name, .slice A l.length cap, .int .i64 text] w fun e w' => e = .returned (.agg #[.int .i64 (callT name l text r).t, .int .i64 (callT name l text r).n, .string (callT name l text r).s, .bool (callT name l text r).b, .int .i64 (callT name l text r).c]) ∧ Below w.heap.size w w' := by
  obtain ⟨i0, hi, hz0, hz1, hz2⟩ := info_parts bool_info
  obtain ⟨j0, hj, hy0, hy1, hy2⟩ := info_parts str_info
  obtain ⟨m0, hm0, hx0, hx1, hx2⟩ := info_parts tint_info
  have hR' := Lib.hid hR
  have hin' := Lib.hid hin
  have hTab' := Lib.hid hTab
  have hD' := Lib.hid hD
  have htx : ¬ text < 0 := by omega
  have htx2 : ¬ 1024 < text := by omega
  have hct : ∀ v, callT name l text r = v ↔ (if l.all argMay = false then errL 8 else if takesT name l.length (l.any fun x => (true == x.many)) = false then errL 8 else callTS name l r) = v := fun v => by unfold callT; rw [if_neg (by omega)]
  have hct' := Lib.hid hct
  clear hR hin hTab hD hct ht0
  have b0 : Below w.heap.size w (w.alloc (.cells #[.int .i64 0, .int .i64 0, .string ⟨#[]⟩, .bool false, .int .i64 0] 26)) := (Below.refl _ _).alloc (Nat.le_refl _) _
  go_enter Tryz.func5, Tryz.ntmps5
  go_wp2
  go_loopw [7, 32] (fun v i wr => ∃ k : Nat, k ≤ l.length ∧ i = .int .i64 (k : Int) ∧ Hid (∀ x ∈ l.take k, argMay x = true) ∧ wr.ownsRow (w.heap.size + 1) 4 1 v k ((l.take k).map fun x => Value.bool x.many) ∧ Below (w.heap.size + 1) (w.alloc (.cells #[.int .i64 0, .int .i64 0, .string ⟨#[]⟩, .bool false, .int .i64 0] 26)) wr) (fun _ i _ => l.length - (intOf i).toNat)
  case atStart => exact ⟨0, Nat.zero_le _, rfl, Lib.hid (by simp), World.ownsRow_nil _ _ _ _, Below.refl _ _⟩
  case round =>
    obtain ⟨k, hk, rfl, hall, hown, hbr⟩ := hrel
    have hzr := hbr.size
    simp only [World.size_alloc] at hzr
    have g0 : Below w.heap.size w wr := b0.trans (hbr.mono (by omega))
    have hr0 : wr.cell? ⟨w.heap.size, 0, none⟩ = some (.int .i64 0) := by rw [hbr.cell (by dsimp only; omega)]; simp
    have hs0 : wr.frozen? ⟨w.heap.size, 0, none⟩ = false := by rw [hbr.frozen (by dsimp only; omega)]; simp
    have hr1 : wr.cell? ⟨w.heap.size, 1, none⟩ = some (.int .i64 0) := by rw [hbr.cell (by dsimp only; omega)]; simp
    have hs1 : wr.frozen? ⟨w.heap.size, 1, none⟩ = false := by rw [hbr.frozen (by dsimp only; omega)]; simp
    have hr2 : wr.cell? ⟨w.heap.size, 2, none⟩ = some (.string ⟨#[]⟩) := by rw [hbr.cell (by dsimp only; omega)]; simp
    have hs2 : wr.frozen? ⟨w.heap.size, 2, none⟩ = false := by rw [hbr.frozen (by dsimp only; omega)]; simp
    have hr3 : wr.cell? ⟨w.heap.size, 3, none⟩ = some (.bool false) := by rw [hbr.cell (by dsimp only; omega)]; simp
    have hs3 : wr.frozen? ⟨w.heap.size, 3, none⟩ = false := by rw [hbr.frozen (by dsimp only; omega)]; simp
    have hr4 : wr.cell? ⟨w.heap.size, 4, none⟩ = some (.int .i64 0) := by rw [hbr.cell (by dsimp only; omega)]; simp
    have hs4 : wr.frozen? ⟨w.heap.size, 4, none⟩ = false := by rw [hbr.frozen (by dsimp only; omega)]; simp
    by_cases hlt : k < l.length
    · obtain ⟨x, hx⟩ : ∃ x, l[k]? = some x := ⟨_, List.getElem?_eq_getElem hlt⟩
      have hxm := List.mem_of_getElem? hx
      obtain ⟨ab, ao, hA2, hab, hcell⟩ := (hR'.out.below g0) k x.cs (by rw [List.getElem?_map, hx]; rfl)
      obtain rfl : A = some ⟨ab, ao, none⟩ := hA2
      have hc0 : wr.cell? ⟨ab, ao + k * 11, none⟩ = some (.bool x.many) := hcell 0 _ rfl
      have hc1 : wr.cell? ⟨ab, ao + k * 11 + 1, none⟩ = some (.int .i64 x.v.t) := hcell 1 _ rfl
      have hc2 : wr.cell? ⟨ab, ao + k * 11 + 2, none⟩ = some (.int .i64 x.v.n) := hcell 2 _ rfl
      have hc3 : wr.cell? ⟨ab, ao + k * 11 + 3, none⟩ = some (.string x.v.s) := hcell 3 _ rfl
      have hc4 : wr.cell? ⟨ab, ao + k * 11 + 4, none⟩ = some (.bool x.v.b) := hcell 4 _ rfl
      have hc5 : wr.cell? ⟨ab, ao + k * 11 + 5, none⟩ = some (.int .i64 x.v.c) := hcell 5 _ rfl
      have hc6 : wr.cell? ⟨ab, ao + k * 11 + 6, none⟩ = some (.int .i64 x.t) := hcell 6 _ rfl
      have hc7 : wr.cell? ⟨ab, ao + k * 11 + 7, none⟩ = some (.int .i64 x.l) := hcell 7 _ rfl
      have hc8 : wr.cell? ⟨ab, ao + k * 11 + 8, none⟩ = some (.int .i64 x.b) := hcell 8 _ rfl
      have hc9 : wr.cell? ⟨ab, ao + k * 11 + 9, none⟩ = some (.int .i64 x.r) := hcell 9 _ rfl
      have hc10 : wr.cell? ⟨ab, ao + k * 11 + 10, none⟩ = some (.slice x.A x.es.length x.cap) := hcell 10 _ rfl
      have hin : x.In wr w.heap.size := (hin'.out x hxm).below g0
      have habr : ab < wr.heap.size := by omega
      have hkl : (k : Int) < (l.length : Int) := by omega
      have hne : ab ≠ wr.heap.size := by omega
      have hne2 : w.heap.size ≠ wr.heap.size := by omega
      have hlr : w.heap.size < wr.heap.size := by omega
      have hlr2 : w.heap.size ≤ wr.heap.size := by omega
      have hlr3 : w.heap.size < wr.heap.size + 1 := by omega
      have hlr4 : ab ≤ wr.heap.size := by omega
      have hts : l.take (k + 1) = l.take k ++ [x] := by rw [List.take_add_one, hx]; rfl
      have hts' := Lib.hid hts
      have CM0 := hM.out x hxm
      have hxm' := Lib.hid hxm
      have hx' := Lib.hid hx
      cases hm : argMay x
      · simp only [hm] at CM0
        have CM := Lib.hid CM0
        have hcr : callT name l text r = errL 8 := (hct'.out _).2 (by rw [if_pos (by rw [List.all_eq_false]; exact ⟨x, hxm, by rw [hm]; simp⟩)])
        have hcr' := Lib.hid hcr
        clear hx hcell hts hxm CM0 hm hcr
        go_wp2_with fail
        refine (CM.out _ (((hin.mono (by omega)).below ((Below.refl _ _).alloc (Nat.le_refl _) _)).mono (by simp))).mono ?_
        rintro e w1 ⟨rfl, hb1⟩
        obtain ⟨hc, hf, hz⟩ := bkeep hb1 (wr.heap.size + 1) (by simp)
        go_wp2_with (go_at_call 11; refine (verr_any 8 _).mono ?_; rintro e w1 ⟨rfl, hb⟩; obtain ⟨hc, hf, hz⟩ := bkeep hb (wr.heap.size + 1) (by first | omega | (simp <;> omega)))
        refine bodyPost_ret (v := .agg #[.int .i64 4, .int .i64 0, .string ⟨#[]⟩, .bool false, .int .i64 (errC 8)]) ?_ rfl ⟨by rw [hcr'.out]; rfl, by (repeat (first | (with_reducible exact Below.refl _ _) | (with_reducible refine Below.alloc ?_ (by first | omega | (dsimp only; omega) | (simp <;> omega)) _) | (with_reducible refine Below.setCell ?_ (by first | omega | (dsimp only; omega) | (simp <;> omega)) _) | (with_reducible refine Below.drew ?_) | (with_reducible refine below_drewN ?_ _) | (with_reducible refine Below.trans ?_ (Below.mono (by assumption) (by first | omega | (dsimp only; omega) | (simp <;> omega))))))⟩
        simp [results, Tryz.results5, go_sem, *]
      · simp only [hm] at CM0
        have CM := Lib.hid CM0
        have hm' := Lib.hid hm
        clear hx hcell hts hxm CM0 hm
        go_wp2_with fail
        refine (CM.out _ (((hin.mono (by omega)).below ((Below.refl _ _).alloc (Nat.le_refl _) _)).mono (by simp))).mono ?_
        rintro e w1 ⟨rfl, hb1⟩
        obtain ⟨hc, hf, hz⟩ := bkeep hb1 (wr.heap.size + 1) (by simp)
        have hown1 := ownsRow_below (hown.alloc _) hb1
        have g1 : Below (w.heap.size + 1) (w.alloc (.cells #[.int .i64 0, .int .i64 0, .string ⟨#[]⟩, .bool false, .int .i64 0] 26)) w1 := (hbr.alloc hzr _).trans (hb1.mono (by simp; omega))
        go_wp2_with (at_builtin; refine wpList_append_own_at _ rfl _ _ 31 rfl (w.heap.size + 1) 4 i0 (.bool false) 1 1 Tryz.underlying31 hi hz0 hz1 hz2 rfl (by decide) _ _ _ rfl (hown1.alloc _) ⟨w1.heap.size, 0, none⟩ 1 1 [.bool x.many] rfl rfl (cell_one_new _ _ _) (by simp [Value.oneCell']) (by unfold maxLen; omega) (by omega) (by simp; omega) ?_; intro v' w2 hown2 hgrow2 hnil2 hloc2)
        go_roundw
        case rel =>
          refine ⟨k + 1, by omega, by go_num, Lib.hid (fun y hy => ?_), ?_, ?_⟩
          · rw [hts'.out] at hy
            rcases List.mem_append.1 hy with h | h
            · exact hall.out y h
            · simp at h; subst h; exact hm'.out
          · rw [hts'.out, List.map_append]; exact hown2
          · refine (g1.alloc (by omega) _).grown hgrow2 (by simp; omega) (fun j hj => ?_)
            exact (hown1.lt j hj).1
        case measure => simp [intOf]; omega
    · obtain rfl : k = l.length := by omega
      have htk : l.take l.length = l := List.take_length
      rw [htk] at hown hall
      clear htk
      have hall' := Lib.hid (show l.all argMay = true by rw [List.all_eq_true]; exact hall.out)
      clear hall
      obtain ⟨A2, cap2, rfl, hrd⟩ := ownsRow_rd hown
      have hrd2 : RdB wr wr.heap.size A2 1 ((l.map fun x => x.many).map fun (x : Bool) => [Value.bool x]) := by
        have e : ((l.map fun x => Value.bool x.many).map fun x => [x]) = ((l.map fun x => x.many).map fun (x : Bool) => [Value.bool x]) := by simp
        rw [← e]; exact hrd
      cases ht : takesT name l.length (l.any fun x => (true == x.many))
      · have CT := ttakes_any name hs (l.map fun x => x.many) (by simp; omega) false (by rw [List.length_map, List.any_map]; exact ht) wr A2 cap2 hrd2
        rw [List.length_map] at CT
        have CT' := Lib.hid CT
        have hcr : callT name l text r = errL 8 := (hct'.out _).2 (by rw [if_neg (by rw [hall'.out]; simp), if_pos ht])
        have hcr' := Lib.hid hcr
        have hlr : w.heap.size < wr.heap.size := by omega
        have hlr2 : w.heap.size ≤ wr.heap.size := by omega
        clear CT ht hrd hrd2 hown hcr
        go_wp2_with fail
        refine CT'.out.mono ?_
        clear CT'
        rintro e w1 ⟨rfl, hb1⟩
        obtain ⟨hc, hf, hz⟩ := bkeep hb1 wr.heap.size (by simp)
        go_wp2_with (go_at_call 11; refine (verr_any 8 _).mono ?_; rintro e w1 ⟨rfl, hb⟩; obtain ⟨hc, hf, hz⟩ := bkeep hb (wr.heap.size) (by first | omega | (simp <;> omega)))
        refine bodyPost_ret (v := .agg #[.int .i64 4, .int .i64 0, .string ⟨#[]⟩, .bool false, .int .i64 (errC 8)]) ?_ rfl ⟨by rw [hcr'.out]; rfl, by (repeat (first | (with_reducible exact Below.refl _ _) | (with_reducible refine Below.alloc ?_ (by first | omega | (dsimp only; omega) | (simp <;> omega)) _) | (with_reducible refine Below.setCell ?_ (by first | omega | (dsimp only; omega) | (simp <;> omega)) _) | (with_reducible refine Below.drew ?_) | (with_reducible refine below_drewN ?_ _) | (with_reducible refine Below.trans ?_ (Below.mono (by assumption) (by first | omega | (dsimp only; omega) | (simp <;> omega))))))⟩
        simp [results, Tryz.results5, go_sem, *]
      · have CT := ttakes_any name hs (l.map fun x => x.many) (by simp; omega) true (by rw [List.length_map, List.any_map]; exact ht) wr A2 cap2 hrd2
        rw [List.length_map] at CT
        have CT' := Lib.hid CT
        have hcr : callT name l text r = callTS name l r := (hct'.out _).2 (by rw [if_neg (by rw [hall'.out]; simp), if_neg (by rw [ht]; simp)])
        have hcr' := Lib.hid hcr
        have ht' := Lib.hid ht
        clear CT ht hrd hrd2 hown hcr
        go_wp2_with fail
        refine CT'.out.mono ?_
        clear CT'
        rintro e wt ⟨rfl, hbt⟩
        have gt : Below (w.heap.size + 1) (w.alloc (.cells #[.int .i64 0, .int .i64 0, .string ⟨#[]⟩, .bool false, .int .i64 0] 26)) wt := hbr.trans (hbt.mono (by omega))
        have hzt := gt.size
        simp only [World.size_alloc] at hzt
        clear hr0 hr1 hr2 hr3 hr4 hs0 hs1 hs2 hs3 hs4
        go_wp2
        go_loopw [53] (fun i wr => ∃ k : Nat, k ≤ l.length ∧ i = .int .i64 (k : Int) ∧ Hid (∀ x ∈ l.take k, ¬ x.v.t = 4) ∧ Below (w.heap.size + 1) (w.alloc (.cells #[.int .i64 0, .int .i64 0, .string ⟨#[]⟩, .bool false, .int .i64 0] 26)) wr) (fun i _ => l.length - (intOf i).toNat)
        case atStart => exact ⟨0, Nat.zero_le _, rfl, Lib.hid (by simp), gt⟩
        case round =>
          rename_i wr0 _ _ _
          obtain ⟨k, hk, rfl, hno, hbr⟩ := hrel
          have hzr := hbr.size
          simp only [World.size_alloc] at hzr
          have g0 : Below w.heap.size w wr := b0.trans (hbr.mono (by omega))
          have hr0 : wr.cell? ⟨w.heap.size, 0, none⟩ = some (.int .i64 0) := by rw [hbr.cell (by dsimp only; omega)]; simp
          have hs0 : wr.frozen? ⟨w.heap.size, 0, none⟩ = false := by rw [hbr.frozen (by dsimp only; omega)]; simp
          have hr1 : wr.cell? ⟨w.heap.size, 1, none⟩ = some (.int .i64 0) := by rw [hbr.cell (by dsimp only; omega)]; simp
          have hs1 : wr.frozen? ⟨w.heap.size, 1, none⟩ = false := by rw [hbr.frozen (by dsimp only; omega)]; simp
          have hr2 : wr.cell? ⟨w.heap.size, 2, none⟩ = some (.string ⟨#[]⟩) := by rw [hbr.cell (by dsimp only; omega)]; simp
          have hs2 : wr.frozen? ⟨w.heap.size, 2, none⟩ = false := by rw [hbr.frozen (by dsimp only; omega)]; simp
          have hr3 : wr.cell? ⟨w.heap.size, 3, none⟩ = some (.bool false) := by rw [hbr.cell (by dsimp only; omega)]; simp
          have hs3 : wr.frozen? ⟨w.heap.size, 3, none⟩ = false := by rw [hbr.frozen (by dsimp only; omega)]; simp
          have hr4 : wr.cell? ⟨w.heap.size, 4, none⟩ = some (.int .i64 0) := by rw [hbr.cell (by dsimp only; omega)]; simp
          have hs4 : wr.frozen? ⟨w.heap.size, 4, none⟩ = false := by rw [hbr.frozen (by dsimp only; omega)]; simp
          by_cases hlt : k < l.length
          · obtain ⟨x, hx⟩ : ∃ x, l[k]? = some x := ⟨_, List.getElem?_eq_getElem hlt⟩
            have hxm := List.mem_of_getElem? hx
            obtain ⟨ab, ao, hA2, hab, hcell⟩ := (hR'.out.below g0) k x.cs (by rw [List.getElem?_map, hx]; rfl)
            obtain rfl : A = some ⟨ab, ao, none⟩ := hA2
            have hc0 : wr.cell? ⟨ab, ao + k * 11, none⟩ = some (.bool x.many) := hcell 0 _ rfl
            have hc1 : wr.cell? ⟨ab, ao + k * 11 + 1, none⟩ = some (.int .i64 x.v.t) := hcell 1 _ rfl
            have hc2 : wr.cell? ⟨ab, ao + k * 11 + 2, none⟩ = some (.int .i64 x.v.n) := hcell 2 _ rfl
            have hc3 : wr.cell? ⟨ab, ao + k * 11 + 3, none⟩ = some (.string x.v.s) := hcell 3 _ rfl
            have hc4 : wr.cell? ⟨ab, ao + k * 11 + 4, none⟩ = some (.bool x.v.b) := hcell 4 _ rfl
            have hc5 : wr.cell? ⟨ab, ao + k * 11 + 5, none⟩ = some (.int .i64 x.v.c) := hcell 5 _ rfl
            have hc6 : wr.cell? ⟨ab, ao + k * 11 + 6, none⟩ = some (.int .i64 x.t) := hcell 6 _ rfl
            have hc7 : wr.cell? ⟨ab, ao + k * 11 + 7, none⟩ = some (.int .i64 x.l) := hcell 7 _ rfl
            have hc8 : wr.cell? ⟨ab, ao + k * 11 + 8, none⟩ = some (.int .i64 x.b) := hcell 8 _ rfl
            have hc9 : wr.cell? ⟨ab, ao + k * 11 + 9, none⟩ = some (.int .i64 x.r) := hcell 9 _ rfl
            have hc10 : wr.cell? ⟨ab, ao + k * 11 + 10, none⟩ = some (.slice x.A x.es.length x.cap) := hcell 10 _ rfl
            have hin : x.In wr w.heap.size := (hin'.out x hxm).below g0
            have habr : ab < wr.heap.size := by omega
            have hkl : (k : Int) < (l.length : Int) := by omega
            have hne : ab ≠ wr.heap.size := by omega
            have hne2 : w.heap.size ≠ wr.heap.size := by omega
            have hlr : w.heap.size < wr.heap.size := by omega
            have hlr2 : w.heap.size ≤ wr.heap.size := by omega
            have hlr3 : w.heap.size < wr.heap.size + 1 := by omega
            have hlr4 : ab ≤ wr.heap.size := by omega
            have hts : l.take (k + 1) = l.take k ++ [x] := by rw [List.take_add_one, hx]; rfl
            have hts' := Lib.hid hts
            have hx' := Lib.hid hx
            clear hx hcell hts hxm
            by_cases h4 : x.v.t = 4
            · have hcs : callTS name l r = x.v := by
                have : l.find? (fun x => decide (x.v.t = 4)) = some x := by
                  rw [List.find?_eq_some_iff_getElem]
                  exact ⟨by simpa using h4, k, hlt, (List.getElem?_eq_some_iff.1 hx'.out).2, fun j hj => by
                    simp
                    exact hno.out _ (List.mem_take_iff_getElem.2 ⟨j, by omega, rfl⟩)⟩
                unfold callTS; rw [this]
              have hcs' := Lib.hid hcs
              clear hcs
              go_wp2
              refine bodyPost_ret (v := .agg #[.int .i64 x.v.t, .int .i64 x.v.n, .string x.v.s, .bool x.v.b, .int .i64 x.v.c]) ?_ rfl ⟨by rw [hcr'.out, hcs'.out], by (repeat (first | (with_reducible exact Below.refl _ _) | (with_reducible refine Below.alloc ?_ (by first | omega | (dsimp only; omega) | (simp <;> omega)) _) | (with_reducible refine Below.setCell ?_ (by first | omega | (dsimp only; omega) | (simp <;> omega)) _) | (with_reducible refine Below.drew ?_) | (with_reducible refine below_drewN ?_ _) | (with_reducible refine Below.trans ?_ (Below.mono (by assumption) (by first | omega | (dsimp only; omega) | (simp <;> omega))))))⟩
              simp [results, Tryz.results5, go_sem, *]
            · have h4b : (x.v.t == 4) = false := by simpa using h4
              have h4' := Lib.hid h4
              clear h4
              go_wp2
              go_roundw
              case rel =>
                refine ⟨k + 1, by omega, by go_num, Lib.hid (fun y hy => ?_), hbr.alloc (by omega) _⟩
                rw [hts'.out] at hy
                rcases List.mem_append.1 hy with h | h
                · exact hno.out y h
                · simp at h; subst h; exact h4'.out
              case measure => simp [intOf]; omega
          · obtain rfl : k = l.length := by omega
            rw [List.take_length] at hno
            have hfn : l.find? (fun x => decide (x.v.t = 4)) = none := by
              rw [List.find?_eq_none]; intro x hx; simpa using hno.out x hx
            have hcs : callTS name l r = match gE (tPairs name l) with | some c => errL c | none => r := by unfold callTS; rw [hfn]; rfl
            have hcs' := Lib.hid hcs
            have hsng := Lib.hid (tsingle ht'.out hall'.out hno.out)
            have hkl16 := Lib.hid (takesT_len ht'.out)
            clear hcs hfn hno hr0 hr1 hr2 hr3 hr4 hs0 hs1 hs2 hs3 hs4
            go_wp2_with fail
            refine (tfind_any name hs _).mono ?_
            rintro e wf ⟨b0', b1', b2', b3', kd, lo, d, rfl, hlk, hbf, hd0, hd1, hd2, hd3⟩
            have hfm := tForm hlk
            obtain ⟨rfl, rfl⟩ := tLook _ _ _ _ _ hlk
            have hlk' := Lib.hid hlk
            have gf : Below (w.heap.size + 1) (w.alloc (.cells #[.int .i64 0, .int .i64 0, .string ⟨#[]⟩, .bool false, .int .i64 0] 26)) wf := hbr.trans (hbf.mono (by omega))
            have hzf := hbf.size
            clear hlk
            obtain ⟨g, c, rfl⟩ := tFunc (takesT_known ht'.out) hlk'.out
            clear hfm
            have hzf2 : w.heap.size + 1 ≤ wf.heap.size := by omega
            have bg : Below wf.heap.size wf ((wf.alloc (.cells #[.string (tKd name), .int .i64 (tLo name), .func (.func g) #[] c] 41)).alloc (.cells #[.slice none 0 0, .slice none 0 0, .int .i64 text] 47)) := ((Below.refl _ _).alloc (Nat.le_refl _) _).alloc (by simp) _
            go_wp2
            go_loopw [73] (fun i wr => ∃ (k : Nat) (vs vn : Value), k ≤ l.length ∧ i = .int .i64 (k : Int) ∧ Hid (gE ((tPairs name l).take k) = none) ∧ wr.cell? ⟨(wf.heap.size + 1), 0, none⟩ = some vs ∧ wr.cell? ⟨(wf.heap.size + 1), 1, none⟩ = some vn ∧ wr.cell? ⟨(wf.heap.size + 1), 2, none⟩ = some (.int .i64 text) ∧ (∀ o, wr.frozen? ⟨(wf.heap.size + 1), o, none⟩ = false) ∧ Hid (wr.ownsRow (wf.heap.size + 1 + 1) 9 1 vs (gS ((tPairs name l).take k)).length ((gS ((tPairs name l).take k)).map Value.string)) ∧ Hid (wr.ownsRow (wf.heap.size + 1 + 1) 3 1 vn (gN ((tPairs name l).take k)).length ((gN ((tPairs name l).take k)).map (Value.int .i64))) ∧ Below (wf.heap.size + 1) ((wf.alloc (.cells #[.string (tKd name), .int .i64 (tLo name), .func (.func g) #[] c] 41)).alloc (.cells #[.slice none 0 0, .slice none 0 0, .int .i64 text] 47)) wr ∧ (wf.heap.size + 1) < wr.heap.size) (fun i _ => l.length - (intOf i).toNat)
            case atStart => exact ⟨0, .slice none 0 0, .slice none 0 0, by omega, rfl, Lib.hid rfl, by simp, by simp, by simp, fun o => by simp, Lib.hid (World.ownsRow_nil _ _ _ _), Lib.hid (World.ownsRow_nil _ _ _ _), Below.refl _ _, by simp⟩
            case round =>
              obtain ⟨k, vs, vn, hk, rfl, hgEp, c0, c1, c2, cf, hoS, hoN, hbr3, hgl⟩ := hrel
              have hzr3 := hbr3.size
              simp only [World.size_alloc] at hzr3
              have g1W : Below (w.heap.size + 1) (w.alloc (.cells #[.int .i64 0, .int .i64 0, .string ⟨#[]⟩, .bool false, .int .i64 0] 26)) wr := gf.trans ((bg.mono (by omega)).trans (hbr3.mono (by omega)))
              have g0 : Below w.heap.size w wr := b0.trans (g1W.mono (by omega))
              have hfk : wr.cell? ⟨wf.heap.size, 0, none⟩ = some (.string (tKd name)) := (hbr3.cell (p := ⟨wf.heap.size, 0, none⟩) (by dsimp only; omega)).trans (by simp)
              have hfd : wr.cell? ⟨wf.heap.size, 2, none⟩ = some (.func (.func g) #[] c) := (hbr3.cell (p := ⟨wf.heap.size, 2, none⟩) (by dsimp only; omega)).trans (by simp)
              have hr0 : wr.cell? ⟨w.heap.size, 0, none⟩ = some (.int .i64 0) := by rw [g1W.cell (by dsimp only; omega)]; simp
              have hs0 : wr.frozen? ⟨w.heap.size, 0, none⟩ = false := by rw [g1W.frozen (by dsimp only; omega)]; simp
              have hr1 : wr.cell? ⟨w.heap.size, 1, none⟩ = some (.int .i64 0) := by rw [g1W.cell (by dsimp only; omega)]; simp
              have hs1 : wr.frozen? ⟨w.heap.size, 1, none⟩ = false := by rw [g1W.frozen (by dsimp only; omega)]; simp
              have hr2 : wr.cell? ⟨w.heap.size, 2, none⟩ = some (.string ⟨#[]⟩) := by rw [g1W.cell (by dsimp only; omega)]; simp
              have hs2 : wr.frozen? ⟨w.heap.size, 2, none⟩ = false := by rw [g1W.frozen (by dsimp only; omega)]; simp
              have hr3 : wr.cell? ⟨w.heap.size, 3, none⟩ = some (.bool false) := by rw [g1W.cell (by dsimp only; omega)]; simp
              have hs3 : wr.frozen? ⟨w.heap.size, 3, none⟩ = false := by rw [g1W.frozen (by dsimp only; omega)]; simp
              have hr4 : wr.cell? ⟨w.heap.size, 4, none⟩ = some (.int .i64 0) := by rw [g1W.cell (by dsimp only; omega)]; simp
              have hs4 : wr.frozen? ⟨w.heap.size, 4, none⟩ = false := by rw [g1W.frozen (by dsimp only; omega)]; simp
              have hlenS := gS_len ((tPairs name l).take k)
              have hfl : wf.heap.size < wr.heap.size := by omega
              have hfn : wf.heap.size ≠ wr.heap.size := by omega
              have hgn : wf.heap.size + 1 ≠ wr.heap.size := by omega
              have hlenN := gN_len ((tPairs name l).take k)
              have hlenP : ((tPairs name l).take k).length ≤ k := List.length_take_le _ _
              by_cases hlt : k < l.length
              · obtain ⟨x, hx⟩ : ∃ x, l[k]? = some x := ⟨_, List.getElem?_eq_getElem hlt⟩
                have hxm := List.mem_of_getElem? hx
                obtain ⟨ab, ao, hA2, hab, hcell⟩ := (hR'.out.below g0) k x.cs (by rw [List.getElem?_map, hx]; rfl)
                obtain rfl : A = some ⟨ab, ao, none⟩ := hA2
                have hc0 : wr.cell? ⟨ab, ao + k * 11, none⟩ = some (.bool x.many) := hcell 0 _ rfl
                have hc1 : wr.cell? ⟨ab, ao + k * 11 + 1, none⟩ = some (.int .i64 x.v.t) := hcell 1 _ rfl
                have hc2 : wr.cell? ⟨ab, ao + k * 11 + 2, none⟩ = some (.int .i64 x.v.n) := hcell 2 _ rfl
                have hc3 : wr.cell? ⟨ab, ao + k * 11 + 3, none⟩ = some (.string x.v.s) := hcell 3 _ rfl
                have hc4 : wr.cell? ⟨ab, ao + k * 11 + 4, none⟩ = some (.bool x.v.b) := hcell 4 _ rfl
                have hc5 : wr.cell? ⟨ab, ao + k * 11 + 5, none⟩ = some (.int .i64 x.v.c) := hcell 5 _ rfl
                have hc6 : wr.cell? ⟨ab, ao + k * 11 + 6, none⟩ = some (.int .i64 x.t) := hcell 6 _ rfl
                have hc7 : wr.cell? ⟨ab, ao + k * 11 + 7, none⟩ = some (.int .i64 x.l) := hcell 7 _ rfl
                have hc8 : wr.cell? ⟨ab, ao + k * 11 + 8, none⟩ = some (.int .i64 x.b) := hcell 8 _ rfl
                have hc9 : wr.cell? ⟨ab, ao + k * 11 + 9, none⟩ = some (.int .i64 x.r) := hcell 9 _ rfl
                have hc10 : wr.cell? ⟨ab, ao + k * 11 + 10, none⟩ = some (.slice x.A x.es.length x.cap) := hcell 10 _ rfl
                have hin : x.In wr w.heap.size := (hin'.out x hxm).below g0
                have habr : ab < wr.heap.size := by omega
                have hkl : (k : Int) < (l.length : Int) := by omega
                have hne : ab ≠ wr.heap.size := by omega
                have hne2 : w.heap.size ≠ wr.heap.size := by omega
                have hlr : w.heap.size < wr.heap.size := by omega
                have hlr2 : w.heap.size ≤ wr.heap.size := by omega
                have hlr3 : w.heap.size < wr.heap.size + 1 := by omega
                have hlr4 : ab ≤ wr.heap.size := by omega
                obtain ⟨hvm, hv4⟩ := hsng.out x hxm
                have hkk : k < (tKd name).size := by have := hkl16.out.1; omega
                have hts := tPairs_take name l k hkk x hx
                obtain ⟨kc, hkc⟩ : ∃ kc, (tKd name)[k] = kc := ⟨_, rfl⟩
                rw [hkc] at hts
                have hgsK0 := gS_snoc ((tPairs name l).take k) (kc, x)
                have hgnK0 := gN_snoc ((tPairs name l).take k) (kc, x)
                have hgEk0 := gE_snoc ((tPairs name l).take k) (kc, x) hgEp.out
                rw [← hts] at hgsK0 hgnK0 hgEk0
                simp only at hgsK0 hgnK0 hgEk0
                have hkc' := Lib.hid hkc
                have hvm' := Lib.hid hvm
                have hgEf : ∀ cde, gE ((tPairs name l).take (k + 1)) = some cde → gE (tPairs name l) = some cde := fun cde h => by
                  have := gE_some _ ((tPairs name l).drop (k + 1)) cde h
                  rwa [List.take_append_drop] at this
                have hgEf' := Lib.hid hgEf
                clear hx hcell hxm hkc hts hvm hgEf
                by_cases hs : kc = 115
                · subst hs
                  rw [if_pos rfl] at hgsK0 hgnK0 hgEk0
                  rw [List.append_nil] at hgnK0
                  have hgsK := Lib.hid hgsK0
                  have hgnK := Lib.hid hgnK0
                  have hgEk := Lib.hid hgEk0
                  have hb115 : (((tKd name)[k].toNat : Int) == 115) = true := by rw [hkc'.out]; rfl
                  clear hgsK0 hgnK0 hgEk0
                  go_wp2_with fail
                  refine (astext_any x.v hin.1 hvm'.out hv4 _ (Tab.below hTab'.out (g0.alloc (by omega) _))).mono ?_
                  rintro e w1 ⟨rfl, hb1⟩
                  have bx : Below wr.heap.size wr w1 := ((Below.refl _ _).alloc (Nat.le_refl _) _).trans (hb1.mono (by simp))
                  clear hb1 hb115
                  obtain ⟨tt, htt⟩ : ∃ tt, x.v.asT = tt := ⟨_, rfl⟩
                  rw [htt]
                  have htt' := Lib.hid htt
                  clear htt
                  have q0 := (bx.cell (p := ⟨(wf.heap.size + 1), 0, none⟩) (by dsimp only; omega)).trans c0
                  have q1 := (bx.cell (p := ⟨(wf.heap.size + 1), 1, none⟩) (by dsimp only; omega)).trans c1
                  have q2 := (bx.cell (p := ⟨(wf.heap.size + 1), 2, none⟩) (by dsimp only; omega)).trans c2
                  have qf : ∀ o, w1.frozen? ⟨(wf.heap.size + 1), o, none⟩ = false := fun o => (bx.frozen (p := ⟨(wf.heap.size + 1), o, none⟩) (by dsimp only; omega)).trans (cf o)
                  have hs1 := Lib.hid (ownsRow_below hoS.out bx)
                  have hn1 := Lib.hid (ownsRow_below hoN.out bx)
                  have bw : Below (wf.heap.size + 1) ((wf.alloc (.cells #[.string (tKd name), .int .i64 (tLo name), .func (.func g) #[] c] 41)).alloc (.cells #[.slice none 0 0, .slice none 0 0, .int .i64 text] 47)) w1 := hbr3.trans (bx.mono (by omega))
                  have hzx := bx.size
                  obtain ⟨As, cs, hvs⟩ := slice_form hoS.out
                  subst hvs
                  obtain ⟨An, cn, hvn⟩ := slice_form hoN.out
                  subst hvn
                  go_wp2_with (first
                    | (at_builtin; go_loud (refine wpList_append_own_at _ rfl _ _ 44 rfl (wf.heap.size + 1 + 1) 9 j0 (.string ⟨#[]⟩) 1 16 Tryz.underlying44 hj hy0 hy1 hy2 rfl (by decide) _ _ _ rfl (hs1.out.alloc _) ⟨w1.heap.size, 0, none⟩ 1 1 [.string tt] rfl rfl (cell_one_new _ _ _) (by simp [Value.oneCell']) (by unfold maxLen; omega) (by omega) (by simp; omega) ?_); intro v' w5 hown5 hgrow5 _ _; go_loud (have hgb5 := hgrow5.block (wf.heap.size + 1) (by simp; omega) (fun e => by have := (hs1.out.lt _ (by first | exact e | exact e.symm)).1; omega)); go_loud (have p0 := (World.cell?_of_block (a := ⟨(wf.heap.size + 1), 0, none⟩) hgb5).trans ((World.cell?_alloc_lt _ _ ⟨(wf.heap.size + 1), 0, none⟩ (by dsimp only; omega)).trans q0)); have p1 := (World.cell?_of_block (a := ⟨(wf.heap.size + 1), 1, none⟩) hgb5).trans ((World.cell?_alloc_lt _ _ ⟨(wf.heap.size + 1), 1, none⟩ (by dsimp only; omega)).trans q1); have p2 := (World.cell?_of_block (a := ⟨(wf.heap.size + 1), 2, none⟩) hgb5).trans ((World.cell?_alloc_lt _ _ ⟨(wf.heap.size + 1), 2, none⟩ (by dsimp only; omega)).trans q2); go_loud (have pf : ∀ o, w5.frozen? ⟨(wf.heap.size + 1), o, none⟩ = false := fun o => (World.frozen?_of_block (a := ⟨(wf.heap.size + 1), o, none⟩) hgb5).trans ((frozen_al w1 _ (by dsimp only; omega)).trans (qf o))); go_loud (have ho5 := Lib.hid ((hn1.out.alloc (.cells #[.string tt] 9)).kept hgrow5 (rows_ne hs1.out hn1.out (by decide)))); have hown5' := Lib.hid hown5; have bl5 := Lib.hid (bel_grown2 (bw.alloc (by omega) (.cells #[.string tt] 9)) (by simp; omega) hgrow5 (fun gg hgg => by have := (hs1.out.lt gg hgg).1; omega)); obtain ⟨A5, c5, hv5⟩ := slice_form hown5'.out; subst hv5; have hz5 := hgrow5.size; simp only [World.size_alloc] at hz5; clear hgb5 hgrow5 hown5)
                    | fail)
                  go_roundw
                  case rel =>
                    refine ⟨k + 1, _, _, by omega, by go_num, hgEk, World.cell?_setCell_same' _ _ _ (by rw [p0]; rfl), (World.cell?_setCell_other _ _ _ _ (by simp)).trans p1, (World.cell?_setCell_other _ _ _ _ (by simp)).trans p2, fun o => by rw [World.frozen?_setCell]; exact pf o, Lib.hid ?_, Lib.hid ?_, bel_set2 bl5.out _ _ (by first | omega | (simp; done) | (dsimp only; omega)), by first | omega | (simp; omega)⟩
                    · rw [hgsK.out, htt'.out, List.map_append, List.length_append]; exact row_set1 hown5'.out _ _ (by first | omega | (simp; done) | (dsimp only; omega))
                    · rw [hgnK.out]; exact row_set1 ho5.out _ _ (by first | omega | (simp; done) | (dsimp only; omega))
                  case measure => simp [intOf]; omega
                · have hb115 : (((tKd name)[k].toNat : Int) == 115) = false := by
                    rw [hkc'.out]
                    have : kc.toNat ≠ 115 := fun h => hs (UInt8.toNat_inj.1 h)
                    simp; omega
                  rw [if_neg hs] at hgsK0 hgnK0 hgEk0
                  rw [List.append_nil] at hgsK0
                  obtain ⟨nn, hnn⟩ : ∃ nn, x.v.asN = nn := ⟨_, rfl⟩
                  obtain ⟨cc, hcc⟩ : ∃ cc, x.v.asC = cc := ⟨_, rfl⟩
                  have CN0 := asnum_any x.v hin.1
                  have hbN := asN_in x.v hin.1
                  unfold eOf at hgEk0
                  simp only [hnn, hcc] at CN0 hgnK0 hgEk0 hbN
                  have CN := Lib.hid CN0
                  have hgsK := Lib.hid hgsK0
                  have hgnK := Lib.hid hgnK0
                  clear hgsK0 hgnK0 CN0 hnn hcc hs
                  by_cases hc0 : cc = 0
                  · subst hc0
                    simp only [ne_eq, not_true_eq_false, if_false] at hgEk0
                    obtain ⟨wv, hwv⟩ : ∃ wv, wholeV nn = wv := ⟨_, rfl⟩
                    obtain ⟨wb, hwb⟩ : ∃ wb, wholeB nn = wb := ⟨_, rfl⟩
                    have CW0 := whole_any nn (by omega)
                    simp only [hwv, hwb] at CW0 hgEk0
                    have CW := Lib.hid CW0
                    have hwv' := Lib.hid hwv
                    clear CW0 hwb hwv
                    cases wb
                    · rw [if_neg (by simp)] at hgEk0
                      have hcs2 : callTS name l r = errL 8 := by rw [hcs'.out, hgEf'.out _ hgEk0]
                      have hcs2' := Lib.hid hcs2
                      clear hcs2 hgEk0
                      go_wp2_with fail
                      refine (CN.out _).mono ?_
                      rintro e w1 ⟨rfl, hb1⟩
                      have bx : Below wr.heap.size wr w1 := ((Below.refl _ _).alloc (Nat.le_refl _) _).trans (hb1.mono (by simp))
                      obtain ⟨hc, hf, hz⟩ := bkeep bx (wr.heap.size) (by omega)
                      clear hb1
                      go_wp2_with fail
                      refine (CW.out _).mono ?_
                      rintro e w2 ⟨rfl, rfl⟩
                      go_wp2_with (go_at_call 11; refine (verr_any 8 _).mono ?_; rintro e w1 ⟨rfl, hb⟩; obtain ⟨hc, hf, hz⟩ := bkeep hb (wr.heap.size) (by first | omega | (simp <;> omega)))
                      refine bodyPost_ret (v := .agg #[.int .i64 4, .int .i64 0, .string ⟨#[]⟩, .bool false, .int .i64 (errC 8)]) ?_ rfl ⟨by rw [hcr'.out, hcs2'.out]; rfl, by (repeat (first | (with_reducible exact Below.refl _ _) | (with_reducible refine Below.alloc ?_ (by first | omega | (dsimp only; omega) | (simp <;> omega)) _) | (with_reducible refine Below.setCell ?_ (by first | omega | (dsimp only; omega) | (simp <;> omega)) _) | (with_reducible refine Below.drew ?_) | (with_reducible refine below_drewN ?_ _) | (with_reducible refine Below.trans ?_ (Below.mono (by assumption) (by first | omega | (dsimp only; omega) | (simp <;> omega))))))⟩
                      simp [results, Tryz.results5, go_sem, *]
                    · rw [if_pos rfl] at hgEk0
                      have hgEk := Lib.hid hgEk0
                      clear hgEk0
                      go_wp2_with fail
                      refine (CN.out _).mono ?_
                      rintro e w1 ⟨rfl, hb1⟩
                      have bx : Below wr.heap.size wr w1 := ((Below.refl _ _).alloc (Nat.le_refl _) _).trans (hb1.mono (by simp))
                      clear hb1
                      go_wp2_with fail
                      refine (CW.out _).mono ?_
                      rintro e w2 ⟨rfl, rfl⟩
                      have q0 := (bx.cell (p := ⟨(wf.heap.size + 1), 0, none⟩) (by dsimp only; omega)).trans c0
                      have q1 := (bx.cell (p := ⟨(wf.heap.size + 1), 1, none⟩) (by dsimp only; omega)).trans c1
                      have q2 := (bx.cell (p := ⟨(wf.heap.size + 1), 2, none⟩) (by dsimp only; omega)).trans c2
                      have qf : ∀ o, w1.frozen? ⟨(wf.heap.size + 1), o, none⟩ = false := fun o => (bx.frozen (p := ⟨(wf.heap.size + 1), o, none⟩) (by dsimp only; omega)).trans (cf o)
                      have hs1 := Lib.hid (ownsRow_below hoS.out bx)
                      have hn1 := Lib.hid (ownsRow_below hoN.out bx)
                      have bw : Below (wf.heap.size + 1) ((wf.alloc (.cells #[.string (tKd name), .int .i64 (tLo name), .func (.func g) #[] c] 41)).alloc (.cells #[.slice none 0 0, .slice none 0 0, .int .i64 text] 47)) w1 := hbr3.trans (bx.mono (by omega))
                      have hzx := bx.size
                      obtain ⟨As, cs, hvs⟩ := slice_form hoS.out
                      subst hvs
                      obtain ⟨An, cn, hvn⟩ := slice_form hoN.out
                      subst hvn
                      go_wp2_with (first
                        | (at_builtin; go_loud (refine wpList_append_own_at _ rfl _ _ 45 rfl (wf.heap.size + 1 + 1) 3 m0 (.int .i64 0) 1 8 Tryz.underlying45 hm0 hx0 hx1 hx2 rfl (by decide) _ _ _ rfl (hn1.out.alloc _) ⟨w1.heap.size, 0, none⟩ 1 1 [.int .i64 wv] rfl rfl (cell_one_new _ _ _) (by simp [Value.oneCell']) (by unfold maxLen; omega) (by omega) (by simp; omega) ?_); intro v' w5 hown5 hgrow5 _ _; go_loud (have hgb5 := hgrow5.block (wf.heap.size + 1) (by simp; omega) (fun e => by have := (hn1.out.lt _ (by first | exact e | exact e.symm)).1; omega)); go_loud (have p0 := (World.cell?_of_block (a := ⟨(wf.heap.size + 1), 0, none⟩) hgb5).trans ((World.cell?_alloc_lt _ _ ⟨(wf.heap.size + 1), 0, none⟩ (by dsimp only; omega)).trans q0)); have p1 := (World.cell?_of_block (a := ⟨(wf.heap.size + 1), 1, none⟩) hgb5).trans ((World.cell?_alloc_lt _ _ ⟨(wf.heap.size + 1), 1, none⟩ (by dsimp only; omega)).trans q1); have p2 := (World.cell?_of_block (a := ⟨(wf.heap.size + 1), 2, none⟩) hgb5).trans ((World.cell?_alloc_lt _ _ ⟨(wf.heap.size + 1), 2, none⟩ (by dsimp only; omega)).trans q2); go_loud (have pf : ∀ o, w5.frozen? ⟨(wf.heap.size + 1), o, none⟩ = false := fun o => (World.frozen?_of_block (a := ⟨(wf.heap.size + 1), o, none⟩) hgb5).trans ((frozen_al w1 _ (by dsimp only; omega)).trans (qf o))); go_loud (have ho5 := Lib.hid ((hs1.out.alloc (.cells #[.int .i64 wv] 3)).kept hgrow5 (rows_ne hn1.out hs1.out (by decide)))); have hown5' := Lib.hid hown5; have bl5 := Lib.hid (bel_grown2 (bw.alloc (by omega) (.cells #[.int .i64 wv] 3)) (by simp; omega) hgrow5 (fun gg hgg => by have := (hn1.out.lt gg hgg).1; omega)); obtain ⟨A5, c5, hv5⟩ := slice_form hown5'.out; subst hv5; have hz5 := hgrow5.size; simp only [World.size_alloc] at hz5; clear hgb5 hgrow5 hown5)
                        | fail)
                      go_roundw
                      case rel =>
                        refine ⟨k + 1, _, _, by omega, by go_num, hgEk, (World.cell?_setCell_other _ _ _ _ (by simp)).trans p0, World.cell?_setCell_same' _ _ _ (by rw [p1]; rfl), (World.cell?_setCell_other _ _ _ _ (by simp)).trans p2, fun o => by rw [World.frozen?_setCell]; exact pf o, Lib.hid ?_, Lib.hid ?_, bel_set2 bl5.out _ _ (by first | omega | (simp; done) | (dsimp only; omega)), by first | omega | (simp; omega)⟩
                        · rw [hgsK.out]; exact row_set1 ho5.out _ _ (by first | omega | (simp; done) | (dsimp only; omega))
                        · rw [hgnK.out, hwv'.out, List.map_append, List.length_append]; exact row_set1 hown5'.out _ _ (by first | omega | (simp; done) | (dsimp only; omega))
                      case measure => simp [intOf]; omega
                  · rw [if_pos hc0] at hgEk0
                    have hcs2 : callTS name l r = errL cc := by rw [hcs'.out, hgEf'.out _ hgEk0]
                    have hcs2' := Lib.hid hcs2
                    have hcb : (cc != 0) = true := by simpa using hc0
                    clear hcs2 hc0 hgEk0
                    go_wp2_with fail
                    refine (CN.out _).mono ?_
                    rintro e w1 ⟨rfl, hb1⟩
                    have bx : Below wr.heap.size wr w1 := ((Below.refl _ _).alloc (Nat.le_refl _) _).trans (hb1.mono (by simp))
                    obtain ⟨hc, hf, hz⟩ := bkeep bx (wr.heap.size) (by omega)
                    clear hb1
                    go_wp2_with (go_at_call 11; refine (verr_any cc _).mono ?_; rintro e w1 ⟨rfl, hb⟩; obtain ⟨hc, hf, hz⟩ := bkeep hb (wr.heap.size) (by first | omega | (simp <;> omega)))
                    refine bodyPost_ret (v := .agg #[.int .i64 4, .int .i64 0, .string ⟨#[]⟩, .bool false, .int .i64 (errC cc)]) ?_ rfl ⟨by rw [hcr'.out, hcs2'.out]; rfl, by (repeat (first | (with_reducible exact Below.refl _ _) | (with_reducible refine Below.alloc ?_ (by first | omega | (dsimp only; omega) | (simp <;> omega)) _) | (with_reducible refine Below.setCell ?_ (by first | omega | (dsimp only; omega) | (simp <;> omega)) _) | (with_reducible refine Below.drew ?_) | (with_reducible refine below_drewN ?_ _) | (with_reducible refine Below.trans ?_ (Below.mono (by assumption) (by first | omega | (dsimp only; omega) | (simp <;> omega))))))⟩
                    simp [results, Tryz.results5, go_sem, *]
              · obtain rfl : k = l.length := by omega
                have hpall := tPairs_all name l hkl16.out.1
                rw [hpall] at hoS hoN hgEp
                have DT := hD'.out ht'.out hsng.out hgEp.out
                have hcs2 : callTS name l r = r := by rw [hcs'.out, hgEp.out]
                have hcs2' := Lib.hid hcs2
                have hRS : RdStr wr vs (gS (tPairs name l)) := by
                  obtain ⟨A9, c9, e9, h9⟩ := ownsRow_rd hoS.out
                  exact ⟨A9, c9, e9, by rw [List.map_map] at h9; exact h9⟩
                have hRN : RdInt wr vn (gN (tPairs name l)) := by
                  obtain ⟨A9, c9, e9, h9⟩ := ownsRow_rd hoN.out
                  exact ⟨A9, c9, e9, by rw [List.map_map] at h9; exact h9⟩
                have up : ∀ (b : Nat) (v : Value), wf.cell? ⟨b, 0, none⟩ = some v → wr.cell? ⟨b, 0, none⟩ = some v := fun b v h => by
                  have hb := cell_lt h
                  exact (hbr3.cell (p := ⟨b, 0, none⟩) (by dsimp only; omega)).trans ((bg.cell (p := ⟨b, 0, none⟩) hb).trans h)
                obtain ⟨g9, c9, he9, hgo, CD⟩ := DT.out wr b0' b1' b2' b3' _ _ _ vs vn hlk'.out (up _ _ hd0) (up _ _ hd1) (up _ _ hd2) (up _ _ hd3) (Tab.below hTab'.out g0) hRS hRN
                injection he9 with he9 _ hc9
                injection he9 with he9
                subst he9 hc9
                have CD' := Lib.hid CD
                obtain ⟨As, cs, hvs⟩ := slice_form hoS.out
                subst hvs
                obtain ⟨An, cn, hvn⟩ := slice_form hoN.out
                subst hvn
                have hlr : w.heap.size < wr.heap.size := by omega
                have hlr2 : w.heap.size ≤ wr.heap.size := by omega
                clear hpall DT hcs2 CD hRS hRN up hd0 hd1 hd2 hd3
                go_wp2_with fail
                refine CD'.out.mono ?_
                rintro e wd ⟨rfl, hbd⟩
                obtain ⟨hc2, hf2, hz2⟩ := bkeep hbd wr.heap.size (by simp)
                go_wp2
                refine bodyPost_ret (v := .agg #[.int .i64 (r).t, .int .i64 (r).n, .string (r).s, .bool (r).b, .int .i64 (r).c]) ?_ rfl ⟨by rw [hcr'.out, hcs2'.out], by (repeat (first | (with_reducible exact Below.refl _ _) | (with_reducible refine Below.alloc ?_ (by first | omega | (dsimp only; omega) | (simp <;> omega)) _) | (with_reducible refine Below.setCell ?_ (by first | omega | (dsimp only; omega) | (simp <;> omega)) _) | (with_reducible refine Below.drew ?_) | (with_reducible refine below_drewN ?_ _) | (with_reducible refine Below.trans ?_ (Below.mono (by assumption) (by first | omega | (dsimp only; omega) | (simp <;> omega))))))⟩
                simp [results, Tryz.results5, go_sem, *]
            
end Go.Proofs.YtgmhifafbebjfaaGreatDoor
