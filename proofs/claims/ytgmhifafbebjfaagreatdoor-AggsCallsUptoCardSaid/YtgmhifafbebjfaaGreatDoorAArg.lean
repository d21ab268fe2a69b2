/-
 Arguments of functions: may they be? (aggs).
-/
import Derived.Test.YtgmhifafbebjfaaGreatDoorMg5
set_option maxRecDepth 100000
set_option maxHeartbeats 32000000
namespace Go.Proofs.YtgmhifafbebjfaaGreatDoor
open Go.RowKit

theorem gmay_single (t n : Int) (s : ByteArray) (b : Bool) (c : Int) (hn : -9223372036854775808 ≤ n ∧ n ≤ 9223372036854775807) (rt rl rb rr : Int) (A : Option Addr) (m cap : Nat) (w : World) : Calls Tryz.prog 37 #[.agg #[.bool false, .int .i64 t, .int .i64 n, .string s, .bool b, .int .i64 c, .int .i64 rt, .int .i64 rl, .int .i64 rb, .int .i64 rr, .slice A m cap]] w fun e w' => e = .returned (.bool (((decide (rt = 0) && decide (rl = 0) && decide (rb = 0) && decide (rr = 0)) && decide (m = 0)) && vMay t n s b c)) ∧ Below w.heap.size w w' := by
 go_enter Tryz.func37, Tryz.ntmps37
 go_wp2_with (go_at_call 59; refine (vmay_any t n s b c hn _).mono ?_; rintro e w1 ⟨rfl, hb⟩)
 all_goals go_ret
 all_goals refine ⟨ret_b ?_, belq⟩
 all_goals simp [*]
theorem gmay_m0 (t n : Int) (s : ByteArray) (b : Bool) (c : Int) (_hn : -9223372036854775808 ≤ n ∧ n ≤ 9223372036854775807) (rt rl rb rr : Int) (A : Option Addr) (m cap : Nat) (h1 : mayRectB rt rl rb rr = false) (w : World) : Calls Tryz.prog 37 #[.agg #[.bool true, .int .i64 t, .int .i64 n, .string s, .bool b, .int .i64 c, .int .i64 rt, .int .i64 rl, .int .i64 rb, .int .i64 rr, .slice A m cap]] w fun e w' => e = .returned (.bool false) ∧ Below w.heap.size w w' := by
 go_enter Tryz.func37, Tryz.ntmps37
 go_wp2_with (go_at_call 60; refine (mayRect_any rt rl rb rr _).mono ?_; rintro e w1 ⟨rfl, hb⟩; obtain ⟨hc, hf, hz⟩ := bkeep hb (w.heap.size + 1) (by first | omega | (simp <;> omega)))
 go_ret
 exact ⟨rfl, belq⟩
theorem gmay_m1 (t n : Int) (s : ByteArray) (b : Bool) (c : Int) (_hn : -9223372036854775808 ≤ n ∧ n ≤ 9223372036854775807) (rt rl rb rr : Int) (A : Option Addr) (m cap : Nat) (h1 : mayRectB rt rl rb rr = true) (h2 : vEq t n s b c 0 0 ⟨#[]⟩ false 0 = false) (w : World) : Calls Tryz.prog 37 #[.agg #[.bool true, .int .i64 t, .int .i64 n, .string s, .bool b, .int .i64 c, .int .i64 rt, .int .i64 rl, .int .i64 rb, .int .i64 rr, .slice A m cap]] w fun e w' => e = .returned (.bool false) ∧ Below w.heap.size w w' := by
 go_enter Tryz.func37, Tryz.ntmps37
 go_wp2_with (go_at_call 60; refine (mayRect_any rt rl rb rr _).mono ?_; rintro e w1 ⟨rfl, hb⟩; obtain ⟨hc, hf, hz⟩ := bkeep hb (w.heap.size + 1) (by first | omega | (simp <;> omega)))
 go_ret
 exact ⟨rfl, belq⟩
theorem gmay_many (t n : Int) (s : ByteArray) (b : Bool) (c : Int) (hn : -9223372036854775808 ≤ n ∧ n ≤ 9223372036854775807) (rt rl rb rr : Int) (A : Option Addr) (m cap : Nat) (x : AL) (hA : x.A = A) (hm : x.es.length = m) (hrt : x.t = rt) (hrl : x.l = rl) (hrb : x.b = rb) (hrr : x.r = rr) (h1 : mayRectB rt rl rb rr = true) (h2 : vEq t n s b c 0 0 ⟨#[]⟩ false 0 = true) (w : World) (hR : RdB w w.heap.size x.A 7 (x.es.map EL.cs)) (hes : ∀ e ∈ x.es, e.v.ok) (hmx : m ≤ 9223372036854775807) : Calls Tryz.prog 37 #[.agg #[.bool true, .int .i64 t, .int .i64 n, .string s, .bool b, .int .i64 c, .int .i64 rt, .int .i64 rl, .int .i64 rb, .int .i64 rr, .slice A m cap]] w fun e w' => e = .returned (.bool (entsOk x)) ∧ Below w.heap.size w w' := by
 have hA' := Lib.hid hA
 have hm' := Lib.hid hm
 have hrt' := Lib.hid hrt
 have hrl' := Lib.hid hrl
 have hrb' := Lib.hid hrb
 have hrr' := Lib.hid hrr
 have hR' := Lib.hid hR
 have hes' := Lib.hid hes
 clear hA hm hrt hrl hrb hrr hR hes
 go_enter Tryz.func37, Tryz.ntmps37
 go_wp2_with (go_at_call 60; refine (mayRect_any rt rl rb rr _).mono ?_; rintro e w1 ⟨rfl, hb⟩; obtain ⟨hc, hf, hz⟩ := bkeep hb (w.heap.size + 1) (by first | omega | (simp <;> omega)))
 go_loopw [36] (fun i wr => ∃ k : Nat, k ≤ m ∧ i = .int .i64 (k : Int) ∧ (∀ j, j < k → entOk x j = true) ∧ Below (w.heap.size + 1) w1 wr) (fun i _ => m - (intOf i).toNat)
 case atStart => exact ⟨0, Nat.zero_le _, rfl, fun j hj => absurd hj (by omega), Below.refl _ _⟩
 case round =>
  obtain ⟨k, hk, rfl, hall, hbr⟩ := hrel
  have hall' := Lib.hid hall
  have hzr := hbr.size
  have g0 : Below w.heap.size w wr := ((Below.refl _ _).alloc (Nat.le_refl _) _).trans ((hb.mono (by simp)).trans (hbr.mono (by omega)))
  have hxs : entsOk x = (List.range m).all (entOk x) := by unfold entsOk; rw [hm'.out]
  have hxs' := Lib.hid hxs
  clear hall hxs
  by_cases hlt : k < m
  ·rcases k with _ | j
   ·obtain ⟨e, he⟩ : ∃ e, x.es[0]? = some e := ⟨_, List.getElem?_eq_getElem (by rw [hm'.out]; exact hlt)⟩
    obtain ⟨eb, eo, hA2, heb, hcell⟩ := (hR'.out.below g0) 0 e.cs (by rw [List.getElem?_map, he]; rfl)
    have hA3 := hA'.out.symm.trans hA2
    obtain rfl : A = some ⟨eb, eo, none⟩ := hA3
    have hev : -9223372036854775808 ≤ e.v.n ∧ e.v.n ≤ 9223372036854775807 := hes'.out e (List.mem_of_getElem? he)
    have hc0 : wr.cell? ⟨eb, eo, none⟩ = some (.int .i64 e.r) := by simpa using hcell 0 _ rfl
    have hc1 : wr.cell? ⟨eb, eo + 1, none⟩ = some (.int .i64 e.c) := by simpa using hcell 1 _ rfl
    have hc2 : wr.cell? ⟨eb, eo + 2, none⟩ = some (.int .i64 e.v.t) := by simpa using hcell 2 _ rfl
    have hc3 : wr.cell? ⟨eb, eo + 3, none⟩ = some (.int .i64 e.v.n) := by simpa using hcell 3 _ rfl
    have hc4 : wr.cell? ⟨eb, eo + 4, none⟩ = some (.string e.v.s) := by simpa using hcell 4 _ rfl
    have hc5 : wr.cell? ⟨eb, eo + 5, none⟩ = some (.bool e.v.b) := by simpa using hcell 5 _ rfl
    have hc6 : wr.cell? ⟨eb, eo + 6, none⟩ = some (.int .i64 e.v.c) := by simpa using hcell 6 _ rfl
    have hq6 : wr.cell? ⟨w.heap.size, 6, none⟩ = some (.int .i64 rt) := by rw [hbr.cell (by dsimp only; omega), hc _ _ (by omega)]; simp
    have hq7 : wr.cell? ⟨w.heap.size, 7, none⟩ = some (.int .i64 rl) := by rw [hbr.cell (by dsimp only; omega), hc _ _ (by omega)]; simp
    have hq8 : wr.cell? ⟨w.heap.size, 8, none⟩ = some (.int .i64 rb) := by rw [hbr.cell (by dsimp only; omega), hc _ _ (by omega)]; simp
    have hq9 : wr.cell? ⟨w.heap.size, 9, none⟩ = some (.int .i64 rr) := by rw [hbr.cell (by dsimp only; omega), hc _ _ (by omega)]; simp
    have hq10 : wr.cell? ⟨w.heap.size, 10, none⟩ = some (.slice (some ⟨eb, eo, none⟩) m cap) := by rw [hbr.cell (by dsimp only; omega), hc _ _ (by omega)]; simp
    have heo : entOk x 0 = (inB rt rl rb rr e.r e.c && vMay e.v.t e.v.n e.v.s e.v.b e.v.c && true) := by unfold entOk; rw [he]; simp only [hrt'.out, hrl'.out, hrb'.out, hrr'.out]; rfl
    have heo' := Lib.hid heo
    have hlt1 : eb < wr.heap.size := by omega
    have hlt2 : w.heap.size < wr.heap.size := by omega
    have hne : eb ≠ wr.heap.size := by omega
    have hne2 : w.heap.size ≠ wr.heap.size := by omega
    clear he hcell hA2 hc hf heo
    have hgood : entOk x 0 = true → ∀ i, i < 0 + 1 → entOk x i = true := fun h1 i hi => by
     rcases Nat.lt_or_eq_of_le (Nat.le_of_lt_succ hi) with h3 | rfl
     ·exact hall'.out i h3
     ·exact h1
    have hgood' := Lib.hid hgood
    have hbad : entOk x 0 = false → entsOk x = false := fun h => by
     rw [hxs'.out, List.all_eq_false]
     exact ⟨0, List.mem_range.2 hlt, by rw [h]; simp⟩
    have hbad' := Lib.hid hbad
    clear hgood hbad
    cases h3 : inB rt rl rb rr e.r e.c
    ·go_wp2_with fail
     refine wp_region_held_drew (S := fun w' => w'.cell? ⟨w.heap.size, 6, none⟩ = some (.int .i64 rt) ∧ w'.cell? ⟨w.heap.size, 7, none⟩ = some (.int .i64 rl) ∧ w'.cell? ⟨w.heap.size, 8, none⟩ = some (.int .i64 rb) ∧ w'.cell? ⟨w.heap.size, 9, none⟩ = some (.int .i64 rr) ∧ w'.cell? ⟨w.heap.size, 10, none⟩ = some (.slice (some ⟨eb, eo, none⟩) m cap) ∧ w'.cell? ⟨wr.heap.size, 0, none⟩ = some (.int .i64 e.r) ∧ w'.cell? ⟨wr.heap.size, 1, none⟩ = some (.int .i64 e.c) ∧ w'.cell? ⟨wr.heap.size, 2, none⟩ = some (.int .i64 e.v.t) ∧ w'.cell? ⟨wr.heap.size, 3, none⟩ = some (.int .i64 e.v.n) ∧ w'.cell? ⟨wr.heap.size, 4, none⟩ = some (.string e.v.s) ∧ w'.cell? ⟨wr.heap.size, 5, none⟩ = some (.bool e.v.b) ∧ w'.cell? ⟨wr.heap.size, 6, none⟩ = some (.int .i64 e.v.c) ∧ Below (w.heap.size + 1) w1 w' ∧ wr.heap.size + 1 ≤ w'.heap.size) (by kernel_rfl) ?_ (fun hHeld => ?_)
     ·((try dsimp only); refine ⟨?_, ?_, ?_, ?_, ?_, ?_, ?_, ?_, ?_, ?_, ?_, ?_, ?_, ?_⟩ <;> first | exact (hbr.alloc (by omega) _).drew | (simp [go_sem, *]; done) | exact belq | (simp; omega))
     refine sqT 0 (v := (.pointer (some ⟨w.heap.size, 6, none⟩))) hHeld ?_
     refine sqT 1 (v := (.agg #[.int .i64 rt, .int .i64 rl, .int .i64 rb, .int .i64 rr])) hHeld ?_
     refine sqT 2 (v := (.pointer (some ⟨wr.heap.size, 0, none⟩))) hHeld ?_
     refine sqT 3 (v := (.agg #[.int .i64 e.r, .int .i64 e.c])) hHeld ?_
     refine sqC 4 (fun K hK => ?_)
     go_simp
     refine (in_is rt rl rb rr e.r e.c _ h3 _).mono ?_
     rintro e w1 ⟨rfl, hb⟩
     refine hK.out _ _ ?_ (fun hHeld2 => ?_)
     ·((try dsimp only); go_split_ands; refine ⟨?_, ?_, ?_, ?_, ?_, ?_, ?_, ?_, ?_, ?_, ?_, ?_, ?_, ?_⟩ <;> first | (rw [hb.cell (by dsimp only; omega)]; assumption) | exact Below.trans (by assumption) (hb.mono (by omega)) | (have := hb.size; omega))
     clear hK K hHeld
     have hHeld := hHeld2
     clear hHeld2
     refine sqT 5 (v := (.bool true)) hHeld ?_
     refine sqT 6 (v := (.bool true)) hHeld ?_
     refine sqS 7 hHeld ?_
     refine sqS 8 hHeld ?_
     refine sqS 9 hHeld ?_
     refine sqS 10 hHeld ?_
     refine sqT 11 (v := (.bool true)) hHeld ?_
     refine sqT 12 (v := (.bool true)) hHeld ?_
     refine sqS 13 hHeld ?_
     refine sqS 14 hHeld ?_
     refine sqS 15 hHeld ?_
     refine sqS 16 hHeld ?_
     refine sqS 17 hHeld ?_
     refine sqS 18 hHeld ?_
     refine sqS 19 hHeld ?_
     refine sqS 20 hHeld ?_
     refine sqS 21 hHeld ?_
     refine sqS 22 hHeld ?_
     refine sqS 23 hHeld ?_
     refine sqS 24 hHeld ?_
     refine sqS 25 hHeld ?_
     refine sqS 26 hHeld ?_
     refine sqS 27 hHeld ?_
     refine sqT 28 (v := (.bool true)) hHeld ?_
     refine wpAnyH_done (by kernel_rfl) ?_ _
     go_split_ands
     go_wp2
     go_ret
     exact ⟨ret_b (hbad'.out (by rw [heo'.out, h3]; simp)).symm, belq⟩
    cases h4 : vMay e.v.t e.v.n e.v.s e.v.b e.v.c
    ·go_wp2_with fail
     refine wp_region_held_drew (S := fun w' => w'.cell? ⟨w.heap.size, 6, none⟩ = some (.int .i64 rt) ∧ w'.cell? ⟨w.heap.size, 7, none⟩ = some (.int .i64 rl) ∧ w'.cell? ⟨w.heap.size, 8, none⟩ = some (.int .i64 rb) ∧ w'.cell? ⟨w.heap.size, 9, none⟩ = some (.int .i64 rr) ∧ w'.cell? ⟨w.heap.size, 10, none⟩ = some (.slice (some ⟨eb, eo, none⟩) m cap) ∧ w'.cell? ⟨wr.heap.size, 0, none⟩ = some (.int .i64 e.r) ∧ w'.cell? ⟨wr.heap.size, 1, none⟩ = some (.int .i64 e.c) ∧ w'.cell? ⟨wr.heap.size, 2, none⟩ = some (.int .i64 e.v.t) ∧ w'.cell? ⟨wr.heap.size, 3, none⟩ = some (.int .i64 e.v.n) ∧ w'.cell? ⟨wr.heap.size, 4, none⟩ = some (.string e.v.s) ∧ w'.cell? ⟨wr.heap.size, 5, none⟩ = some (.bool e.v.b) ∧ w'.cell? ⟨wr.heap.size, 6, none⟩ = some (.int .i64 e.v.c) ∧ Below (w.heap.size + 1) w1 w' ∧ wr.heap.size + 1 ≤ w'.heap.size) (by kernel_rfl) ?_ (fun hHeld => ?_)
     ·((try dsimp only); refine ⟨?_, ?_, ?_, ?_, ?_, ?_, ?_, ?_, ?_, ?_, ?_, ?_, ?_, ?_⟩ <;> first | exact (hbr.alloc (by omega) _).drew | (simp [go_sem, *]; done) | exact belq | (simp; omega))
     refine sqT 0 (v := (.pointer (some ⟨w.heap.size, 6, none⟩))) hHeld ?_
     refine sqT 1 (v := (.agg #[.int .i64 rt, .int .i64 rl, .int .i64 rb, .int .i64 rr])) hHeld ?_
     refine sqT 2 (v := (.pointer (some ⟨wr.heap.size, 0, none⟩))) hHeld ?_
     refine sqT 3 (v := (.agg #[.int .i64 e.r, .int .i64 e.c])) hHeld ?_
     refine sqC 4 (fun K hK => ?_)
     go_simp
     refine (in_is rt rl rb rr e.r e.c _ h3 _).mono ?_
     rintro e w1 ⟨rfl, hb⟩
     refine hK.out _ _ ?_ (fun hHeld2 => ?_)
     ·((try dsimp only); go_split_ands; refine ⟨?_, ?_, ?_, ?_, ?_, ?_, ?_, ?_, ?_, ?_, ?_, ?_, ?_, ?_⟩ <;> first | (rw [hb.cell (by dsimp only; omega)]; assumption) | exact Below.trans (by assumption) (hb.mono (by omega)) | (have := hb.size; omega))
     clear hK K hHeld
     have hHeld := hHeld2
     clear hHeld2
     refine sqT 5 (v := (.bool false)) hHeld ?_
     refine sqT 6 (v := (.bool false)) hHeld ?_
     refine sqT 7 (v := (.pointer (some ⟨wr.heap.size, 2, none⟩))) hHeld ?_
     refine sqT 8 (v := (.agg #[.int .i64 e.v.t, .int .i64 e.v.n, .string e.v.s, .bool e.v.b, .int .i64 e.v.c])) hHeld ?_
     refine sqC 9 (fun K hK => ?_)
     go_simp
     refine (vmay_is e.v.t e.v.n e.v.s e.v.b e.v.c hev _ h4 _).mono ?_
     rintro e w1 ⟨rfl, hb⟩
     refine hK.out _ _ ?_ (fun hHeld2 => ?_)
     ·((try dsimp only); go_split_ands; refine ⟨?_, ?_, ?_, ?_, ?_, ?_, ?_, ?_, ?_, ?_, ?_, ?_, ?_, ?_⟩ <;> first | (rw [hb.cell (by dsimp only; omega)]; assumption) | exact Below.trans (by assumption) (hb.mono (by omega)) | (have := hb.size; omega))
     clear hK K hHeld
     have hHeld := hHeld2
     clear hHeld2
     refine sqT 10 (v := (.bool true)) hHeld ?_
     refine sqT 11 (v := (.bool true)) hHeld ?_
     refine sqT 12 (v := (.bool true)) hHeld ?_
     refine sqS 13 hHeld ?_
     refine sqS 14 hHeld ?_
     refine sqS 15 hHeld ?_
     refine sqS 16 hHeld ?_
     refine sqS 17 hHeld ?_
     refine sqS 18 hHeld ?_
     refine sqS 19 hHeld ?_
     refine sqS 20 hHeld ?_
     refine sqS 21 hHeld ?_
     refine sqS 22 hHeld ?_
     refine sqS 23 hHeld ?_
     refine sqS 24 hHeld ?_
     refine sqS 25 hHeld ?_
     refine sqS 26 hHeld ?_
     refine sqS 27 hHeld ?_
     refine sqT 28 (v := (.bool true)) hHeld ?_
     refine wpAnyH_done (by kernel_rfl) ?_ _
     go_split_ands
     go_wp2
     go_ret
     exact ⟨ret_b (hbad'.out (by rw [heo'.out, h3, h4]; simp)).symm, belq⟩
    ·go_wp2_with fail
     refine wp_region_held_drew (S := fun w' => w'.cell? ⟨w.heap.size, 6, none⟩ = some (.int .i64 rt) ∧ w'.cell? ⟨w.heap.size, 7, none⟩ = some (.int .i64 rl) ∧ w'.cell? ⟨w.heap.size, 8, none⟩ = some (.int .i64 rb) ∧ w'.cell? ⟨w.heap.size, 9, none⟩ = some (.int .i64 rr) ∧ w'.cell? ⟨w.heap.size, 10, none⟩ = some (.slice (some ⟨eb, eo, none⟩) m cap) ∧ w'.cell? ⟨wr.heap.size, 0, none⟩ = some (.int .i64 e.r) ∧ w'.cell? ⟨wr.heap.size, 1, none⟩ = some (.int .i64 e.c) ∧ w'.cell? ⟨wr.heap.size, 2, none⟩ = some (.int .i64 e.v.t) ∧ w'.cell? ⟨wr.heap.size, 3, none⟩ = some (.int .i64 e.v.n) ∧ w'.cell? ⟨wr.heap.size, 4, none⟩ = some (.string e.v.s) ∧ w'.cell? ⟨wr.heap.size, 5, none⟩ = some (.bool e.v.b) ∧ w'.cell? ⟨wr.heap.size, 6, none⟩ = some (.int .i64 e.v.c) ∧ Below (w.heap.size + 1) w1 w' ∧ wr.heap.size + 1 ≤ w'.heap.size) (by kernel_rfl) ?_ (fun hHeld => ?_)
     ·((try dsimp only); refine ⟨?_, ?_, ?_, ?_, ?_, ?_, ?_, ?_, ?_, ?_, ?_, ?_, ?_, ?_⟩ <;> first | exact (hbr.alloc (by omega) _).drew | (simp [go_sem, *]; done) | exact belq | (simp; omega))
     refine sqT 0 (v := (.pointer (some ⟨w.heap.size, 6, none⟩))) hHeld ?_
     refine sqT 1 (v := (.agg #[.int .i64 rt, .int .i64 rl, .int .i64 rb, .int .i64 rr])) hHeld ?_
     refine sqT 2 (v := (.pointer (some ⟨wr.heap.size, 0, none⟩))) hHeld ?_
     refine sqT 3 (v := (.agg #[.int .i64 e.r, .int .i64 e.c])) hHeld ?_
     refine sqC 4 (fun K hK => ?_)
     go_simp
     refine (in_is rt rl rb rr e.r e.c _ h3 _).mono ?_
     rintro e w1 ⟨rfl, hb⟩
     refine hK.out _ _ ?_ (fun hHeld2 => ?_)
     ·((try dsimp only); go_split_ands; refine ⟨?_, ?_, ?_, ?_, ?_, ?_, ?_, ?_, ?_, ?_, ?_, ?_, ?_, ?_⟩ <;> first | (rw [hb.cell (by dsimp only; omega)]; assumption) | exact Below.trans (by assumption) (hb.mono (by omega)) | (have := hb.size; omega))
     clear hK K hHeld
     have hHeld := hHeld2
     clear hHeld2
     refine sqT 5 (v := (.bool false)) hHeld ?_
     refine sqT 6 (v := (.bool false)) hHeld ?_
     refine sqT 7 (v := (.pointer (some ⟨wr.heap.size, 2, none⟩))) hHeld ?_
     refine sqT 8 (v := (.agg #[.int .i64 e.v.t, .int .i64 e.v.n, .string e.v.s, .bool e.v.b, .int .i64 e.v.c])) hHeld ?_
     refine sqC 9 (fun K hK => ?_)
     go_simp
     refine (vmay_is e.v.t e.v.n e.v.s e.v.b e.v.c hev _ h4 _).mono ?_
     rintro e w1 ⟨rfl, hb⟩
     refine hK.out _ _ ?_ (fun hHeld2 => ?_)
     ·((try dsimp only); go_split_ands; refine ⟨?_, ?_, ?_, ?_, ?_, ?_, ?_, ?_, ?_, ?_, ?_, ?_, ?_, ?_⟩ <;> first | (rw [hb.cell (by dsimp only; omega)]; assumption) | exact Below.trans (by assumption) (hb.mono (by omega)) | (have := hb.size; omega))
     clear hK K hHeld
     have hHeld := hHeld2
     clear hHeld2
     refine sqT 10 (v := (.bool false)) hHeld ?_
     refine sqT 11 (v := (.bool false)) hHeld ?_
     refine sqT 12 (v := (.bool false)) hHeld ?_
     refine sqT 13 (v := (.int .i64 0)) hHeld ?_
     refine sqT 14 (v := (.bool false)) hHeld ?_
     refine sqT 15 (v := (.bool false)) hHeld ?_
     refine sqS 16 hHeld ?_
     refine sqS 17 hHeld ?_
     refine sqS 18 hHeld ?_
     refine sqS 19 hHeld ?_
     refine sqS 20 hHeld ?_
     refine sqS 21 hHeld ?_
     refine sqS 22 hHeld ?_
     refine sqS 23 hHeld ?_
     refine sqS 24 hHeld ?_
     refine sqS 25 hHeld ?_
     refine sqS 26 hHeld ?_
     refine sqT 27 (v := (.bool false)) hHeld ?_
     refine sqT 28 (v := (.bool false)) hHeld ?_
     refine wpAnyH_done (by kernel_rfl) ?_ _
     go_split_ands
     go_wp2
     go_roundw
     case rel => exact ⟨0 + 1, by omega, by go_num, hgood'.out (by rw [heo'.out, h3, h4]; rfl), by assumption⟩
     case measure => simp [intOf]; omega
   ·obtain ⟨e, he⟩ : ∃ e, x.es[(j + 1)]? = some e := ⟨_, List.getElem?_eq_getElem (by rw [hm'.out]; exact hlt)⟩
    obtain ⟨eb, eo, hA2, heb, hcell⟩ := (hR'.out.below g0) (j + 1) e.cs (by rw [List.getElem?_map, he]; rfl)
    have hA3 := hA'.out.symm.trans hA2
    obtain rfl : A = some ⟨eb, eo, none⟩ := hA3
    have hev : -9223372036854775808 ≤ e.v.n ∧ e.v.n ≤ 9223372036854775807 := hes'.out e (List.mem_of_getElem? he)
    have hc0 : wr.cell? ⟨eb, eo + (j + 1) * 7, none⟩ = some (.int .i64 e.r) := hcell 0 _ rfl
    have hc1 : wr.cell? ⟨eb, eo + (j + 1) * 7 + 1, none⟩ = some (.int .i64 e.c) := hcell 1 _ rfl
    have hc2 : wr.cell? ⟨eb, eo + (j + 1) * 7 + 2, none⟩ = some (.int .i64 e.v.t) := hcell 2 _ rfl
    have hc3 : wr.cell? ⟨eb, eo + (j + 1) * 7 + 3, none⟩ = some (.int .i64 e.v.n) := hcell 3 _ rfl
    have hc4 : wr.cell? ⟨eb, eo + (j + 1) * 7 + 4, none⟩ = some (.string e.v.s) := hcell 4 _ rfl
    have hc5 : wr.cell? ⟨eb, eo + (j + 1) * 7 + 5, none⟩ = some (.bool e.v.b) := hcell 5 _ rfl
    have hc6 : wr.cell? ⟨eb, eo + (j + 1) * 7 + 6, none⟩ = some (.int .i64 e.v.c) := hcell 6 _ rfl
    obtain ⟨d, hd⟩ : ∃ d, x.es[j]? = some d := ⟨_, List.getElem?_eq_getElem (by rw [hm'.out]; omega)⟩
    obtain ⟨eb2, eo2, hB2, heb2, hcell2⟩ := (hR'.out.below g0) j d.cs (by rw [List.getElem?_map, hd]; rfl)
    have hB3 := hA'.out.symm.trans hB2
    obtain ⟨rfl, rfl⟩ : eb = eb2 ∧ eo = eo2 := by simpa using hB3
    have hd0 : wr.cell? ⟨eb, eo + j * 7, none⟩ = some (.int .i64 d.r) := hcell2 0 _ rfl
    have hd1 : wr.cell? ⟨eb, eo + j * 7 + 1, none⟩ = some (.int .i64 d.c) := hcell2 1 _ rfl
    have hwj : IntKind.i64.wrap ((j : Int) + 1 - 1) = (j : Int) := by rw [IntWalk.i64_in _ (by omega)]; omega
    have hwj2 : IntKind.i64.wrap (j : Int) = (j : Int) := IntWalk.i64_in _ (by omega)
    have hjm : (j : Int) < (m : Int) := by omega
    have hjp : decide ((0 : Int) < (j : Int) + 1) = true := decide_eq_true (by omega)
    clear hcell2 hB2 hB3
    have hq6 : wr.cell? ⟨w.heap.size, 6, none⟩ = some (.int .i64 rt) := by rw [hbr.cell (by dsimp only; omega), hc _ _ (by omega)]; simp
    have hq7 : wr.cell? ⟨w.heap.size, 7, none⟩ = some (.int .i64 rl) := by rw [hbr.cell (by dsimp only; omega), hc _ _ (by omega)]; simp
    have hq8 : wr.cell? ⟨w.heap.size, 8, none⟩ = some (.int .i64 rb) := by rw [hbr.cell (by dsimp only; omega), hc _ _ (by omega)]; simp
    have hq9 : wr.cell? ⟨w.heap.size, 9, none⟩ = some (.int .i64 rr) := by rw [hbr.cell (by dsimp only; omega), hc _ _ (by omega)]; simp
    have hq10 : wr.cell? ⟨w.heap.size, 10, none⟩ = some (.slice (some ⟨eb, eo, none⟩) m cap) := by rw [hbr.cell (by dsimp only; omega), hc _ _ (by omega)]; simp
    have heo : entOk x (j + 1) = (inB rt rl rb rr e.r e.c && vMay e.v.t e.v.n e.v.s e.v.b e.v.c && befB d.r d.c e.r e.c) := by unfold entOk; rw [he]; simp only [hrt'.out, hrl'.out, hrb'.out, hrr'.out, hd]; rfl
    have heo' := Lib.hid heo
    have hlt1 : eb < wr.heap.size := by omega
    have hlt2 : w.heap.size < wr.heap.size := by omega
    have hne : eb ≠ wr.heap.size := by omega
    have hne2 : w.heap.size ≠ wr.heap.size := by omega
    clear he hcell hA2 hc hf heo hd
    have hgood : entOk x (j + 1) = true → ∀ i, i < (j + 1) + 1 → entOk x i = true := fun h1 i hi => by
     rcases Nat.lt_or_eq_of_le (Nat.le_of_lt_succ hi) with h3 | rfl
     ·exact hall'.out i h3
     ·exact h1
    have hgood' := Lib.hid hgood
    have hbad : entOk x (j + 1) = false → entsOk x = false := fun h => by
     rw [hxs'.out, List.all_eq_false]
     exact ⟨(j + 1), List.mem_range.2 hlt, by rw [h]; simp⟩
    have hbad' := Lib.hid hbad
    clear hgood hbad
    cases h3 : inB rt rl rb rr e.r e.c
    ·go_wp2_with fail
     refine wp_region_held_drew (S := fun w' => w'.cell? ⟨w.heap.size, 6, none⟩ = some (.int .i64 rt) ∧ w'.cell? ⟨w.heap.size, 7, none⟩ = some (.int .i64 rl) ∧ w'.cell? ⟨w.heap.size, 8, none⟩ = some (.int .i64 rb) ∧ w'.cell? ⟨w.heap.size, 9, none⟩ = some (.int .i64 rr) ∧ w'.cell? ⟨w.heap.size, 10, none⟩ = some (.slice (some ⟨eb, eo, none⟩) m cap) ∧ w'.cell? ⟨wr.heap.size, 0, none⟩ = some (.int .i64 e.r) ∧ w'.cell? ⟨wr.heap.size, 1, none⟩ = some (.int .i64 e.c) ∧ w'.cell? ⟨wr.heap.size, 2, none⟩ = some (.int .i64 e.v.t) ∧ w'.cell? ⟨wr.heap.size, 3, none⟩ = some (.int .i64 e.v.n) ∧ w'.cell? ⟨wr.heap.size, 4, none⟩ = some (.string e.v.s) ∧ w'.cell? ⟨wr.heap.size, 5, none⟩ = some (.bool e.v.b) ∧ w'.cell? ⟨wr.heap.size, 6, none⟩ = some (.int .i64 e.v.c) ∧ w'.cell? ⟨eb, eo + j * 7, none⟩ = some (.int .i64 d.r) ∧ w'.cell? ⟨eb, eo + j * 7 + 1, none⟩ = some (.int .i64 d.c) ∧ Below (w.heap.size + 1) w1 w' ∧ wr.heap.size + 1 ≤ w'.heap.size) (by kernel_rfl) ?_ (fun hHeld => ?_)
     ·((try dsimp only); refine ⟨?_, ?_, ?_, ?_, ?_, ?_, ?_, ?_, ?_, ?_, ?_, ?_, ?_, ?_, ?_, ?_⟩ <;> first | exact (hbr.alloc (by omega) _).drew | (simp [go_sem, *]; done) | exact belq | (simp; omega))
     refine sqT 0 (v := (.pointer (some ⟨w.heap.size, 6, none⟩))) hHeld ?_
     refine sqT 1 (v := (.agg #[.int .i64 rt, .int .i64 rl, .int .i64 rb, .int .i64 rr])) hHeld ?_
     refine sqT 2 (v := (.pointer (some ⟨wr.heap.size, 0, none⟩))) hHeld ?_
     refine sqT 3 (v := (.agg #[.int .i64 e.r, .int .i64 e.c])) hHeld ?_
     refine sqC 4 (fun K hK => ?_)
     go_simp
     refine (in_is rt rl rb rr e.r e.c _ h3 _).mono ?_
     rintro e w1 ⟨rfl, hb⟩
     refine hK.out _ _ ?_ (fun hHeld2 => ?_)
     ·((try dsimp only); go_split_ands; refine ⟨?_, ?_, ?_, ?_, ?_, ?_, ?_, ?_, ?_, ?_, ?_, ?_, ?_, ?_, ?_, ?_⟩ <;> first | (rw [hb.cell (by dsimp only; omega)]; assumption) | exact Below.trans (by assumption) (hb.mono (by omega)) | (have := hb.size; omega))
     clear hK K hHeld
     have hHeld := hHeld2
     clear hHeld2
     refine sqT 5 (v := (.bool true)) hHeld ?_
     refine sqT 6 (v := (.bool true)) hHeld ?_
     refine sqS 7 hHeld ?_
     refine sqS 8 hHeld ?_
     refine sqS 9 hHeld ?_
     refine sqS 10 hHeld ?_
     refine sqT 11 (v := (.bool true)) hHeld ?_
     refine sqT 12 (v := (.bool true)) hHeld ?_
     refine sqS 13 hHeld ?_
     refine sqS 14 hHeld ?_
     refine sqS 15 hHeld ?_
     refine sqS 16 hHeld ?_
     refine sqS 17 hHeld ?_
     refine sqS 18 hHeld ?_
     refine sqS 19 hHeld ?_
     refine sqS 20 hHeld ?_
     refine sqS 21 hHeld ?_
     refine sqS 22 hHeld ?_
     refine sqS 23 hHeld ?_
     refine sqS 24 hHeld ?_
     refine sqS 25 hHeld ?_
     refine sqS 26 hHeld ?_
     refine sqS 27 hHeld ?_
     refine sqT 28 (v := (.bool true)) hHeld ?_
     refine wpAnyH_done (by kernel_rfl) ?_ _
     go_split_ands
     go_wp2
     go_ret
     exact ⟨ret_b (hbad'.out (by rw [heo'.out, h3]; simp)).symm, belq⟩
    cases h4 : vMay e.v.t e.v.n e.v.s e.v.b e.v.c
    ·go_wp2_with fail
     refine wp_region_held_drew (S := fun w' => w'.cell? ⟨w.heap.size, 6, none⟩ = some (.int .i64 rt) ∧ w'.cell? ⟨w.heap.size, 7, none⟩ = some (.int .i64 rl) ∧ w'.cell? ⟨w.heap.size, 8, none⟩ = some (.int .i64 rb) ∧ w'.cell? ⟨w.heap.size, 9, none⟩ = some (.int .i64 rr) ∧ w'.cell? ⟨w.heap.size, 10, none⟩ = some (.slice (some ⟨eb, eo, none⟩) m cap) ∧ w'.cell? ⟨wr.heap.size, 0, none⟩ = some (.int .i64 e.r) ∧ w'.cell? ⟨wr.heap.size, 1, none⟩ = some (.int .i64 e.c) ∧ w'.cell? ⟨wr.heap.size, 2, none⟩ = some (.int .i64 e.v.t) ∧ w'.cell? ⟨wr.heap.size, 3, none⟩ = some (.int .i64 e.v.n) ∧ w'.cell? ⟨wr.heap.size, 4, none⟩ = some (.string e.v.s) ∧ w'.cell? ⟨wr.heap.size, 5, none⟩ = some (.bool e.v.b) ∧ w'.cell? ⟨wr.heap.size, 6, none⟩ = some (.int .i64 e.v.c) ∧ w'.cell? ⟨eb, eo + j * 7, none⟩ = some (.int .i64 d.r) ∧ w'.cell? ⟨eb, eo + j * 7 + 1, none⟩ = some (.int .i64 d.c) ∧ Below (w.heap.size + 1) w1 w' ∧ wr.heap.size + 1 ≤ w'.heap.size) (by kernel_rfl) ?_ (fun hHeld => ?_)
     ·((try dsimp only); refine ⟨?_, ?_, ?_, ?_, ?_, ?_, ?_, ?_, ?_, ?_, ?_, ?_, ?_, ?_, ?_, ?_⟩ <;> first | exact (hbr.alloc (by omega) _).drew | (simp [go_sem, *]; done) | exact belq | (simp; omega))
     refine sqT 0 (v := (.pointer (some ⟨w.heap.size, 6, none⟩))) hHeld ?_
     refine sqT 1 (v := (.agg #[.int .i64 rt, .int .i64 rl, .int .i64 rb, .int .i64 rr])) hHeld ?_
     refine sqT 2 (v := (.pointer (some ⟨wr.heap.size, 0, none⟩))) hHeld ?_
     refine sqT 3 (v := (.agg #[.int .i64 e.r, .int .i64 e.c])) hHeld ?_
     refine sqC 4 (fun K hK => ?_)
     go_simp
     refine (in_is rt rl rb rr e.r e.c _ h3 _).mono ?_
     rintro e w1 ⟨rfl, hb⟩
     refine hK.out _ _ ?_ (fun hHeld2 => ?_)
     ·((try dsimp only); go_split_ands; refine ⟨?_, ?_, ?_, ?_, ?_, ?_, ?_, ?_, ?_, ?_, ?_, ?_, ?_, ?_, ?_, ?_⟩ <;> first | (rw [hb.cell (by dsimp only; omega)]; assumption) | exact Below.trans (by assumption) (hb.mono (by omega)) | (have := hb.size; omega))
     clear hK K hHeld
     have hHeld := hHeld2
     clear hHeld2
     refine sqT 5 (v := (.bool false)) hHeld ?_
     refine sqT 6 (v := (.bool false)) hHeld ?_
     refine sqT 7 (v := (.pointer (some ⟨wr.heap.size, 2, none⟩))) hHeld ?_
     refine sqT 8 (v := (.agg #[.int .i64 e.v.t, .int .i64 e.v.n, .string e.v.s, .bool e.v.b, .int .i64 e.v.c])) hHeld ?_
     refine sqC 9 (fun K hK => ?_)
     go_simp
     refine (vmay_is e.v.t e.v.n e.v.s e.v.b e.v.c hev _ h4 _).mono ?_
     rintro e w1 ⟨rfl, hb⟩
     refine hK.out _ _ ?_ (fun hHeld2 => ?_)
     ·((try dsimp only); go_split_ands; refine ⟨?_, ?_, ?_, ?_, ?_, ?_, ?_, ?_, ?_, ?_, ?_, ?_, ?_, ?_, ?_, ?_⟩ <;> first | (rw [hb.cell (by dsimp only; omega)]; assumption) | exact Below.trans (by assumption) (hb.mono (by omega)) | (have := hb.size; omega))
     clear hK K hHeld
     have hHeld := hHeld2
     clear hHeld2
     refine sqT 10 (v := (.bool true)) hHeld ?_
     refine sqT 11 (v := (.bool true)) hHeld ?_
     refine sqT 12 (v := (.bool true)) hHeld ?_
     refine sqS 13 hHeld ?_
     refine sqS 14 hHeld ?_
     refine sqS 15 hHeld ?_
     refine sqS 16 hHeld ?_
     refine sqS 17 hHeld ?_
     refine sqS 18 hHeld ?_
     refine sqS 19 hHeld ?_
     refine sqS 20 hHeld ?_
     refine sqS 21 hHeld ?_
     refine sqS 22 hHeld ?_
     refine sqS 23 hHeld ?_
     refine sqS 24 hHeld ?_
     refine sqS 25 hHeld ?_
     refine sqS 26 hHeld ?_
     refine sqS 27 hHeld ?_
     refine sqT 28 (v := (.bool true)) hHeld ?_
     refine wpAnyH_done (by kernel_rfl) ?_ _
     go_split_ands
     go_wp2
     go_ret
     exact ⟨ret_b (hbad'.out (by rw [heo'.out, h3, h4]; simp)).symm, belq⟩
    cases h5 : befB d.r d.c e.r e.c
    ·go_wp2_with fail
     refine wp_region_held_drew (S := fun w' => w'.cell? ⟨w.heap.size, 6, none⟩ = some (.int .i64 rt) ∧ w'.cell? ⟨w.heap.size, 7, none⟩ = some (.int .i64 rl) ∧ w'.cell? ⟨w.heap.size, 8, none⟩ = some (.int .i64 rb) ∧ w'.cell? ⟨w.heap.size, 9, none⟩ = some (.int .i64 rr) ∧ w'.cell? ⟨w.heap.size, 10, none⟩ = some (.slice (some ⟨eb, eo, none⟩) m cap) ∧ w'.cell? ⟨wr.heap.size, 0, none⟩ = some (.int .i64 e.r) ∧ w'.cell? ⟨wr.heap.size, 1, none⟩ = some (.int .i64 e.c) ∧ w'.cell? ⟨wr.heap.size, 2, none⟩ = some (.int .i64 e.v.t) ∧ w'.cell? ⟨wr.heap.size, 3, none⟩ = some (.int .i64 e.v.n) ∧ w'.cell? ⟨wr.heap.size, 4, none⟩ = some (.string e.v.s) ∧ w'.cell? ⟨wr.heap.size, 5, none⟩ = some (.bool e.v.b) ∧ w'.cell? ⟨wr.heap.size, 6, none⟩ = some (.int .i64 e.v.c) ∧ w'.cell? ⟨eb, eo + j * 7, none⟩ = some (.int .i64 d.r) ∧ w'.cell? ⟨eb, eo + j * 7 + 1, none⟩ = some (.int .i64 d.c) ∧ Below (w.heap.size + 1) w1 w' ∧ wr.heap.size + 1 ≤ w'.heap.size) (by kernel_rfl) ?_ (fun hHeld => ?_)
     ·((try dsimp only); refine ⟨?_, ?_, ?_, ?_, ?_, ?_, ?_, ?_, ?_, ?_, ?_, ?_, ?_, ?_, ?_, ?_⟩ <;> first | exact (hbr.alloc (by omega) _).drew | (simp [go_sem, *]; done) | exact belq | (simp; omega))
     refine sqT 0 (v := (.pointer (some ⟨w.heap.size, 6, none⟩))) hHeld ?_
     refine sqT 1 (v := (.agg #[.int .i64 rt, .int .i64 rl, .int .i64 rb, .int .i64 rr])) hHeld ?_
     refine sqT 2 (v := (.pointer (some ⟨wr.heap.size, 0, none⟩))) hHeld ?_
     refine sqT 3 (v := (.agg #[.int .i64 e.r, .int .i64 e.c])) hHeld ?_
     refine sqC 4 (fun K hK => ?_)
     go_simp
     refine (in_is rt rl rb rr e.r e.c _ h3 _).mono ?_
     rintro e w1 ⟨rfl, hb⟩
     refine hK.out _ _ ?_ (fun hHeld2 => ?_)
     ·((try dsimp only); go_split_ands; refine ⟨?_, ?_, ?_, ?_, ?_, ?_, ?_, ?_, ?_, ?_, ?_, ?_, ?_, ?_, ?_, ?_⟩ <;> first | (rw [hb.cell (by dsimp only; omega)]; assumption) | exact Below.trans (by assumption) (hb.mono (by omega)) | (have := hb.size; omega))
     clear hK K hHeld
     have hHeld := hHeld2
     clear hHeld2
     refine sqT 5 (v := (.bool false)) hHeld ?_
     refine sqT 6 (v := (.bool false)) hHeld ?_
     refine sqT 7 (v := (.pointer (some ⟨wr.heap.size, 2, none⟩))) hHeld ?_
     refine sqT 8 (v := (.agg #[.int .i64 e.v.t, .int .i64 e.v.n, .string e.v.s, .bool e.v.b, .int .i64 e.v.c])) hHeld ?_
     refine sqC 9 (fun K hK => ?_)
     go_simp
     refine (vmay_is e.v.t e.v.n e.v.s e.v.b e.v.c hev _ h4 _).mono ?_
     rintro e w1 ⟨rfl, hb⟩
     refine hK.out _ _ ?_ (fun hHeld2 => ?_)
     ·((try dsimp only); go_split_ands; refine ⟨?_, ?_, ?_, ?_, ?_, ?_, ?_, ?_, ?_, ?_, ?_, ?_, ?_, ?_, ?_, ?_⟩ <;> first | (rw [hb.cell (by dsimp only; omega)]; assumption) | exact Below.trans (by assumption) (hb.mono (by omega)) | (have := hb.size; omega))
     clear hK K hHeld
     have hHeld := hHeld2
     clear hHeld2
     refine sqT 10 (v := (.bool false)) hHeld ?_
     refine sqT 11 (v := (.bool false)) hHeld ?_
     refine sqT 12 (v := (.bool false)) hHeld ?_
     refine sqT 13 (v := (.int .i64 ((j : Int) + 1))) hHeld ?_
     refine sqT 14 (v := (.bool true)) hHeld ?_
     refine sqT 15 (v := (.bool true)) hHeld ?_
     refine sqT 16 (v := (.pointer (some ⟨w.heap.size, 10, none⟩))) hHeld ?_
     refine sqT 17 (v := (.slice (some ⟨eb, eo, none⟩) m cap)) hHeld ?_
     refine sqT 18 (v := (.int .i64 ((j : Int) + 1))) hHeld ?_
     refine sqT 19 (v := (.int .i64 (j : Int))) hHeld ?_
     refine sqT 20 (v := (.pointer (some ⟨eb, eo + j * 7, none⟩))) hHeld ?_
     refine sqT 21 (v := (.pointer (some ⟨eb, eo + j * 7, none⟩))) hHeld ?_
     refine sqT 22 (v := (.agg #[.int .i64 d.r, .int .i64 d.c])) hHeld ?_
     refine sqT 23 (v := (.pointer (some ⟨wr.heap.size, 0, none⟩))) hHeld ?_
     refine sqT 24 (v := (.agg #[.int .i64 e.r, .int .i64 e.c])) hHeld ?_
     refine sqC 25 (fun K hK => ?_)
     go_simp
     refine (before_is d.r d.c e.r e.c _ h5 _).mono ?_
     rintro e w1 ⟨rfl, hb⟩
     refine hK.out _ _ ?_ (fun hHeld2 => ?_)
     ·((try dsimp only); go_split_ands; refine ⟨?_, ?_, ?_, ?_, ?_, ?_, ?_, ?_, ?_, ?_, ?_, ?_, ?_, ?_, ?_, ?_⟩ <;> first | (rw [hb.cell (by dsimp only; omega)]; assumption) | exact Below.trans (by assumption) (hb.mono (by omega)) | (have := hb.size; omega))
     clear hK K hHeld
     have hHeld := hHeld2
     clear hHeld2
     refine sqT 26 (v := (.bool true)) hHeld ?_
     refine sqT 27 (v := (.bool true)) hHeld ?_
     refine sqT 28 (v := (.bool true)) hHeld ?_
     refine wpAnyH_done (by kernel_rfl) ?_ _
     go_split_ands
     go_wp2
     go_ret
     exact ⟨ret_b (hbad'.out (by rw [heo'.out, h3, h4, h5]; simp)).symm, belq⟩
    ·go_wp2_with fail
     refine wp_region_held_drew (S := fun w' => w'.cell? ⟨w.heap.size, 6, none⟩ = some (.int .i64 rt) ∧ w'.cell? ⟨w.heap.size, 7, none⟩ = some (.int .i64 rl) ∧ w'.cell? ⟨w.heap.size, 8, none⟩ = some (.int .i64 rb) ∧ w'.cell? ⟨w.heap.size, 9, none⟩ = some (.int .i64 rr) ∧ w'.cell? ⟨w.heap.size, 10, none⟩ = some (.slice (some ⟨eb, eo, none⟩) m cap) ∧ w'.cell? ⟨wr.heap.size, 0, none⟩ = some (.int .i64 e.r) ∧ w'.cell? ⟨wr.heap.size, 1, none⟩ = some (.int .i64 e.c) ∧ w'.cell? ⟨wr.heap.size, 2, none⟩ = some (.int .i64 e.v.t) ∧ w'.cell? ⟨wr.heap.size, 3, none⟩ = some (.int .i64 e.v.n) ∧ w'.cell? ⟨wr.heap.size, 4, none⟩ = some (.string e.v.s) ∧ w'.cell? ⟨wr.heap.size, 5, none⟩ = some (.bool e.v.b) ∧ w'.cell? ⟨wr.heap.size, 6, none⟩ = some (.int .i64 e.v.c) ∧ w'.cell? ⟨eb, eo + j * 7, none⟩ = some (.int .i64 d.r) ∧ w'.cell? ⟨eb, eo + j * 7 + 1, none⟩ = some (.int .i64 d.c) ∧ Below (w.heap.size + 1) w1 w' ∧ wr.heap.size + 1 ≤ w'.heap.size) (by kernel_rfl) ?_ (fun hHeld => ?_)
     ·((try dsimp only); refine ⟨?_, ?_, ?_, ?_, ?_, ?_, ?_, ?_, ?_, ?_, ?_, ?_, ?_, ?_, ?_, ?_⟩ <;> first | exact (hbr.alloc (by omega) _).drew | (simp [go_sem, *]; done) | exact belq | (simp; omega))
     refine sqT 0 (v := (.pointer (some ⟨w.heap.size, 6, none⟩))) hHeld ?_
     refine sqT 1 (v := (.agg #[.int .i64 rt, .int .i64 rl, .int .i64 rb, .int .i64 rr])) hHeld ?_
     refine sqT 2 (v := (.pointer (some ⟨wr.heap.size, 0, none⟩))) hHeld ?_
     refine sqT 3 (v := (.agg #[.int .i64 e.r, .int .i64 e.c])) hHeld ?_
     refine sqC 4 (fun K hK => ?_)
     go_simp
     refine (in_is rt rl rb rr e.r e.c _ h3 _).mono ?_
     rintro e w1 ⟨rfl, hb⟩
     refine hK.out _ _ ?_ (fun hHeld2 => ?_)
     ·((try dsimp only); go_split_ands; refine ⟨?_, ?_, ?_, ?_, ?_, ?_, ?_, ?_, ?_, ?_, ?_, ?_, ?_, ?_, ?_, ?_⟩ <;> first | (rw [hb.cell (by dsimp only; omega)]; assumption) | exact Below.trans (by assumption) (hb.mono (by omega)) | (have := hb.size; omega))
     clear hK K hHeld
     have hHeld := hHeld2
     clear hHeld2
     refine sqT 5 (v := (.bool false)) hHeld ?_
     refine sqT 6 (v := (.bool false)) hHeld ?_
     refine sqT 7 (v := (.pointer (some ⟨wr.heap.size, 2, none⟩))) hHeld ?_
     refine sqT 8 (v := (.agg #[.int .i64 e.v.t, .int .i64 e.v.n, .string e.v.s, .bool e.v.b, .int .i64 e.v.c])) hHeld ?_
     refine sqC 9 (fun K hK => ?_)
     go_simp
     refine (vmay_is e.v.t e.v.n e.v.s e.v.b e.v.c hev _ h4 _).mono ?_
     rintro e w1 ⟨rfl, hb⟩
     refine hK.out _ _ ?_ (fun hHeld2 => ?_)
     ·((try dsimp only); go_split_ands; refine ⟨?_, ?_, ?_, ?_, ?_, ?_, ?_, ?_, ?_, ?_, ?_, ?_, ?_, ?_, ?_, ?_⟩ <;> first | (rw [hb.cell (by dsimp only; omega)]; assumption) | exact Below.trans (by assumption) (hb.mono (by omega)) | (have := hb.size; omega))
     clear hK K hHeld
     have hHeld := hHeld2
     clear hHeld2
     refine sqT 10 (v := (.bool false)) hHeld ?_
     refine sqT 11 (v := (.bool false)) hHeld ?_
     refine sqT 12 (v := (.bool false)) hHeld ?_
     refine sqT 13 (v := (.int .i64 ((j : Int) + 1))) hHeld ?_
     refine sqT 14 (v := (.bool true)) hHeld ?_
     refine sqT 15 (v := (.bool true)) hHeld ?_
     refine sqT 16 (v := (.pointer (some ⟨w.heap.size, 10, none⟩))) hHeld ?_
     refine sqT 17 (v := (.slice (some ⟨eb, eo, none⟩) m cap)) hHeld ?_
     refine sqT 18 (v := (.int .i64 ((j : Int) + 1))) hHeld ?_
     refine sqT 19 (v := (.int .i64 (j : Int))) hHeld ?_
     refine sqT 20 (v := (.pointer (some ⟨eb, eo + j * 7, none⟩))) hHeld ?_
     refine sqT 21 (v := (.pointer (some ⟨eb, eo + j * 7, none⟩))) hHeld ?_
     refine sqT 22 (v := (.agg #[.int .i64 d.r, .int .i64 d.c])) hHeld ?_
     refine sqT 23 (v := (.pointer (some ⟨wr.heap.size, 0, none⟩))) hHeld ?_
     refine sqT 24 (v := (.agg #[.int .i64 e.r, .int .i64 e.c])) hHeld ?_
     refine sqC 25 (fun K hK => ?_)
     go_simp
     refine (before_is d.r d.c e.r e.c _ h5 _).mono ?_
     rintro e w1 ⟨rfl, hb⟩
     refine hK.out _ _ ?_ (fun hHeld2 => ?_)
     ·((try dsimp only); go_split_ands; refine ⟨?_, ?_, ?_, ?_, ?_, ?_, ?_, ?_, ?_, ?_, ?_, ?_, ?_, ?_, ?_, ?_⟩ <;> first | (rw [hb.cell (by dsimp only; omega)]; assumption) | exact Below.trans (by assumption) (hb.mono (by omega)) | (have := hb.size; omega))
     clear hK K hHeld
     have hHeld := hHeld2
     clear hHeld2
     refine sqT 26 (v := (.bool false)) hHeld ?_
     refine sqT 27 (v := (.bool false)) hHeld ?_
     refine sqT 28 (v := (.bool false)) hHeld ?_
     refine wpAnyH_done (by kernel_rfl) ?_ _
     go_split_ands
     go_wp2
     go_roundw
     case rel => exact ⟨(j + 1) + 1, by omega, by go_num, hgood'.out (by rw [heo'.out, h3, h4, h5]; rfl), by assumption⟩
     case measure => simp [intOf]; omega
  ·obtain rfl : k = m := by omega
   go_wp2
   go_ret
   refine ⟨ret_b ?_, belq⟩
   rw [hxs'.out, eq_comm, List.all_eq_true]
   exact fun j hj => hall'.out j (List.mem_range.1 hj)
end Go.Proofs.YtgmhifafbebjfaaGreatDoor
