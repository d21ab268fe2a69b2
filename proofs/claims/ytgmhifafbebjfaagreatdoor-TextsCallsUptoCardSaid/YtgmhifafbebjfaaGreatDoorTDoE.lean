/-
  texts: EXACT, ORD, NUM.
-/
import Derived.Test.YtgmhifafbebjfaaGreatDoorTDoA
namespace Go.Proofs.YtgmhifafbebjfaaGreatDoor
open Go.RowKit

/-- the first byte -/
def headU (s : ByteArray) : UInt8 := s.data.toList.headD 0
set_option maxRecDepth 100000 in
set_option maxHeartbeats 1000000 in
theorem tdo_EXACT (s t : ByteArray) (text : Int) (vs vn : Value) (w : World) (hS : RdStr w vs [s, t]) (hN : RdInt w vn []) : Calls Tryz.prog 81 #[.agg #[vs, vn, .int .i64 text]] w fun e w' => e = .returned (.agg #[.int .i64 (boolL (decide (s = t))).t, .int .i64 (boolL (decide (s = t))).n, .string (boolL (decide (s = t))).s, .bool (boolL (decide (s = t))).b, .int .i64 (boolL (decide (s = t))).c]) ∧ Below w.heap.size w w' := by
  obtain ⟨A1, cap1, rfl, hR1⟩ := hS
  obtain ⟨A2, cap2, rfl, hR2⟩ := hN
  obtain ⟨sb, so, hA1, hsb, _⟩ := hR1 0 [.string s] rfl
  subst hA1
  have hs0 : w.cell? ⟨sb, so, none⟩ = some (.string s) := by
    obtain ⟨b9, o9, e9, _, h9⟩ := hR1 0 [.string s] rfl
    injection e9 with e9
    injection e9 with e1 e2 _
    subst e1 e2
    simpa using h9 0 _ rfl
  have hs1 : w.cell? ⟨sb, so + 1, none⟩ = some (.string t) := by
    obtain ⟨b9, o9, e9, _, h9⟩ := hR1 1 [.string t] rfl
    injection e9 with e9
    injection e9 with e1 e2 _
    subst e1 e2
    simpa using h9 0 _ rfl
  have hsn : sb ≠ w.heap.size := by omega
  have hsl : sb < w.heap.size + 1 := by omega
  clear hR1 hR2
  simp only [List.length_cons, List.length_nil, Nat.zero_add, Nat.reduceAdd]
  go_enter Tryz.func81, Tryz.ntmps81
  go_wp2_with fail
  have y0 : ((w.alloc (.cells #[.slice (some ⟨sb, so, none⟩) 2 cap1, .slice A2 0 cap2, .int .i64 text] 47)).alloc (.cells #[.int .i64 0, .int .i64 0, .string ⟨#[]⟩, .bool false, .int .i64 0] 26)).cell? ⟨w.heap.size, 0, none⟩ = some (.slice (some ⟨sb, so, none⟩) 2 cap1) := by simp
  have y1 : ((w.alloc (.cells #[.slice (some ⟨sb, so, none⟩) 2 cap1, .slice A2 0 cap2, .int .i64 text] 47)).alloc (.cells #[.int .i64 0, .int .i64 0, .string ⟨#[]⟩, .bool false, .int .i64 0] 26)).cell? ⟨w.heap.size, 1, none⟩ = some (.slice A2 0 cap2) := by simp
  have y2 : ((w.alloc (.cells #[.slice (some ⟨sb, so, none⟩) 2 cap1, .slice A2 0 cap2, .int .i64 text] 47)).alloc (.cells #[.int .i64 0, .int .i64 0, .string ⟨#[]⟩, .bool false, .int .i64 0] 26)).cell? ⟨w.heap.size, 2, none⟩ = some (.int .i64 text) := by simp
  have z0 : ((w.alloc (.cells #[.slice (some ⟨sb, so, none⟩) 2 cap1, .slice A2 0 cap2, .int .i64 text] 47)).alloc (.cells #[.int .i64 0, .int .i64 0, .string ⟨#[]⟩, .bool false, .int .i64 0] 26)).cell? ⟨sb, so, none⟩ = some (.string s) := (((((Below.refl w.heap.size w).alloc (Nat.le_refl _) (.cells #[.slice (some ⟨sb, so, none⟩) 2 cap1, .slice A2 0 cap2, .int .i64 text] 47)).alloc (by simp) (.cells #[.int .i64 0, .int .i64 0, .string ⟨#[]⟩, .bool false, .int .i64 0] 26))).cell (p := ⟨sb, so, none⟩) hsb).trans hs0
  have z1 : ((w.alloc (.cells #[.slice (some ⟨sb, so, none⟩) 2 cap1, .slice A2 0 cap2, .int .i64 text] 47)).alloc (.cells #[.int .i64 0, .int .i64 0, .string ⟨#[]⟩, .bool false, .int .i64 0] 26)).cell? ⟨sb, so + 1, none⟩ = some (.string t) := (((((Below.refl w.heap.size w).alloc (Nat.le_refl _) (.cells #[.slice (some ⟨sb, so, none⟩) 2 cap1, .slice A2 0 cap2, .int .i64 text] 47)).alloc (by simp) (.cells #[.int .i64 0, .int .i64 0, .string ⟨#[]⟩, .bool false, .int .i64 0] 26))).cell (p := ⟨sb, so + 1, none⟩) hsb).trans hs1
  have hr1 : ResAt ((w.alloc (.cells #[.slice (some ⟨sb, so, none⟩) 2 cap1, .slice A2 0 cap2, .int .i64 text] 47)).alloc (.cells #[.int .i64 0, .int .i64 0, .string ⟨#[]⟩, .bool false, .int .i64 0] 26)) (w.heap.size + 1) 5 := by
    have h9 := ResAt.new5 (w.alloc (.cells #[.slice (some ⟨sb, so, none⟩) 2 cap1, .slice A2 0 cap2, .int .i64 text] 47)) (.int .i64 0) (.int .i64 0) (.string ⟨#[]⟩) (.bool false) (.int .i64 0) 26
    rw [World.size_alloc] at h9
    exact h9
  have hq1 : Below w.heap.size w ((w.alloc (.cells #[.slice (some ⟨sb, so, none⟩) 2 cap1, .slice A2 0 cap2, .int .i64 text] 47)).alloc (.cells #[.int .i64 0, .int .i64 0, .string ⟨#[]⟩, .bool false, .int .i64 0] 26)) := by (repeat (first | (with_reducible exact Below.refl _ _) | (with_reducible refine Below.alloc ?_ (by first | omega | (dsimp only; omega) | (simp <;> omega)) _) | (with_reducible refine Below.setCell ?_ (by first | omega | (dsimp only; omega) | (simp <;> omega)) _) | (with_reducible refine Below.drew ?_) | (with_reducible refine below_drewN ?_ _) | (with_reducible refine Below.trans ?_ (Below.mono (by assumption) (by first | omega | (dsimp only; omega) | (simp <;> omega))))))
  have hz1 : w.heap.size + 2 ≤ ((w.alloc (.cells #[.slice (some ⟨sb, so, none⟩) 2 cap1, .slice A2 0 cap2, .int .i64 text] 47)).alloc (.cells #[.int .i64 0, .int .i64 0, .string ⟨#[]⟩, .bool false, .int .i64 0] 26)).heap.size := by simp
  generalize ((w.alloc (.cells #[.slice (some ⟨sb, so, none⟩) 2 cap1, .slice A2 0 cap2, .int .i64 text] 47)).alloc (.cells #[.int .i64 0, .int .i64 0, .string ⟨#[]⟩, .bool false, .int .i64 0] 26)) = w1 at *
  clear hs0 hs1
  first | (go_loud (go_region_held3 (fun w' => w'.cell? ⟨w.heap.size, 0, none⟩ = some (.slice (some ⟨sb, so, none⟩) 2 cap1) ∧ w'.cell? ⟨w.heap.size, 1, none⟩ = some (.slice A2 0 cap2) ∧ w'.cell? ⟨w.heap.size, 2, none⟩ = some (.int .i64 text) ∧ w'.cell? ⟨sb, so, none⟩ = some (.string s) ∧ w'.cell? ⟨sb, so + 1, none⟩ = some (.string t) ∧ ResAt w' (w.heap.size + 1) 5 ∧ Below w.heap.size w w' ∧ w.heap.size + 1 + 1 ≤ w'.heap.size)
    (first | (go_split_ands; exact ⟨(by simp [go_sem, *]), (by simp [go_sem, *]), (by simp [go_sem, *]), (by simp [go_sem, *]), (by simp [go_sem, *]), (by first | (with_reducible exact ResAt.drew (ResAt.new5 _ _ _ _ _ _ _)) | (repeat (first | (with_reducible assumption) | (with_reducible refine ResAt.setCell ?_ _ _) | (with_reducible refine ResAt.drew ?_)))), (by (repeat (first | (with_reducible exact Below.refl _ _) | (with_reducible refine Below.alloc ?_ (by first | omega | (dsimp only; omega) | (simp <;> omega)) _) | (with_reducible refine Below.setCell ?_ (by first | omega | (dsimp only; omega) | (simp <;> omega)) _) | (with_reducible refine Below.drew ?_) | (with_reducible refine below_drewN ?_ _) | (with_reducible refine Below.trans ?_ (Below.mono (by assumption) (by first | omega | (dsimp only; omega) | (simp <;> omega))))))), (by first | (simp; done) | (simp; omega))⟩) | (exact ⟨(by simp [go_sem, *]), (by simp [go_sem, *]), (by simp [go_sem, *]), (by simp [go_sem, *]), (by simp [go_sem, *]), (by first | (with_reducible exact ResAt.drew (ResAt.new5 _ _ _ _ _ _ _)) | (repeat (first | (with_reducible assumption) | (with_reducible refine ResAt.setCell ?_ _ _) | (with_reducible refine ResAt.drew ?_)))), (by (repeat (first | (with_reducible exact Below.refl _ _) | (with_reducible refine Below.alloc ?_ (by first | omega | (dsimp only; omega) | (simp <;> omega)) _) | (with_reducible refine Below.setCell ?_ (by first | omega | (dsimp only; omega) | (simp <;> omega)) _) | (with_reducible refine Below.drew ?_) | (with_reducible refine below_drewN ?_ _) | (with_reducible refine Below.trans ?_ (Below.mono (by assumption) (by first | omega | (dsimp only; omega) | (simp <;> omega))))))), (by first | (simp; done) | (simp; omega))⟩) | (go_split_ands; exact ⟨(by rw [hb.cell (by dsimp only; omega)]; assumption), (by rw [hb.cell (by dsimp only; omega)]; assumption), (by rw [hb.cell (by dsimp only; omega)]; assumption), (by rw [hb.cell (by dsimp only; omega)]; assumption), (by rw [hb.cell (by dsimp only; omega)]; assumption), (ResAt.below (by assumption) hb (by omega)), (Below.trans (by assumption) (hb.mono (by omega))), (by have := hb.size; omega)⟩))
    (first | (go_at_call 82; refine (vtruth_any (decide (s = t)) _).mono ?_; rintro e w1 ⟨rfl, hb⟩)))) | fail "region"
  go_split_ands
  go_wp2
  try simp only [resAt_setCell] at *
  refine bodyPost_ret (v := .agg #[.int .i64 (boolL (decide (s = t))).t, .int .i64 (boolL (decide (s = t))).n, .string (boolL (decide (s = t))).s, .bool (boolL (decide (s = t))).b, .int .i64 (boolL (decide (s = t))).c]) ?_ rfl ⟨rfl, by first | assumption | (go_split_ands; first | assumption | ((repeat (first | (with_reducible exact Below.refl _ _) | (with_reducible refine Below.alloc ?_ (by first | omega | (dsimp only; omega) | (simp <;> omega)) _) | (with_reducible refine Below.setCell ?_ (by first | omega | (dsimp only; omega) | (simp <;> omega)) _) | (with_reducible refine Below.drew ?_) | (with_reducible refine below_drewN ?_ _) | (with_reducible refine Below.trans ?_ (Below.mono (by assumption) (by first | omega | (dsimp only; omega) | (simp <;> omega)))))); done)) | ((repeat (first | (with_reducible exact Below.refl _ _) | (with_reducible refine Below.alloc ?_ (by first | omega | (dsimp only; omega) | (simp <;> omega)) _) | (with_reducible refine Below.setCell ?_ (by first | omega | (dsimp only; omega) | (simp <;> omega)) _) | (with_reducible refine Below.drew ?_) | (with_reducible refine below_drewN ?_ _) | (with_reducible refine Below.trans ?_ (Below.mono (by assumption) (by first | omega | (dsimp only; omega) | (simp <;> omega)))))); done)⟩
  simp [results, Tryz.results81, go_sem, boolL, *]
set_option maxRecDepth 100000 in
set_option maxHeartbeats 1000000 in
theorem tdo_ORDx (s : ByteArray) (h : s = ⟨#[]⟩) (text : Int) (vs vn : Value) (w : World) (hS : RdStr w vs [s]) (hN : RdInt w vn []) : Calls Tryz.prog 79 #[.agg #[vs, vn, .int .i64 text]] w fun e w' => e = .returned (.agg #[.int .i64 (errL 8).t, .int .i64 (errL 8).n, .string (errL 8).s, .bool (errL 8).b, .int .i64 (errL 8).c]) ∧ Below w.heap.size w w' := by
  obtain ⟨A1, cap1, rfl, hR1⟩ := hS
  obtain ⟨A2, cap2, rfl, hR2⟩ := hN
  obtain ⟨sb, so, hA1, hsb, _⟩ := hR1 0 [.string s] rfl
  subst hA1
  have hs0 : w.cell? ⟨sb, so, none⟩ = some (.string s) := by
    obtain ⟨b9, o9, e9, _, h9⟩ := hR1 0 [.string s] rfl
    injection e9 with e9
    injection e9 with e1 e2 _
    subst e1 e2
    simpa using h9 0 _ rfl
  have hsn : sb ≠ w.heap.size := by omega
  have hsl : sb < w.heap.size + 1 := by omega
  clear hR1 hR2
  simp only [List.length_cons, List.length_nil, Nat.zero_add]
  subst h
  go_enter Tryz.func79, Tryz.ntmps79
  go_wp2_with (go_at_call 11; refine (verr_any 8 _).mono ?_; rintro e w1 ⟨rfl, hb⟩; obtain ⟨hc, hf, hz⟩ := bkeep hb (w.heap.size + 2) (by first | omega | (simp <;> omega)))
  refine bodyPost_ret (v := .agg #[.int .i64 4, .int .i64 0, .string ⟨#[]⟩, .bool false, .int .i64 (errC 8)]) ?_ rfl ⟨rfl, by (repeat (first | (with_reducible exact Below.refl _ _) | (with_reducible refine Below.alloc ?_ (by first | omega | (dsimp only; omega) | (simp <;> omega)) _) | (with_reducible refine Below.setCell ?_ (by first | omega | (dsimp only; omega) | (simp <;> omega)) _) | (with_reducible refine Below.drew ?_) | (with_reducible refine below_drewN ?_ _) | (with_reducible refine Below.trans ?_ (Below.mono (by assumption) (by first | omega | (dsimp only; omega) | (simp <;> omega))))))⟩
  simp [results, Tryz.results79, go_sem, *]
set_option maxRecDepth 100000 in
set_option maxHeartbeats 1000000 in
theorem tdo_ORD1 (s : ByteArray) (hs : 0 < s.size) (text : Int) (vs vn : Value) (w : World) (hS : RdStr w vs [s]) (hN : RdInt w vn []) : Calls Tryz.prog 79 #[.agg #[vs, vn, .int .i64 text]] w fun e w' => e = .returned (.agg #[.int .i64 (numL (((headU s).toNat : Int) * 10000)).t, .int .i64 (numL (((headU s).toNat : Int) * 10000)).n, .string (numL (((headU s).toNat : Int) * 10000)).s, .bool (numL (((headU s).toNat : Int) * 10000)).b, .int .i64 (numL (((headU s).toNat : Int) * 10000)).c]) ∧ Below w.heap.size w w' := by
  obtain ⟨A1, cap1, rfl, hR1⟩ := hS
  obtain ⟨A2, cap2, rfl, hR2⟩ := hN
  obtain ⟨sb, so, hA1, hsb, _⟩ := hR1 0 [.string s] rfl
  subst hA1
  have hs0 : w.cell? ⟨sb, so, none⟩ = some (.string s) := by
    obtain ⟨b9, o9, e9, _, h9⟩ := hR1 0 [.string s] rfl
    injection e9 with e9
    injection e9 with e1 e2 _
    subst e1 e2
    simpa using h9 0 _ rfl
  have hsn : sb ≠ w.heap.size := by omega
  have hsl : sb < w.heap.size + 1 := by omega
  clear hR1 hR2
  simp only [List.length_cons, List.length_nil, Nat.zero_add]
  have hne : decide (s = ⟨#[]⟩) = false := by
    refine decide_eq_false fun h => ?_
    subst h
    exact absurd hs (by decide)
  have hz0 : (0 : Int) < (s.size : Int) := by omega
  have hc : s[0]'hs = s.data.toList.headD 0 := by
    rcases s with ⟨⟨l⟩⟩
    cases l
    · exact absurd hs (by decide)
    · rfl
  have hh : s.data.toList.head?.getD 0 = headU s := by unfold headU; rw [List.headD_eq_head?_getD]
  go_enter Tryz.func79, Tryz.ntmps79
  go_wp2_with fail
  have hx : ∀ c : UInt8, wrap64 (c.toNat : Int) = (c.toNat : Int) := fun c => by
    rw [← IntWalk.i64_left]
    exact IntWalk.i64_in _ (by have := c.toNat_lt; omega)
  rw [hx]
  refine (twhole_any ((headU s).toNat : Int) (by have := (headU s).toNat_lt; omega) _).mono ?_
  rintro e w1 ⟨rfl, hb⟩
  obtain ⟨hc1, hf, hz⟩ := bkeep hb (w.heap.size + 2) (by simp)
  go_wp2
  refine bodyPost_ret (v := .agg #[.int .i64 (numL (((headU s).toNat : Int) * 10000)).t, .int .i64 (numL (((headU s).toNat : Int) * 10000)).n, .string (numL (((headU s).toNat : Int) * 10000)).s, .bool (numL (((headU s).toNat : Int) * 10000)).b, .int .i64 (numL (((headU s).toNat : Int) * 10000)).c]) ?_ rfl ⟨rfl, by (repeat (first | (with_reducible exact Below.refl _ _) | (with_reducible refine Below.alloc ?_ (by first | omega | (dsimp only; omega) | (simp <;> omega)) _) | (with_reducible refine Below.setCell ?_ (by first | omega | (dsimp only; omega) | (simp <;> omega)) _) | (with_reducible refine Below.drew ?_) | (with_reducible refine below_drewN ?_ _) | (with_reducible refine Below.trans ?_ (Below.mono (by assumption) (by first | omega | (dsimp only; omega) | (simp <;> omega))))))⟩
  simp [results, Tryz.results79, go_sem, *]
set_option maxRecDepth 100000 in
set_option maxHeartbeats 1000000 in
theorem tdo_NUMx (s : ByteArray) (hs : s.size ≤ maxLen) (h : numOk s.data.toList = false) (text : Int) (vs vn : Value) (w : World) (hS : RdStr w vs [s]) (hN : RdInt w vn []) : Calls Tryz.prog 84 #[.agg #[vs, vn, .int .i64 text]] w fun e w' => e = .returned (.agg #[.int .i64 (errL 4).t, .int .i64 (errL 4).n, .string (errL 4).s, .bool (errL 4).b, .int .i64 (errL 4).c]) ∧ Below w.heap.size w w' := by
  obtain ⟨A1, cap1, rfl, hR1⟩ := hS
  obtain ⟨A2, cap2, rfl, hR2⟩ := hN
  obtain ⟨sb, so, hA1, hsb, _⟩ := hR1 0 [.string s] rfl
  subst hA1
  have hs0 : w.cell? ⟨sb, so, none⟩ = some (.string s) := by
    obtain ⟨b9, o9, e9, _, h9⟩ := hR1 0 [.string s] rfl
    injection e9 with e9
    injection e9 with e1 e2 _
    subst e1 e2
    simpa using h9 0 _ rfl
  have hsn : sb ≠ w.heap.size := by omega
  have hsl : sb < w.heap.size + 1 := by omega
  clear hR1 hR2
  simp only [List.length_cons, List.length_nil, Nat.zero_add]
  obtain ⟨x, hx⟩ : ∃ x, numV s.data.toList = x := ⟨_, rfl⟩
  have C : ∀ w : World, Calls Tryz.prog 156 #[.string s] w fun e w' => e = .returned (.tuple #[.int .i64 x, .bool false]) ∧ Below w.heap.size w w' := fun w => by
    have := dparse_any s hs w
    rwa [hx, h] at this
  have C' := Lib.hid C
  clear C h hx hs
  go_enter Tryz.func84, Tryz.ntmps84
  go_wp2_with fail
  refine (C'.out _).mono ?_
  rintro e w1 ⟨rfl, hb⟩
  obtain ⟨hc1, hf1, hz1⟩ := bkeep hb (w.heap.size + 2) (by simp)
  go_wp2_with (go_at_call 11; refine (verr_any 4 _).mono ?_; rintro e w1 ⟨rfl, hb⟩; obtain ⟨hc, hf, hz⟩ := bkeep hb (w.heap.size + 2) (by first | omega | (simp <;> omega)))
  refine bodyPost_ret (v := .agg #[.int .i64 4, .int .i64 0, .string ⟨#[]⟩, .bool false, .int .i64 (errC 4)]) ?_ rfl ⟨rfl, by (repeat (first | (with_reducible exact Below.refl _ _) | (with_reducible refine Below.alloc ?_ (by first | omega | (dsimp only; omega) | (simp <;> omega)) _) | (with_reducible refine Below.setCell ?_ (by first | omega | (dsimp only; omega) | (simp <;> omega)) _) | (with_reducible refine Below.drew ?_) | (with_reducible refine below_drewN ?_ _) | (with_reducible refine Below.trans ?_ (Below.mono (by assumption) (by first | omega | (dsimp only; omega) | (simp <;> omega))))))⟩
  simp [results, Tryz.results84, go_sem, *]
set_option maxRecDepth 100000 in
set_option maxHeartbeats 1000000 in
theorem tdo_NUM1 (s : ByteArray) (hs : s.size ≤ maxLen) (h : numOk s.data.toList = true) (hr : -9223372036854775808 ≤ numV s.data.toList ∧ numV s.data.toList ≤ 9223372036854775807) (text : Int) (vs vn : Value) (w : World) (hS : RdStr w vs [s]) (hN : RdInt w vn []) : Calls Tryz.prog 84 #[.agg #[vs, vn, .int .i64 text]] w fun e w' => e = .returned (.agg #[.int .i64 (numL (numV s.data.toList)).t, .int .i64 (numL (numV s.data.toList)).n, .string (numL (numV s.data.toList)).s, .bool (numL (numV s.data.toList)).b, .int .i64 (numL (numV s.data.toList)).c]) ∧ Below w.heap.size w w' := by
  obtain ⟨A1, cap1, rfl, hR1⟩ := hS
  obtain ⟨A2, cap2, rfl, hR2⟩ := hN
  obtain ⟨sb, so, hA1, hsb, _⟩ := hR1 0 [.string s] rfl
  subst hA1
  have hs0 : w.cell? ⟨sb, so, none⟩ = some (.string s) := by
    obtain ⟨b9, o9, e9, _, h9⟩ := hR1 0 [.string s] rfl
    injection e9 with e9
    injection e9 with e1 e2 _
    subst e1 e2
    simpa using h9 0 _ rfl
  have hsn : sb ≠ w.heap.size := by omega
  have hsl : sb < w.heap.size + 1 := by omega
  clear hR1 hR2
  simp only [List.length_cons, List.length_nil, Nat.zero_add]
  obtain ⟨x, hx⟩ : ∃ x, numV s.data.toList = x := ⟨_, rfl⟩
  have C : ∀ w : World, Calls Tryz.prog 156 #[.string s] w fun e w' => e = .returned (.tuple #[.int .i64 x, .bool true]) ∧ Below w.heap.size w w' := fun w => by
    have := dparse_any s hs w
    rwa [hx, h] at this
  rw [hx] at hr ⊢
  have C' := Lib.hid C
  clear C h hx hs
  go_enter Tryz.func84, Tryz.ntmps84
  go_wp2_with fail
  refine (C'.out _).mono ?_
  rintro e w1 ⟨rfl, hb⟩
  obtain ⟨hc1, hf1, hz1⟩ := bkeep hb (w.heap.size + 2) (by simp)
  go_wp2_with (go_at_call 141; refine (vnum_any x (by omega) _).mono ?_; rintro e w1 ⟨rfl, hb⟩; obtain ⟨hc, hf, hz⟩ := bkeep hb (w.heap.size + 2) (by first | omega | (simp <;> omega)))
  refine bodyPost_ret (v := .agg #[.int .i64 (numL x).t, .int .i64 (numL x).n, .string (numL x).s, .bool (numL x).b, .int .i64 (numL x).c]) ?_ rfl ⟨rfl, by (repeat (first | (with_reducible exact Below.refl _ _) | (with_reducible refine Below.alloc ?_ (by first | omega | (dsimp only; omega) | (simp <;> omega)) _) | (with_reducible refine Below.setCell ?_ (by first | omega | (dsimp only; omega) | (simp <;> omega)) _) | (with_reducible refine Below.drew ?_) | (with_reducible refine below_drewN ?_ _) | (with_reducible refine Below.trans ?_ (Below.mono (by assumption) (by first | omega | (dsimp only; omega) | (simp <;> omega))))))⟩
  simp [results, Tryz.results84, go_sem, numL, *]
end Go.Proofs.YtgmhifafbebjfaaGreatDoor
