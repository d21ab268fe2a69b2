/-
  texts: what is known; the document's table.
-/
import Derived.Test.YtgmhifafbebjfaaGreatDoorMg24
namespace Go.Proofs.YtgmhifafbebjfaaGreatDoor
open Go.RowKit

theorem cut_mid : cutD (midD ⟨#[97, 98, 99, 100]⟩ 2) 2 = ⟨#[98, 99]⟩ := by kernel_rfl
theorem told_mid : toldT 8 (cutD (midD ⟨#[97, 98, 99, 100]⟩ 2) 2) = txtL ⟨#[98, 99]⟩ := by rw [cut_mid]; kernel_rfl
set_option maxRecDepth 100000 in
theorem kcall_MID {w : World} (hTab : Tab w) {v : Value} (hv : ArgsAt w v ([sglL (txtL ⟨#[97, 98, 99, 100]⟩), sglL (whV 2), sglL (whV 2)].take 3)) : Calls Tryz.prog 5 #[.string ⟨#[77, 73, 68]⟩, v, .int .i64 8] w fun e w' => e = .returned (.agg #[.int .i64 2, .int .i64 0, .string ⟨#[98, 99]⟩, .bool false, .int .i64 0]) ∧ Below w.heap.size w w' := by
  have := lcall_MID ⟨#[97, 98, 99, 100]⟩ (by decide) 2 2 (by omega) (by omega) (by omega) (by omega) 8 (by omega) hTab hv
  rw [told_mid] at this
  exact this
set_option maxRecDepth 100000 in
theorem kcall_LEN {w : World} (hTab : Tab w) {v : Value} (hv : ArgsAt w v ([sglL (txtL ⟨#[97, 98, 99]⟩), sglL (txtL ⟨#[]⟩), sglL (txtL ⟨#[]⟩)].take 1)) : Calls Tryz.prog 5 #[.string ⟨#[76, 69, 78]⟩, v, .int .i64 8] w fun e w' => e = .returned (.agg #[.int .i64 1, .int .i64 30000, .string ⟨#[]⟩, .bool false, .int .i64 0]) ∧ Below w.heap.size w w' := by
  have := lcall_LEN ⟨#[97, 98, 99]⟩ (by decide) 8 (by omega) hTab hv
  exact this
theorem vEq_self (t n : Int) (s : ByteArray) (b : Bool) (c : Int) : vEq t n s b c t n s b c = true := by simp [vEq]
theorem lis_self (w : World) : Calls Tryz.prog 35 #[.agg #[.int .i64 2, .int .i64 0, .string ⟨#[98, 99]⟩, .bool false, .int .i64 0], .string ⟨#[98, 99]⟩] w fun e w' => e = .returned (.bool true) ∧ Below w.heap.size w w' := by
  have := lis_any (txtL ⟨#[98, 99]⟩) ⟨#[98, 99]⟩ w
  rw [show vEq (txtL ⟨#[98, 99]⟩).t (txtL ⟨#[98, 99]⟩).n (txtL ⟨#[98, 99]⟩).s (txtL ⟨#[98, 99]⟩).b (txtL ⟨#[98, 99]⟩).c 2 0 ⟨#[98, 99]⟩ false 0 = true from vEq_self _ _ _ _ _] at this
  exact this
theorem lwhole3 (w : World) : Calls Tryz.prog 34 #[.int .i64 3] w fun e w' => e = .returned (.agg #[.bool false, .int .i64 1, .int .i64 30000, .string ⟨#[]⟩, .bool false, .int .i64 0, .int .i64 0, .int .i64 0, .int .i64 0, .int .i64 0, .slice none 0 0]) ∧ Below w.heap.size w w' := lwhole_any 3 (by omega) w
theorem tkn_REV (w : World) : Calls Tryz.prog 36 #[.string ⟨#[82, 69, 86]⟩] w fun e w' => e = .returned (.bool true) ∧ Below w.heap.size w w' := by
  have := tknown_any ⟨#[82, 69, 86]⟩ (by decide) w
  rw [show tKnown ⟨#[82, 69, 86]⟩ = true by decide +kernel] at this
  exact this
theorem tkn_ABS (w : World) : Calls Tryz.prog 36 #[.string ⟨#[65, 66, 83]⟩] w fun e w' => e = .returned (.bool false) ∧ Below w.heap.size w w' := by
  have := tknown_any ⟨#[65, 66, 83]⟩ (by decide) w
  rw [show tKnown ⟨#[65, 66, 83]⟩ = false by decide +kernel] at this
  exact this
theorem llist_MID (w : World) : Calls Tryz.prog 32 #[.agg #[.bool false, .int .i64 2, .int .i64 0, .string ⟨#[97, 98, 99, 100]⟩, .bool false, .int .i64 0, .int .i64 0, .int .i64 0, .int .i64 0, .int .i64 0, .slice none 0 0], .agg #[.bool false, .int .i64 1, .int .i64 20000, .string ⟨#[]⟩, .bool false, .int .i64 0, .int .i64 0, .int .i64 0, .int .i64 0, .int .i64 0, .slice none 0 0], .agg #[.bool false, .int .i64 1, .int .i64 20000, .string ⟨#[]⟩, .bool false, .int .i64 0, .int .i64 0, .int .i64 0, .int .i64 0, .int .i64 0, .slice none 0 0], .int .i64 3] w fun e w' => (∃ v, e = .returned v ∧ ArgsAt w' v ([sglL (txtL ⟨#[97, 98, 99, 100]⟩), sglL (whV 2), sglL (whV 2)].take 3)) ∧ Below w.heap.size w w' := llist_any (txtL ⟨#[97, 98, 99, 100]⟩) (whV 2) (whV 2) 3 (Nat.le_refl _) w
theorem llist_LEN (w : World) : Calls Tryz.prog 32 #[.agg #[.bool false, .int .i64 2, .int .i64 0, .string ⟨#[97, 98, 99]⟩, .bool false, .int .i64 0, .int .i64 0, .int .i64 0, .int .i64 0, .int .i64 0, .slice none 0 0], .agg #[.bool false, .int .i64 2, .int .i64 0, .string ⟨#[]⟩, .bool false, .int .i64 0, .int .i64 0, .int .i64 0, .int .i64 0, .int .i64 0, .slice none 0 0], .agg #[.bool false, .int .i64 2, .int .i64 0, .string ⟨#[]⟩, .bool false, .int .i64 0, .int .i64 0, .int .i64 0, .int .i64 0, .int .i64 0, .slice none 0 0], .int .i64 1] w fun e w' => (∃ v, e = .returned v ∧ ArgsAt w' v ([sglL (txtL ⟨#[97, 98, 99]⟩), sglL (txtL ⟨#[]⟩), sglL (txtL ⟨#[]⟩)].take 1)) ∧ Below w.heap.size w w' := llist_any (txtL ⟨#[97, 98, 99]⟩) (txtL ⟨#[]⟩) (txtL ⟨#[]⟩) 1 (by omega) w
theorem lwhole2 (w : World) : Calls Tryz.prog 34 #[.int .i64 2] w fun e w' => e = .returned (.agg #[.bool false, .int .i64 1, .int .i64 20000, .string ⟨#[]⟩, .bool false, .int .i64 0, .int .i64 0, .int .i64 0, .int .i64 0, .int .i64 0, .slice none 0 0]) ∧ Below w.heap.size w w' := lwhole_any 2 (by omega) w
theorem field_value (t n : Int) (s : ByteArray) (w : World) : Sem.run Tryz.prog (Instr.field 36 (.agg #[.bool false, .int .i64 t, .int .i64 n, .string s, .bool false, .int .i64 0, .int .i64 0, .int .i64 0, .int .i64 0, .int .i64 0, .slice none 0 0]) 1) w = .ok (.agg #[.int .i64 t, .int .i64 n, .string s, .bool false, .int .i64 0]) w := by kernel_rfl
set_option maxRecDepth 100000 in
set_option maxHeartbeats 4000000 in
theorem tkn_any (w : World) (ht : Tab w) : Calls Tryz.prog 7 #[] w fun e w' => e = .returned (.bool true) ∧ Below w.heap.size w w' := by
  go_enter Tryz.func7, Tryz.ntmps7
  go_wp2_with fail
  refine (ltxt_any ⟨#[97, 98, 99, 100]⟩ _).mono ?_
  rintro e w1 ⟨rfl, hb1⟩
  have q1 : Below w.heap.size w w1 := by (repeat (first | (with_reducible exact Below.refl _ _) | (with_reducible refine Below.alloc ?_ (by first | omega | (dsimp only; omega) | (simp <;> omega)) _) | (with_reducible refine Below.setCell ?_ (by first | omega | (dsimp only; omega) | (simp <;> omega)) _) | (with_reducible refine Below.drew ?_) | (with_reducible refine below_drewN ?_ _) | (with_reducible refine Below.trans ?_ (Below.mono (by assumption) (by first | omega | (dsimp only; omega) | (simp <;> omega))))))
  go_wp2_with fail
  refine (lwhole2 _).mono ?_
  rintro e w2 ⟨rfl, hb2⟩
  have q2 : Below w.heap.size w w2 := by first | exact q1.trans (hb2.mono q1.size) | exact (q1.alloc q1.size _).trans (hb2.mono (by have := q1.size; simp; omega))
  go_wp2_with fail
  refine (lwhole2 _).mono ?_
  rintro e w3 ⟨rfl, hb3⟩
  have q3 : Below w.heap.size w w3 := by first | exact q2.trans (hb3.mono q2.size) | exact (q2.alloc q2.size _).trans (hb3.mono (by have := q2.size; simp; omega))
  go_wp2_with fail
  refine (llist_MID _).mono ?_
  rintro e w4 ⟨⟨v, rfl, hv⟩, hb4⟩
  have q4 : Below w.heap.size w w4 := by first | exact q3.trans (hb4.mono q3.size) | exact (q3.alloc q3.size _).trans (hb4.mono (by have := q3.size; simp; omega))
  go_wp2_with fail
  refine (kcall_MID (Tab.below ht q4) hv).mono ?_
  rintro e w5 ⟨rfl, hb5⟩
  have q5 : Below w.heap.size w w5 := by first | exact q4.trans (hb5.mono q4.size) | exact (q4.alloc q4.size _).trans (hb5.mono (by have := q4.size; simp; omega))
  go_wp2_with fail
  refine (ltxt_any ⟨#[97, 98, 99]⟩ _).mono ?_
  rintro e w6 ⟨rfl, hb6⟩
  have q6 : Below w.heap.size w w6 := by first | exact q5.trans (hb6.mono q5.size) | exact (q5.alloc q5.size _).trans (hb6.mono (by have := q5.size; simp; omega))
  go_wp2_with fail
  refine (ltxt_any ⟨#[]⟩ _).mono ?_
  rintro e w7 ⟨rfl, hb7⟩
  have q7 : Below w.heap.size w w7 := by first | exact q6.trans (hb7.mono q6.size) | exact (q6.alloc q6.size _).trans (hb7.mono (by have := q6.size; simp; omega))
  go_wp2_with fail
  refine (ltxt_any ⟨#[]⟩ _).mono ?_
  rintro e w8 ⟨rfl, hb8⟩
  have q8 : Below w.heap.size w w8 := by first | exact q7.trans (hb8.mono q7.size) | exact (q7.alloc q7.size _).trans (hb8.mono (by have := q7.size; simp; omega))
  go_wp2_with fail
  refine (llist_LEN _).mono ?_
  rintro e w9 ⟨⟨v2, rfl, hv2⟩, hb9⟩
  have q9 : Below w.heap.size w w9 := by first | exact q8.trans (hb9.mono q8.size) | exact (q8.alloc q8.size _).trans (hb9.mono (by have := q8.size; simp; omega))
  go_wp2_with fail
  refine (kcall_LEN (Tab.below ht q9) hv2).mono ?_
  rintro e w10 ⟨rfl, hb10⟩
  have q10 : Below w.heap.size w w10 := by first | exact q9.trans (hb10.mono q9.size) | exact (q9.alloc q9.size _).trans (hb10.mono (by have := q9.size; simp; omega))
  have p6 := hb6
  simp only [World.size_alloc] at p6
  have p7 : Below (w5.heap.size + 1) _ w7 := p6.trans (hb7.mono (by have := p6.size; simp only [World.size_alloc] at this; omega))
  have p8 : Below (w5.heap.size + 1) _ w8 := p7.trans (hb8.mono (by have := p7.size; simp only [World.size_alloc] at this; omega))
  have p9 : Below (w5.heap.size + 1) _ w9 := p8.trans (hb9.mono (by have := p8.size; simp only [World.size_alloc] at this; omega))
  have p10 : Below (w5.heap.size + 1) _ w10 := p9.trans (hb10.mono (by have := p9.size; simp only [World.size_alloc] at this; omega))
  have c0 : w10.cell? ⟨w5.heap.size, 0, none⟩ = some (.int .i64 2) := (p10.cell (p := ⟨w5.heap.size, 0, none⟩) (by dsimp only; omega)).trans (by simp)
  have c1 : w10.cell? ⟨w5.heap.size, 1, none⟩ = some (.int .i64 0) := (p10.cell (p := ⟨w5.heap.size, 1, none⟩) (by dsimp only; omega)).trans (by simp)
  have c2 : w10.cell? ⟨w5.heap.size, 2, none⟩ = some (.string ⟨#[98, 99]⟩) := (p10.cell (p := ⟨w5.heap.size, 2, none⟩) (by dsimp only; omega)).trans (by simp)
  have c3 : w10.cell? ⟨w5.heap.size, 3, none⟩ = some (.bool false) := (p10.cell (p := ⟨w5.heap.size, 3, none⟩) (by dsimp only; omega)).trans (by simp)
  have c4 : w10.cell? ⟨w5.heap.size, 4, none⟩ = some (.int .i64 0) := (p10.cell (p := ⟨w5.heap.size, 4, none⟩) (by dsimp only; omega)).trans (by simp)
  have hlt : w5.heap.size < w10.heap.size := by have := p10.size; simp only [World.size_alloc] at this; omega
  have hle : w.heap.size ≤ w10.heap.size := q10.size
  clear hb1 hb2 hb3 hb4 hb5 hb6 hb7 hb8 hb9 hb10 hv hv2 q1 q2 q3 q4 q5 q6 q7 q8 q9 ht p6 p7 p8 p9 p10
  have hfv := field_value 1 30000 ⟨#[]⟩
  have hve := vEq_self 1 30000 ⟨#[]⟩ false 0
  go_wp2_with fail
  refine wp_region_held_drew (S := fun w' => w'.cell? ⟨w5.heap.size, 0, none⟩ = some (.int .i64 2) ∧ w'.cell? ⟨w5.heap.size, 1, none⟩ = some (.int .i64 0) ∧ w'.cell? ⟨w5.heap.size, 2, none⟩ = some (.string ⟨#[98, 99]⟩) ∧ w'.cell? ⟨w5.heap.size, 3, none⟩ = some (.bool false) ∧ w'.cell? ⟨w5.heap.size, 4, none⟩ = some (.int .i64 0) ∧ w'.cell? ⟨w10.heap.size, 0, none⟩ = some (.int .i64 1) ∧ w'.cell? ⟨w10.heap.size, 1, none⟩ = some (.int .i64 30000) ∧ w'.cell? ⟨w10.heap.size, 2, none⟩ = some (.string ⟨#[]⟩) ∧ w'.cell? ⟨w10.heap.size, 3, none⟩ = some (.bool false) ∧ w'.cell? ⟨w10.heap.size, 4, none⟩ = some (.int .i64 0) ∧ Below w.heap.size w w' ∧ w10.heap.size + 1 ≤ w'.heap.size) (by kernel_rfl) ?_ (fun hHeld => ?_)
  · ((try dsimp only); refine ⟨?_, ?_, ?_, ?_, ?_, ?_, ?_, ?_, ?_, ?_, ?_, ?_⟩ <;> first | (simp [go_sem, *]; done) | ((repeat (first | (with_reducible exact Below.refl _ _) | (with_reducible refine Below.alloc ?_ (by first | omega | (dsimp only; omega) | (simp <;> omega)) _) | (with_reducible refine Below.setCell ?_ (by first | omega | (dsimp only; omega) | (simp <;> omega)) _) | (with_reducible refine Below.drew ?_) | (with_reducible refine below_drewN ?_ _) | (with_reducible refine Below.trans ?_ (Below.mono (by assumption) (by first | omega | (dsimp only; omega) | (simp <;> omega)))))); done) | (simp; omega))
  refine wpAnyH_take (i := 0) (oi := ⟨_, _, _, _, _, _⟩) (v := (.agg #[.int .i64 2, .int .i64 0, .string ⟨#[98, 99]⟩, .bool false, .int .i64 0])) rfl (by kernel_rfl) (by kernel_rfl) (by kernel_rfl) (fun _ _ _ h => h) (Or.inl ⟨by rfl, ?_⟩) hHeld ?_
  · intro w2 hSw
    go_split_ands
    go_simp
  try simp only [Act.put, List.setIfInBounds_toArray, List.set_cons_zero, List.set_cons_succ]
  refine wpAnyH_ready (rs := [1]) (by kernel_rfl) (by simp) ?_
  refine AllReadyH.cons (o := ⟨_, _, _, _, _, _⟩) rfl (fun K hK => ?_) AllReadyH.nil
  go_simp
  refine (lis_self _).mono ?_
  rintro e w1 ⟨rfl, hb⟩
  refine hK.out _ _ ?_ (fun hHeld2 => ?_)
  · ((try dsimp only); go_split_ands; refine ⟨?_, ?_, ?_, ?_, ?_, ?_, ?_, ?_, ?_, ?_, ?_, ?_⟩ <;> first | (rw [hb.cell (by dsimp only; omega)]; assumption) | exact Below.trans (by assumption) (hb.mono (by omega)) | (have := hb.size; omega))
  clear hK K hHeld
  have hHeld := hHeld2
  clear hHeld2
  try simp only [Act.put, List.setIfInBounds_toArray, List.set_cons_zero, List.set_cons_succ]
  refine wpAnyH_take (i := 2) (oi := ⟨_, _, _, _, _, _⟩) (v := (.bool true)) rfl (by kernel_rfl) (by kernel_rfl) (by kernel_rfl) (fun _ _ _ h => h) (Or.inl ⟨by rfl, ?_⟩) hHeld ?_
  · intro w2 hSw
    go_split_ands
    go_simp
  try simp only [Act.put, List.setIfInBounds_toArray, List.set_cons_zero, List.set_cons_succ]
  refine wpAnyH_take (i := 3) (oi := ⟨_, _, _, _, _, _⟩) (v := (.agg #[.int .i64 1, .int .i64 30000, .string ⟨#[]⟩, .bool false, .int .i64 0])) rfl (by kernel_rfl) (by kernel_rfl) (by kernel_rfl) (fun _ _ _ h => h) (Or.inl ⟨by rfl, ?_⟩) hHeld ?_
  · intro w2 hSw
    go_split_ands
    go_simp
  try simp only [Act.put, List.setIfInBounds_toArray, List.set_cons_zero, List.set_cons_succ]
  refine wpAnyH_ready (rs := [4]) (by kernel_rfl) (by simp) ?_
  refine AllReadyH.cons (o := ⟨_, _, _, _, _, _⟩) rfl (fun K hK => ?_) AllReadyH.nil
  go_simp
  refine (lwhole3 _).mono ?_
  rintro e w1 ⟨rfl, hb⟩
  refine hK.out _ _ ?_ (fun hHeld2 => ?_)
  · ((try dsimp only); go_split_ands; refine ⟨?_, ?_, ?_, ?_, ?_, ?_, ?_, ?_, ?_, ?_, ?_, ?_⟩ <;> first | (rw [hb.cell (by dsimp only; omega)]; assumption) | exact Below.trans (by assumption) (hb.mono (by omega)) | (have := hb.size; omega))
  clear hK K hHeld
  have hHeld := hHeld2
  clear hHeld2
  try simp only [Act.put, List.setIfInBounds_toArray, List.set_cons_zero, List.set_cons_succ]
  refine wpAnyH_take (i := 5) (oi := ⟨_, _, _, _, _, _⟩) (v := (.agg #[.int .i64 1, .int .i64 30000, .string ⟨#[]⟩, .bool false, .int .i64 0])) rfl (by kernel_rfl) (by kernel_rfl) (by kernel_rfl) (fun _ _ _ h => h) (Or.inl ⟨by rfl, ?_⟩) hHeld ?_
  · intro w2 hSw
    go_split_ands
    go_simp
  try simp only [Act.put, List.setIfInBounds_toArray, List.set_cons_zero, List.set_cons_succ]
  refine wpAnyH_take (i := 6) (oi := ⟨_, _, _, _, _, _⟩) (v := (.bool true)) rfl (by kernel_rfl) (by kernel_rfl) (by kernel_rfl) (fun _ _ _ h => h) (Or.inl ⟨by rfl, ?_⟩) hHeld ?_
  · intro w2 hSw
    go_split_ands
    go_simp
  try simp only [Act.put, List.setIfInBounds_toArray, List.set_cons_zero, List.set_cons_succ]
  refine wpAnyH_take (i := 7) (oi := ⟨_, _, _, _, _, _⟩) (v := (.bool true)) rfl (by kernel_rfl) (by kernel_rfl) (by kernel_rfl) (fun _ _ _ h => h) (Or.inl ⟨by rfl, ?_⟩) hHeld ?_
  · intro w2 hSw
    go_split_ands
    go_simp
  try simp only [Act.put, List.setIfInBounds_toArray, List.set_cons_zero, List.set_cons_succ]
  refine wpAnyH_take (i := 8) (oi := ⟨_, _, _, _, _, _⟩) (v := (.bool true)) rfl (by kernel_rfl) (by kernel_rfl) (by kernel_rfl) (fun _ _ _ h => h) (Or.inl ⟨by rfl, ?_⟩) hHeld ?_
  · intro w2 hSw
    go_split_ands
    go_simp
  try simp only [Act.put, List.setIfInBounds_toArray, List.set_cons_zero, List.set_cons_succ]
  refine wpAnyH_ready (rs := [9]) (by kernel_rfl) (by simp) ?_
  refine AllReadyH.cons (o := ⟨_, _, _, _, _, _⟩) rfl (fun K hK => ?_) AllReadyH.nil
  go_simp
  refine (tkn_REV _).mono ?_
  rintro e w1 ⟨rfl, hb⟩
  refine hK.out _ _ ?_ (fun hHeld2 => ?_)
  · ((try dsimp only); go_split_ands; refine ⟨?_, ?_, ?_, ?_, ?_, ?_, ?_, ?_, ?_, ?_, ?_, ?_⟩ <;> first | (rw [hb.cell (by dsimp only; omega)]; assumption) | exact Below.trans (by assumption) (hb.mono (by omega)) | (have := hb.size; omega))
  clear hK K hHeld
  have hHeld := hHeld2
  clear hHeld2
  try simp only [Act.put, List.setIfInBounds_toArray, List.set_cons_zero, List.set_cons_succ]
  refine wpAnyH_take (i := 10) (oi := ⟨_, _, _, _, _, _⟩) (v := (.bool true)) rfl (by kernel_rfl) (by kernel_rfl) (by kernel_rfl) (fun _ _ _ h => h) (Or.inl ⟨by rfl, ?_⟩) hHeld ?_
  · intro w2 hSw
    go_split_ands
    go_simp
  try simp only [Act.put, List.setIfInBounds_toArray, List.set_cons_zero, List.set_cons_succ]
  refine wpAnyH_take (i := 11) (oi := ⟨_, _, _, _, _, _⟩) (v := (.bool true)) rfl (by kernel_rfl) (by kernel_rfl) (by kernel_rfl) (fun _ _ _ h => h) (Or.inl ⟨by rfl, ?_⟩) hHeld ?_
  · intro w2 hSw
    go_split_ands
    go_simp
  try simp only [Act.put, List.setIfInBounds_toArray, List.set_cons_zero, List.set_cons_succ]
  refine wpAnyH_ready (rs := [12]) (by kernel_rfl) (by simp) ?_
  refine AllReadyH.cons (o := ⟨_, _, _, _, _, _⟩) rfl (fun K hK => ?_) AllReadyH.nil
  go_simp
  refine (tkn_ABS _).mono ?_
  rintro e w1 ⟨rfl, hb⟩
  refine hK.out _ _ ?_ (fun hHeld2 => ?_)
  · ((try dsimp only); go_split_ands; refine ⟨?_, ?_, ?_, ?_, ?_, ?_, ?_, ?_, ?_, ?_, ?_, ?_⟩ <;> first | (rw [hb.cell (by dsimp only; omega)]; assumption) | exact Below.trans (by assumption) (hb.mono (by omega)) | (have := hb.size; omega))
  clear hK K hHeld
  have hHeld := hHeld2
  clear hHeld2
  try simp only [Act.put, List.setIfInBounds_toArray, List.set_cons_zero, List.set_cons_succ]
  refine wpAnyH_take (i := 13) (oi := ⟨_, _, _, _, _, _⟩) (v := (.bool true)) rfl (by kernel_rfl) (by kernel_rfl) (by kernel_rfl) (fun _ _ _ h => h) (Or.inl ⟨by rfl, ?_⟩) hHeld ?_
  · intro w2 hSw
    go_split_ands
    go_simp
  try simp only [Act.put, List.setIfInBounds_toArray, List.set_cons_zero, List.set_cons_succ]
  refine wpAnyH_take (i := 14) (oi := ⟨_, _, _, _, _, _⟩) (v := (.bool true)) rfl (by kernel_rfl) (by kernel_rfl) (by kernel_rfl) (fun _ _ _ h => h) (Or.inl ⟨by rfl, ?_⟩) hHeld ?_
  · intro w2 hSw
    go_split_ands
    go_simp
  try simp only [Act.put, List.setIfInBounds_toArray, List.set_cons_zero, List.set_cons_succ]
  refine wpAnyH_take (i := 15) (oi := ⟨_, _, _, _, _, _⟩) (v := (.bool true)) rfl (by kernel_rfl) (by kernel_rfl) (by kernel_rfl) (fun _ _ _ h => h) (Or.inl ⟨by rfl, ?_⟩) hHeld ?_
  · intro w2 hSw
    go_split_ands
    go_simp
  try simp only [Act.put, List.setIfInBounds_toArray, List.set_cons_zero]
  refine wpAnyH_done (by kernel_rfl) ?_ _
  go_split_ands
  go_wp2
  go_ret
  exact ⟨rfl, by first | assumption | (go_split_ands; first | assumption | ((repeat (first | (with_reducible exact Below.refl _ _) | (with_reducible refine Below.alloc ?_ (by first | omega | (dsimp only; omega) | (simp <;> omega)) _) | (with_reducible refine Below.setCell ?_ (by first | omega | (dsimp only; omega) | (simp <;> omega)) _) | (with_reducible refine Below.drew ?_) | (with_reducible refine below_drewN ?_ _) | (with_reducible refine Below.trans ?_ (Below.mono (by assumption) (by first | omega | (dsimp only; omega) | (simp <;> omega)))))); done))⟩
end Go.Proofs.YtgmhifafbebjfaaGreatDoor
