/-
 aggs: sumif.
-/
import Derived.Test.YtgmhifafbebjfaaGreatDoorMg29
import Derived.Test.YtgmhifafbebjfaaGreatDoorR10D
set_option maxRecDepth 100000
set_option maxHeartbeats 32000000
namespace Go.Proofs.YtgmhifafbebjfaaGreatDoor
open Go.RowKit

theorem asumif_any (x0 x1 x2 : AL) (hm0 : mayRectB x0.t x0.l x0.b x0.r = true) (he0 : entsOk x0 = true) (hm2 : mayRectB x2.t x2.l x2.b x2.r = true) (he2 : entsOk x2 = true) (text : Int) (w : World) (A : Option Addr) (cap : Nat) (hR : RdB w w.heap.size A 11 ([x0, x1, x2].map AL.cs)) (hin : ∀ x ∈ [x0, x1, x2], x.In w w.heap.size) : Calls Tryz.prog 116 #[.slice A 3 cap, .int .i64 text] w fun e w' => e = .returned (.agg #[.int .i64 ((sumifR x0 x1.v x2)).t, .int .i64 ((sumifR x0 x1.v x2)).n, .string ((sumifR x0 x1.v x2)).s, .bool ((sumifR x0 x1.v x2)).b, .int .i64 ((sumifR x0 x1.v x2)).c]) ∧ Below w.heap.size w w' := by
 have b0 : Below w.heap.size w (w.alloc (.cells #[.int .i64 0, .int .i64 0, .string ⟨#[]⟩, .bool false, .int .i64 0] 26)) := (Below.refl _ _).alloc (Nat.le_refl _) _
 obtain ⟨i0, hi, hi0, hi1, hi2⟩ := info_parts val_info
 obtain ⟨ab, ao, hA2, hab, hcell⟩ := hR 0 x0.cs rfl
 obtain rfl : A = some ⟨ab, ao, none⟩ := hA2
 have hcell1 : ∀ (j : Nat) (u : Value), x1.cs[j]? = some u → w.cell? ⟨ab, ao + 1 * 11 + j, none⟩ = some u := by
  obtain ⟨ab2, ao2, hA3, _, hcell1⟩ := hR 1 x1.cs rfl
  cases hA3
  exact hcell1
 have hcell2 : ∀ (j : Nat) (u : Value), x2.cs[j]? = some u → w.cell? ⟨ab, ao + 2 * 11 + j, none⟩ = some u := by
  obtain ⟨ab2, ao2, hA3, _, hcell2⟩ := hR 2 x2.cs rfl
  cases hA3
  exact hcell2
 have hC0 : ∀ w2, Below (w.heap.size + 1) (w.alloc (.cells #[.int .i64 0, .int .i64 0, .string ⟨#[]⟩, .bool false, .int .i64 0] 26)) w2 → w2.cell? ⟨ab, ao, none⟩ = some (.bool x0.many) ∧ w2.cell? ⟨ab, ao + 1, none⟩ = some (.int .i64 x0.v.t) ∧ w2.cell? ⟨ab, ao + 2, none⟩ = some (.int .i64 x0.v.n) ∧ w2.cell? ⟨ab, ao + 3, none⟩ = some (.string x0.v.s) ∧ w2.cell? ⟨ab, ao + 4, none⟩ = some (.bool x0.v.b) ∧ w2.cell? ⟨ab, ao + 5, none⟩ = some (.int .i64 x0.v.c) ∧ w2.cell? ⟨ab, ao + 6, none⟩ = some (.int .i64 x0.t) ∧ w2.cell? ⟨ab, ao + 7, none⟩ = some (.int .i64 x0.l) ∧ w2.cell? ⟨ab, ao + 8, none⟩ = some (.int .i64 x0.b) ∧ w2.cell? ⟨ab, ao + 9, none⟩ = some (.int .i64 x0.r) ∧ w2.cell? ⟨ab, ao + 10, none⟩ = some (.slice x0.A x0.es.length x0.cap) := fun w2 h => ⟨(h.cell (p := ⟨ab, ao, none⟩) (by dsimp only; omega)).trans ((b0.cell (p := ⟨ab, ao, none⟩) hab).trans (by have h9 := hcell 0 _ rfl; simpa using h9)), (h.cell (p := ⟨ab, ao + 1, none⟩) (by dsimp only; omega)).trans ((b0.cell (p := ⟨ab, ao + 1, none⟩) hab).trans (by have h9 := hcell 1 _ rfl; simpa using h9)), (h.cell (p := ⟨ab, ao + 2, none⟩) (by dsimp only; omega)).trans ((b0.cell (p := ⟨ab, ao + 2, none⟩) hab).trans (by have h9 := hcell 2 _ rfl; simpa using h9)), (h.cell (p := ⟨ab, ao + 3, none⟩) (by dsimp only; omega)).trans ((b0.cell (p := ⟨ab, ao + 3, none⟩) hab).trans (by have h9 := hcell 3 _ rfl; simpa using h9)), (h.cell (p := ⟨ab, ao + 4, none⟩) (by dsimp only; omega)).trans ((b0.cell (p := ⟨ab, ao + 4, none⟩) hab).trans (by have h9 := hcell 4 _ rfl; simpa using h9)), (h.cell (p := ⟨ab, ao + 5, none⟩) (by dsimp only; omega)).trans ((b0.cell (p := ⟨ab, ao + 5, none⟩) hab).trans (by have h9 := hcell 5 _ rfl; simpa using h9)), (h.cell (p := ⟨ab, ao + 6, none⟩) (by dsimp only; omega)).trans ((b0.cell (p := ⟨ab, ao + 6, none⟩) hab).trans (by have h9 := hcell 6 _ rfl; simpa using h9)), (h.cell (p := ⟨ab, ao + 7, none⟩) (by dsimp only; omega)).trans ((b0.cell (p := ⟨ab, ao + 7, none⟩) hab).trans (by have h9 := hcell 7 _ rfl; simpa using h9)), (h.cell (p := ⟨ab, ao + 8, none⟩) (by dsimp only; omega)).trans ((b0.cell (p := ⟨ab, ao + 8, none⟩) hab).trans (by have h9 := hcell 8 _ rfl; simpa using h9)), (h.cell (p := ⟨ab, ao + 9, none⟩) (by dsimp only; omega)).trans ((b0.cell (p := ⟨ab, ao + 9, none⟩) hab).trans (by have h9 := hcell 9 _ rfl; simpa using h9)), (h.cell (p := ⟨ab, ao + 10, none⟩) (by dsimp only; omega)).trans ((b0.cell (p := ⟨ab, ao + 10, none⟩) hab).trans (by have h9 := hcell 10 _ rfl; simpa using h9))⟩
 have hC1 : ∀ w2, Below (w.heap.size + 1) (w.alloc (.cells #[.int .i64 0, .int .i64 0, .string ⟨#[]⟩, .bool false, .int .i64 0] 26)) w2 → w2.cell? ⟨ab, ao + 11 + 1, none⟩ = some (.int .i64 x1.v.t) ∧ w2.cell? ⟨ab, ao + 11 + 2, none⟩ = some (.int .i64 x1.v.n) ∧ w2.cell? ⟨ab, ao + 11 + 3, none⟩ = some (.string x1.v.s) ∧ w2.cell? ⟨ab, ao + 11 + 4, none⟩ = some (.bool x1.v.b) ∧ w2.cell? ⟨ab, ao + 11 + 5, none⟩ = some (.int .i64 x1.v.c) := fun w2 h => ⟨(h.cell (p := ⟨ab, ao + 11 + 1, none⟩) (by dsimp only; omega)).trans ((b0.cell (p := ⟨ab, ao + 11 + 1, none⟩) hab).trans (by have h9 := hcell1 1 _ rfl; simpa using h9)), (h.cell (p := ⟨ab, ao + 11 + 2, none⟩) (by dsimp only; omega)).trans ((b0.cell (p := ⟨ab, ao + 11 + 2, none⟩) hab).trans (by have h9 := hcell1 2 _ rfl; simpa using h9)), (h.cell (p := ⟨ab, ao + 11 + 3, none⟩) (by dsimp only; omega)).trans ((b0.cell (p := ⟨ab, ao + 11 + 3, none⟩) hab).trans (by have h9 := hcell1 3 _ rfl; simpa using h9)), (h.cell (p := ⟨ab, ao + 11 + 4, none⟩) (by dsimp only; omega)).trans ((b0.cell (p := ⟨ab, ao + 11 + 4, none⟩) hab).trans (by have h9 := hcell1 4 _ rfl; simpa using h9)), (h.cell (p := ⟨ab, ao + 11 + 5, none⟩) (by dsimp only; omega)).trans ((b0.cell (p := ⟨ab, ao + 11 + 5, none⟩) hab).trans (by have h9 := hcell1 5 _ rfl; simpa using h9))⟩
 have hC2 : ∀ w2, Below (w.heap.size + 1) (w.alloc (.cells #[.int .i64 0, .int .i64 0, .string ⟨#[]⟩, .bool false, .int .i64 0] 26)) w2 → w2.cell? ⟨ab, ao + 22, none⟩ = some (.bool x2.many) ∧ w2.cell? ⟨ab, ao + 22 + 1, none⟩ = some (.int .i64 x2.v.t) ∧ w2.cell? ⟨ab, ao + 22 + 2, none⟩ = some (.int .i64 x2.v.n) ∧ w2.cell? ⟨ab, ao + 22 + 3, none⟩ = some (.string x2.v.s) ∧ w2.cell? ⟨ab, ao + 22 + 4, none⟩ = some (.bool x2.v.b) ∧ w2.cell? ⟨ab, ao + 22 + 5, none⟩ = some (.int .i64 x2.v.c) ∧ w2.cell? ⟨ab, ao + 22 + 6, none⟩ = some (.int .i64 x2.t) ∧ w2.cell? ⟨ab, ao + 22 + 7, none⟩ = some (.int .i64 x2.l) ∧ w2.cell? ⟨ab, ao + 22 + 8, none⟩ = some (.int .i64 x2.b) ∧ w2.cell? ⟨ab, ao + 22 + 9, none⟩ = some (.int .i64 x2.r) ∧ w2.cell? ⟨ab, ao + 22 + 10, none⟩ = some (.slice x2.A x2.es.length x2.cap) := fun w2 h => ⟨(h.cell (p := ⟨ab, ao + 22, none⟩) (by dsimp only; omega)).trans ((b0.cell (p := ⟨ab, ao + 22, none⟩) hab).trans (by have h9 := hcell2 0 _ rfl; simpa using h9)), (h.cell (p := ⟨ab, ao + 22 + 1, none⟩) (by dsimp only; omega)).trans ((b0.cell (p := ⟨ab, ao + 22 + 1, none⟩) hab).trans (by have h9 := hcell2 1 _ rfl; simpa using h9)), (h.cell (p := ⟨ab, ao + 22 + 2, none⟩) (by dsimp only; omega)).trans ((b0.cell (p := ⟨ab, ao + 22 + 2, none⟩) hab).trans (by have h9 := hcell2 2 _ rfl; simpa using h9)), (h.cell (p := ⟨ab, ao + 22 + 3, none⟩) (by dsimp only; omega)).trans ((b0.cell (p := ⟨ab, ao + 22 + 3, none⟩) hab).trans (by have h9 := hcell2 3 _ rfl; simpa using h9)), (h.cell (p := ⟨ab, ao + 22 + 4, none⟩) (by dsimp only; omega)).trans ((b0.cell (p := ⟨ab, ao + 22 + 4, none⟩) hab).trans (by have h9 := hcell2 4 _ rfl; simpa using h9)), (h.cell (p := ⟨ab, ao + 22 + 5, none⟩) (by dsimp only; omega)).trans ((b0.cell (p := ⟨ab, ao + 22 + 5, none⟩) hab).trans (by have h9 := hcell2 5 _ rfl; simpa using h9)), (h.cell (p := ⟨ab, ao + 22 + 6, none⟩) (by dsimp only; omega)).trans ((b0.cell (p := ⟨ab, ao + 22 + 6, none⟩) hab).trans (by have h9 := hcell2 6 _ rfl; simpa using h9)), (h.cell (p := ⟨ab, ao + 22 + 7, none⟩) (by dsimp only; omega)).trans ((b0.cell (p := ⟨ab, ao + 22 + 7, none⟩) hab).trans (by have h9 := hcell2 7 _ rfl; simpa using h9)), (h.cell (p := ⟨ab, ao + 22 + 8, none⟩) (by dsimp only; omega)).trans ((b0.cell (p := ⟨ab, ao + 22 + 8, none⟩) hab).trans (by have h9 := hcell2 8 _ rfl; simpa using h9)), (h.cell (p := ⟨ab, ao + 22 + 9, none⟩) (by dsimp only; omega)).trans ((b0.cell (p := ⟨ab, ao + 22 + 9, none⟩) hab).trans (by have h9 := hcell2 9 _ rfl; simpa using h9)), (h.cell (p := ⟨ab, ao + 22 + 10, none⟩) (by dsimp only; omega)).trans ((b0.cell (p := ⟨ab, ao + 22 + 10, none⟩) hab).trans (by have h9 := hcell2 10 _ rfl; simpa using h9))⟩
 have hne : ab ≠ w.heap.size := by omega
 obtain ⟨u1, u2, u3, u4, u5, u6⟩ := rect_in2 hm2
 have hyl := ent_len2 hm2 he2
 have hin0 := Lib.hid (hin x0 (by simp))
 have hin2 := hin x2 (by simp)
 have CH : ∀ w1, Below w.heap.size w w1 → Hid (Calls Tryz.prog 181 #[.agg #[.bool x0.many, .int .i64 x0.v.t, .int .i64 x0.v.n, .string x0.v.s, .bool x0.v.b, .int .i64 x0.v.c, .int .i64 x0.t, .int .i64 x0.l, .int .i64 x0.b, .int .i64 x0.r, .slice x0.A x0.es.length x0.cap]] w1 fun e w' => (∃ b, e = .returned (.map (some b)) ∧ w1.heap.size ≤ b ∧ OwnP w' b (heldL x0)) ∧ Below w1.heap.size w1 w') := fun w1 h1 => Lib.hid (aheld_any x0 hm0 he0 w1 ((hin0.out.below h1).mono h1.size))
 obtain ⟨al, hal⟩ : ∃ al, (decide (rowsL x0 = rowsL x2) && decide (colsL x0 = colsL x2)) = al := ⟨_, rfl⟩
 have CAl : ∀ w, Hid (Calls Tryz.prog 180 #[.agg #[.bool x0.many, .int .i64 x0.v.t, .int .i64 x0.v.n, .string x0.v.s, .bool x0.v.b, .int .i64 x0.v.c, .int .i64 x0.t, .int .i64 x0.l, .int .i64 x0.b, .int .i64 x0.r, .slice x0.A x0.es.length x0.cap], .agg #[.bool x2.many, .int .i64 x2.v.t, .int .i64 x2.v.n, .string x2.v.s, .bool x2.v.b, .int .i64 x2.v.c, .int .i64 x2.t, .int .i64 x2.l, .int .i64 x2.b, .int .i64 x2.r, .slice x2.A x2.es.length x2.cap]] w fun e w' => e = .returned (.bool al) ∧ Below w.heap.size w w') := fun w => Lib.hid (by rw [← hal]; exact aalike_any x0 x2 hm0 hm2 w)
 obtain ⟨V, hV0⟩ : ∃ V, sumifR x0 x1.v x2 = V := ⟨_, rfl⟩
 rw [hV0]
 have hVV := Lib.hid (show V = if al = true then faultR (siL x0 x1.v x2) (fitL (numsL (siL x0 x1.v x2)).sum) else errL 8 by
  rw [← hV0, ← hal]; unfold sumifR
  by_cases h8 : rowsL x0 = rowsL x2 <;> by_cases h9 : colsL x0 = colsL x2 <;> simp [h8, h9])
 have hE' := Lib.hid hin2.2.1
 have hok' : Hid (∀ e ∈ x2.es, e.v.ok) := Lib.hid (fun e he => hin2.2.2.1 e he)
 have hyE := Lib.hid he2
 clear hcell hcell1 hcell2 hR hin hin2 hal hV0 hm0 he0 hm2 he2
 go_enter Tryz.func116, Tryz.ntmps116
 go_upto_region 1 with (fail)
 go_cut [5, 6, 7] from 14 to 23 (fun a b c wc => ∃ P Q T, a = .pointer (some ⟨P, 0, none⟩) ∧ b = .pointer (some ⟨Q, 0, none⟩) ∧ c = .pointer (some ⟨T, 0, none⟩) ∧ w.heap.size + 1 ≤ P ∧ w.heap.size + 1 ≤ Q ∧ w.heap.size + 1 ≤ T ∧ wc.heap[P]? = some (.cells #[.bool x0.many, .int .i64 x0.v.t, .int .i64 x0.v.n, .string x0.v.s, .bool x0.v.b, .int .i64 x0.v.c, .int .i64 x0.t, .int .i64 x0.l, .int .i64 x0.b, .int .i64 x0.r, .slice x0.A x0.es.length x0.cap] 36 (0, 0)) ∧ wc.heap[Q]? = some (.cells #[.int .i64 x1.v.t, .int .i64 x1.v.n, .string x1.v.s, .bool x1.v.b, .int .i64 x1.v.c] 26 (0, 0)) ∧ wc.heap[T]? = some (.cells #[.bool x2.many, .int .i64 x2.v.t, .int .i64 x2.v.n, .string x2.v.s, .bool x2.v.b, .int .i64 x2.v.c, .int .i64 x2.t, .int .i64 x2.l, .int .i64 x2.b, .int .i64 x2.r, .slice x2.A x2.es.length x2.cap] 36 (0, 0)) ∧ Below (w.heap.size + 1) (w.alloc (.cells #[.int .i64 0, .int .i64 0, .string ⟨#[]⟩, .bool false, .int .i64 0] 26)) wc)
 case first =>
  refine wp_region_noPanic ?_
  refine wp_region_held_drew (S := fun w' => Below (w.heap.size + 1) (w.alloc (.cells #[.int .i64 0, .int .i64 0, .string ⟨#[]⟩, .bool false, .int .i64 0] 26)) w' ∧ w.heap.size + 1 ≤ w'.heap.size) (by kernel_rfl) (by (try dsimp only); refine ⟨?_, ?_⟩ <;> first | exact Below.drew (Below.refl _ _) | (simp; done)) (fun hHeld => ?_)
  generalize (w.alloc (.cells #[.int .i64 0, .int .i64 0, .string ⟨#[]⟩, .bool false, .int .i64 0] 26)).drew = wz at *
  refine sqT 0 hHeld ?_
  refine sqT 1 hHeld ?_
  refine wpAnyH_take (i := 2) (oi := ⟨_, _, _, _, _, _⟩) (v := ?v3) rfl (by kernel_rfl) (by kernel_rfl) (by kernel_rfl) (fun _ _ _ h => h) (Or.inl ⟨by rfl, ?hy3⟩) hHeld ?rest3
  case hy3 => (intro w2 hSw; (try dsimp only at hSw); go_split_ands; have hcc := hC0 w2 (by assumption); go_split_ands; go_simp; first | done | with_reducible rfl)
  refine sqT 3 hHeld ?_
  refine sqT 4 hHeld ?_
  refine sqT 5 hHeld ?_
  refine wpAnyH_take (i := 6) (oi := ⟨_, _, _, _, _, _⟩) (v := ?v7) rfl (by kernel_rfl) (by kernel_rfl) (by kernel_rfl) (fun _ _ _ h => h) (Or.inl ⟨by rfl, ?hy7⟩) hHeld ?rest7
  case hy7 => (intro w2 hSw; (try dsimp only at hSw); go_split_ands; have hcc := hC1 w2 (by assumption); go_split_ands; go_simp; first | done | with_reducible rfl)
  refine sqT 7 hHeld ?_
  refine sqT 8 hHeld ?_
  refine wpAnyH_take (i := 9) (oi := ⟨_, _, _, _, _, _⟩) (v := ?v10) rfl (by kernel_rfl) (by kernel_rfl) (by kernel_rfl) (fun _ _ _ h => h) (Or.inl ⟨by rfl, ?hy10⟩) hHeld ?rest10
  case hy10 => (intro w2 hSw; (try dsimp only at hSw); go_split_ands; have hcc := hC2 w2 (by assumption); go_split_ands; go_simp; first | done | with_reducible rfl)
  try simp only [Act.put, List.setIfInBounds_toArray, List.set_cons_zero, List.set_cons_succ]
  refine wpAnyH_ready (rs := [10, 11, 12]) (by kernel_rfl) (by simp) ?_
  refine AllReadyH.cons (o := ⟨_, _, _, _, _, _⟩) rfl (fun K hK => ?q_P) (AllReadyH.cons (o := ⟨_, _, _, _, _, _⟩) rfl (fun K hK => ?q_Q) (AllReadyH.cons (o := ⟨_, _, _, _, _, _⟩) rfl (fun K hK => ?q_T) AllReadyH.nil))
  case' q_P =>
   go_split_ands
   go_simp
   have hBq : Below (w.heap.size + 1) (w.alloc (.cells #[.int .i64 0, .int .i64 0, .string ⟨#[]⟩, .bool false, .int .i64 0] 26)) wz := by assumption
   have hZq : w.heap.size + 1 ≤ wz.heap.size := by assumption
   have hpP := blk_new wz #[.bool false, .int .i64 0, .int .i64 0, .string ⟨#[]⟩, .bool false, .int .i64 0, .int .i64 0, .int .i64 0, .int .i64 0, .int .i64 0, .slice none 0 0] 36
   have hzP : wz.heap.size < (wz.alloc (.cells #[.bool false, .int .i64 0, .int .i64 0, .string ⟨#[]⟩, .bool false, .int .i64 0, .int .i64 0, .int .i64 0, .int .i64 0, .int .i64 0, .slice none 0 0] 36)).heap.size := by simp
   refine hK.out _ _ ?_ (fun hHeld => ?_)
   ·((try dsimp only); refine ⟨?_, ?_⟩ <;> first | exact bx_cellp (by dsimp only; omega) (by assumption) | exact Below.alloc (by assumption) (by omega) _ | (simp; omega))
   clear hK K hBq
   try simp only [Act.put, List.setIfInBounds_toArray, List.set_cons_zero, List.set_cons_succ]
   generalize (wz.alloc (.cells #[.bool false, .int .i64 0, .int .i64 0, .string ⟨#[]⟩, .bool false, .int .i64 0, .int .i64 0, .int .i64 0, .int .i64 0, .int .i64 0, .slice none 0 0] 36)) = wn11 at *
   obtain ⟨P, hPe⟩ : ∃ b, wz.heap.size = b := ⟨_, rfl⟩
   rw [hPe] at hpP hzP ⊢
   have hlP : w.heap.size + 1 ≤ P := by omega
   clear hZq hPe
   refine wpAnyH_ready (rs := [11, 12]) (by kernel_rfl) (by simp) ?_
   refine AllReadyH.cons (o := ⟨_, _, _, _, _, _⟩) rfl (fun K hK => ?qP_Q) (AllReadyH.cons (o := ⟨_, _, _, _, _, _⟩) rfl (fun K hK => ?qP_T) AllReadyH.nil)
   case' qP_Q =>
    go_split_ands
    go_simp
    have hBq : Below (w.heap.size + 1) (w.alloc (.cells #[.int .i64 0, .int .i64 0, .string ⟨#[]⟩, .bool false, .int .i64 0] 26)) wn11 := by assumption
    have hZq : w.heap.size + 1 ≤ wn11.heap.size := by assumption
    have hpQ := blk_new wn11 #[.int .i64 0, .int .i64 0, .string ⟨#[]⟩, .bool false, .int .i64 0] 26
    have hzQ : wn11.heap.size < (wn11.alloc (.cells #[.int .i64 0, .int .i64 0, .string ⟨#[]⟩, .bool false, .int .i64 0] 26)).heap.size := by simp
    have hyP := hzP
    have hpP := blk_alloc hpP (.cells #[.int .i64 0, .int .i64 0, .string ⟨#[]⟩, .bool false, .int .i64 0] 26)
    have hzP := Nat.lt_trans hzP hzQ
    refine hK.out _ _ ?_ (fun hHeld => ?_)
    ·((try dsimp only); refine ⟨?_, ?_⟩ <;> first | exact bx_cellp (by dsimp only; omega) (by assumption) | exact Below.alloc (by assumption) (by omega) _ | (simp; omega))
    clear hK K hBq
    try simp only [Act.put, List.setIfInBounds_toArray, List.set_cons_zero, List.set_cons_succ]
    generalize (wn11.alloc (.cells #[.int .i64 0, .int .i64 0, .string ⟨#[]⟩, .bool false, .int .i64 0] 26)) = wn12 at *
    obtain ⟨Q, hQe⟩ : ∃ b, wn11.heap.size = b := ⟨_, rfl⟩
    rw [hQe] at hpQ hzQ ⊢
    have hlQ : w.heap.size + 1 ≤ Q := by omega
    have hnePQ : P ≠ Q := by omega
    have hneQP : Q ≠ P := by omega
    clear hZq hQe hyP
    refine wpAnyH_ready (rs := [12]) (by kernel_rfl) (by simp) ?_
    refine AllReadyH.cons (o := ⟨_, _, _, _, _, _⟩) rfl (fun K hK => ?qP_Q_T) AllReadyH.nil
    case' qP_Q_T =>
     go_split_ands
     go_simp
     have hBq : Below (w.heap.size + 1) (w.alloc (.cells #[.int .i64 0, .int .i64 0, .string ⟨#[]⟩, .bool false, .int .i64 0] 26)) wn12 := by assumption
     have hZq : w.heap.size + 1 ≤ wn12.heap.size := by assumption
     have hpT := blk_new wn12 #[.bool false, .int .i64 0, .int .i64 0, .string ⟨#[]⟩, .bool false, .int .i64 0, .int .i64 0, .int .i64 0, .int .i64 0, .int .i64 0, .slice none 0 0] 36
     have hzT : wn12.heap.size < (wn12.alloc (.cells #[.bool false, .int .i64 0, .int .i64 0, .string ⟨#[]⟩, .bool false, .int .i64 0, .int .i64 0, .int .i64 0, .int .i64 0, .int .i64 0, .slice none 0 0] 36)).heap.size := by simp
     have hyP := hzP
     have hpP := blk_alloc hpP (.cells #[.bool false, .int .i64 0, .int .i64 0, .string ⟨#[]⟩, .bool false, .int .i64 0, .int .i64 0, .int .i64 0, .int .i64 0, .int .i64 0, .slice none 0 0] 36)
     have hzP := Nat.lt_trans hzP hzT
     have hyQ := hzQ
     have hpQ := blk_alloc hpQ (.cells #[.bool false, .int .i64 0, .int .i64 0, .string ⟨#[]⟩, .bool false, .int .i64 0, .int .i64 0, .int .i64 0, .int .i64 0, .int .i64 0, .slice none 0 0] 36)
     have hzQ := Nat.lt_trans hzQ hzT
     refine hK.out _ _ ?_ (fun hHeld => ?_)
     ·((try dsimp only); refine ⟨?_, ?_⟩ <;> first | exact bx_cellp (by dsimp only; omega) (by assumption) | exact Below.alloc (by assumption) (by omega) _ | (simp; omega))
     clear hK K hBq
     try simp only [Act.put, List.setIfInBounds_toArray, List.set_cons_zero, List.set_cons_succ]
     generalize (wn12.alloc (.cells #[.bool false, .int .i64 0, .int .i64 0, .string ⟨#[]⟩, .bool false, .int .i64 0, .int .i64 0, .int .i64 0, .int .i64 0, .int .i64 0, .slice none 0 0] 36)) = wl at *
     obtain ⟨T, hTe⟩ : ∃ b, wn12.heap.size = b := ⟨_, rfl⟩
     rw [hTe] at hpT hzT ⊢
     have hlT : w.heap.size + 1 ≤ T := by omega
     have hnePT : P ≠ T := by omega
     have hneTP : T ≠ P := by omega
     have hneQT : Q ≠ T := by omega
     have hneTQ : T ≠ Q := by omega
     clear hZq hTe hyP hyQ
   case' qP_T =>
    go_split_ands
    go_simp
    have hBq : Below (w.heap.size + 1) (w.alloc (.cells #[.int .i64 0, .int .i64 0, .string ⟨#[]⟩, .bool false, .int .i64 0] 26)) wn11 := by assumption
    have hZq : w.heap.size + 1 ≤ wn11.heap.size := by assumption
    have hpT := blk_new wn11 #[.bool false, .int .i64 0, .int .i64 0, .string ⟨#[]⟩, .bool false, .int .i64 0, .int .i64 0, .int .i64 0, .int .i64 0, .int .i64 0, .slice none 0 0] 36
    have hzT : wn11.heap.size < (wn11.alloc (.cells #[.bool false, .int .i64 0, .int .i64 0, .string ⟨#[]⟩, .bool false, .int .i64 0, .int .i64 0, .int .i64 0, .int .i64 0, .int .i64 0, .slice none 0 0] 36)).heap.size := by simp
    have hyP := hzP
    have hpP := blk_alloc hpP (.cells #[.bool false, .int .i64 0, .int .i64 0, .string ⟨#[]⟩, .bool false, .int .i64 0, .int .i64 0, .int .i64 0, .int .i64 0, .int .i64 0, .slice none 0 0] 36)
    have hzP := Nat.lt_trans hzP hzT
    refine hK.out _ _ ?_ (fun hHeld => ?_)
    ·((try dsimp only); refine ⟨?_, ?_⟩ <;> first | exact bx_cellp (by dsimp only; omega) (by assumption) | exact Below.alloc (by assumption) (by omega) _ | (simp; omega))
    clear hK K hBq
    try simp only [Act.put, List.setIfInBounds_toArray, List.set_cons_zero, List.set_cons_succ]
    generalize (wn11.alloc (.cells #[.bool false, .int .i64 0, .int .i64 0, .string ⟨#[]⟩, .bool false, .int .i64 0, .int .i64 0, .int .i64 0, .int .i64 0, .int .i64 0, .slice none 0 0] 36)) = wn13 at *
    obtain ⟨T, hTe⟩ : ∃ b, wn11.heap.size = b := ⟨_, rfl⟩
    rw [hTe] at hpT hzT ⊢
    have hlT : w.heap.size + 1 ≤ T := by omega
    have hnePT : P ≠ T := by omega
    have hneTP : T ≠ P := by omega
    clear hZq hTe hyP
    refine wpAnyH_ready (rs := [11]) (by kernel_rfl) (by simp) ?_
    refine AllReadyH.cons (o := ⟨_, _, _, _, _, _⟩) rfl (fun K hK => ?qP_T_Q) AllReadyH.nil
    case' qP_T_Q =>
     go_split_ands
     go_simp
     have hBq : Below (w.heap.size + 1) (w.alloc (.cells #[.int .i64 0, .int .i64 0, .string ⟨#[]⟩, .bool false, .int .i64 0] 26)) wn13 := by assumption
     have hZq : w.heap.size + 1 ≤ wn13.heap.size := by assumption
     have hpQ := blk_new wn13 #[.int .i64 0, .int .i64 0, .string ⟨#[]⟩, .bool false, .int .i64 0] 26
     have hzQ : wn13.heap.size < (wn13.alloc (.cells #[.int .i64 0, .int .i64 0, .string ⟨#[]⟩, .bool false, .int .i64 0] 26)).heap.size := by simp
     have hyP := hzP
     have hpP := blk_alloc hpP (.cells #[.int .i64 0, .int .i64 0, .string ⟨#[]⟩, .bool false, .int .i64 0] 26)
     have hzP := Nat.lt_trans hzP hzQ
     have hyT := hzT
     have hpT := blk_alloc hpT (.cells #[.int .i64 0, .int .i64 0, .string ⟨#[]⟩, .bool false, .int .i64 0] 26)
     have hzT := Nat.lt_trans hzT hzQ
     refine hK.out _ _ ?_ (fun hHeld => ?_)
     ·((try dsimp only); refine ⟨?_, ?_⟩ <;> first | exact bx_cellp (by dsimp only; omega) (by assumption) | exact Below.alloc (by assumption) (by omega) _ | (simp; omega))
     clear hK K hBq
     try simp only [Act.put, List.setIfInBounds_toArray, List.set_cons_zero, List.set_cons_succ]
     generalize (wn13.alloc (.cells #[.int .i64 0, .int .i64 0, .string ⟨#[]⟩, .bool false, .int .i64 0] 26)) = wl at *
     obtain ⟨Q, hQe⟩ : ∃ b, wn13.heap.size = b := ⟨_, rfl⟩
     rw [hQe] at hpQ hzQ ⊢
     have hlQ : w.heap.size + 1 ≤ Q := by omega
     have hnePQ : P ≠ Q := by omega
     have hneQP : Q ≠ P := by omega
     have hneTQ : T ≠ Q := by omega
     have hneQT : Q ≠ T := by omega
     clear hZq hQe hyP hyT
  case' q_Q =>
   go_split_ands
   go_simp
   have hBq : Below (w.heap.size + 1) (w.alloc (.cells #[.int .i64 0, .int .i64 0, .string ⟨#[]⟩, .bool false, .int .i64 0] 26)) wz := by assumption
   have hZq : w.heap.size + 1 ≤ wz.heap.size := by assumption
   have hpQ := blk_new wz #[.int .i64 0, .int .i64 0, .string ⟨#[]⟩, .bool false, .int .i64 0] 26
   have hzQ : wz.heap.size < (wz.alloc (.cells #[.int .i64 0, .int .i64 0, .string ⟨#[]⟩, .bool false, .int .i64 0] 26)).heap.size := by simp
   refine hK.out _ _ ?_ (fun hHeld => ?_)
   ·((try dsimp only); refine ⟨?_, ?_⟩ <;> first | exact bx_cellp (by dsimp only; omega) (by assumption) | exact Below.alloc (by assumption) (by omega) _ | (simp; omega))
   clear hK K hBq
   try simp only [Act.put, List.setIfInBounds_toArray, List.set_cons_zero, List.set_cons_succ]
   generalize (wz.alloc (.cells #[.int .i64 0, .int .i64 0, .string ⟨#[]⟩, .bool false, .int .i64 0] 26)) = wn14 at *
   obtain ⟨Q, hQe⟩ : ∃ b, wz.heap.size = b := ⟨_, rfl⟩
   rw [hQe] at hpQ hzQ ⊢
   have hlQ : w.heap.size + 1 ≤ Q := by omega
   clear hZq hQe
   refine wpAnyH_ready (rs := [10, 12]) (by kernel_rfl) (by simp) ?_
   refine AllReadyH.cons (o := ⟨_, _, _, _, _, _⟩) rfl (fun K hK => ?qQ_P) (AllReadyH.cons (o := ⟨_, _, _, _, _, _⟩) rfl (fun K hK => ?qQ_T) AllReadyH.nil)
   case' qQ_P =>
    go_split_ands
    go_simp
    have hBq : Below (w.heap.size + 1) (w.alloc (.cells #[.int .i64 0, .int .i64 0, .string ⟨#[]⟩, .bool false, .int .i64 0] 26)) wn14 := by assumption
    have hZq : w.heap.size + 1 ≤ wn14.heap.size := by assumption
    have hpP := blk_new wn14 #[.bool false, .int .i64 0, .int .i64 0, .string ⟨#[]⟩, .bool false, .int .i64 0, .int .i64 0, .int .i64 0, .int .i64 0, .int .i64 0, .slice none 0 0] 36
    have hzP : wn14.heap.size < (wn14.alloc (.cells #[.bool false, .int .i64 0, .int .i64 0, .string ⟨#[]⟩, .bool false, .int .i64 0, .int .i64 0, .int .i64 0, .int .i64 0, .int .i64 0, .slice none 0 0] 36)).heap.size := by simp
    have hyQ := hzQ
    have hpQ := blk_alloc hpQ (.cells #[.bool false, .int .i64 0, .int .i64 0, .string ⟨#[]⟩, .bool false, .int .i64 0, .int .i64 0, .int .i64 0, .int .i64 0, .int .i64 0, .slice none 0 0] 36)
    have hzQ := Nat.lt_trans hzQ hzP
    refine hK.out _ _ ?_ (fun hHeld => ?_)
    ·((try dsimp only); refine ⟨?_, ?_⟩ <;> first | exact bx_cellp (by dsimp only; omega) (by assumption) | exact Below.alloc (by assumption) (by omega) _ | (simp; omega))
    clear hK K hBq
    try simp only [Act.put, List.setIfInBounds_toArray, List.set_cons_zero, List.set_cons_succ]
    generalize (wn14.alloc (.cells #[.bool false, .int .i64 0, .int .i64 0, .string ⟨#[]⟩, .bool false, .int .i64 0, .int .i64 0, .int .i64 0, .int .i64 0, .int .i64 0, .slice none 0 0] 36)) = wn15 at *
    obtain ⟨P, hPe⟩ : ∃ b, wn14.heap.size = b := ⟨_, rfl⟩
    rw [hPe] at hpP hzP ⊢
    have hlP : w.heap.size + 1 ≤ P := by omega
    have hneQP : Q ≠ P := by omega
    have hnePQ : P ≠ Q := by omega
    clear hZq hPe hyQ
    refine wpAnyH_ready (rs := [12]) (by kernel_rfl) (by simp) ?_
    refine AllReadyH.cons (o := ⟨_, _, _, _, _, _⟩) rfl (fun K hK => ?qQ_P_T) AllReadyH.nil
    case' qQ_P_T =>
     go_split_ands
     go_simp
     have hBq : Below (w.heap.size + 1) (w.alloc (.cells #[.int .i64 0, .int .i64 0, .string ⟨#[]⟩, .bool false, .int .i64 0] 26)) wn15 := by assumption
     have hZq : w.heap.size + 1 ≤ wn15.heap.size := by assumption
     have hpT := blk_new wn15 #[.bool false, .int .i64 0, .int .i64 0, .string ⟨#[]⟩, .bool false, .int .i64 0, .int .i64 0, .int .i64 0, .int .i64 0, .int .i64 0, .slice none 0 0] 36
     have hzT : wn15.heap.size < (wn15.alloc (.cells #[.bool false, .int .i64 0, .int .i64 0, .string ⟨#[]⟩, .bool false, .int .i64 0, .int .i64 0, .int .i64 0, .int .i64 0, .int .i64 0, .slice none 0 0] 36)).heap.size := by simp
     have hyQ := hzQ
     have hpQ := blk_alloc hpQ (.cells #[.bool false, .int .i64 0, .int .i64 0, .string ⟨#[]⟩, .bool false, .int .i64 0, .int .i64 0, .int .i64 0, .int .i64 0, .int .i64 0, .slice none 0 0] 36)
     have hzQ := Nat.lt_trans hzQ hzT
     have hyP := hzP
     have hpP := blk_alloc hpP (.cells #[.bool false, .int .i64 0, .int .i64 0, .string ⟨#[]⟩, .bool false, .int .i64 0, .int .i64 0, .int .i64 0, .int .i64 0, .int .i64 0, .slice none 0 0] 36)
     have hzP := Nat.lt_trans hzP hzT
     refine hK.out _ _ ?_ (fun hHeld => ?_)
     ·((try dsimp only); refine ⟨?_, ?_⟩ <;> first | exact bx_cellp (by dsimp only; omega) (by assumption) | exact Below.alloc (by assumption) (by omega) _ | (simp; omega))
     clear hK K hBq
     try simp only [Act.put, List.setIfInBounds_toArray, List.set_cons_zero, List.set_cons_succ]
     generalize (wn15.alloc (.cells #[.bool false, .int .i64 0, .int .i64 0, .string ⟨#[]⟩, .bool false, .int .i64 0, .int .i64 0, .int .i64 0, .int .i64 0, .int .i64 0, .slice none 0 0] 36)) = wl at *
     obtain ⟨T, hTe⟩ : ∃ b, wn15.heap.size = b := ⟨_, rfl⟩
     rw [hTe] at hpT hzT ⊢
     have hlT : w.heap.size + 1 ≤ T := by omega
     have hneQT : Q ≠ T := by omega
     have hneTQ : T ≠ Q := by omega
     have hnePT : P ≠ T := by omega
     have hneTP : T ≠ P := by omega
     clear hZq hTe hyQ hyP
   case' qQ_T =>
    go_split_ands
    go_simp
    have hBq : Below (w.heap.size + 1) (w.alloc (.cells #[.int .i64 0, .int .i64 0, .string ⟨#[]⟩, .bool false, .int .i64 0] 26)) wn14 := by assumption
    have hZq : w.heap.size + 1 ≤ wn14.heap.size := by assumption
    have hpT := blk_new wn14 #[.bool false, .int .i64 0, .int .i64 0, .string ⟨#[]⟩, .bool false, .int .i64 0, .int .i64 0, .int .i64 0, .int .i64 0, .int .i64 0, .slice none 0 0] 36
    have hzT : wn14.heap.size < (wn14.alloc (.cells #[.bool false, .int .i64 0, .int .i64 0, .string ⟨#[]⟩, .bool false, .int .i64 0, .int .i64 0, .int .i64 0, .int .i64 0, .int .i64 0, .slice none 0 0] 36)).heap.size := by simp
    have hyQ := hzQ
    have hpQ := blk_alloc hpQ (.cells #[.bool false, .int .i64 0, .int .i64 0, .string ⟨#[]⟩, .bool false, .int .i64 0, .int .i64 0, .int .i64 0, .int .i64 0, .int .i64 0, .slice none 0 0] 36)
    have hzQ := Nat.lt_trans hzQ hzT
    refine hK.out _ _ ?_ (fun hHeld => ?_)
    ·((try dsimp only); refine ⟨?_, ?_⟩ <;> first | exact bx_cellp (by dsimp only; omega) (by assumption) | exact Below.alloc (by assumption) (by omega) _ | (simp; omega))
    clear hK K hBq
    try simp only [Act.put, List.setIfInBounds_toArray, List.set_cons_zero, List.set_cons_succ]
    generalize (wn14.alloc (.cells #[.bool false, .int .i64 0, .int .i64 0, .string ⟨#[]⟩, .bool false, .int .i64 0, .int .i64 0, .int .i64 0, .int .i64 0, .int .i64 0, .slice none 0 0] 36)) = wn16 at *
    obtain ⟨T, hTe⟩ : ∃ b, wn14.heap.size = b := ⟨_, rfl⟩
    rw [hTe] at hpT hzT ⊢
    have hlT : w.heap.size + 1 ≤ T := by omega
    have hneQT : Q ≠ T := by omega
    have hneTQ : T ≠ Q := by omega
    clear hZq hTe hyQ
    refine wpAnyH_ready (rs := [10]) (by kernel_rfl) (by simp) ?_
    refine AllReadyH.cons (o := ⟨_, _, _, _, _, _⟩) rfl (fun K hK => ?qQ_T_P) AllReadyH.nil
    case' qQ_T_P =>
     go_split_ands
     go_simp
     have hBq : Below (w.heap.size + 1) (w.alloc (.cells #[.int .i64 0, .int .i64 0, .string ⟨#[]⟩, .bool false, .int .i64 0] 26)) wn16 := by assumption
     have hZq : w.heap.size + 1 ≤ wn16.heap.size := by assumption
     have hpP := blk_new wn16 #[.bool false, .int .i64 0, .int .i64 0, .string ⟨#[]⟩, .bool false, .int .i64 0, .int .i64 0, .int .i64 0, .int .i64 0, .int .i64 0, .slice none 0 0] 36
     have hzP : wn16.heap.size < (wn16.alloc (.cells #[.bool false, .int .i64 0, .int .i64 0, .string ⟨#[]⟩, .bool false, .int .i64 0, .int .i64 0, .int .i64 0, .int .i64 0, .int .i64 0, .slice none 0 0] 36)).heap.size := by simp
     have hyQ := hzQ
     have hpQ := blk_alloc hpQ (.cells #[.bool false, .int .i64 0, .int .i64 0, .string ⟨#[]⟩, .bool false, .int .i64 0, .int .i64 0, .int .i64 0, .int .i64 0, .int .i64 0, .slice none 0 0] 36)
     have hzQ := Nat.lt_trans hzQ hzP
     have hyT := hzT
     have hpT := blk_alloc hpT (.cells #[.bool false, .int .i64 0, .int .i64 0, .string ⟨#[]⟩, .bool false, .int .i64 0, .int .i64 0, .int .i64 0, .int .i64 0, .int .i64 0, .slice none 0 0] 36)
     have hzT := Nat.lt_trans hzT hzP
     refine hK.out _ _ ?_ (fun hHeld => ?_)
     ·((try dsimp only); refine ⟨?_, ?_⟩ <;> first | exact bx_cellp (by dsimp only; omega) (by assumption) | exact Below.alloc (by assumption) (by omega) _ | (simp; omega))
     clear hK K hBq
     try simp only [Act.put, List.setIfInBounds_toArray, List.set_cons_zero, List.set_cons_succ]
     generalize (wn16.alloc (.cells #[.bool false, .int .i64 0, .int .i64 0, .string ⟨#[]⟩, .bool false, .int .i64 0, .int .i64 0, .int .i64 0, .int .i64 0, .int .i64 0, .slice none 0 0] 36)) = wl at *
     obtain ⟨P, hPe⟩ : ∃ b, wn16.heap.size = b := ⟨_, rfl⟩
     rw [hPe] at hpP hzP ⊢
     have hlP : w.heap.size + 1 ≤ P := by omega
     have hneQP : Q ≠ P := by omega
     have hnePQ : P ≠ Q := by omega
     have hneTP : T ≠ P := by omega
     have hnePT : P ≠ T := by omega
     clear hZq hPe hyQ hyT
  case' q_T =>
   go_split_ands
   go_simp
   have hBq : Below (w.heap.size + 1) (w.alloc (.cells #[.int .i64 0, .int .i64 0, .string ⟨#[]⟩, .bool false, .int .i64 0] 26)) wz := by assumption
   have hZq : w.heap.size + 1 ≤ wz.heap.size := by assumption
   have hpT := blk_new wz #[.bool false, .int .i64 0, .int .i64 0, .string ⟨#[]⟩, .bool false, .int .i64 0, .int .i64 0, .int .i64 0, .int .i64 0, .int .i64 0, .slice none 0 0] 36
   have hzT : wz.heap.size < (wz.alloc (.cells #[.bool false, .int .i64 0, .int .i64 0, .string ⟨#[]⟩, .bool false, .int .i64 0, .int .i64 0, .int .i64 0, .int .i64 0, .int .i64 0, .slice none 0 0] 36)).heap.size := by simp
   refine hK.out _ _ ?_ (fun hHeld => ?_)
   ·((try dsimp only); refine ⟨?_, ?_⟩ <;> first | exact bx_cellp (by dsimp only; omega) (by assumption) | exact Below.alloc (by assumption) (by omega) _ | (simp; omega))
   clear hK K hBq
   try simp only [Act.put, List.setIfInBounds_toArray, List.set_cons_zero, List.set_cons_succ]
   generalize (wz.alloc (.cells #[.bool false, .int .i64 0, .int .i64 0, .string ⟨#[]⟩, .bool false, .int .i64 0, .int .i64 0, .int .i64 0, .int .i64 0, .int .i64 0, .slice none 0 0] 36)) = wn17 at *
   obtain ⟨T, hTe⟩ : ∃ b, wz.heap.size = b := ⟨_, rfl⟩
   rw [hTe] at hpT hzT ⊢
   have hlT : w.heap.size + 1 ≤ T := by omega
   clear hZq hTe
   refine wpAnyH_ready (rs := [10, 11]) (by kernel_rfl) (by simp) ?_
   refine AllReadyH.cons (o := ⟨_, _, _, _, _, _⟩) rfl (fun K hK => ?qT_P) (AllReadyH.cons (o := ⟨_, _, _, _, _, _⟩) rfl (fun K hK => ?qT_Q) AllReadyH.nil)
   case' qT_P =>
    go_split_ands
    go_simp
    have hBq : Below (w.heap.size + 1) (w.alloc (.cells #[.int .i64 0, .int .i64 0, .string ⟨#[]⟩, .bool false, .int .i64 0] 26)) wn17 := by assumption
    have hZq : w.heap.size + 1 ≤ wn17.heap.size := by assumption
    have hpP := blk_new wn17 #[.bool false, .int .i64 0, .int .i64 0, .string ⟨#[]⟩, .bool false, .int .i64 0, .int .i64 0, .int .i64 0, .int .i64 0, .int .i64 0, .slice none 0 0] 36
    have hzP : wn17.heap.size < (wn17.alloc (.cells #[.bool false, .int .i64 0, .int .i64 0, .string ⟨#[]⟩, .bool false, .int .i64 0, .int .i64 0, .int .i64 0, .int .i64 0, .int .i64 0, .slice none 0 0] 36)).heap.size := by simp
    have hyT := hzT
    have hpT := blk_alloc hpT (.cells #[.bool false, .int .i64 0, .int .i64 0, .string ⟨#[]⟩, .bool false, .int .i64 0, .int .i64 0, .int .i64 0, .int .i64 0, .int .i64 0, .slice none 0 0] 36)
    have hzT := Nat.lt_trans hzT hzP
    refine hK.out _ _ ?_ (fun hHeld => ?_)
    ·((try dsimp only); refine ⟨?_, ?_⟩ <;> first | exact bx_cellp (by dsimp only; omega) (by assumption) | exact Below.alloc (by assumption) (by omega) _ | (simp; omega))
    clear hK K hBq
    try simp only [Act.put, List.setIfInBounds_toArray, List.set_cons_zero, List.set_cons_succ]
    generalize (wn17.alloc (.cells #[.bool false, .int .i64 0, .int .i64 0, .string ⟨#[]⟩, .bool false, .int .i64 0, .int .i64 0, .int .i64 0, .int .i64 0, .int .i64 0, .slice none 0 0] 36)) = wn18 at *
    obtain ⟨P, hPe⟩ : ∃ b, wn17.heap.size = b := ⟨_, rfl⟩
    rw [hPe] at hpP hzP ⊢
    have hlP : w.heap.size + 1 ≤ P := by omega
    have hneTP : T ≠ P := by omega
    have hnePT : P ≠ T := by omega
    clear hZq hPe hyT
    refine wpAnyH_ready (rs := [11]) (by kernel_rfl) (by simp) ?_
    refine AllReadyH.cons (o := ⟨_, _, _, _, _, _⟩) rfl (fun K hK => ?qT_P_Q) AllReadyH.nil
    case' qT_P_Q =>
     go_split_ands
     go_simp
     have hBq : Below (w.heap.size + 1) (w.alloc (.cells #[.int .i64 0, .int .i64 0, .string ⟨#[]⟩, .bool false, .int .i64 0] 26)) wn18 := by assumption
     have hZq : w.heap.size + 1 ≤ wn18.heap.size := by assumption
     have hpQ := blk_new wn18 #[.int .i64 0, .int .i64 0, .string ⟨#[]⟩, .bool false, .int .i64 0] 26
     have hzQ : wn18.heap.size < (wn18.alloc (.cells #[.int .i64 0, .int .i64 0, .string ⟨#[]⟩, .bool false, .int .i64 0] 26)).heap.size := by simp
     have hyT := hzT
     have hpT := blk_alloc hpT (.cells #[.int .i64 0, .int .i64 0, .string ⟨#[]⟩, .bool false, .int .i64 0] 26)
     have hzT := Nat.lt_trans hzT hzQ
     have hyP := hzP
     have hpP := blk_alloc hpP (.cells #[.int .i64 0, .int .i64 0, .string ⟨#[]⟩, .bool false, .int .i64 0] 26)
     have hzP := Nat.lt_trans hzP hzQ
     refine hK.out _ _ ?_ (fun hHeld => ?_)
     ·((try dsimp only); refine ⟨?_, ?_⟩ <;> first | exact bx_cellp (by dsimp only; omega) (by assumption) | exact Below.alloc (by assumption) (by omega) _ | (simp; omega))
     clear hK K hBq
     try simp only [Act.put, List.setIfInBounds_toArray, List.set_cons_zero, List.set_cons_succ]
     generalize (wn18.alloc (.cells #[.int .i64 0, .int .i64 0, .string ⟨#[]⟩, .bool false, .int .i64 0] 26)) = wl at *
     obtain ⟨Q, hQe⟩ : ∃ b, wn18.heap.size = b := ⟨_, rfl⟩
     rw [hQe] at hpQ hzQ ⊢
     have hlQ : w.heap.size + 1 ≤ Q := by omega
     have hneTQ : T ≠ Q := by omega
     have hneQT : Q ≠ T := by omega
     have hnePQ : P ≠ Q := by omega
     have hneQP : Q ≠ P := by omega
     clear hZq hQe hyT hyP
   case' qT_Q =>
    go_split_ands
    go_simp
    have hBq : Below (w.heap.size + 1) (w.alloc (.cells #[.int .i64 0, .int .i64 0, .string ⟨#[]⟩, .bool false, .int .i64 0] 26)) wn17 := by assumption
    have hZq : w.heap.size + 1 ≤ wn17.heap.size := by assumption
    have hpQ := blk_new wn17 #[.int .i64 0, .int .i64 0, .string ⟨#[]⟩, .bool false, .int .i64 0] 26
    have hzQ : wn17.heap.size < (wn17.alloc (.cells #[.int .i64 0, .int .i64 0, .string ⟨#[]⟩, .bool false, .int .i64 0] 26)).heap.size := by simp
    have hyT := hzT
    have hpT := blk_alloc hpT (.cells #[.int .i64 0, .int .i64 0, .string ⟨#[]⟩, .bool false, .int .i64 0] 26)
    have hzT := Nat.lt_trans hzT hzQ
    refine hK.out _ _ ?_ (fun hHeld => ?_)
    ·((try dsimp only); refine ⟨?_, ?_⟩ <;> first | exact bx_cellp (by dsimp only; omega) (by assumption) | exact Below.alloc (by assumption) (by omega) _ | (simp; omega))
    clear hK K hBq
    try simp only [Act.put, List.setIfInBounds_toArray, List.set_cons_zero, List.set_cons_succ]
    generalize (wn17.alloc (.cells #[.int .i64 0, .int .i64 0, .string ⟨#[]⟩, .bool false, .int .i64 0] 26)) = wn19 at *
    obtain ⟨Q, hQe⟩ : ∃ b, wn17.heap.size = b := ⟨_, rfl⟩
    rw [hQe] at hpQ hzQ ⊢
    have hlQ : w.heap.size + 1 ≤ Q := by omega
    have hneTQ : T ≠ Q := by omega
    have hneQT : Q ≠ T := by omega
    clear hZq hQe hyT
    refine wpAnyH_ready (rs := [10]) (by kernel_rfl) (by simp) ?_
    refine AllReadyH.cons (o := ⟨_, _, _, _, _, _⟩) rfl (fun K hK => ?qT_Q_P) AllReadyH.nil
    case' qT_Q_P =>
     go_split_ands
     go_simp
     have hBq : Below (w.heap.size + 1) (w.alloc (.cells #[.int .i64 0, .int .i64 0, .string ⟨#[]⟩, .bool false, .int .i64 0] 26)) wn19 := by assumption
     have hZq : w.heap.size + 1 ≤ wn19.heap.size := by assumption
     have hpP := blk_new wn19 #[.bool false, .int .i64 0, .int .i64 0, .string ⟨#[]⟩, .bool false, .int .i64 0, .int .i64 0, .int .i64 0, .int .i64 0, .int .i64 0, .slice none 0 0] 36
     have hzP : wn19.heap.size < (wn19.alloc (.cells #[.bool false, .int .i64 0, .int .i64 0, .string ⟨#[]⟩, .bool false, .int .i64 0, .int .i64 0, .int .i64 0, .int .i64 0, .int .i64 0, .slice none 0 0] 36)).heap.size := by simp
     have hyT := hzT
     have hpT := blk_alloc hpT (.cells #[.bool false, .int .i64 0, .int .i64 0, .string ⟨#[]⟩, .bool false, .int .i64 0, .int .i64 0, .int .i64 0, .int .i64 0, .int .i64 0, .slice none 0 0] 36)
     have hzT := Nat.lt_trans hzT hzP
     have hyQ := hzQ
     have hpQ := blk_alloc hpQ (.cells #[.bool false, .int .i64 0, .int .i64 0, .string ⟨#[]⟩, .bool false, .int .i64 0, .int .i64 0, .int .i64 0, .int .i64 0, .int .i64 0, .slice none 0 0] 36)
     have hzQ := Nat.lt_trans hzQ hzP
     refine hK.out _ _ ?_ (fun hHeld => ?_)
     ·((try dsimp only); refine ⟨?_, ?_⟩ <;> first | exact bx_cellp (by dsimp only; omega) (by assumption) | exact Below.alloc (by assumption) (by omega) _ | (simp; omega))
     clear hK K hBq
     try simp only [Act.put, List.setIfInBounds_toArray, List.set_cons_zero, List.set_cons_succ]
     generalize (wn19.alloc (.cells #[.bool false, .int .i64 0, .int .i64 0, .string ⟨#[]⟩, .bool false, .int .i64 0, .int .i64 0, .int .i64 0, .int .i64 0, .int .i64 0, .slice none 0 0] 36)) = wl at *
     obtain ⟨P, hPe⟩ : ∃ b, wn19.heap.size = b := ⟨_, rfl⟩
     rw [hPe] at hpP hzP ⊢
     have hlP : w.heap.size + 1 ≤ P := by omega
     have hneTP : T ≠ P := by omega
     have hnePT : P ≠ T := by omega
     have hneQP : Q ≠ P := by omega
     have hnePQ : P ≠ Q := by omega
     clear hZq hPe hyT hyQ
  all_goals
   refine sqC 13 (fun K hK => ?_)
   go_split_ands
   have hcl0 : wl.cell? ⟨P, 0, none⟩ = some (.bool false) := blk_cell hpP 0
   have hcl1 : wl.cell? ⟨P, 1, none⟩ = some (.int .i64 0) := blk_cell hpP 1
   have hcl2 : wl.cell? ⟨P, 2, none⟩ = some (.int .i64 0) := blk_cell hpP 2
   have hcl3 : wl.cell? ⟨P, 3, none⟩ = some (.string ⟨#[]⟩) := blk_cell hpP 3
   have hcl4 : wl.cell? ⟨P, 4, none⟩ = some (.bool false) := blk_cell hpP 4
   have hcl5 : wl.cell? ⟨P, 5, none⟩ = some (.int .i64 0) := blk_cell hpP 5
   have hcl6 : wl.cell? ⟨P, 6, none⟩ = some (.int .i64 0) := blk_cell hpP 6
   have hcl7 : wl.cell? ⟨P, 7, none⟩ = some (.int .i64 0) := blk_cell hpP 7
   have hcl8 : wl.cell? ⟨P, 8, none⟩ = some (.int .i64 0) := blk_cell hpP 8
   have hcl9 : wl.cell? ⟨P, 9, none⟩ = some (.int .i64 0) := blk_cell hpP 9
   have hcl10 : wl.cell? ⟨P, 10, none⟩ = some (.slice none 0 0) := blk_cell hpP 10
   have hfz0 : wl.frozen? ⟨P, 0, none⟩ = false := blk_frozen hpP 0
   have hfz1 : wl.frozen? ⟨P, 1, none⟩ = false := blk_frozen hpP 1
   have hfz2 : wl.frozen? ⟨P, 2, none⟩ = false := blk_frozen hpP 2
   have hfz3 : wl.frozen? ⟨P, 3, none⟩ = false := blk_frozen hpP 3
   have hfz4 : wl.frozen? ⟨P, 4, none⟩ = false := blk_frozen hpP 4
   have hfz5 : wl.frozen? ⟨P, 5, none⟩ = false := blk_frozen hpP 5
   have hfz6 : wl.frozen? ⟨P, 6, none⟩ = false := blk_frozen hpP 6
   have hfz7 : wl.frozen? ⟨P, 7, none⟩ = false := blk_frozen hpP 7
   have hfz8 : wl.frozen? ⟨P, 8, none⟩ = false := blk_frozen hpP 8
   have hfz9 : wl.frozen? ⟨P, 9, none⟩ = false := blk_frozen hpP 9
   have hfz10 : wl.frozen? ⟨P, 10, none⟩ = false := blk_frozen hpP 10
   go_simp
   have hBq : Below (w.heap.size + 1) (w.alloc (.cells #[.int .i64 0, .int .i64 0, .string ⟨#[]⟩, .bool false, .int .i64 0] 26)) wl := by assumption
   have hZq : w.heap.size + 1 ≤ wl.heap.size := by assumption
   clear hcl0 hfz0 hcl1 hfz1 hcl2 hfz2 hcl3 hfz3 hcl4 hfz4 hcl5 hfz5 hcl6 hfz6 hcl7 hfz7 hcl8 hfz8 hcl9 hfz9 hcl10 hfz10
   obtain ⟨wn20, he_wn20⟩ : ∃ wq, wq = (((((((((((wl.setCell ⟨P, 0, none⟩ (.bool x0.many)).setCell ⟨P, 1, none⟩ (.int .i64 x0.v.t)).setCell ⟨P, 2, none⟩ (.int .i64 x0.v.n)).setCell ⟨P, 3, none⟩ (.string x0.v.s)).setCell ⟨P, 4, none⟩ (.bool x0.v.b)).setCell ⟨P, 5, none⟩ (.int .i64 x0.v.c)).setCell ⟨P, 6, none⟩ (.int .i64 x0.t)).setCell ⟨P, 7, none⟩ (.int .i64 x0.l)).setCell ⟨P, 8, none⟩ (.int .i64 x0.b)).setCell ⟨P, 9, none⟩ (.int .i64 x0.r)).setCell ⟨P, 10, none⟩ (.slice x0.A x0.es.length x0.cap)) := ⟨_, rfl⟩
   rw [← he_wn20]
   have hBf : Below (w.heap.size + 1) (w.alloc (.cells #[.int .i64 0, .int .i64 0, .string ⟨#[]⟩, .bool false, .int .i64 0] 26)) wn20 := by rw [he_wn20]; exact below11 hBq hlP
   have hZf : w.heap.size + 1 ≤ wn20.heap.size := by rw [he_wn20]; exact size_sc11 hZq
   have hpQ : wn20.heap[Q]? = some (.cells #[.int .i64 0, .int .i64 0, .string ⟨#[]⟩, .bool false, .int .i64 0] 26 (0, 0)) := by rw [he_wn20]; exact kfar11 hneQP hpQ
   have hpT : wn20.heap[T]? = some (.cells #[.bool false, .int .i64 0, .int .i64 0, .string ⟨#[]⟩, .bool false, .int .i64 0, .int .i64 0, .int .i64 0, .int .i64 0, .int .i64 0, .slice none 0 0] 36 (0, 0)) := by rw [he_wn20]; exact kfar11 hneTP hpT
   have hpP : wn20.heap[P]? = some (.cells #[.bool x0.many, .int .i64 x0.v.t, .int .i64 x0.v.n, .string x0.v.s, .bool x0.v.b, .int .i64 x0.v.c, .int .i64 x0.t, .int .i64 x0.l, .int .i64 x0.b, .int .i64 x0.r, .slice x0.A x0.es.length x0.cap] 36 (0, 0)) := by rw [he_wn20]; exact row11 hpP
   clear hBq hZq
   clear he_wn20
   refine hK.out _ _ ?_ (fun hHeld => ?_)
   ·exact kpA
   clear hK K
   try simp only [Act.put, List.setIfInBounds_toArray, List.set_cons_zero, List.set_cons_succ]
   refine sqC 14 (fun K hK => ?_)
   go_split_ands
   have hcl0 : wn20.cell? ⟨Q, 0, none⟩ = some (.int .i64 0) := blk_cell hpQ 0
   have hcl1 : wn20.cell? ⟨Q, 1, none⟩ = some (.int .i64 0) := blk_cell hpQ 1
   have hcl2 : wn20.cell? ⟨Q, 2, none⟩ = some (.string ⟨#[]⟩) := blk_cell hpQ 2
   have hcl3 : wn20.cell? ⟨Q, 3, none⟩ = some (.bool false) := blk_cell hpQ 3
   have hcl4 : wn20.cell? ⟨Q, 4, none⟩ = some (.int .i64 0) := blk_cell hpQ 4
   have hfz0 : wn20.frozen? ⟨Q, 0, none⟩ = false := blk_frozen hpQ 0
   have hfz1 : wn20.frozen? ⟨Q, 1, none⟩ = false := blk_frozen hpQ 1
   have hfz2 : wn20.frozen? ⟨Q, 2, none⟩ = false := blk_frozen hpQ 2
   have hfz3 : wn20.frozen? ⟨Q, 3, none⟩ = false := blk_frozen hpQ 3
   have hfz4 : wn20.frozen? ⟨Q, 4, none⟩ = false := blk_frozen hpQ 4
   go_simp
   have hBq : Below (w.heap.size + 1) (w.alloc (.cells #[.int .i64 0, .int .i64 0, .string ⟨#[]⟩, .bool false, .int .i64 0] 26)) wn20 := by assumption
   have hZq : w.heap.size + 1 ≤ wn20.heap.size := by assumption
   clear hcl0 hfz0 hcl1 hfz1 hcl2 hfz2 hcl3 hfz3 hcl4 hfz4
   obtain ⟨wn21, he_wn21⟩ : ∃ wq, wq = (((((wn20.setCell ⟨Q, 0, none⟩ (.int .i64 x1.v.t)).setCell ⟨Q, 1, none⟩ (.int .i64 x1.v.n)).setCell ⟨Q, 2, none⟩ (.string x1.v.s)).setCell ⟨Q, 3, none⟩ (.bool x1.v.b)).setCell ⟨Q, 4, none⟩ (.int .i64 x1.v.c)) := ⟨_, rfl⟩
   rw [← he_wn21]
   have hBf : Below (w.heap.size + 1) (w.alloc (.cells #[.int .i64 0, .int .i64 0, .string ⟨#[]⟩, .bool false, .int .i64 0] 26)) wn21 := by rw [he_wn21]; exact below5 hBq hlQ
   have hZf : w.heap.size + 1 ≤ wn21.heap.size := by rw [he_wn21]; exact size_sc5 hZq
   have hpP : wn21.heap[P]? = some (.cells #[.bool x0.many, .int .i64 x0.v.t, .int .i64 x0.v.n, .string x0.v.s, .bool x0.v.b, .int .i64 x0.v.c, .int .i64 x0.t, .int .i64 x0.l, .int .i64 x0.b, .int .i64 x0.r, .slice x0.A x0.es.length x0.cap] 36 (0, 0)) := by rw [he_wn21]; exact kfar5 hnePQ hpP
   have hpT : wn21.heap[T]? = some (.cells #[.bool false, .int .i64 0, .int .i64 0, .string ⟨#[]⟩, .bool false, .int .i64 0, .int .i64 0, .int .i64 0, .int .i64 0, .int .i64 0, .slice none 0 0] 36 (0, 0)) := by rw [he_wn21]; exact kfar5 hneTQ hpT
   have hpQ : wn21.heap[Q]? = some (.cells #[.int .i64 x1.v.t, .int .i64 x1.v.n, .string x1.v.s, .bool x1.v.b, .int .i64 x1.v.c] 26 (0, 0)) := by rw [he_wn21]; exact row5 hpQ
   clear hBq hZq
   clear he_wn21
   refine hK.out _ _ ?_ (fun hHeld => ?_)
   ·exact kpA
   clear hK K
   try simp only [Act.put, List.setIfInBounds_toArray, List.set_cons_zero, List.set_cons_succ]
   refine sqC 15 (fun K hK => ?_)
   go_split_ands
   have hcl0 : wn21.cell? ⟨T, 0, none⟩ = some (.bool false) := blk_cell hpT 0
   have hcl1 : wn21.cell? ⟨T, 1, none⟩ = some (.int .i64 0) := blk_cell hpT 1
   have hcl2 : wn21.cell? ⟨T, 2, none⟩ = some (.int .i64 0) := blk_cell hpT 2
   have hcl3 : wn21.cell? ⟨T, 3, none⟩ = some (.string ⟨#[]⟩) := blk_cell hpT 3
   have hcl4 : wn21.cell? ⟨T, 4, none⟩ = some (.bool false) := blk_cell hpT 4
   have hcl5 : wn21.cell? ⟨T, 5, none⟩ = some (.int .i64 0) := blk_cell hpT 5
   have hcl6 : wn21.cell? ⟨T, 6, none⟩ = some (.int .i64 0) := blk_cell hpT 6
   have hcl7 : wn21.cell? ⟨T, 7, none⟩ = some (.int .i64 0) := blk_cell hpT 7
   have hcl8 : wn21.cell? ⟨T, 8, none⟩ = some (.int .i64 0) := blk_cell hpT 8
   have hcl9 : wn21.cell? ⟨T, 9, none⟩ = some (.int .i64 0) := blk_cell hpT 9
   have hcl10 : wn21.cell? ⟨T, 10, none⟩ = some (.slice none 0 0) := blk_cell hpT 10
   have hfz0 : wn21.frozen? ⟨T, 0, none⟩ = false := blk_frozen hpT 0
   have hfz1 : wn21.frozen? ⟨T, 1, none⟩ = false := blk_frozen hpT 1
   have hfz2 : wn21.frozen? ⟨T, 2, none⟩ = false := blk_frozen hpT 2
   have hfz3 : wn21.frozen? ⟨T, 3, none⟩ = false := blk_frozen hpT 3
   have hfz4 : wn21.frozen? ⟨T, 4, none⟩ = false := blk_frozen hpT 4
   have hfz5 : wn21.frozen? ⟨T, 5, none⟩ = false := blk_frozen hpT 5
   have hfz6 : wn21.frozen? ⟨T, 6, none⟩ = false := blk_frozen hpT 6
   have hfz7 : wn21.frozen? ⟨T, 7, none⟩ = false := blk_frozen hpT 7
   have hfz8 : wn21.frozen? ⟨T, 8, none⟩ = false := blk_frozen hpT 8
   have hfz9 : wn21.frozen? ⟨T, 9, none⟩ = false := blk_frozen hpT 9
   have hfz10 : wn21.frozen? ⟨T, 10, none⟩ = false := blk_frozen hpT 10
   go_simp
   have hBq : Below (w.heap.size + 1) (w.alloc (.cells #[.int .i64 0, .int .i64 0, .string ⟨#[]⟩, .bool false, .int .i64 0] 26)) wn21 := by assumption
   have hZq : w.heap.size + 1 ≤ wn21.heap.size := by assumption
   clear hcl0 hfz0 hcl1 hfz1 hcl2 hfz2 hcl3 hfz3 hcl4 hfz4 hcl5 hfz5 hcl6 hfz6 hcl7 hfz7 hcl8 hfz8 hcl9 hfz9 hcl10 hfz10
   obtain ⟨wn22, he_wn22⟩ : ∃ wq, wq = (((((((((((wn21.setCell ⟨T, 0, none⟩ (.bool x2.many)).setCell ⟨T, 1, none⟩ (.int .i64 x2.v.t)).setCell ⟨T, 2, none⟩ (.int .i64 x2.v.n)).setCell ⟨T, 3, none⟩ (.string x2.v.s)).setCell ⟨T, 4, none⟩ (.bool x2.v.b)).setCell ⟨T, 5, none⟩ (.int .i64 x2.v.c)).setCell ⟨T, 6, none⟩ (.int .i64 x2.t)).setCell ⟨T, 7, none⟩ (.int .i64 x2.l)).setCell ⟨T, 8, none⟩ (.int .i64 x2.b)).setCell ⟨T, 9, none⟩ (.int .i64 x2.r)).setCell ⟨T, 10, none⟩ (.slice x2.A x2.es.length x2.cap)) := ⟨_, rfl⟩
   rw [← he_wn22]
   have hBf : Below (w.heap.size + 1) (w.alloc (.cells #[.int .i64 0, .int .i64 0, .string ⟨#[]⟩, .bool false, .int .i64 0] 26)) wn22 := by rw [he_wn22]; exact below11 hBq hlT
   have hZf : w.heap.size + 1 ≤ wn22.heap.size := by rw [he_wn22]; exact size_sc11 hZq
   have hpP : wn22.heap[P]? = some (.cells #[.bool x0.many, .int .i64 x0.v.t, .int .i64 x0.v.n, .string x0.v.s, .bool x0.v.b, .int .i64 x0.v.c, .int .i64 x0.t, .int .i64 x0.l, .int .i64 x0.b, .int .i64 x0.r, .slice x0.A x0.es.length x0.cap] 36 (0, 0)) := by rw [he_wn22]; exact kfar11 hnePT hpP
   have hpQ : wn22.heap[Q]? = some (.cells #[.int .i64 x1.v.t, .int .i64 x1.v.n, .string x1.v.s, .bool x1.v.b, .int .i64 x1.v.c] 26 (0, 0)) := by rw [he_wn22]; exact kfar11 hneQT hpQ
   have hpT : wn22.heap[T]? = some (.cells #[.bool x2.many, .int .i64 x2.v.t, .int .i64 x2.v.n, .string x2.v.s, .bool x2.v.b, .int .i64 x2.v.c, .int .i64 x2.t, .int .i64 x2.l, .int .i64 x2.b, .int .i64 x2.r, .slice x2.A x2.es.length x2.cap] 36 (0, 0)) := by rw [he_wn22]; exact row11 hpT
   clear hBq hZq
   clear he_wn22
   refine hK.out _ _ ?_ (fun hHeld => ?_)
   ·exact kpA
   clear hK K
   refine wpAnyH_done (by kernel_rfl) ?_ _
   refine NoPanic.normal ?_
   go_wp2
   go_meet
   case rel => exact ⟨P, Q, T, rfl, rfl, rfl, hlP, hlQ, hlT, hpP, hpQ, hpT, hBf⟩
 case rest =>
  obtain ⟨P, Q, T, rfl, rfl, rfl, hlP, hlQ, hlT, hpP, hpQ, hpT, hbc⟩ := hcut
  obtain ⟨wa, rfl⟩ : ∃ wa, wa = wc := ⟨_, rfl⟩
  have hPl := (Array.getElem?_eq_some_iff.1 hpP).1
  have hQl := (Array.getElem?_eq_some_iff.1 hpQ).1
  have hTl := (Array.getElem?_eq_some_iff.1 hpT).1
  have hq0 : Below w.heap.size w wa := b0.trans (hbc.mono (by omega))
  have cp0 : wa.cell? ⟨P, 0, none⟩ = some (.bool x0.many) := blk_cell hpP 0
  have cp1 : wa.cell? ⟨P, 1, none⟩ = some (.int .i64 x0.v.t) := blk_cell hpP 1
  have cp2 : wa.cell? ⟨P, 2, none⟩ = some (.int .i64 x0.v.n) := blk_cell hpP 2
  have cp3 : wa.cell? ⟨P, 3, none⟩ = some (.string x0.v.s) := blk_cell hpP 3
  have cp4 : wa.cell? ⟨P, 4, none⟩ = some (.bool x0.v.b) := blk_cell hpP 4
  have cp5 : wa.cell? ⟨P, 5, none⟩ = some (.int .i64 x0.v.c) := blk_cell hpP 5
  have cp6 : wa.cell? ⟨P, 6, none⟩ = some (.int .i64 x0.t) := blk_cell hpP 6
  have cp7 : wa.cell? ⟨P, 7, none⟩ = some (.int .i64 x0.l) := blk_cell hpP 7
  have cp8 : wa.cell? ⟨P, 8, none⟩ = some (.int .i64 x0.b) := blk_cell hpP 8
  have cp9 : wa.cell? ⟨P, 9, none⟩ = some (.int .i64 x0.r) := blk_cell hpP 9
  have cp10 : wa.cell? ⟨P, 10, none⟩ = some (.slice x0.A x0.es.length x0.cap) := blk_cell hpP 10
  have ct0 : wa.cell? ⟨T, 0, none⟩ = some (.bool x2.many) := blk_cell hpT 0
  have ct1 : wa.cell? ⟨T, 1, none⟩ = some (.int .i64 x2.v.t) := blk_cell hpT 1
  have ct2 : wa.cell? ⟨T, 2, none⟩ = some (.int .i64 x2.v.n) := blk_cell hpT 2
  have ct3 : wa.cell? ⟨T, 3, none⟩ = some (.string x2.v.s) := blk_cell hpT 3
  have ct4 : wa.cell? ⟨T, 4, none⟩ = some (.bool x2.v.b) := blk_cell hpT 4
  have ct5 : wa.cell? ⟨T, 5, none⟩ = some (.int .i64 x2.v.c) := blk_cell hpT 5
  have ct6 : wa.cell? ⟨T, 6, none⟩ = some (.int .i64 x2.t) := blk_cell hpT 6
  have ct7 : wa.cell? ⟨T, 7, none⟩ = some (.int .i64 x2.l) := blk_cell hpT 7
  have ct8 : wa.cell? ⟨T, 8, none⟩ = some (.int .i64 x2.b) := blk_cell hpT 8
  have ct9 : wa.cell? ⟨T, 9, none⟩ = some (.int .i64 x2.r) := blk_cell hpT 9
  have ct10 : wa.cell? ⟨T, 10, none⟩ = some (.slice x2.A x2.es.length x2.cap) := blk_cell hpT 10
  go_wp2_with fail
  refine (CAl _).out.mono ?_
  clear CAl
  rintro e w2 ⟨rfl, hb2⟩
  have hq2 : Below w.heap.size w w2 := hq0.trans (hb2.mono (by omega))
  have hB2 : Below (w.heap.size + 1) (w.alloc (.cells #[.int .i64 0, .int .i64 0, .string ⟨#[]⟩, .bool false, .int .i64 0] 26)) w2 := hbc.trans (hb2.mono (by omega))
  have hz2 := hb2.size
  have l02 : w.heap.size < w2.heap.size := by omega
  cases al
  ·have hVe := Lib.hid (show V = errL 8 from by rw [hVV.out]; rfl)
   clear cp0 ct0 cp1 ct1 cp2 ct2 cp3 ct3 cp4 ct4 cp5 ct5 cp6 ct6 cp7 ct7 cp8 ct8 cp9 ct9 cp10 ct10
   obtain ⟨hr0, hr1, hr2, hr3, hr4, hs0, hs1, hs2, hs3, hs4⟩ := res5 hB2
   go_wp2_with (go_at_call 11; refine (verr_any 8 _).mono ?_; rintro e w9 ⟨rfl, hb⟩; obtain ⟨hc, hf, hz⟩ := bkeep hb w2.heap.size (by first | omega | (simp <;> omega)))
   refine bodyPost_ret (v := .agg #[.int .i64 4, .int .i64 0, .string ⟨#[]⟩, .bool false, .int .i64 (errC 8)]) ?_ rfl ⟨by rw [hVe.out]; rfl, belq⟩
   simp [results, Tryz.results116, go_sem, *]
  ·have hVV2 := Lib.hid (show V = faultR (siL x0 x1.v x2) (fitL (numsL (siL x0 x1.v x2)).sum) from by rw [hVV.out]; rfl)
   obtain ⟨dp0, dp1, dp2, dp3, dp4, dp5, dp6, dp7, dp8, dp9, dp10⟩ := mv11 hb2 hPl (cp0) (cp1) (cp2) (cp3) (cp4) (cp5) (cp6) (cp7) (cp8) (cp9) (cp10)
   clear cp0 ct0 cp1 ct1 cp2 ct2 cp3 ct3 cp4 ct4 cp5 ct5 cp6 ct6 cp7 ct7 cp8 ct8 cp9 ct9 cp10 ct10
   go_wp2_with fail
   refine (CH _ hq2).out.mono ?_
   clear CH
   rintro e wA ⟨⟨b, rfl, hbl, hmap⟩, hb3⟩
   have hbA : Below wa.heap.size wa wA := hb2.trans (hb3.mono (by omega))
   have hBA : Below (w.heap.size + 1) (w.alloc (.cells #[.int .i64 0, .int .i64 0, .string ⟨#[]⟩, .bool false, .int .i64 0] 26)) wA := hB2.trans (hb3.mono (by omega))
   have hqA : Below w.heap.size w wA := b0.trans (hBA.mono (by omega))
   have hzA := hbA.size
   obtain ⟨eq0, eq1, eq2, eq3, eq4⟩ := mv5 hbA hQl (blk_cell hpQ 0) (blk_cell hpQ 1) (blk_cell hpQ 2) (blk_cell hpQ 3) (blk_cell hpQ 4)
   obtain ⟨et0, et1, et2, et3, et4, et5, et6, et7, et8, et9, et10⟩ := mv11 hbA hTl (blk_cell hpT 0) (blk_cell hpT 1) (blk_cell hpT 2) (blk_cell hpT 3) (blk_cell hpT 4) (blk_cell hpT 5) (blk_cell hpT 6) (blk_cell hpT 7) (blk_cell hpT 8) (blk_cell hpT 9) (blk_cell hpT 10)
   have hQA : Q < wA.heap.size := by omega
   have hTA : T < wA.heap.size := by omega
   have l0A : w.heap.size < wA.heap.size := by omega
   have hmap' := Lib.hid hmap
   clear hb2 hb3 hbA hpP hpQ hpT hB2 hq2 hbl hmap dp0 dp1 dp2 dp3 dp4 dp5 dp6 dp7 dp8 dp9 dp10
   go_wp2
   go_loopw [9, 34] (fun u i wr => ∃ k : Nat, k ≤ x2.es.length ∧ i = .int .i64 (k : Int) ∧ Hid (OwnV wr wA.heap.size u (((x2.es.take k).filter fun e => (lookP (heldL x0) (placeL x2 e)).eqv x1.v).map EL.v)) ∧ Below wA.heap.size wA wr) (fun _ i _ => x2.es.length - (intOf i).toNat)
   case atStart => exact ⟨0, Nat.zero_le _, rfl, Lib.hid (World.ownsRow_nil _ _ _ _), Below.refl _ _⟩
   case round =>
    obtain ⟨k, hk, rfl, hown, hbr⟩ := hrel
    have hzr := hbr.size
    have hqr : Below w.heap.size w wr := hqA.trans (hbr.mono (by omega))
    by_cases hlt : k < x2.es.length
    ·obtain ⟨e, he⟩ : ∃ e, x2.es[k]? = some e := ⟨_, List.getElem?_eq_getElem hlt⟩
     obtain ⟨eb, eo, hA3, heb, hcell⟩ := (hE'.out.below hqr) k e.cs (by rw [List.getElem?_map, he]; rfl)
     obtain ⟨p1, -, -⟩ := ent_parts hyE.out k e he
     unfold inB at p1
     simp only [Bool.and_eq_true, decide_eq_true_eq] at p1
     have he0 : wr.cell? ⟨eb, eo + k * 7, none⟩ = some (.int .i64 e.r) := hcell 0 _ rfl
     have he1 : wr.cell? ⟨eb, eo + k * 7 + 1, none⟩ = some (.int .i64 e.c) := hcell 1 _ rfl
     have he2 : wr.cell? ⟨eb, eo + k * 7 + 2, none⟩ = some (.int .i64 e.v.t) := hcell 2 _ rfl
     have he3 : wr.cell? ⟨eb, eo + k * 7 + 3, none⟩ = some (.int .i64 e.v.n) := hcell 3 _ rfl
     have he4 : wr.cell? ⟨eb, eo + k * 7 + 4, none⟩ = some (.string e.v.s) := hcell 4 _ rfl
     have he5 : wr.cell? ⟨eb, eo + k * 7 + 5, none⟩ = some (.bool e.v.b) := hcell 5 _ rfl
     have he6 : wr.cell? ⟨eb, eo + k * 7 + 6, none⟩ = some (.int .i64 e.v.c) := hcell 6 _ rfl
     have hebr : eb < wr.heap.size := by omega
     have hkl : (k : Int) < (x2.es.length : Int) := by omega
     have hk0 : (0 : Int) ≤ (k : Int) := by omega
     have hwk : IntKind.i64.wrap ((k : Int) + 1) = (k : Int) + 1 := IntWalk.i64_in _ (by omega)
     have hts : x2.es.take (k + 1) = x2.es.take k ++ [e] := by rw [List.take_add_one, he]; rfl
     obtain ⟨z, hz⟩ : ∃ z, (lookP (heldL x0) (placeL x2 e)).eqv x1.v = z := ⟨_, rfl⟩
     have hsn := Lib.hid (show ((x2.es.take (k + 1)).filter fun e => (lookP (heldL x0) (placeL x2 e)).eqv x1.v).map EL.v = ((x2.es.take k).filter fun e => (lookP (heldL x0) (placeL x2 e)).eqv x1.v).map EL.v ++ (if z = true then [e.v] else []) by
      rw [hts, List.filter_append, List.map_append]
      cases z <;> simp [hz])
     have hlen9 : (((x2.es.take k).filter fun e => (lookP (heldL x0) (placeL x2 e)).eqv x1.v).map EL.v).length ≤ k := by rw [List.length_map]; exact Nat.le_trans (List.length_filter_le _ _) (by rw [List.length_take]; omega)
     generalize ((x2.es.take k).filter fun e => (lookP (heldL x0) (placeL x2 e)).eqv x1.v).map EL.v = L0 at *
     obtain ⟨u, hu⟩ : ∃ u, e.r - x2.t = u := ⟨_, rfl⟩
     obtain ⟨v, hv⟩ : ∃ v, e.c - x2.l = v := ⟨_, rfl⟩
     have wu : IntKind.i64.wrap (e.r - x2.t) = u := by rw [hu]; exact IntWalk.i64_in _ (by omega)
     have wv : IntKind.i64.wrap (e.c - x2.l) = v := by rw [hv]; exact IntWalk.i64_in _ (by omega)
     have hpb : plB (u, v) := by unfold plB; dsimp only; omega
     rw [show placeL x2 e = (u, v) from Prod.ext hu hv] at hz
     obtain ⟨y, hy⟩ : ∃ y, lookP (heldL x0) (u, v) = y := ⟨_, rfl⟩
     rw [hy] at hz
     unfold VL.eqv at hz
     have hbq : Below wA.heap.size wA (wr.alloc (.cells #[.int .i64 e.r, .int .i64 e.c, .int .i64 e.v.t, .int .i64 e.v.n, .string e.v.s, .bool e.v.b, .int .i64 e.v.c] 99)) := hbr.alloc hzr _
     have hownq := hmap'.out.below hbq
     have hoq := Lib.hid (hown.out.alloc (.cells #[.int .i64 e.r, .int .i64 e.c, .int .i64 e.v.t, .int .i64 e.v.n, .string e.v.s, .bool e.v.b, .int .i64 e.v.c] 99))
     have hrunA := fun w2 (h : Below (wr.alloc (.cells #[.int .i64 e.r, .int .i64 e.c, .int .i64 e.v.t, .int .i64 e.v.n, .string e.v.s, .bool e.v.b, .int .i64 e.v.c] 99)).heap.size (wr.alloc (.cells #[.int .i64 e.r, .int .i64 e.c, .int .i64 e.v.t, .int .i64 e.v.n, .string e.v.s, .bool e.v.b, .int .i64 e.v.c] 99)) w2) => run_lookP (hownq.below h) hpb
     rw [hy] at hrunA
     unfold vlV at hrunA
     dsimp only at hrunA
     have hzq : wr.heap.size < (wr.alloc (.cells #[.int .i64 e.r, .int .i64 e.c, .int .i64 e.v.t, .int .i64 e.v.n, .string e.v.s, .bool e.v.b, .int .i64 e.v.c] 99)).heap.size := by simp
     have fe0 : (wr.alloc (.cells #[.int .i64 e.r, .int .i64 e.c, .int .i64 e.v.t, .int .i64 e.v.n, .string e.v.s, .bool e.v.b, .int .i64 e.v.c] 99)).cell? ⟨wr.heap.size, 0, none⟩ = some (.int .i64 e.r) := c_at rfl rfl
     have fe1 : (wr.alloc (.cells #[.int .i64 e.r, .int .i64 e.c, .int .i64 e.v.t, .int .i64 e.v.n, .string e.v.s, .bool e.v.b, .int .i64 e.v.c] 99)).cell? ⟨wr.heap.size, 1, none⟩ = some (.int .i64 e.c) := c_at rfl rfl
     have fe2 : (wr.alloc (.cells #[.int .i64 e.r, .int .i64 e.c, .int .i64 e.v.t, .int .i64 e.v.n, .string e.v.s, .bool e.v.b, .int .i64 e.v.c] 99)).cell? ⟨wr.heap.size, 2, none⟩ = some (.int .i64 e.v.t) := c_at rfl rfl
     have fe3 : (wr.alloc (.cells #[.int .i64 e.r, .int .i64 e.c, .int .i64 e.v.t, .int .i64 e.v.n, .string e.v.s, .bool e.v.b, .int .i64 e.v.c] 99)).cell? ⟨wr.heap.size, 3, none⟩ = some (.int .i64 e.v.n) := c_at rfl rfl
     have fe4 : (wr.alloc (.cells #[.int .i64 e.r, .int .i64 e.c, .int .i64 e.v.t, .int .i64 e.v.n, .string e.v.s, .bool e.v.b, .int .i64 e.v.c] 99)).cell? ⟨wr.heap.size, 4, none⟩ = some (.string e.v.s) := c_at rfl rfl
     have fe5 : (wr.alloc (.cells #[.int .i64 e.r, .int .i64 e.c, .int .i64 e.v.t, .int .i64 e.v.n, .string e.v.s, .bool e.v.b, .int .i64 e.v.c] 99)).cell? ⟨wr.heap.size, 5, none⟩ = some (.bool e.v.b) := c_at rfl rfl
     have fe6 : (wr.alloc (.cells #[.int .i64 e.r, .int .i64 e.c, .int .i64 e.v.t, .int .i64 e.v.n, .string e.v.s, .bool e.v.b, .int .i64 e.v.c] 99)).cell? ⟨wr.heap.size, 6, none⟩ = some (.int .i64 e.v.c) := c_at rfl rfl
     have fq0 : (wr.alloc (.cells #[.int .i64 e.r, .int .i64 e.c, .int .i64 e.v.t, .int .i64 e.v.n, .string e.v.s, .bool e.v.b, .int .i64 e.v.c] 99)).cell? ⟨Q, 0, none⟩ = some (.int .i64 x1.v.t) := (hbq.cell (p := ⟨Q, 0, none⟩) hQA).trans eq0
     have fq1 : (wr.alloc (.cells #[.int .i64 e.r, .int .i64 e.c, .int .i64 e.v.t, .int .i64 e.v.n, .string e.v.s, .bool e.v.b, .int .i64 e.v.c] 99)).cell? ⟨Q, 1, none⟩ = some (.int .i64 x1.v.n) := (hbq.cell (p := ⟨Q, 1, none⟩) hQA).trans eq1
     have fq2 : (wr.alloc (.cells #[.int .i64 e.r, .int .i64 e.c, .int .i64 e.v.t, .int .i64 e.v.n, .string e.v.s, .bool e.v.b, .int .i64 e.v.c] 99)).cell? ⟨Q, 2, none⟩ = some (.string x1.v.s) := (hbq.cell (p := ⟨Q, 2, none⟩) hQA).trans eq2
     have fq3 : (wr.alloc (.cells #[.int .i64 e.r, .int .i64 e.c, .int .i64 e.v.t, .int .i64 e.v.n, .string e.v.s, .bool e.v.b, .int .i64 e.v.c] 99)).cell? ⟨Q, 3, none⟩ = some (.bool x1.v.b) := (hbq.cell (p := ⟨Q, 3, none⟩) hQA).trans eq3
     have fq4 : (wr.alloc (.cells #[.int .i64 e.r, .int .i64 e.c, .int .i64 e.v.t, .int .i64 e.v.n, .string e.v.s, .bool e.v.b, .int .i64 e.v.c] 99)).cell? ⟨Q, 4, none⟩ = some (.int .i64 x1.v.c) := (hbq.cell (p := ⟨Q, 4, none⟩) hQA).trans eq4
     have ft6 : (wr.alloc (.cells #[.int .i64 e.r, .int .i64 e.c, .int .i64 e.v.t, .int .i64 e.v.n, .string e.v.s, .bool e.v.b, .int .i64 e.v.c] 99)).cell? ⟨T, 6, none⟩ = some (.int .i64 x2.t) := (hbq.cell (p := ⟨T, 6, none⟩) hTA).trans et6
     have ft7 : (wr.alloc (.cells #[.int .i64 e.r, .int .i64 e.c, .int .i64 e.v.t, .int .i64 e.v.n, .string e.v.s, .bool e.v.b, .int .i64 e.v.c] 99)).cell? ⟨T, 7, none⟩ = some (.int .i64 x2.l) := (hbq.cell (p := ⟨T, 7, none⟩) hTA).trans et7
     have hz0 := hz
     clear he hcell hts p1 hu hv hy hownq hown
     skip
     have het : ∀ (j : Nat) (q : Value), (wr.cell? ⟨T, j, none⟩ = some q) ↔ (wA.cell? ⟨T, j, none⟩ = some q) := fun j q => by rw [hbr.cell (p := ⟨T, j, none⟩) hTA]
     have et10' : wr.cell? ⟨T, 10, none⟩ = some (.slice x2.A x2.es.length x2.cap) := (het 10 _).2 et10
     rw [hA3]
     go_upto_region 9 with (fail)
     obtain ⟨B, hBe⟩ : ∃ B, wr.heap.size = B := ⟨_, rfl⟩
     generalize (wr.alloc (.cells #[.int .i64 e.r, .int .i64 e.c, .int .i64 e.v.t, .int .i64 e.v.n, .string e.v.s, .bool e.v.b, .int .i64 e.v.c] 99)) = wq at *
     rw [hBe] at *
     refine wp_region_noPanic ?_
     refine wp_region_held_drew (S := fun w' => w'.cell? ⟨B, 0, none⟩ = some (.int .i64 e.r) ∧ w'.cell? ⟨B, 1, none⟩ = some (.int .i64 e.c) ∧ w'.cell? ⟨B, 2, none⟩ = some (.int .i64 e.v.t) ∧ w'.cell? ⟨B, 3, none⟩ = some (.int .i64 e.v.n) ∧ w'.cell? ⟨B, 4, none⟩ = some (.string e.v.s) ∧ w'.cell? ⟨B, 5, none⟩ = some (.bool e.v.b) ∧ w'.cell? ⟨B, 6, none⟩ = some (.int .i64 e.v.c) ∧ w'.cell? ⟨Q, 0, none⟩ = some (.int .i64 x1.v.t) ∧ w'.cell? ⟨Q, 1, none⟩ = some (.int .i64 x1.v.n) ∧ w'.cell? ⟨Q, 2, none⟩ = some (.string x1.v.s) ∧ w'.cell? ⟨Q, 3, none⟩ = some (.bool x1.v.b) ∧ w'.cell? ⟨Q, 4, none⟩ = some (.int .i64 x1.v.c) ∧ w'.cell? ⟨T, 6, none⟩ = some (.int .i64 x2.t) ∧ w'.cell? ⟨T, 7, none⟩ = some (.int .i64 x2.l) ∧ Below wq.heap.size wq w') (by kernel_rfl) kpI (fun hHeld => ?_)
     generalize wq.drew = wz at *
     refine sqT 0 hHeld ?_
     refine sqT 1 hHeld ?_
     refine sqT 2 hHeld ?_
     refine sqT 3 hHeld ?_
     refine sqT 4 hHeld ?_
     refine sqT 5 hHeld ?_
     refine sqT 6 hHeld ?_
     refine sqT 7 hHeld ?_
     refine sqT 8 hHeld ?_
     refine sqT 9 hHeld ?_
     refine sqT 10 hHeld ?_
     refine sqT 11 hHeld ?_
     refine sqT 12 hHeld ?_
     refine sqT 13 hHeld ?_
     refine sqT 14 hHeld ?_
     refine sqT 15 hHeld ?_
     refine wpAnyH_take (i := 16) (oi := ⟨_, _, _, _, _, _⟩) (v := .agg #[.int .i64 y.t, .int .i64 y.n, .string y.s, .bool y.b, .int .i64 y.c]) rfl (by kernel_rfl) (by kernel_rfl) (by kernel_rfl) (fun _ _ _ h => h) (Or.inl ⟨by rfl, ?hyL⟩) hHeld ?restL
     case hyL => (intro w2 hSw; (try dsimp only at hSw); go_split_ands; have hrun := hrunA w2 (by with_reducible assumption); go_simp; first | done | exact hrun)
     refine sqT 17 hHeld ?_
     refine sqT 18 hHeld ?_
     refine wpAnyH_done (by kernel_rfl) ?_ _
     refine NoPanic.normal ?_
     go_split_ands
     have hbz : Below wq.heap.size wq wz := by with_reducible assumption
     clear hrunA
     have hbw : Below wA.heap.size wA wz := hbq.trans (hbz.mono hbq.size)
     have hzz := hbz.size
     have owz := Lib.hid (ownsRow_below hoq.out hbz)
     cases z
     ·rw [if_neg (by decide), List.append_nil] at hsn
      go_wp2
      go_roundw
      case rel => exact ⟨k + 1, by omega, by go_num, by rw [hsn.out]; exact owz, hbw⟩
      case measure => simp [intOf]; omega
     ·rw [if_pos rfl] at hsn
      have hvg := heap_alloc_new wz (.cells #[.int .i64 e.v.t, .int .i64 e.v.n, .string e.v.s, .bool e.v.b, .int .i64 e.v.c] 26)
      have hlb : L0.length + 1 ≤ 2932031007402 := by omega
      have hBz : B < wz.heap.size := by omega
      have nBz : B ≠ wz.heap.size := by omega
      have hAz : wA.heap.size ≤ wz.heap.size := hbw.size
      go_wp2_with (at_builtin; go_loud (refine wpList_append_own_at _ rfl _ _ 78 rfl wA.heap.size 26 i0 (.agg #[.int .i64 0, .int .i64 0, .string ⟨#[]⟩, .bool false, .int .i64 0]) 5 48 Tryz.underlying78 hi hi0 hi1 hi2 rfl (by decide) _ _ _ rfl (owz.out.alloc _) ⟨wz.heap.size, 0, none⟩ 1 1 e.v.cs rfl rfl (vget hvg) (by simp [VL.cs, Value.oneCell']) (by unfold maxLen; omega) (by omega) (by simp; omega) ?_); intro v' w6 hown6 hgrow6 _ _)
      have h6 : Below wA.heap.size wA w6 := (hbw.alloc (by omega) (.cells #[.int .i64 e.v.t, .int .i64 e.v.n, .string e.v.s, .bool e.v.b, .int .i64 e.v.c] 26)).grown hgrow6 (by simp; omega) (fun q hq => (owz.out.lt q hq).1)
      go_roundw
      case rel => exact ⟨k + 1, by omega, by go_num, Lib.hid (by unfold OwnV; rw [hsn.out, vRow_app, vRow_one, List.length_append]; exact hown6), h6⟩
      case measure => simp [intOf]; omega
    ·obtain rfl : k = x2.es.length := by omega
     have hkl : ¬ (x2.es.length : Int) < (x2.es.length : Int) := by omega
     rw [List.take_length] at hown
     have hsi := hown.out
     clear hown
     change OwnV wr wA.heap.size _ (siL x0 x1.v x2) at hsi
     have hLl : (siL x0 x1.v x2).length ≤ 1073741824 := by unfold siL; rw [List.length_map]; exact Nat.le_trans (List.length_filter_le _ _) (by omega)
     have hLo : ∀ u ∈ siL x0 x1.v x2, u.ok := by
      intro u hu
      unfold siL at hu
      obtain ⟨e, he, rfl⟩ := List.mem_map.1 hu
      exact hok'.out e (List.mem_filter.1 he).1
     generalize siL x0 x1.v x2 = L at *
     obtain ⟨A2, cap2, rfl, hrd⟩ := own_rdv hsi
     have CM := Lib.hid (aamong_any L (by omega) wr A2 cap2 hrd)
     have hno := nums_ok hLo
     have hnl := numsL_len L
     clear hsi hrd
     go_wp2_with fail
     refine CM.out.mono ?_
     clear CM
     rintro e w3 hAm
     have hb3 := hAm.bel
     have hB3 : Below (w.heap.size + 1) (w.alloc (.cells #[.int .i64 0, .int .i64 0, .string ⟨#[]⟩, .bool false, .int .i64 0] 26)) w3 := (hBA.trans (hbr.mono (by omega))).trans (hb3.mono (by have := hbr.size; omega))
     have hq3 : Below w.heap.size w w3 := b0.trans (hB3.mono (by omega))
     have hz3 := hb3.size
     have l03 : w.heap.size < w3.heap.size := by omega
     have n03 : w.heap.size ≠ w3.heap.size := by omega
     clear hb3
     obtain ⟨hr0, hr1, hr2, hr3, hr4, hs0, hs1, hs2, hs3, hs4⟩ := res5 hB3
     cases hfl : L.find? (fun v => decide (v.t = 4)) with
     |
      some f =>
      have hVe := Lib.hid (show V = f from by rw [hVV2.out]; unfold faultR; rw [hfl])
      have hf4 : f.t = 4 := by have h8 := List.find?_some hfl; simpa using h8
      have q4 : (f.t == 4) = true := by simp [hf4]
      obtain rfl := hAm.bad f hfl
      clear hAm hf4 hfl
      go_wp2
      refine bodyPost_ret (v := .agg #[.int .i64 (f).t, .int .i64 (f).n, .string (f).s, .bool (f).b, .int .i64 (f).c]) ?_ rfl ⟨by rw [hVe.out], belq⟩
      simp [results, Tryz.results116, go_sem, *]
     |
      none =>
      have hVe := Lib.hid (show V = fitL (numsL L).sum from by rw [hVV2.out]; unfold faultR; rw [hfl])
      obtain ⟨v3, rfl, hown3⟩ := hAm.good hfl
      obtain ⟨A3, cap3, rfl, hr3⟩ := own_rdi hown3
      have hb4 : Below w3.heap.size w3 (w3.alloc (.cells #[.int .i64 0, .int .i64 0, .string ⟨#[]⟩, .bool false, .int .i64 0] 26)) := (Below.refl _ _).alloc (Nat.le_refl _) _
      have CS := Lib.hid (asum_any (numsL L) hno (by omega) _ A3 cap3 (rdi_below hr3 hb4))
      have CF := fun w => Lib.hid (afit_any (numsL L).sum w)
      clear hAm hfl hown3 hr3 hno hb4
      go_wp2_with fail
      refine CS.out.mono ?_
      clear CS
      rintro e w5 ⟨rfl, hb5⟩
      have hB5 : Below (w.heap.size + 1) (w.alloc (.cells #[.int .i64 0, .int .i64 0, .string ⟨#[]⟩, .bool false, .int .i64 0] 26)) w5 := (hB3.alloc (by omega) _).trans (hb5.mono (by simp; omega))
      have hq5 : Below w.heap.size w w5 := b0.trans (hB5.mono (by omega))
      have hz5 := hb5.size
      simp only [World.size_alloc] at hz5
      have l05 : w.heap.size < w5.heap.size := by omega
      clear hb5 hr0 hs0 hr1 hs1 hr2 hs2 hr3 hs3 hr4 hs4
      obtain ⟨hr0, hr1, hr2, hr3, hr4, hs0, hs1, hs2, hs3, hs4⟩ := res5 hB5
      go_wp2_with (go_at_call 102; refine ((CF _).out).mono ?_; rintro e w9 ⟨rfl, hb⟩; obtain ⟨hc, hf, hz⟩ := bkeep hb w5.heap.size (by first | omega | (simp <;> omega)))
      refine bodyPost_ret (v := .agg #[.int .i64 ((fitL (numsL L).sum)).t, .int .i64 ((fitL (numsL L).sum)).n, .string ((fitL (numsL L).sum)).s, .bool ((fitL (numsL L).sum)).b, .int .i64 ((fitL (numsL L).sum)).c]) ?_ rfl ⟨by rw [hVe.out], belq⟩
      simp [results, Tryz.results116, go_sem, *]
end Go.Proofs.YtgmhifafbebjfaaGreatDoor
