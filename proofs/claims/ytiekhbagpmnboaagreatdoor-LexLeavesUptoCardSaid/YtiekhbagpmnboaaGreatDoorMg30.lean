/-
  The plain law of numbers' texts: what is printed is read again as that number. No program in sight; The plain law of numbers' texts, as the document's Parse goes along them: place by place. No program in sight.
-/
import Derived.Test.YtiekhbagpmnboaaGreatDoorPrintL
import Derived.Test.YtiekhbagpmnboaaGreatDoorNumL
import Derived.Lib.ItoaMem
import Derived.Lib.TrimByte
import Derived.Lib.IndexLaws
import Derived.Lib.SlTrimSet
import Derived.Lib.ParseIntB
namespace Go.Proofs.YtiekhbagpmnboaaGreatDoor
open Go

theorem tw_all (p : UInt8 → Bool) : ∀ l : List UInt8, ∀ b ∈ l.takeWhile p, p b = true
  | [], b, h => by simp at h
  | a :: l, b, h => by
    cases ha : p a
    · simp [ha] at h
    · simp [ha] at h
      rcases h with rfl | h
      · exact ha
      · exact tw_all p l b h
end Go.Proofs.YtiekhbagpmnboaaGreatDoor
namespace Go.Proofs.YtiekhbagpmnboaaGreatDoor
open Go

theorem rtw_len (t : List UInt8) : (t.takeWhile isDig).length ≤ t.length := List.IsPrefix.length_le (List.takeWhile_prefix isDig)
theorem rtw_take (t : List UInt8) : t.take (t.takeWhile isDig).length = t.takeWhile isDig := by
  have h : (t.takeWhile isDig ++ t.dropWhile isDig).take (t.takeWhile isDig).length = t.takeWhile isDig := List.take_left
  rwa [List.takeWhile_append_dropWhile] at h
theorem rtw_drop (t : List UInt8) : t.drop (t.takeWhile isDig).length = t.dropWhile isDig := by
  have h : (t.takeWhile isDig ++ t.dropWhile isDig).drop (t.takeWhile isDig).length = t.dropWhile isDig := List.drop_left
  rwa [List.takeWhile_append_dropWhile] at h
theorem rtw_all (t : List UInt8) : (t.takeWhile isDig).all isDig = true := by
  rw [List.all_eq_true]; exact tw_all isDig t
theorem rest_dig (R : List UInt8) (r : Nat) (h : (R.takeWhile isDig).length = r) : digOk R 4 = (decide (1 ≤ r) && decide (r ≤ 4) && decide (r = R.length)) := by
  have h1 := rtw_take R
  have h2 := rtw_all R
  rw [h] at h1
  by_cases hr : r = R.length
  · rw [hr, List.take_length] at h1
    rw [← h1] at h2
    simp only [digOk, h2, hr, decide_true, Bool.and_true]
    rw [Bool.eq_iff_iff]; simp; omega
  · have : R.all isDig = false := by
      cases ha : R.all isDig
      · rfl
      · have := (all_take ha).1
        rw [this] at h
        exact absurd h.symm hr
    simp [digOk, this, hr]
theorem whole_dig2 (t : List UInt8) (k : Nat) (h : (t.takeWhile isDig).length = k) : digOk (t.takeWhile isDig) 15 = (decide (1 ≤ k) && decide (k ≤ 15)) := by
  simp only [digOk, rtw_all, h, Bool.and_true]
  rw [Bool.eq_iff_iff]; simp; omega
theorem take_all {l : List UInt8} (h : l.all isDig = true) (j : Nat) : (l.take j).all isDig = true := by
  rw [List.all_eq_true] at *
  exact fun b hb => h b (List.mem_of_mem_take hb)
theorem val_take (l : List UInt8) (j : Nat) (hj : j < l.length) : valL (l.take (j + 1)) = valL (l.take j) * 10 + (l[j].toNat - 48) := by
  rw [List.take_succ_eq_append_getElem hj, val_snoc]
theorem val_small {l : List UInt8} (h : l.all isDig = true) (k : Nat) (hk : l.length ≤ k) : valL l < 10 ^ k :=
  Nat.lt_of_lt_of_le (val_bound h) (Nat.pow_le_pow_right (by omega) hk)
theorem dig_range {l : List UInt8} (h : l.all isDig = true) (j : Nat) (hj : j < l.length) : 48 ≤ l[j].toNat ∧ l[j].toNat ≤ 57 := by
  rw [List.all_eq_true] at h
  have := h l[j] (List.getElem_mem hj)
  simpa [isDig] using this
/-- the whole part, digit by digit -/
theorem loopV (D : List UInt8) (hD : D.all isDig = true) (h15 : D.length ≤ 15) (j : Nat) (hj : j < D.length) :
    48 ≤ D[j].toNat ∧ D[j].toNat ≤ 57 ∧ valL (D.take j) ≤ 1000000000000000 ∧ valL (D.take (j + 1)) = valL (D.take j) * 10 + (D[j].toNat - 48) := by
  obtain ⟨h1, h2⟩ := dig_range hD j hj
  refine ⟨h1, h2, ?_, val_take D j hj⟩
  have := val_small (take_all hD j) 15 (by simp; omega)
  omega
/-- the four digits behind -/
theorem loopU (D S : List UInt8) (hD : D.all isDig = true) (h15 : D.length ≤ 15) (hS : S.all isDig = true) (h4 : S.length = 4) (j : Nat) (hj : j < 4) :
    valL (D ++ S.take j) ≤ 1000000000000000000 ∧ valL (D ++ S.take (j + 1)) ≤ 18446744073709551615 ∧ valL (D ++ S.take (j + 1)) = valL (D ++ S.take j) * 10 + ((S[j]'(by omega)).toNat - 48) := by
  have a1 : (D ++ S.take j).all isDig = true := by rw [List.all_append, hD, take_all hS j]; rfl
  have a2 : (D ++ S.take (j + 1)).all isDig = true := by rw [List.all_append, hD, take_all hS (j + 1)]; rfl
  have b1 := val_small a1 18 (by simp; omega)
  have b2 := val_small a2 19 (by simp; omega)
  refine ⟨by omega, by omega, ?_⟩
  rw [List.take_succ_eq_append_getElem (by omega), ← List.append_assoc, val_snoc]
end Go.Proofs.YtiekhbagpmnboaaGreatDoor
