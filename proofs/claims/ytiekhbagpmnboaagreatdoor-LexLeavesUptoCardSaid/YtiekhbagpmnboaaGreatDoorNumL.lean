/-
  The plain law of numbers' texts, read. No program in sight.
-/
import Derived.Test.YtiekhbagpmnboaaGreatDoorPrintL
import Derived.Lib.IndexLaws
import Derived.Lib.SlTrimSet
import Derived.Lib.ParseIntB
import Derived.Lib.ItoaMem
import Derived.Lib.TrimByte
namespace Go.Proofs.YtiekhbagpmnboaaGreatDoor
open Go

def isDig (b : UInt8) : Bool := decide (48 ≤ b.toNat) && decide (b.toNat ≤ 57)
/-- the number that digits stand for -/
def valF (v : Nat) (b : UInt8) : Nat := v * 10 + (b.toNat - 48)
def valL (l : List UInt8) : Nat := l.foldl valF 0
/-- digits, one to so many -/
def digOk (l : List UInt8) (m : Nat) : Bool := decide (0 < l.length) && decide (l.length ≤ m) && l.all isDig
/-- what may stand behind the whole part -/
def restOf : List UInt8 → Option (List UInt8)
  | [] => some []
  | b :: r => if b = 46 ∧ digOk r 4 = true then some r else .none
/-- a number of so many digits before and behind the point -/
def numOf (low : Bool) (D r : List UInt8) : Option Int :=
  if low = true ∧ valL (D ++ (r ++ List.replicate (4 - r.length) 48)) = 0 then .none
  else if valL (D ++ (r ++ List.replicate (4 - r.length) 48)) ≤ 9223372036854775807 then some (if low then -(valL (D ++ (r ++ List.replicate (4 - r.length) 48)) : Int) else (valL (D ++ (r ++ List.replicate (4 - r.length) 48)) : Int)) else .none
def wholeOk (D : List UInt8) : Bool := digOk D 15 && !(decide (1 < D.length) && D.head? == some 48)
def bodyOf (low : Bool) (t : List UInt8) : Option Int :=
  if wholeOk (t.takeWhile isDig) then
    match restOf (t.dropWhile isDig) with
    | some r => numOf low (t.takeWhile isDig) r
    | .none => .none
  else .none
def lowOf (l : List UInt8) : Bool := l.head? == some 45
def tailOf (l : List UInt8) : List UInt8 := if lowOf l then l.tail else l
/-- what Parse tells of a text -/
def numP (l : List UInt8) : Option Int := bodyOf (lowOf l) (tailOf l)
def numV (l : List UInt8) : Int := match numP l with | some x => x | .none => 0
def numOk (l : List UInt8) : Bool := (numP l).isSome

theorem all_take {t : List UInt8} (h : t.all isDig = true) : t.takeWhile isDig = t ∧ t.dropWhile isDig = [] := by
  induction t with
  | nil => simp
  | cons b t ih =>
    simp only [List.all_cons, Bool.and_eq_true] at h
    obtain ⟨h1, h2⟩ := ih h.2
    simp [h.1, h1, h2]
theorem all_take_dot {w r : List UInt8} {b : UInt8} (h : w.all isDig = true) (hb : isDig b = false) : (w ++ b :: r).takeWhile isDig = w ∧ (w ++ b :: r).dropWhile isDig = b :: r := by
  induction w with
  | nil => simp [hb]
  | cons c w ih =>
    simp only [List.all_cons, Bool.and_eq_true] at h
    obtain ⟨h1, h2⟩ := ih h.2
    simp [h.1, h1, h2]
theorem not_all {w r : List UInt8} (h : w.all isDig = false) (hd : ∀ b ∈ w, b ≠ 46) : ∃ b R, (w ++ r).dropWhile isDig = b :: R ∧ b ≠ 46 := by
  induction w with
  | nil => simp at h
  | cons c w ih =>
    cases hc : isDig c
    · exact ⟨c, w ++ r, by simp [hc], hd c (by simp)⟩
    · simp only [List.all_cons, hc, Bool.true_and] at h
      obtain ⟨b, R, e, hb⟩ := ih h (fun b hb => hd b (by simp [hb]))
      exact ⟨b, R, by simp [hc, e], hb⟩
theorem rest_other {b : UInt8} {R : List UInt8} (h : b ≠ 46) : restOf (b :: R) = .none := by simp [restOf, h]
theorem body_other {low : Bool} {t : List UInt8} (h : ∃ b R, t.dropWhile isDig = b :: R ∧ b ≠ 46) : bodyOf low t = .none := by
  obtain ⟨b, R, e, hb⟩ := h
  unfold bodyOf
  split
  · rw [e, rest_other hb]
  · rfl
/-- no point -/
theorem body_plain {low : Bool} {t : List UInt8} (h : Lib.indexByte t 46 = -1) : bodyOf low t = if wholeOk t then numOf low t [] else .none := by
  have hd : ∀ b ∈ t, b ≠ 46 := by
    intro b hb e
    subst e
    obtain ⟨i, hi, e⟩ := List.getElem_of_mem hb
    exact Lib.indexByte_none h i (by rw [List.getElem?_eq_getElem hi, e])
  cases ha : t.all isDig
  · rw [body_other (by have := not_all (r := []) ha hd; simpa using this)]
    simp [wholeOk, digOk, ha]
  · obtain ⟨h1, h2⟩ := all_take ha
    simp [bodyOf, h1, h2, restOf]
/-- a point at o -/
theorem body_point {low : Bool} {t : List UInt8} {o : Nat} (h : Lib.indexByte t 46 = o) (ho : o < t.length) {a b : List UInt8} (hA : a = t.take o) (hB : b = t.drop (o + 1)) :
    bodyOf low t = if wholeOk a && digOk b 4 then numOf low a b else .none := by
  obtain ⟨hg, hn⟩ := Lib.indexByte_some h
  have ht : t = a ++ 46 :: b := by
    have : t[o] = 46 := by rw [List.getElem?_eq_getElem ho] at hg; exact Option.some.inj hg
    rw [hA, hB, ← this, ← List.drop_eq_getElem_cons ho, List.take_append_drop]
  have hd : ∀ x ∈ a, x ≠ 46 := by
    intro x hx e
    subst e
    rw [hA] at hx
    obtain ⟨i, hi, e⟩ := List.getElem_of_mem hx
    have hio : i < o := by simp at hi; omega
    refine hn i hio ?_
    rw [List.getElem_take] at e
    rw [List.getElem?_eq_getElem (by omega), e]
  rw [ht]
  cases ha : a.all isDig
  · rw [body_other (not_all ha hd)]
    simp [wholeOk, digOk, ha]
  · obtain ⟨h1, h2⟩ := all_take_dot (r := b) (b := 46) ha (by decide)
    unfold bodyOf
    rw [h1, h2]
    cases hw : wholeOk a
    · simp
    · cases hk : digOk b 4
      · simp [restOf, hk]
      · simp [restOf, hk]

theorem val_snoc (l : List UInt8) (b : UInt8) : valL (l ++ [b]) = valL l * 10 + (b.toNat - 48) := by simp [valL, valF]
theorem valF_bound : ∀ (l : List UInt8) (v : Nat), l.all isDig = true → l.foldl valF v < (v + 1) * 10 ^ l.length
  | [], v, _ => by simp
  | b :: l, v, h => by
    simp only [List.all_cons, Bool.and_eq_true] at h
    have hb := h.1
    simp only [isDig, Bool.and_eq_true, decide_eq_true_eq] at hb
    have := valF_bound l (valF v b) h.2
    simp only [List.foldl_cons, List.length_cons, Nat.pow_succ]
    refine Nat.lt_of_lt_of_le this ?_
    rw [Nat.mul_comm (10 ^ l.length) 10, ← Nat.mul_assoc]
    refine Nat.mul_le_mul_right _ ?_
    unfold valF
    omega
theorem val_bound {l : List UInt8} (h : l.all isDig = true) : valL l < 10 ^ l.length := by
  have := valF_bound l 0 h
  simpa [valL] using this
theorem parse_ok : ∀ (l : List UInt8) (v : Nat), l.all isDig = true → (v + 1) * 10 ^ l.length ≤ 10000000000000000000 → Lib.parseUintM 18446744073709551615 v l = .ok (l.foldl valF v)
  | [], v, _, _ => by simp [Lib.parseUintM]
  | b :: l, v, h, hv => by
    simp only [List.all_cons, Bool.and_eq_true] at h
    have hb := h.1
    simp only [isDig, Bool.and_eq_true, decide_eq_true_eq] at hb
    have h10 : 1 ≤ 10 ^ l.length := Nat.one_le_pow _ _ (by omega)
    have hv2 : (v + 1) * 10 * 10 ^ l.length ≤ 10000000000000000000 := by
      rw [List.length_cons, Nat.pow_succ, Nat.mul_comm (10 ^ l.length) 10, ← Nat.mul_assoc] at hv
      exact hv
    have hv3 : (v + 1) * 10 ≤ 10000000000000000000 := Nat.le_trans (Nat.le_mul_of_pos_right _ h10) hv2
    have hv4 : (valF v b + 1) * 10 ^ l.length ≤ 10000000000000000000 := Nat.le_trans (Nat.mul_le_mul_right _ (by unfold valF; omega)) hv2
    simp only [Lib.parseUintM, List.foldl_cons]
    rw [if_pos hb, if_neg (by omega), if_neg (by omega)]
    exact parse_ok l _ h.2 hv4
theorem parse_ok64 {l : List UInt8} (h : l.all isDig = true) (h1 : 0 < l.length) (h2 : l.length ≤ 19) : Lib.parseUintB 64 l = .ok (valL l) := by
  unfold Lib.parseUintB
  rw [if_neg (by intro e; subst e; simp at h1)]
  refine parse_ok l 0 h ?_
  have : 10 ^ l.length ≤ 10 ^ 19 := Nat.pow_le_pow_right (by omega) h2
  omega
theorem dw_nil (p : UInt8 → Bool) : ∀ l : List UInt8, l.dropWhile p = [] ↔ ∀ b ∈ l, p b = true
  | [] => by simp
  | b :: l => by
    cases h : p b
    · simp [h]
    · simp [h, dw_nil p l]
theorem trim_digits (l : List UInt8) : (Lib.trimS l [48, 49, 50, 51, 52, 53, 54, 55, 56, 57] == []) = l.all isDig := by
  have hf : ∀ n : Fin 256, [48, 49, 50, 51, 52, 53, 54, 55, 56, 57].contains (UInt8.ofNat n.val) = isDig (UInt8.ofNat n.val) := by decide +kernel
  have hc : ∀ b : UInt8, [48, 49, 50, 51, 52, 53, 54, 55, 56, 57].contains b = isDig b := fun b => by
    have := hf ⟨b.toNat, b.toNat_lt⟩
    simpa using this
  unfold Lib.trimS Lib.trimLeftS Lib.trimRightS
  simp only [hc]
  rw [Bool.eq_iff_iff]
  simp only [beq_iff_eq, List.all_eq_true]
  constructor
  · intro h b hb
    rw [dw_nil] at h
    cases hd : isDig b with
    | true => rfl
    | false =>
      have hne : l.reverse.dropWhile isDig ≠ [] := by
        intro e
        rw [dw_nil] at e
        have := e b (by simpa using hb)
        rw [hd] at this; cases this
      cases hr : l.reverse.dropWhile isDig with
      | nil => exact absurd hr hne
      | cons c r =>
        have hcd : isDig c = false := by
          have := List.head?_dropWhile_not isDig l.reverse
          rw [hr] at this
          simpa using this
        have := h c (by rw [hr]; simp)
        rw [hcd] at this; cases this
  · intro h
    have e : l.reverse.dropWhile isDig = [] := by
      rw [dw_nil]
      intro b hb
      exact h b (by simpa using hb)
    rw [e]
    rfl
end Go.Proofs.YtiekhbagpmnboaaGreatDoor
