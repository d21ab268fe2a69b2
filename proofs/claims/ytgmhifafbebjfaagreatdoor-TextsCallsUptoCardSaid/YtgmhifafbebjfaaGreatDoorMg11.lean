/-
  The plain law of numbers' texts, written: the four digits of a rest. No program in sight; The plain law of numbers' texts, read. No program in sight; Package dec: digits; The plain law of numbers' texts: what is printed is read again as that number. No program in sight; The document's digits; The document's Parse of a number, by cases: what the two share; The plain law of numbers' texts, as the document's Parse goes along them: place by place. No program in sight.
-/
import Derived.Test.YtgmhifafbebjfaaGreatDoorValA
import Derived.Lib.TrimByte
import Derived.Lib.SlTrimSet
import Derived.Lib.ParseIntB
import Derived.Shelf.Strings.SlTrimAscii
namespace Go.Proofs.YtgmhifafbebjfaaGreatDoor
open Go

/-- four digits -/
def four (r : Nat) : List UInt8 := [UInt8.ofNat (48 + r / 1000), UInt8.ofNat (48 + r / 100 % 10), UInt8.ofNat (48 + r / 10 % 10), UInt8.ofNat (48 + r % 10)]
/-- the digits behind the point -/
def frac (r : Nat) : List UInt8 := Lib.trimRightB (four r) 48
/-- a number's text: n its size, low: is it below 0? -/
def textOf (low : Bool) (n : Nat) : List UInt8 := (if low then [45] else []) ++ (Lib.decDigits (n / 10000) ++ (if n % 10000 = 0 then [] else 46 :: frac (n % 10000)))
def printL (x : Int) : List UInt8 := if x = -9223372036854775808 then [] else textOf (decide (x < 0)) x.natAbs

theorem decSnoc {r : Nat} (h : 10 ≤ r) : Lib.decDigits r = Lib.decDigits (r / 10) ++ [UInt8.ofNat (48 + r % 10)] := by
  rw [Lib.decDigits, dif_neg (by omega)]
theorem dec_five {r : Nat} (h : r < 10000) : Lib.decDigits (10000 + r) = 49 :: four r := by
  rw [decSnoc (by omega), decSnoc (by omega), decSnoc (by omega), decSnoc (by omega), Lib.decDigits_one (by omega)]
  simp only [four, List.cons_append, List.nil_append]
  have e1 : (10000 + r) / 10 / 10 / 10 / 10 = 1 := by omega
  have e2 : (10000 + r) / 10 / 10 / 10 % 10 = r / 1000 := by omega
  have e3 : (10000 + r) / 10 / 10 % 10 = r / 100 % 10 := by omega
  have e4 : (10000 + r) / 10 % 10 = r / 10 % 10 := by omega
  have e5 : (10000 + r) % 10 = r % 10 := by omega
  rw [e1, e2, e3, e4, e5]
  rfl
theorem dec_len20 {u : Nat} (h : u < 18446744073709551616) : (Lib.decDigits u).length ≤ 20 := by
  rw [Lib.decDigits_length]
  by_cases h0 : u = 0
  · subst h0; rw [Lib.nDigits_small (by omega)]; omega
  · have := Lib.numDigits_eq u (by omega) h
    split at this <;> omega
theorem frac_len (r : Nat) : (frac r).length ≤ 4 := by
  unfold frac Lib.trimRightB
  rw [List.length_reverse]
  refine Nat.le_trans (List.dropWhile_sublist _).length_le ?_
  simp [four]
/-- the document's own way: digit by digit, as long as something is left -/
def digs : Nat → Nat → List UInt8
  | 0, _ => []
  | k + 1, r => if r = 0 then [] else UInt8.ofNat (48 + r / 1000) :: digs k (r % 1000 * 10)
theorem digs_frac : ∀ a b c d : Fin 10, a.val * 1000 + b.val * 100 + c.val * 10 + d.val = 0 ∨ digs 4 (a.val * 1000 + b.val * 100 + c.val * 10 + d.val) = frac (a.val * 1000 + b.val * 100 + c.val * 10 + d.val) := by decide +kernel
theorem digs_four {r : Nat} (h : r < 10000) (h0 : r ≠ 0) : digs 4 r = frac r := by
  have := digs_frac ⟨r / 1000, by omega⟩ ⟨r / 100 % 10, by omega⟩ ⟨r / 10 % 10, by omega⟩ ⟨r % 10, by omega⟩
  simp only at this
  rw [show r / 1000 * 1000 + r / 100 % 10 * 100 + r / 10 % 10 * 10 + r % 10 = r by omega] at this
  exact this.resolve_left h0
end Go.Proofs.YtgmhifafbebjfaaGreatDoor
namespace Go.Proofs.YtgmhifafbebjfaaGreatDoor
open Go

def isDig (b : UInt8) : Bool := decide (48 ≤ b.toNat) && decide (b.toNat ≤ 57)
/-- the number that digits stand for -/
def valF (v : Nat) (b : UInt8) : Nat := v * 10 + (b.toNat - 48)
def valL (l : List UInt8) : Nat := l.foldl valF 0
/-- digits, one to so many -/
def digOk (l : List UInt8) (m : Nat) : Bool := decide (0 < l.length) && decide (l.length ≤ m) && l.all isDig
/-- what may stand behind the whole part -/
def restOf : List UInt8 → Option (List UInt8)
  | [] => some []
  | b :: r => if b = 46 ∧ digOk r 4 = true then some r else .none
/-- a number of so many digits before and behind the point -/
def numOf (low : Bool) (D r : List UInt8) : Option Int :=
  if low = true ∧ valL (D ++ (r ++ List.replicate (4 - r.length) 48)) = 0 then .none
  else if valL (D ++ (r ++ List.replicate (4 - r.length) 48)) ≤ 9223372036854775807 then some (if low then -(valL (D ++ (r ++ List.replicate (4 - r.length) 48)) : Int) else (valL (D ++ (r ++ List.replicate (4 - r.length) 48)) : Int)) else .none
def wholeOk (D : List UInt8) : Bool := digOk D 15 && !(decide (1 < D.length) && D.head? == some 48)
def bodyOf (low : Bool) (t : List UInt8) : Option Int :=
  if wholeOk (t.takeWhile isDig) then
    match restOf (t.dropWhile isDig) with
    | some r => numOf low (t.takeWhile isDig) r
    | .none => .none
  else .none
def lowOf (l : List UInt8) : Bool := l.head? == some 45
def tailOf (l : List UInt8) : List UInt8 := if lowOf l then l.tail else l
/-- what Parse tells of a text -/
def numP (l : List UInt8) : Option Int := bodyOf (lowOf l) (tailOf l)
def numV (l : List UInt8) : Int := match numP l with | some x => x | .none => 0
def numOk (l : List UInt8) : Bool := (numP l).isSome

theorem all_take {t : List UInt8} (h : t.all isDig = true) : t.takeWhile isDig = t ∧ t.dropWhile isDig = [] := by
  induction t with
  | nil => simp
  | cons b t ih =>
    simp only [List.all_cons, Bool.and_eq_true] at h
    obtain ⟨h1, h2⟩ := ih h.2
    simp [h.1, h1, h2]
theorem all_take_dot {w r : List UInt8} {b : UInt8} (h : w.all isDig = true) (hb : isDig b = false) : (w ++ b :: r).takeWhile isDig = w ∧ (w ++ b :: r).dropWhile isDig = b :: r := by
  induction w with
  | nil => simp [hb]
  | cons c w ih =>
    simp only [List.all_cons, Bool.and_eq_true] at h
    obtain ⟨h1, h2⟩ := ih h.2
    simp [h.1, h1, h2]
theorem not_all {w r : List UInt8} (h : w.all isDig = false) (hd : ∀ b ∈ w, b ≠ 46) : ∃ b R, (w ++ r).dropWhile isDig = b :: R ∧ b ≠ 46 := by
  induction w with
  | nil => simp at h
  | cons c w ih =>
    cases hc : isDig c
    · exact ⟨c, w ++ r, by simp [hc], hd c (by simp)⟩
    · simp only [List.all_cons, hc, Bool.true_and] at h
      obtain ⟨b, R, e, hb⟩ := ih h (fun b hb => hd b (by simp [hb]))
      exact ⟨b, R, by simp [hc, e], hb⟩
theorem rest_other {b : UInt8} {R : List UInt8} (h : b ≠ 46) : restOf (b :: R) = .none := by simp [restOf, h]
theorem body_other {low : Bool} {t : List UInt8} (h : ∃ b R, t.dropWhile isDig = b :: R ∧ b ≠ 46) : bodyOf low t = .none := by
  obtain ⟨b, R, e, hb⟩ := h
  unfold bodyOf
  split
  · rw [e, rest_other hb]
  · rfl
/-- no point -/
theorem body_plain {low : Bool} {t : List UInt8} (h : Lib.indexByte t 46 = -1) : bodyOf low t = if wholeOk t then numOf low t [] else .none := by
  have hd : ∀ b ∈ t, b ≠ 46 := by
    intro b hb e
    subst e
    obtain ⟨i, hi, e⟩ := List.getElem_of_mem hb
    exact Lib.indexByte_none h i (by rw [List.getElem?_eq_getElem hi, e])
  cases ha : t.all isDig
  · rw [body_other (by have := not_all (r := []) ha hd; simpa using this)]
    simp [wholeOk, digOk, ha]
  · obtain ⟨h1, h2⟩ := all_take ha
    simp [bodyOf, h1, h2, restOf]
/-- a point at o -/
theorem body_point {low : Bool} {t : List UInt8} {o : Nat} (h : Lib.indexByte t 46 = o) (ho : o < t.length) {a b : List UInt8} (hA : a = t.take o) (hB : b = t.drop (o + 1)) :
    bodyOf low t = if wholeOk a && digOk b 4 then numOf low a b else .none := by
  obtain ⟨hg, hn⟩ := Lib.indexByte_some h
  have ht : t = a ++ 46 :: b := by
    have : t[o] = 46 := by rw [List.getElem?_eq_getElem ho] at hg; exact Option.some.inj hg
    rw [hA, hB, ← this, ← List.drop_eq_getElem_cons ho, List.take_append_drop]
  have hd : ∀ x ∈ a, x ≠ 46 := by
    intro x hx e
    subst e
    rw [hA] at hx
    obtain ⟨i, hi, e⟩ := List.getElem_of_mem hx
    have hio : i < o := by simp at hi; omega
    refine hn i hio ?_
    rw [List.getElem_take] at e
    rw [List.getElem?_eq_getElem (by omega), e]
  rw [ht]
  cases ha : a.all isDig
  · rw [body_other (not_all ha hd)]
    simp [wholeOk, digOk, ha]
  · obtain ⟨h1, h2⟩ := all_take_dot (r := b) (b := 46) ha (by decide)
    unfold bodyOf
    rw [h1, h2]
    cases hw : wholeOk a
    · simp
    · cases hk : digOk b 4
      · simp [restOf, hk]
      · simp [restOf, hk]

theorem val_snoc (l : List UInt8) (b : UInt8) : valL (l ++ [b]) = valL l * 10 + (b.toNat - 48) := by simp [valL, valF]
theorem valF_bound : ∀ (l : List UInt8) (v : Nat), l.all isDig = true → l.foldl valF v < (v + 1) * 10 ^ l.length
  | [], v, _ => by simp
  | b :: l, v, h => by
    simp only [List.all_cons, Bool.and_eq_true] at h
    have hb := h.1
    simp only [isDig, Bool.and_eq_true, decide_eq_true_eq] at hb
    have := valF_bound l (valF v b) h.2
    simp only [List.foldl_cons, List.length_cons, Nat.pow_succ]
    refine Nat.lt_of_lt_of_le this ?_
    rw [Nat.mul_comm (10 ^ l.length) 10, ← Nat.mul_assoc]
    refine Nat.mul_le_mul_right _ ?_
    unfold valF
    omega
theorem val_bound {l : List UInt8} (h : l.all isDig = true) : valL l < 10 ^ l.length := by
  have := valF_bound l 0 h
  simpa [valL] using this
theorem parse_ok : ∀ (l : List UInt8) (v : Nat), l.all isDig = true → (v + 1) * 10 ^ l.length ≤ 10000000000000000000 → Lib.parseUintM 18446744073709551615 v l = .ok (l.foldl valF v)
  | [], v, _, _ => by simp [Lib.parseUintM]
  | b :: l, v, h, hv => by
    simp only [List.all_cons, Bool.and_eq_true] at h
    have hb := h.1
    simp only [isDig, Bool.and_eq_true, decide_eq_true_eq] at hb
    have h10 : 1 ≤ 10 ^ l.length := Nat.one_le_pow _ _ (by omega)
    have hv2 : (v + 1) * 10 * 10 ^ l.length ≤ 10000000000000000000 := by
      rw [List.length_cons, Nat.pow_succ, Nat.mul_comm (10 ^ l.length) 10, ← Nat.mul_assoc] at hv
      exact hv
    have hv3 : (v + 1) * 10 ≤ 10000000000000000000 := Nat.le_trans (Nat.le_mul_of_pos_right _ h10) hv2
    have hv4 : (valF v b + 1) * 10 ^ l.length ≤ 10000000000000000000 := Nat.le_trans (Nat.mul_le_mul_right _ (by unfold valF; omega)) hv2
    simp only [Lib.parseUintM, List.foldl_cons]
    rw [if_pos hb, if_neg (by omega), if_neg (by omega)]
    exact parse_ok l _ h.2 hv4
theorem parse_ok64 {l : List UInt8} (h : l.all isDig = true) (h1 : 0 < l.length) (h2 : l.length ≤ 19) : Lib.parseUintB 64 l = .ok (valL l) := by
  unfold Lib.parseUintB
  rw [if_neg (by intro e; subst e; simp at h1)]
  refine parse_ok l 0 h ?_
  have : 10 ^ l.length ≤ 10 ^ 19 := Nat.pow_le_pow_right (by omega) h2
  omega
theorem dw_nil (p : UInt8 → Bool) : ∀ l : List UInt8, l.dropWhile p = [] ↔ ∀ b ∈ l, p b = true
  | [] => by simp
  | b :: l => by
    cases h : p b
    · simp [h]
    · simp [h, dw_nil p l]
theorem trim_digits (l : List UInt8) : (Lib.trimS l [48, 49, 50, 51, 52, 53, 54, 55, 56, 57] == []) = l.all isDig := by
  have hf : ∀ n : Fin 256, [48, 49, 50, 51, 52, 53, 54, 55, 56, 57].contains (UInt8.ofNat n.val) = isDig (UInt8.ofNat n.val) := by decide +kernel
  have hc : ∀ b : UInt8, [48, 49, 50, 51, 52, 53, 54, 55, 56, 57].contains b = isDig b := fun b => by
    have := hf ⟨b.toNat, b.toNat_lt⟩
    simpa using this
  unfold Lib.trimS Lib.trimLeftS Lib.trimRightS
  simp only [hc]
  rw [Bool.eq_iff_iff]
  simp only [beq_iff_eq, List.all_eq_true]
  constructor
  · intro h b hb
    rw [dw_nil] at h
    cases hd : isDig b with
    | true => rfl
    | false =>
      have hne : l.reverse.dropWhile isDig ≠ [] := by
        intro e
        rw [dw_nil] at e
        have := e b (by simpa using hb)
        rw [hd] at this; cases this
      cases hr : l.reverse.dropWhile isDig with
      | nil => exact absurd hr hne
      | cons c r =>
        have hcd : isDig c = false := by
          have := List.head?_dropWhile_not isDig l.reverse
          rw [hr] at this
          simpa using this
        have := h c (by rw [hr]; simp)
        rw [hcd] at this; cases this
  · intro h
    have e : l.reverse.dropWhile isDig = [] := by
      rw [dw_nil]
      intro b hb
      exact h b (by simpa using hb)
    rw [e]
    rfl
end Go.Proofs.YtgmhifafbebjfaaGreatDoor
namespace Go.Proofs.YtgmhifafbebjfaaGreatDoor
open Go.RowKit

theorem dtrim (l : List UInt8) (hm : l.length ≤ 9223372036854775807) (w : World) : Calls Tryz.prog 221 #[.string ⟨l.toArray⟩, .string ⟨#[48, 49, 50, 51, 52, 53, 54, 55, 56, 57]⟩] w fun e w' => e = .returned (.string ⟨(Lib.trimS l [48, 49, 50, 51, 52, 53, 54, 55, 56, 57]).toArray⟩) ∧ Below w.heap.size w w' := by
  have := Any.strings_Trim_laid Tryz.lays160 (by kernel_rfl) ⟨l.toArray⟩ ⟨#[48, 49, 50, 51, 52, 53, 54, 55, 56, 57]⟩ w (by simpa [ByteArray.size] using hm) (by decide) (ascii_of_all (by decide))
  exact this
theorem trim_yes {l : List UInt8} (h : l.all isDig = true) : Lib.trimS l [48, 49, 50, 51, 52, 53, 54, 55, 56, 57] = [] := by
  have := trim_digits l
  rw [h] at this
  simpa using this
theorem trim_no {l : List UInt8} (h : l.all isDig = false) : (Lib.trimS l [48, 49, 50, 51, 52, 53, 54, 55, 56, 57] = []) = False := by
  have := trim_digits l
  rw [h] at this
  exact eq_false (by simpa using this)
theorem bytes_nil (l : List UInt8) : ((⟨l.toArray⟩ : ByteArray) = ⟨#[]⟩) = (l = []) := by
  apply propext
  constructor
  · intro h
    have := congrArg (fun b : ByteArray => b.data.toList) h
    simpa using this
  · rintro rfl; rfl
set_option maxHeartbeats 400000 in
theorem digits_0 (l : List UInt8) (m : Nat) (_hm : l.length ≤ 9223372036854775807) (_hmm : m ≤ 100) (h : l.length = 0) (w : World) : Calls Tryz.prog 196 #[.string ⟨l.toArray⟩, .int .i64 m] w fun e w' => e = .returned (.bool false) ∧ Below w.heap.size w w' := by
  obtain rfl : l = [] := List.length_eq_zero_iff.1 h
  clear h
  go_enter Tryz.func196, Tryz.ntmps196
  go_wp2_with (go_at_call 221; refine (dtrim _ (by assumption) _).mono ?_; rintro e w1 ⟨rfl, hb⟩)
  go_ret
  exact ⟨rfl, by first | assumption | exact Below.refl _ _⟩
set_option maxHeartbeats 400000 in
theorem digits_1 (l : List UInt8) (m : Nat) (_hm : l.length ≤ 9223372036854775807) (_hmm : m ≤ 100) (h : 0 < l.length) (h1 : m < l.length) (w : World) : Calls Tryz.prog 196 #[.string ⟨l.toArray⟩, .int .i64 m] w fun e w' => e = .returned (.bool false) ∧ Below w.heap.size w w' := by
  go_enter Tryz.func196, Tryz.ntmps196
  go_wp2_with (go_at_call 221; refine (dtrim _ (by assumption) _).mono ?_; rintro e w1 ⟨rfl, hb⟩)
  go_ret
  exact ⟨rfl, by first | assumption | exact Below.refl _ _⟩
set_option maxHeartbeats 400000 in
theorem digits_2 (l : List UInt8) (m : Nat) (hm : l.length ≤ 9223372036854775807) (_hmm : m ≤ 100) (h : 0 < l.length) (h1 : l.length ≤ m) (h2 : l.all isDig = false) (w : World) : Calls Tryz.prog 196 #[.string ⟨l.toArray⟩, .int .i64 m] w fun e w' => e = .returned (.bool false) ∧ Below w.heap.size w w' := by
  have ht := trim_no h2
  have hb0 := bytes_nil (Lib.trimS l [48, 49, 50, 51, 52, 53, 54, 55, 56, 57])
  rw [ht] at hb0
  clear ht h2
  go_enter Tryz.func196, Tryz.ntmps196
  go_wp2_with (go_at_call 221; refine (dtrim _ (by assumption) _).mono ?_; rintro e w1 ⟨rfl, hb⟩)
  go_ret
  exact ⟨rfl, by first | assumption | exact Below.refl _ _⟩
set_option maxHeartbeats 400000 in
theorem digits_3 (l : List UInt8) (m : Nat) (hm : l.length ≤ 9223372036854775807) (_hmm : m ≤ 100) (h : 0 < l.length) (h1 : l.length ≤ m) (h2 : l.all isDig = true) (w : World) : Calls Tryz.prog 196 #[.string ⟨l.toArray⟩, .int .i64 m] w fun e w' => e = .returned (.bool true) ∧ Below w.heap.size w w' := by
  have ht := trim_yes h2
  clear h2
  go_enter Tryz.func196, Tryz.ntmps196
  go_wp2_with (go_at_call 221; refine (dtrim _ (by assumption) _).mono ?_; rintro e w1 ⟨rfl, hb⟩)
  go_ret
  exact ⟨rfl, by first | assumption | exact Below.refl _ _⟩
theorem digits_any (l : List UInt8) (m : Nat) (hm : l.length ≤ 9223372036854775807) (hmm : m ≤ 100) (w : World) : Calls Tryz.prog 196 #[.string ⟨l.toArray⟩, .int .i64 m] w fun e w' => e = .returned (.bool (digOk l m)) ∧ Below w.heap.size w w' := by
  by_cases h0 : l.length = 0
  · rw [show digOk l m = false from by simp [digOk, h0]]
    exact digits_0 l m hm hmm h0 w
  by_cases h1 : m < l.length
  · rw [show digOk l m = false from by simp [digOk]; intro _ h; omega]
    exact digits_1 l m hm hmm (by omega) h1 w
  cases h2 : l.all isDig
  · rw [show digOk l m = false from by simp [digOk, h2]]
    exact digits_2 l m hm hmm (by omega) (by omega) h2 w
  · rw [show digOk l m = true from by simp [digOk, h2]; omega]
    exact digits_3 l m hm hmm (by omega) (by omega) h2 w
theorem digits_as (l : List UInt8) (m : Nat) (hm : l.length ≤ 9223372036854775807) (hmm : m ≤ 100) (p : Bool) (h : digOk l m = p) (w : World) : Calls Tryz.prog 196 #[.string ⟨l.toArray⟩, .int .i64 m] w fun e w' => e = .returned (.bool p) ∧ Below w.heap.size w w' := by
  subst h
  exact digits_any l m hm hmm w
end Go.Proofs.YtgmhifafbebjfaaGreatDoor
namespace Go.Proofs.YtgmhifafbebjfaaGreatDoor
open Go

theorem tw_all (p : UInt8 → Bool) : ∀ l : List UInt8, ∀ b ∈ l.takeWhile p, p b = true
  | [], b, h => by simp at h
  | a :: l, b, h => by
    cases ha : p a
    · simp [ha] at h
    · simp [ha] at h
      rcases h with rfl | h
      · exact ha
      · exact tw_all p l b h
end Go.Proofs.YtgmhifafbebjfaaGreatDoor
namespace Go.Proofs.YtgmhifafbebjfaaGreatDoor
open Go.RowKit

set_option maxHeartbeats 400000 in
theorem risdig (b : UInt8) (w : World) : Calls Tryz.prog 206 #[.int .u8 (b.toNat : Int)] w fun e w' => e = .returned (.bool (isDig b)) ∧ w = w' := by
  have hb := b.toNat_lt
  by_cases h1 : 48 ≤ b.toNat
  · by_cases h2 : b.toNat ≤ 57
    · have e := Lib.hid (show isDig b = true by simp [isDig, h1, h2])
      go_enter Tryz.func206, Tryz.ntmps206
      go_wp2
      go_ret
      exact ⟨ret_b (by rw [e.out]; simp; omega), rfl⟩
    · have e := Lib.hid (show isDig b = false by simp [isDig, h2])
      go_enter Tryz.func206, Tryz.ntmps206
      go_wp2
      go_ret
      exact ⟨ret_b (by rw [e.out]; simp; omega), rfl⟩
  · have e := Lib.hid (show isDig b = false by simp [isDig, h1])
    go_enter Tryz.func206, Tryz.ntmps206
    go_wp2
    go_ret
    exact ⟨by rw [e.out]; rfl, rfl⟩
theorem risdig_as (b : UInt8) (p : Bool) (h : isDig b = p) (w : World) : Calls Tryz.prog 206 #[.int .u8 (b.toNat : Int)] w fun e w' => e = .returned (.bool p) ∧ w = w' := by
  subst h; exact risdig b w
theorem tw_len (t : List UInt8) : (t.takeWhile isDig).length ≤ t.length := by
  exact List.IsPrefix.length_le (List.takeWhile_prefix isDig)
theorem tw_in (t : List UInt8) (j : Nat) (h : j < (t.takeWhile isDig).length) (h2 : j < t.length) : isDig t[j] = true := by
  have e : t[j] = (t.takeWhile isDig)[j] := by
    have := List.takeWhile_append_dropWhile (p := isDig) (l := t)
    rw [List.getElem_of_eq this.symm h2, List.getElem_append_left h]
  rw [e]
  exact tw_all isDig t _ (List.getElem_mem h)
theorem tw_out (t : List UInt8) (h2 : (t.takeWhile isDig).length < t.length) : isDig t[(t.takeWhile isDig).length] = false := by
  have e := List.takeWhile_append_dropWhile (p := isDig) (l := t)
  have hd := List.head?_dropWhile_not isDig t
  cases hr : t.dropWhile isDig with
  | nil => rw [hr, List.append_nil] at e; rw [e] at h2; omega
  | cons c r =>
    rw [hr] at hd
    have : t[(t.takeWhile isDig).length] = c := by
      rw [List.getElem_of_eq e.symm h2, List.getElem_append_right (Nat.le_refl _)]
      simp [hr]
    rw [this]
    simpa using hd
set_option maxHeartbeats 1000000 in
theorem rdigits_t (l : List UInt8) (at' k : Nat) (hl : l.length ≤ 9223372036854775807) (ha : at' ≤ l.length) (hk : ((l.drop at').takeWhile isDig).length = k) (w : World) : Calls Tryz.prog 167 #[.string ⟨l.toArray⟩, .int .i64 (at' : Int)] w fun e w' => e = .returned (.int .i64 (k : Int)) ∧ w = w' := by
  have hkl : k ≤ l.length - at' := by
    have := tw_len (l.drop at')
    rw [hk] at this
    simpa using this
  have hin : ∀ j (h : j < k) (h2 : at' + j < l.length), isDig l[at' + j] = true := fun j h h2 => by
    have := tw_in (l.drop at') j (by omega) (by simp; omega)
    simpa using this
  have hout : ∀ (h2 : at' + k < l.length), isDig l[at' + k] = false := fun h2 => by
    have := tw_out (l.drop at') (by rw [hk]; simp; omega)
    simp only [hk] at this
    simpa using this
  have hin' := Lib.hid hin
  have hout' := Lib.hid hout
  clear hin hout hk
  go_enter Tryz.func167, Tryz.ntmps167
  go_wp2
  go_loop [5] (fun n => ∃ j : Nat, j ≤ k ∧ n = .int .i64 (j : Int)) (fun n => k - (intOf n).toNat)
  case atStart => exact ⟨0, by omega, rfl⟩
  case round =>
    obtain ⟨j, hj, rfl⟩ := hrel
    by_cases h1 : at' + j < l.length
    · have hb : at' + j < (⟨l.toArray⟩ : ByteArray).size := by show at' + j < l.toArray.size; simpa using h1
      have hc : ((at' : Int) + (j : Int)).toNat = at' + j := by omega
      by_cases h2 : j < k
      · have hd := Lib.hid (hin'.out j h2 h1)
        go_wp2_with (go_at_call 206; refine (risdig_as ((⟨l.toArray⟩ : ByteArray)[at' + j]'hb) true hd.out _).mono ?_; rintro e w1 ⟨rfl, rfl⟩)
        go_round
        case rel => exact ⟨j + 1, by omega, by go_num⟩
        case measure => simp [intOf]; omega
      · obtain rfl : j = k := by omega
        have hd := Lib.hid (hout'.out h1)
        go_wp2_with (go_at_call 206; refine (risdig_as ((⟨l.toArray⟩ : ByteArray)[at' + j]'hb) false hd.out _).mono ?_; rintro e w1 ⟨rfl, rfl⟩)
        go_ret
        exact ⟨rfl, rfl⟩
    · obtain rfl : j = k := by omega
      go_wp2
      go_ret
      exact ⟨rfl, rfl⟩
end Go.Proofs.YtgmhifafbebjfaaGreatDoor
namespace Go.Proofs.YtgmhifafbebjfaaGreatDoor
open Go.RowKit

theorem rdigits_as (l : List UInt8) (z : Int) (at' k : Nat) (hz : z = (at' : Int)) (hl : l.length ≤ 9223372036854775807) (ha : at' ≤ l.length) (hk : ((l.drop at').takeWhile isDig).length = k) (w : World) : Calls Tryz.prog 167 #[.string ⟨l.toArray⟩, .int .i64 z] w fun e w' => e = .returned (.int .i64 (k : Int)) ∧ w = w' := by
  subst hz
  exact rdigits_t l at' k hl ha hk w
end Go.Proofs.YtgmhifafbebjfaaGreatDoor
namespace Go.Proofs.YtgmhifafbebjfaaGreatDoor
open Go

theorem rtw_len (t : List UInt8) : (t.takeWhile isDig).length ≤ t.length := List.IsPrefix.length_le (List.takeWhile_prefix isDig)
theorem rtw_take (t : List UInt8) : t.take (t.takeWhile isDig).length = t.takeWhile isDig := by
  have h : (t.takeWhile isDig ++ t.dropWhile isDig).take (t.takeWhile isDig).length = t.takeWhile isDig := List.take_left
  rwa [List.takeWhile_append_dropWhile] at h
theorem rtw_drop (t : List UInt8) : t.drop (t.takeWhile isDig).length = t.dropWhile isDig := by
  have h : (t.takeWhile isDig ++ t.dropWhile isDig).drop (t.takeWhile isDig).length = t.dropWhile isDig := List.drop_left
  rwa [List.takeWhile_append_dropWhile] at h
theorem rtw_all (t : List UInt8) : (t.takeWhile isDig).all isDig = true := by
  rw [List.all_eq_true]; exact tw_all isDig t
theorem rest_dig (R : List UInt8) (r : Nat) (h : (R.takeWhile isDig).length = r) : digOk R 4 = (decide (1 ≤ r) && decide (r ≤ 4) && decide (r = R.length)) := by
  have h1 := rtw_take R
  have h2 := rtw_all R
  rw [h] at h1
  by_cases hr : r = R.length
  · rw [hr, List.take_length] at h1
    rw [← h1] at h2
    simp only [digOk, h2, hr, decide_true, Bool.and_true]
    rw [Bool.eq_iff_iff]; simp; omega
  · have : R.all isDig = false := by
      cases ha : R.all isDig
      · rfl
      · have := (all_take ha).1
        rw [this] at h
        exact absurd h.symm hr
    simp [digOk, this, hr]
theorem whole_dig2 (t : List UInt8) (k : Nat) (h : (t.takeWhile isDig).length = k) : digOk (t.takeWhile isDig) 15 = (decide (1 ≤ k) && decide (k ≤ 15)) := by
  simp only [digOk, rtw_all, h, Bool.and_true]
  rw [Bool.eq_iff_iff]; simp; omega
theorem take_all {l : List UInt8} (h : l.all isDig = true) (j : Nat) : (l.take j).all isDig = true := by
  rw [List.all_eq_true] at *
  exact fun b hb => h b (List.mem_of_mem_take hb)
theorem val_take (l : List UInt8) (j : Nat) (hj : j < l.length) : valL (l.take (j + 1)) = valL (l.take j) * 10 + (l[j].toNat - 48) := by
  rw [List.take_succ_eq_append_getElem hj, val_snoc]
theorem val_small {l : List UInt8} (h : l.all isDig = true) (k : Nat) (hk : l.length ≤ k) : valL l < 10 ^ k :=
  Nat.lt_of_lt_of_le (val_bound h) (Nat.pow_le_pow_right (by omega) hk)
theorem dig_range {l : List UInt8} (h : l.all isDig = true) (j : Nat) (hj : j < l.length) : 48 ≤ l[j].toNat ∧ l[j].toNat ≤ 57 := by
  rw [List.all_eq_true] at h
  have := h l[j] (List.getElem_mem hj)
  simpa [isDig] using this
/-- the whole part, digit by digit -/
theorem loopV (D : List UInt8) (hD : D.all isDig = true) (h15 : D.length ≤ 15) (j : Nat) (hj : j < D.length) :
    48 ≤ D[j].toNat ∧ D[j].toNat ≤ 57 ∧ valL (D.take j) ≤ 1000000000000000 ∧ valL (D.take (j + 1)) = valL (D.take j) * 10 + (D[j].toNat - 48) := by
  obtain ⟨h1, h2⟩ := dig_range hD j hj
  refine ⟨h1, h2, ?_, val_take D j hj⟩
  have := val_small (take_all hD j) 15 (by simp; omega)
  omega
/-- the four digits behind -/
theorem loopU (D S : List UInt8) (hD : D.all isDig = true) (h15 : D.length ≤ 15) (hS : S.all isDig = true) (h4 : S.length = 4) (j : Nat) (hj : j < 4) :
    valL (D ++ S.take j) ≤ 1000000000000000000 ∧ valL (D ++ S.take (j + 1)) ≤ 18446744073709551615 ∧ valL (D ++ S.take (j + 1)) = valL (D ++ S.take j) * 10 + ((S[j]'(by omega)).toNat - 48) := by
  have a1 : (D ++ S.take j).all isDig = true := by rw [List.all_append, hD, take_all hS j]; rfl
  have a2 : (D ++ S.take (j + 1)).all isDig = true := by rw [List.all_append, hD, take_all hS (j + 1)]; rfl
  have b1 := val_small a1 18 (by simp; omega)
  have b2 := val_small a2 19 (by simp; omega)
  refine ⟨by omega, by omega, ?_⟩
  rw [List.take_succ_eq_append_getElem (by omega), ← List.append_assoc, val_snoc]
end Go.Proofs.YtgmhifafbebjfaaGreatDoor
