/-
  The plain law of numbers' texts, written: the four digits of a rest. No program in sight; The plain law of numbers' texts, read. No program in sight.
-/
import Derived.Lib.ItoaMem
import Derived.Lib.TrimByte
import Derived.Lib.IndexLaws
import Derived.Lib.SlTrimSet
import Derived.Lib.ParseIntB
namespace Go.Proofs.YtfbkoieodflcpaaDoor
open Go

/-- four digits -/
def four (r : Nat) : List UInt8 := [UInt8.ofNat (48 + r / 1000), UInt8.ofNat (48 + r / 100 % 10), UInt8.ofNat (48 + r / 10 % 10), UInt8.ofNat (48 + r % 10)]
/-- the digits behind the point -/
def frac (r : Nat) : List UInt8 := Lib.trimRightB (four r) 48
/-- a number's text: n its size, low: is it below 0? -/
def textOf (low : Bool) (n : Nat) : List UInt8 := (if low then [45] else []) ++ (Lib.decDigits (n / 10000) ++ (if n % 10000 = 0 then [] else 46 :: frac (n % 10000)))
def printL (x : Int) : List UInt8 := if x = -9223372036854775808 then [] else textOf (decide (x < 0)) x.natAbs

theorem decSnoc {r : Nat} (h : 10 ≤ r) : Lib.decDigits r = Lib.decDigits (r / 10) ++ [UInt8.ofNat (48 + r % 10)] := by
  rw [Lib.decDigits, dif_neg (by omega)]
theorem dec_five {r : Nat} (h : r < 10000) : Lib.decDigits (10000 + r) = 49 :: four r := by
  rw [decSnoc (by omega), decSnoc (by omega), decSnoc (by omega), decSnoc (by omega), Lib.decDigits_one (by omega)]
  simp only [four, List.cons_append, List.nil_append]
  have e1 : (10000 + r) / 10 / 10 / 10 / 10 = 1 := by omega
  have e2 : (10000 + r) / 10 / 10 / 10 % 10 = r / 1000 := by omega
  have e3 : (10000 + r) / 10 / 10 % 10 = r / 100 % 10 := by omega
  have e4 : (10000 + r) / 10 % 10 = r / 10 % 10 := by omega
  have e5 : (10000 + r) % 10 = r % 10 := by omega
  rw [e1, e2, e3, e4, e5]
  rfl
theorem dec_len20 {u : Nat} (h : u < 18446744073709551616) : (Lib.decDigits u).length ≤ 20 := by
  rw [Lib.decDigits_length]
  by_cases h0 : u = 0
  · subst h0; rw [Lib.nDigits_small (by omega)]; omega
  · have := Lib.numDigits_eq u (by omega) h
    split at this <;> omega
theorem frac_len (r : Nat) : (frac r).length ≤ 4 := by
  unfold frac Lib.trimRightB
  rw [List.length_reverse]
  refine Nat.le_trans (List.dropWhile_sublist _).length_le ?_
  simp [four]
end Go.Proofs.YtfbkoieodflcpaaDoor
namespace Go.Proofs.YtfbkoieodflcpaaDoor
open Go

def isDig (b : UInt8) : Bool := decide (48 ≤ b.toNat) && decide (b.toNat ≤ 57)
/-- the number that digits stand for -/
def valF (v : Nat) (b : UInt8) : Nat := v * 10 + (b.toNat - 48)
def valL (l : List UInt8) : Nat := l.foldl valF 0
/-- digits, one to so many -/
def digOk (l : List UInt8) (m : Nat) : Bool := decide (0 < l.length) && decide (l.length ≤ m) && l.all isDig
/-- what may stand behind the whole part -/
def restOf : List UInt8 → Option (List UInt8)
  | [] => some []
  | b :: r => if b = 46 ∧ digOk r 4 = true then some r else .none
/-- a number of so many digits before and behind the point -/
def numOf (low : Bool) (D r : List UInt8) : Option Int :=
  if low = true ∧ valL (D ++ (r ++ List.replicate (4 - r.length) 48)) = 0 then .none
  else if valL (D ++ (r ++ List.replicate (4 - r.length) 48)) ≤ 9223372036854775807 then some (if low then -(valL (D ++ (r ++ List.replicate (4 - r.length) 48)) : Int) else (valL (D ++ (r ++ List.replicate (4 - r.length) 48)) : Int)) else .none
def wholeOk (D : List UInt8) : Bool := digOk D 15 && !(decide (1 < D.length) && D.head? == some 48)
def bodyOf (low : Bool) (t : List UInt8) : Option Int :=
  if wholeOk (t.takeWhile isDig) then
    match restOf (t.dropWhile isDig) with
    | some r => numOf low (t.takeWhile isDig) r
    | .none => .none
  else .none
def lowOf (l : List UInt8) : Bool := l.head? == some 45
def tailOf (l : List UInt8) : List UInt8 := if lowOf l then l.tail else l
/-- what Parse tells of a text -/
def numP (l : List UInt8) : Option Int := bodyOf (lowOf l) (tailOf l)
def numV (l : List UInt8) : Int := match numP l with | some x => x | .none => 0
def numOk (l : List UInt8) : Bool := (numP l).isSome

theorem all_take {t : List UInt8} (h : t.all isDig = true) : t.takeWhile isDig = t ∧ t.dropWhile isDig = [] := by
  induction t with
  | nil => simp
  | cons b t ih =>
    simp only [List.all_cons, Bool.and_eq_true] at h
    obtain ⟨h1, h2⟩ := ih h.2
    simp [h.1, h1, h2]
theorem all_take_dot {w r : List UInt8} {b : UInt8} (h : w.all isDig = true) (hb : isDig b = false) : (w ++ b :: r).takeWhile isDig = w ∧ (w ++ b :: r).dropWhile isDig = b :: r := by
  induction w with
  | nil => simp [hb]
  | cons c w ih =>
    simp only [List.all_cons, Bool.and_eq_true] at h
    obtain ⟨h1, h2⟩ := ih h.2
    simp [h.1, h1, h2]
theorem val_snoc (l : List UInt8) (b : UInt8) : valL (l ++ [b]) = valL l * 10 + (b.toNat - 48) := by simp [valL, valF]
end Go.Proofs.YtfbkoieodflcpaaDoor
