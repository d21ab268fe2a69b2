/-
  The plain law of numbers' texts, written: the four digits of a rest. No program in sight; The plain law of numbers' texts, read. No program in sight; The tokens of a text, as a plain function; what holds of them; Package dec: digits; rows of tokens in memory.
-/
import Derived.Test.YtfbkoieodflcpaaGreatDoorProg
import Derived.Test.YtfbkoieodflcpaaGreatDoorShelf
import Derived.Test.YtfbkoieodflcpaaGreatDoorRows
import Derived.Test.YtfbkoieodflcpaaGreatDoorMg0
import Derived.Test.YtfbkoieodflcpaaGreatDoorValA
import Derived.Test.YtfbkoieodflcpaaGreatDoorMg4
import Derived.Test.YtfbkoieodflcpaaGreatDoorAddrC
import Derived.Test.YtfbkoieodflcpaaGreatDoorMg6
import Derived.Test.YtfbkoieodflcpaaGreatDoorValB
import Derived.Test.YtfbkoieodflcpaaGreatDoorMg9
import Derived.Lib.ItoaMem
import Derived.Lib.TrimByte
import Derived.Lib.IndexLaws
import Derived.Lib.SlTrimSet
import Derived.Lib.ParseIntB
import Derived.Shelf.Strings.SlTrimAscii
import Derived.WalkSpells
import Derived.WalkLawsBesides
import Derived.StillTactics
import Derived.Laws.Pointers
import Derived.Deep.RegionHeld3
import Derived.Deep.QuietTactic
import Derived.BigQuiet
import Derived.RowKit3
import Derived.Lib.Hide
import Derived.Lib.OthersKept
import Derived.OwnWalk
import Derived.Shelf.Strings.Builder1
import Derived.Shelf.Strings.Builder2
import Derived.Shelf.Strings.Trim
import Derived.Shelf.Small.Utf8
import Derived.Shelf.Small.Strs
import Derived.Shelf.Small.Wraps
import Derived.Shelf.Strings.BuilderF
import Derived.Shelf.Strings.BuilderK
import Derived.Shelf.Utf8.RuneCount
import Derived.Shelf.Strconv.Itoa0
import Derived.Shelf.Strconv.Itoa1
import Derived.Shelf.LaysM
import Derived.Shelf.Strconv.Itoa2
import Derived.Shelf.Strconv.Itoa3
import Derived.Ground.MpProg
import Derived.Shelf.Pu.ParseUintPublic10
import Derived.Shelf.Strings.Search1
import Derived.Shelf.Strings.Search2
import Derived.Shelf.Strings.Search3
import Derived.Shelf.Strings.Cut
import Derived.Shelf.Strings.Count
import Derived.Shelf.Strings.Shaped
import Derived.Shelf.Strings.Prefix
import Derived.Shelf.Strings.Split
import Derived.Shelf.Strings.Replace
import Derived.Shelf.Strings.SplitShaped
import Derived.Shelf.Unicode.Decode
import Derived.Shelf.Strings.Runes
import Derived.Shelf.Strings.RuneCount
import Derived.Shelf.Strings.AsciiSet
import Derived.Shelf.Unicode.DecodeSlow
import Derived.Shelf.Unicode.DecodeAny
import Derived.Shelf.Unicode.DecodeLast
import Derived.WalkKit
import Derived.ProofKit
import Derived.OpenShut
import Derived.Carry
import Derived.ChangeSame
import Derived.Deep.Draws
import Derived.Lib.ItoaNum
import Derived.Maps.AppendAt
import Derived.Maps.OwnSet
namespace Go.Proofs.YtfbkoieodflcpaaGreatDoor
open Go

/-- four digits -/
def four (r : Nat) : List UInt8 := [UInt8.ofNat (48 + r / 1000), UInt8.ofNat (48 + r / 100 % 10), UInt8.ofNat (48 + r / 10 % 10), UInt8.ofNat (48 + r % 10)]
/-- the digits behind the point -/
def frac (r : Nat) : List UInt8 := Lib.trimRightB (four r) 48
/-- a number's text: n its size, low: is it below 0? -/
def textOf (low : Bool) (n : Nat) : List UInt8 := (if low then [45] else []) ++ (Lib.decDigits (n / 10000) ++ (if n % 10000 = 0 then [] else 46 :: frac (n % 10000)))
def printL (x : Int) : List UInt8 := if x = -9223372036854775808 then [] else textOf (decide (x < 0)) x.natAbs

theorem decSnoc {r : Nat} (h : 10 ≤ r) : Lib.decDigits r = Lib.decDigits (r / 10) ++ [UInt8.ofNat (48 + r % 10)] := by
  rw [Lib.decDigits, dif_neg (by omega)]
theorem dec_five {r : Nat} (h : r < 10000) : Lib.decDigits (10000 + r) = 49 :: four r := by
  rw [decSnoc (by omega), decSnoc (by omega), decSnoc (by omega), decSnoc (by omega), Lib.decDigits_one (by omega)]
  simp only [four, List.cons_append, List.nil_append]
  have e1 : (10000 + r) / 10 / 10 / 10 / 10 = 1 := by omega
  have e2 : (10000 + r) / 10 / 10 / 10 % 10 = r / 1000 := by omega
  have e3 : (10000 + r) / 10 / 10 % 10 = r / 100 % 10 := by omega
  have e4 : (10000 + r) / 10 % 10 = r / 10 % 10 := by omega
  have e5 : (10000 + r) % 10 = r % 10 := by omega
  rw [e1, e2, e3, e4, e5]
  rfl
theorem dec_len20 {u : Nat} (h : u < 18446744073709551616) : (Lib.decDigits u).length ≤ 20 := by
  rw [Lib.decDigits_length]
  by_cases h0 : u = 0
  · subst h0; rw [Lib.nDigits_small (by omega)]; omega
  · have := Lib.numDigits_eq u (by omega) h
    split at this <;> omega
theorem frac_len (r : Nat) : (frac r).length ≤ 4 := by
  unfold frac Lib.trimRightB
  rw [List.length_reverse]
  refine Nat.le_trans (List.dropWhile_sublist _).length_le ?_
  simp [four]
end Go.Proofs.YtfbkoieodflcpaaGreatDoor
namespace Go.Proofs.YtfbkoieodflcpaaGreatDoor
open Go

def isDig (b : UInt8) : Bool := decide (48 ≤ b.toNat) && decide (b.toNat ≤ 57)
/-- the number that digits stand for -/
def valF (v : Nat) (b : UInt8) : Nat := v * 10 + (b.toNat - 48)
def valL (l : List UInt8) : Nat := l.foldl valF 0
/-- digits, one to so many -/
def digOk (l : List UInt8) (m : Nat) : Bool := decide (0 < l.length) && decide (l.length ≤ m) && l.all isDig
/-- what may stand behind the whole part -/
def restOf : List UInt8 → Option (List UInt8)
  | [] => some []
  | b :: r => if b = 46 ∧ digOk r 4 = true then some r else .none
/-- a number of so many digits before and behind the point -/
def numOf (low : Bool) (D r : List UInt8) : Option Int :=
  if low = true ∧ valL (D ++ (r ++ List.replicate (4 - r.length) 48)) = 0 then .none
  else if valL (D ++ (r ++ List.replicate (4 - r.length) 48)) ≤ 9223372036854775807 then some (if low then -(valL (D ++ (r ++ List.replicate (4 - r.length) 48)) : Int) else (valL (D ++ (r ++ List.replicate (4 - r.length) 48)) : Int)) else .none
def wholeOk (D : List UInt8) : Bool := digOk D 15 && !(decide (1 < D.length) && D.head? == some 48)
def bodyOf (low : Bool) (t : List UInt8) : Option Int :=
  if wholeOk (t.takeWhile isDig) then
    match restOf (t.dropWhile isDig) with
    | some r => numOf low (t.takeWhile isDig) r
    | .none => .none
  else .none
def lowOf (l : List UInt8) : Bool := l.head? == some 45
def tailOf (l : List UInt8) : List UInt8 := if lowOf l then l.tail else l
/-- what Parse tells of a text -/
def numP (l : List UInt8) : Option Int := bodyOf (lowOf l) (tailOf l)
def numV (l : List UInt8) : Int := match numP l with | some x => x | .none => 0
def numOk (l : List UInt8) : Bool := (numP l).isSome

theorem all_take {t : List UInt8} (h : t.all isDig = true) : t.takeWhile isDig = t ∧ t.dropWhile isDig = [] := by
  induction t with
  | nil => simp
  | cons b t ih =>
    simp only [List.all_cons, Bool.and_eq_true] at h
    obtain ⟨h1, h2⟩ := ih h.2
    simp [h.1, h1, h2]
theorem all_take_dot {w r : List UInt8} {b : UInt8} (h : w.all isDig = true) (hb : isDig b = false) : (w ++ b :: r).takeWhile isDig = w ∧ (w ++ b :: r).dropWhile isDig = b :: r := by
  induction w with
  | nil => simp [hb]
  | cons c w ih =>
    simp only [List.all_cons, Bool.and_eq_true] at h
    obtain ⟨h1, h2⟩ := ih h.2
    simp [h.1, h1, h2]
theorem not_all {w r : List UInt8} (h : w.all isDig = false) (hd : ∀ b ∈ w, b ≠ 46) : ∃ b R, (w ++ r).dropWhile isDig = b :: R ∧ b ≠ 46 := by
  induction w with
  | nil => simp at h
  | cons c w ih =>
    cases hc : isDig c
    · exact ⟨c, w ++ r, by simp [hc], hd c (by simp)⟩
    · simp only [List.all_cons, hc, Bool.true_and] at h
      obtain ⟨b, R, e, hb⟩ := ih h (fun b hb => hd b (by simp [hb]))
      exact ⟨b, R, by simp [hc, e], hb⟩
theorem rest_other {b : UInt8} {R : List UInt8} (h : b ≠ 46) : restOf (b :: R) = .none := by simp [restOf, h]
theorem body_other {low : Bool} {t : List UInt8} (h : ∃ b R, t.dropWhile isDig = b :: R ∧ b ≠ 46) : bodyOf low t = .none := by
  obtain ⟨b, R, e, hb⟩ := h
  unfold bodyOf
  split
  · rw [e, rest_other hb]
  · rfl
/-- no point -/
theorem body_plain {low : Bool} {t : List UInt8} (h : Lib.indexByte t 46 = -1) : bodyOf low t = if wholeOk t then numOf low t [] else .none := by
  have hd : ∀ b ∈ t, b ≠ 46 := by
    intro b hb e
    subst e
    obtain ⟨i, hi, e⟩ := List.getElem_of_mem hb
    exact Lib.indexByte_none h i (by rw [List.getElem?_eq_getElem hi, e])
  cases ha : t.all isDig
  · rw [body_other (by have := not_all (r := []) ha hd; simpa using this)]
    simp [wholeOk, digOk, ha]
  · obtain ⟨h1, h2⟩ := all_take ha
    simp [bodyOf, h1, h2, restOf]
/-- a point at o -/
theorem body_point {low : Bool} {t : List UInt8} {o : Nat} (h : Lib.indexByte t 46 = o) (ho : o < t.length) {a b : List UInt8} (hA : a = t.take o) (hB : b = t.drop (o + 1)) :
    bodyOf low t = if wholeOk a && digOk b 4 then numOf low a b else .none := by
  obtain ⟨hg, hn⟩ := Lib.indexByte_some h
  have ht : t = a ++ 46 :: b := by
    have : t[o] = 46 := by rw [List.getElem?_eq_getElem ho] at hg; exact Option.some.inj hg
    rw [hA, hB, ← this, ← List.drop_eq_getElem_cons ho, List.take_append_drop]
  have hd : ∀ x ∈ a, x ≠ 46 := by
    intro x hx e
    subst e
    rw [hA] at hx
    obtain ⟨i, hi, e⟩ := List.getElem_of_mem hx
    have hio : i < o := by simp at hi; omega
    refine hn i hio ?_
    rw [List.getElem_take] at e
    rw [List.getElem?_eq_getElem (by omega), e]
  rw [ht]
  cases ha : a.all isDig
  · rw [body_other (not_all ha hd)]
    simp [wholeOk, digOk, ha]
  · obtain ⟨h1, h2⟩ := all_take_dot (r := b) (b := 46) ha (by decide)
    unfold bodyOf
    rw [h1, h2]
    cases hw : wholeOk a
    · simp
    · cases hk : digOk b 4
      · simp [restOf, hk]
      · simp [restOf, hk]

theorem val_snoc (l : List UInt8) (b : UInt8) : valL (l ++ [b]) = valL l * 10 + (b.toNat - 48) := by simp [valL, valF]
theorem valF_bound : ∀ (l : List UInt8) (v : Nat), l.all isDig = true → l.foldl valF v < (v + 1) * 10 ^ l.length
  | [], v, _ => by simp
  | b :: l, v, h => by
    simp only [List.all_cons, Bool.and_eq_true] at h
    have hb := h.1
    simp only [isDig, Bool.and_eq_true, decide_eq_true_eq] at hb
    have := valF_bound l (valF v b) h.2
    simp only [List.foldl_cons, List.length_cons, Nat.pow_succ]
    refine Nat.lt_of_lt_of_le this ?_
    rw [Nat.mul_comm (10 ^ l.length) 10, ← Nat.mul_assoc]
    refine Nat.mul_le_mul_right _ ?_
    unfold valF
    omega
theorem val_bound {l : List UInt8} (h : l.all isDig = true) : valL l < 10 ^ l.length := by
  have := valF_bound l 0 h
  simpa [valL] using this
theorem parse_ok : ∀ (l : List UInt8) (v : Nat), l.all isDig = true → (v + 1) * 10 ^ l.length ≤ 10000000000000000000 → Lib.parseUintM 18446744073709551615 v l = .ok (l.foldl valF v)
  | [], v, _, _ => by simp [Lib.parseUintM]
  | b :: l, v, h, hv => by
    simp only [List.all_cons, Bool.and_eq_true] at h
    have hb := h.1
    simp only [isDig, Bool.and_eq_true, decide_eq_true_eq] at hb
    have h10 : 1 ≤ 10 ^ l.length := Nat.one_le_pow _ _ (by omega)
    have hv2 : (v + 1) * 10 * 10 ^ l.length ≤ 10000000000000000000 := by
      rw [List.length_cons, Nat.pow_succ, Nat.mul_comm (10 ^ l.length) 10, ← Nat.mul_assoc] at hv
      exact hv
    have hv3 : (v + 1) * 10 ≤ 10000000000000000000 := Nat.le_trans (Nat.le_mul_of_pos_right _ h10) hv2
    have hv4 : (valF v b + 1) * 10 ^ l.length ≤ 10000000000000000000 := Nat.le_trans (Nat.mul_le_mul_right _ (by unfold valF; omega)) hv2
    simp only [Lib.parseUintM, List.foldl_cons]
    rw [if_pos hb, if_neg (by omega), if_neg (by omega)]
    exact parse_ok l _ h.2 hv4
theorem parse_ok64 {l : List UInt8} (h : l.all isDig = true) (h1 : 0 < l.length) (h2 : l.length ≤ 19) : Lib.parseUintB 64 l = .ok (valL l) := by
  unfold Lib.parseUintB
  rw [if_neg (by intro e; subst e; simp at h1)]
  refine parse_ok l 0 h ?_
  have : 10 ^ l.length ≤ 10 ^ 19 := Nat.pow_le_pow_right (by omega) h2
  omega
theorem dw_nil (p : UInt8 → Bool) : ∀ l : List UInt8, l.dropWhile p = [] ↔ ∀ b ∈ l, p b = true
  | [] => by simp
  | b :: l => by
    cases h : p b
    · simp [h]
    · simp [h, dw_nil p l]
theorem trim_digits (l : List UInt8) : (Lib.trimS l [48, 49, 50, 51, 52, 53, 54, 55, 56, 57] == []) = l.all isDig := by
  have hf : ∀ n : Fin 256, [48, 49, 50, 51, 52, 53, 54, 55, 56, 57].contains (UInt8.ofNat n.val) = isDig (UInt8.ofNat n.val) := by decide +kernel
  have hc : ∀ b : UInt8, [48, 49, 50, 51, 52, 53, 54, 55, 56, 57].contains b = isDig b := fun b => by
    have := hf ⟨b.toNat, b.toNat_lt⟩
    simpa using this
  unfold Lib.trimS Lib.trimLeftS Lib.trimRightS
  simp only [hc]
  rw [Bool.eq_iff_iff]
  simp only [beq_iff_eq, List.all_eq_true]
  constructor
  · intro h b hb
    rw [dw_nil] at h
    cases hd : isDig b with
    | true => rfl
    | false =>
      have hne : l.reverse.dropWhile isDig ≠ [] := by
        intro e
        rw [dw_nil] at e
        have := e b (by simpa using hb)
        rw [hd] at this; cases this
      cases hr : l.reverse.dropWhile isDig with
      | nil => exact absurd hr hne
      | cons c r =>
        have hcd : isDig c = false := by
          have := List.head?_dropWhile_not isDig l.reverse
          rw [hr] at this
          simpa using this
        have := h c (by rw [hr]; simp)
        rw [hcd] at this; cases this
  · intro h
    have e : l.reverse.dropWhile isDig = [] := by
      rw [dw_nil]
      intro b hb
      exact h b (by simpa using hb)
    rw [e]
    rfl
end Go.Proofs.YtfbkoieodflcpaaGreatDoor
namespace Go.Proofs.YtfbkoieodflcpaaGreatDoor
open Go.RowKit

/-- a token: its kind, its place, and what it bears -/
structure Tok where
  kind : Int
  place : Int
  num : Int
  str : ByteArray
  r : Int
  c : Int
  t : Int
  l : Int
  b : Int
  q : Int
  code : Int
def tokK (k : Int) : Tok := ⟨k, 0, 0, ⟨#[]⟩, 0, 0, 0, 0, 0, 0, 0⟩
def tokS (k : Int) (s : List UInt8) : Tok := ⟨k, 0, 0, ⟨s.toArray⟩, 0, 0, 0, 0, 0, 0, 0⟩
def tokNum (n : Int) : Tok := ⟨1, 0, n, ⟨#[]⟩, 0, 0, 0, 0, 0, 0, 0⟩
def tokCell (r c : Int) : Tok := ⟨4, 0, 0, ⟨#[]⟩, r, c, 0, 0, 0, 0, 0⟩
def tokRect (t l b q : Int) : Tok := ⟨5, 0, 0, ⟨#[]⟩, 0, 0, t, l, b, q, 0⟩
def tokCode (k : Int) : Tok := ⟨6, 0, 0, ⟨#[]⟩, 0, 0, 0, 0, 0, 0, k⟩
def Tok.put (x : Tok) (p : Int) : Tok := { x with place := p }
def upB (b : UInt8) : Bool := decide (65 ≤ b.toNat) && decide (b.toNat ≤ 90)
def partB (b : UInt8) : Bool := upB b || isDig b || decide (b.toNat = 95)
def numB (b : UInt8) : Bool := isDig b || decide (b.toNat = 46)
/-- a number's token, and how many bytes it has -/
def nuT (l : List UInt8) : Tok × Nat :=
  if numOk (l.takeWhile numB) then (tokNum (numV (l.takeWhile numB)), (l.takeWhile numB).length) else (tokK 8, 0)
/-- what stands in quotes, behind the first: the text, and how many bytes up to the last quote -/
def quoteG : List UInt8 → Option (List UInt8 × Nat)
  | [] => none
  | [b] => if b.toNat = 34 then some ([], 1) else none
  | b :: c :: r => if b.toNat = 34 then (if c.toNat = 34 then (quoteG r).map fun x => (c :: x.1, x.2 + 2) else some ([], 1)) else (quoteG (c :: r)).map fun x => (b :: x.1, x.2 + 1)
def textT (l : List UInt8) : Tok × Nat := match quoteG (l.drop 1) with | some x => (tokS 2 x.1, x.2 + 1) | none => (tokK 8, 0)
def bangB (b : UInt8) : Bool := decide (b.toNat ≠ 33)
def codeT (l : List UInt8) : Tok × Nat :=
  if codeOf ⟨(l.takeWhile bangB ++ [33]).toArray⟩ ≠ 0 ∧ codeOf ⟨(l.takeWhile bangB ++ [33]).toArray⟩ ≠ 1 ∧ (l.takeWhile bangB).length < l.length then (tokCode (codeOf ⟨(l.takeWhile bangB ++ [33]).toArray⟩), (l.takeWhile bangB).length + 1) else (tokK 8, 0)
/-- letters, then digits -/
def meantB (w : List UInt8) : Bool := !(w.dropWhile upB).isEmpty && (w.dropWhile upB).all isDig
def rectN (l : List UInt8) : Nat := (l.takeWhile partB).length + 1 + ((l.drop ((l.takeWhile partB).length + 1)).takeWhile partB).length
def colonB (l : List UInt8) : Bool := decide ((l.drop (l.takeWhile partB).length).head?.map UInt8.toNat = some 58)
def wordT (l : List UInt8) : Tok × Nat :=
  if meantB (l.takeWhile partB) then
    if colonB l then
      if qOk (l.take (rectN l)) then (tokRect (qT (l.take (rectN l))) (qL (l.take (rectN l))) (qB (l.take (rectN l))) (qR (l.take (rectN l))), rectN l) else (tokK 8, 0)
    else if pOk (l.takeWhile partB) then (tokCell (pRow (l.takeWhile partB)) (pCol (l.takeWhile partB)), (l.takeWhile partB).length) else (tokK 8, 0)
  else (tokS 3 (l.takeWhile partB), (l.takeWhile partB).length)
def signs : List UInt8 := [40, 41, 44, 43, 45, 42, 47, 37, 38, 61, 60, 62]
def twoB (l : List UInt8) : Bool := decide (l.take 2 = [60, 62]) || decide (l.take 2 = [60, 61]) || decide (l.take 2 = [62, 61])
def signT (l : List UInt8) : Tok × Nat :=
  if twoB l then (tokS 7 (l.take 2), 2) else if l.head?.any signs.contains then (tokS 7 (l.take 1), 1) else (tokK 8, 0)
/-- the token at a text's beginning, and how many bytes it has -/
def firstT : List UInt8 → Tok × Nat
  | [] => (tokK 0, 0)
  | c :: r => if isDig c then nuT (c :: r) else if c.toNat = 34 then textT (c :: r) else if c.toNat = 35 then codeT (c :: r) else if upB c then wordT (c :: r) else signT (c :: r)
def Tok.last (x : Tok) : Bool := decide (x.kind = 0) || decide (x.kind = 8)
def blank (l : List UInt8) : List UInt8 := l.dropWhile fun b => decide (b.toNat = 32)
/-- the tokens of what is left of a text of n bytes -/
def toks (n : Nat) : Nat → List UInt8 → List Tok
  | 0, _ => []
  | f + 1, l => (firstT (blank l)).1.put ((n : Int) - (blank l).length) :: if (firstT (blank l)).1.last then [] else toks n f ((blank l).drop (firstT (blank l)).2)
def lexL (l : List UInt8) : List Tok := match l with
  | b :: r => if b.toNat = 61 then toks l.length (r.length + 1) r else [tokK 8]
  | [] => [tokK 8]
theorem quote_small : ∀ (l : List UInt8) (x : List UInt8 × Nat), quoteG l = some x → 1 ≤ x.2 ∧ x.2 ≤ l.length ∧ x.1.length ≤ l.length
  | [], x, h => by simp [quoteG] at h
  | [b], x, h => by
    simp only [quoteG] at h
    split at h
    · simp at h; subst h; simp
    · simp at h
  | b :: c :: r, x, h => by
    simp only [quoteG] at h
    split at h
    · split at h
      · obtain ⟨y, hy, rfl⟩ := Option.map_eq_some_iff.1 h
        have := quote_small r y hy
        simp; omega
      · simp at h; subst h; simp
    · obtain ⟨y, hy, rfl⟩ := Option.map_eq_some_iff.1 h
      have := quote_small (c :: r) y hy
      simp at this ⊢; omega
theorem takeWhile_le (p : UInt8 → Bool) : ∀ l : List UInt8, (l.takeWhile p).length ≤ l.length
  | [] => by simp
  | b :: l => by rw [List.takeWhile_cons]; split <;> simp; exact takeWhile_le p l
theorem takeWhile_take (p : UInt8 → Bool) : ∀ l : List UInt8, l.takeWhile p = l.take (l.takeWhile p).length
  | [] => by simp
  | b :: l => by
    rw [List.takeWhile_cons]; split
    · simp; exact takeWhile_take p l
    · simp
theorem first_small (l : List UInt8) (h : (firstT l).1.last = false) : 1 ≤ (firstT l).2 ∧ (firstT l).2 ≤ l.length := by
  cases l with
  | nil => simp [firstT, Tok.last, tokK] at h
  | cons c r =>
    simp only [firstT] at h ⊢
    split at h
    · rename_i hc
      rw [if_pos hc]
      unfold nuT at h ⊢
      split at h
      · rename_i hk
        rw [if_pos hk]
        have := takeWhile_le numB (c :: r)
        refine ⟨?_, this⟩
        rw [List.takeWhile_cons, if_pos (by simp [numB, hc])]; simp
      · simp [Tok.last, tokK] at h
    · rename_i hc
      rw [if_neg hc]
      split at h
      · rename_i hd
        rw [if_pos hd]
        unfold textT at h ⊢
        cases hq : quoteG ((c :: r).drop 1) with
        | none => rw [hq] at h; simp [Tok.last, tokK] at h
        | some x => have := quote_small _ x hq; simp at this ⊢; omega
      · rename_i hd
        rw [if_neg hd]
        split at h
        · rename_i he
          rw [if_pos he]
          unfold codeT at h ⊢
          split at h
          · rename_i hk; rw [if_pos hk]; have := hk.2.2; simp only [List.length_cons] at *; omega
          · simp [Tok.last, tokK] at h
        · rename_i he
          rw [if_neg he]
          split at h
          · rename_i hu
            rw [if_pos hu]
            have h1 : 1 ≤ ((c :: r).takeWhile partB).length := by rw [List.takeWhile_cons, if_pos (by simp [partB, hu])]; simp
            have h2 := takeWhile_le partB (c :: r)
            unfold wordT at h ⊢
            split at h
            · rename_i hm
              rw [if_pos hm]
              split at h
              · rename_i hcol
                rw [if_pos hcol]
                split at h
                · rename_i hq
                  rw [if_pos hq]
                  have h3 := takeWhile_le partB ((c :: r).drop (((c :: r).takeWhile partB).length + 1))
                  have h4 : ((c :: r).takeWhile partB).length < (c :: r).length := by
                    refine Nat.lt_of_not_le fun hle => ?_
                    rw [colonB, List.drop_eq_nil_of_le hle] at hcol; simp at hcol
                  rw [List.length_drop] at h3
                  dsimp only
                  unfold rectN
                  omega
                · simp [Tok.last, tokK] at h
              · rename_i hcol
                rw [if_neg hcol]
                split at h
                · rename_i hq; rw [if_pos hq]; exact ⟨h1, h2⟩
                · simp [Tok.last, tokK] at h
            · rename_i hm; rw [if_neg hm]; exact ⟨h1, h2⟩
          · rename_i hu
            rw [if_neg hu]
            unfold signT at h ⊢
            split at h
            · rename_i ht
              rw [if_pos ht]
              refine ⟨by simp, ?_⟩
              cases r with
              | nil => simp [twoB] at ht
              | cons d r => simp
            · rename_i ht
              rw [if_neg ht]
              split at h
              · rename_i hs; rw [if_pos hs]; simp
              · simp [Tok.last, tokK] at h
theorem blank_le (l : List UInt8) : (blank l).length ≤ l.length := by
  unfold blank
  induction l with
  | nil => simp
  | cons b l ih => rw [List.dropWhile_cons]; split <;> simp <;> omega
theorem toks_len (n : Nat) : ∀ (f : Nat) (l : List UInt8), (toks n f l).length ≤ l.length + 1
  | 0, l => by simp [toks]
  | f + 1, l => by
    unfold toks
    have hb := blank_le l
    split
    · simp
    · rename_i h
      have h1 := first_small (blank l) (by simpa using h)
      have := toks_len n f ((blank l).drop (firstT (blank l)).2)
      rw [List.length_drop] at this
      simp only [List.length_cons]; omega
/-- what may stand behind a token: nothing, a blank, or what stood there -/
def OkR (l : List UInt8) (n : Nat) (r : List UInt8) : Prop := (∀ b, r.head? = some b → b.toNat = 32) ∨ r.head? = (l.drop n).head?
theorem OkR.no {l : List UInt8} {n : Nat} {r : List UInt8} (h : OkR l n r) (p : UInt8 → Bool) (hp : ∀ b : UInt8, b.toNat = 32 → p b = false) (hd : ∀ b, (l.drop n).head? = some b → p b = false) (b : UInt8) (hb : r.head? = some b) : p b = false := by
  rcases h with h | h
  · exact hp b (h b hb)
  · exact hd b (by rw [← h]; exact hb)
theorem dropWhile_head (p : UInt8 → Bool) : ∀ (l : List UInt8) (b : UInt8) (r : List UInt8), l.dropWhile p = b :: r → p b = false
  | [], b, r, h => by simp at h
  | c :: l, b, r, h => by
    rw [List.dropWhile_cons] at h
    split at h
    · exact dropWhile_head p l b r h
    · rename_i hc
      cases h
      simpa using hc
theorem drop_takeWhile (p : UInt8 → Bool) : ∀ l : List UInt8, l.drop (l.takeWhile p).length = l.dropWhile p
  | [] => by simp
  | b :: l => by
    rw [List.takeWhile_cons, List.dropWhile_cons]
    split
    · simpa using drop_takeWhile p l
    · simp
theorem drop_head (p : UInt8 → Bool) (l : List UInt8) (b : UInt8) (h : (l.drop (l.takeWhile p).length).head? = some b) : p b = false := by
  rw [drop_takeWhile] at h
  cases hd : l.dropWhile p with
  | nil => rw [hd] at h; simp at h
  | cons c r => rw [hd] at h; simp at h; subst h; exact dropWhile_head p l c r hd
theorem takeWhile_all (p : UInt8 → Bool) : ∀ l : List UInt8, (l.takeWhile p).all p = true
  | [] => by simp
  | b :: l => by
    rw [List.takeWhile_cons]; split
    · rename_i h; simp [h]
    · simp
theorem last_put (x : Tok) (p : Int) : (x.put p).last = x.last := rfl
theorem toks_ne (n f : Nat) (l : List UInt8) (h : 0 < f) : 0 < (toks n f l).length := by
  cases f with
  | zero => omega
  | succ f => simp [toks]
/-- where tokens stand -/
theorem toks_in (n : Nat) : ∀ (f : Nat) (l : List UInt8), l.length ≤ n → ∀ (k : Nat) (x : Tok), (toks n f l)[k]? = some x → (n : Int) - l.length ≤ x.place ∧ x.place ≤ n
  | 0, l, _ => fun k x h => by simp [toks] at h
  | f + 1, l, hl => fun k x h => by
    have hb := blank_le l
    unfold toks at h
    cases k with
    | zero =>
      simp at h; subst h
      simp only [Tok.put]; omega
    | succ k =>
      rw [List.getElem?_cons_succ] at h
      split at h
      · simp at h
      · rename_i h2
        have h1 := first_small (blank l) (by simpa using h2)
        have := toks_in n f _ (by rw [List.length_drop]; omega) k x h
        rw [List.length_drop] at this
        omega
theorem toks_rise (n : Nat) : ∀ (f : Nat) (l : List UInt8), l.length ≤ n → ∀ (k : Nat) (x y : Tok), (toks n f l)[k]? = some x → (toks n f l)[k + 1]? = some y → x.place < y.place
  | 0, l, _ => fun k x y h => by simp [toks] at h
  | f + 1, l, hl => fun k x y h h' => by
    have hb := blank_le l
    unfold toks at h h'
    rw [List.getElem?_cons_succ] at h'
    cases k with
    | zero =>
      simp at h; subst h
      split at h'
      · simp at h'
      · rename_i h2
        have h1 := first_small (blank l) (by simpa using h2)
        have := toks_in n f _ (by rw [List.length_drop]; omega) 0 y h'
        rw [List.length_drop] at this
        simp only [Tok.put]; omega
    | succ k =>
      rw [List.getElem?_cons_succ] at h
      split at h
      · simp at h
      · rename_i h2
        have h1 := first_small (blank l) (by simpa using h2)
        rw [if_neg h2] at h'
        exact toks_rise n f _ (by rw [List.length_drop]; omega) k x y h h'
theorem toks_last (n : Nat) : ∀ (f : Nat) (l : List UInt8), l.length < f → ∀ (k : Nat) (x : Tok), (toks n f l)[k]? = some x → x.last = decide (k + 1 = (toks n f l).length)
  | 0, l, h => by omega
  | f + 1, l, hf => fun k x h => by
    have hb := blank_le l
    unfold toks at h ⊢
    cases k with
    | zero =>
      simp at h; subst h
      rw [last_put]
      split
      · rename_i h2; simp [h2]
      · rename_i h2
        have h1 := first_small (blank l) (by simpa using h2)
        have := toks_ne n f ((blank l).drop (firstT (blank l)).2) (by omega)
        rw [List.length_cons, decide_eq_false (by omega)]
        simpa using h2
    | succ k =>
      rw [List.getElem?_cons_succ] at h
      split at h
      · simp at h
      · rename_i h2
        have h1 := first_small (blank l) (by simpa using h2)
        rw [if_neg h2, toks_last n f _ (by rw [List.length_drop]; omega) k x h, List.length_cons]
        simp
theorem first_end (l : List UInt8) (h : (firstT l).1.kind = 0) : l = [] := by
  cases l with
  | nil => rfl
  | cons c r =>
    exfalso
    simp only [firstT] at h
    split at h
    · unfold nuT at h; split at h <;> simp [tokNum, tokK] at h
    · split at h
      · unfold textT at h; split at h <;> simp [tokS, tokK] at h
      · split at h
        · unfold codeT at h; split at h <;> simp [tokCode, tokK] at h
        · split at h
          · unfold wordT at h; (repeat' split at h) <;> simp [tokS, tokK, tokRect, tokCell] at h
          · unfold signT at h; (repeat' split at h) <;> simp [tokS, tokK] at h
theorem toks_end (n : Nat) : ∀ (f : Nat) (l : List UInt8), l.length ≤ n → ∀ (k : Nat) (x : Tok), (toks n f l)[k]? = some x → x.kind = 0 → x.place = n
  | 0, l, _ => fun k x h => by simp [toks] at h
  | f + 1, l, hl => fun k x h hx => by
    have hb := blank_le l
    unfold toks at h
    cases k with
    | zero =>
      simp at h; subst h
      have := first_end (blank l) hx
      simp [Tok.put, this]
    | succ k =>
      rw [List.getElem?_cons_succ] at h
      split at h
      · simp at h
      · exact toks_end n f _ (by rw [List.length_drop]; omega) k x h hx
theorem all_bytes {P : UInt8 → Bool} (h : (List.range 256).all (fun n => P (UInt8.ofNat n)) = true) (b : UInt8) : P b = true := by
  have hb : b.toNat < 256 := b.toNat_lt
  have h2 := List.all_eq_true.1 h b.toNat (List.mem_range.2 hb)
  rwa [show UInt8.ofNat b.toNat = b by simp] at h2
def csNum : List UInt8 := [48, 49, 50, 51, 52, 53, 54, 55, 56, 57, 46]
def csPart : List UInt8 := [65, 66, 67, 68, 69, 70, 71, 72, 73, 74, 75, 76, 77, 78, 79, 80, 81, 82, 83, 84, 85, 86, 87, 88, 89, 90, 48, 49, 50, 51, 52, 53, 54, 55, 56, 57, 95]
def csUp : List UInt8 := [65, 66, 67, 68, 69, 70, 71, 72, 73, 74, 75, 76, 77, 78, 79, 80, 81, 82, 83, 84, 85, 86, 87, 88, 89, 90]
def csDig : List UInt8 := [48, 49, 50, 51, 52, 53, 54, 55, 56, 57]
theorem csNum_is : (csNum.contains ·) = numB := funext fun b => by simpa using all_bytes (P := fun b => csNum.contains b == numB b) (by decide +kernel) b
theorem csPart_is : (csPart.contains ·) = partB := funext fun b => by simpa using all_bytes (P := fun b => csPart.contains b == partB b) (by decide +kernel) b
theorem csUp_is : (csUp.contains ·) = upB := funext fun b => by simpa using all_bytes (P := fun b => csUp.contains b == upB b) (by decide +kernel) b
theorem csDig_is : (csDig.contains ·) = isDig := funext fun b => by simpa using all_bytes (P := fun b => csDig.contains b == isDig b) (by decide +kernel) b
/-- what the loop of a quoted text has met -/
theorem quote_step (acc s : List UInt8) (k : Nat) (q : List UInt8) (h : quoteG q = (quoteG s).map fun x => (acc ++ x.1, x.2 + k)) :
    (∀ b, s = [b] → b.toNat ≠ 34 → quoteG q = none) ∧ (s = [] → quoteG q = none) ∧
    (∀ b r, s = b :: r → b.toNat = 34 → (∀ c, r.head? = some c → c.toNat ≠ 34) → quoteG q = some (acc, k + 1)) ∧
    (∀ b c r, s = b :: c :: r → b.toNat = 34 → c.toNat = 34 → quoteG q = (quoteG r).map fun x => ((acc ++ [c]) ++ x.1, x.2 + (k + 2))) ∧
    (∀ b r, s = b :: r → b.toNat ≠ 34 → quoteG q = (quoteG r).map fun x => ((acc ++ [b]) ++ x.1, x.2 + (k + 1))) := by
  refine ⟨?_, ?_, ?_, ?_, ?_⟩
  · rintro b rfl hb; rw [h]; simp [quoteG, hb]
  · rintro rfl; rw [h]; simp [quoteG]
  · rintro b r rfl hb hr
    rw [h]
    cases r with
    | nil => simp [quoteG, hb]; omega
    | cons c r => simp [quoteG, hb, hr c (by simp)]; omega
  · rintro b c r rfl hb hc
    rw [h]
    simp only [quoteG, hb, hc, if_true, Option.map_map]
    congr 1
    funext x
    simp; omega
  · rintro b r rfl hb
    rw [h]
    cases r with
    | nil => simp [quoteG, hb]
    | cons c r =>
      simp only [quoteG, hb, if_false, Option.map_map]
      congr 1
      funext x
      simp; omega
end Go.Proofs.YtfbkoieodflcpaaGreatDoor
namespace Go.Proofs.YtfbkoieodflcpaaGreatDoor
open Go.RowKit

theorem dtrim (l : List UInt8) (hm : l.length ≤ 9223372036854775807) (w : World) : Calls Tryz.prog 140 #[.string ⟨l.toArray⟩, .string ⟨#[48, 49, 50, 51, 52, 53, 54, 55, 56, 57]⟩] w fun e w' => e = .returned (.string ⟨(Lib.trimS l [48, 49, 50, 51, 52, 53, 54, 55, 56, 57]).toArray⟩) ∧ Below w.heap.size w w' := by
  have := Any.strings_Trim_laid Tryz.lays160 (by kernel_rfl) ⟨l.toArray⟩ ⟨#[48, 49, 50, 51, 52, 53, 54, 55, 56, 57]⟩ w (by simpa [ByteArray.size] using hm) (by decide) (ascii_of_all (by decide))
  exact this
theorem trim_yes {l : List UInt8} (h : l.all isDig = true) : Lib.trimS l [48, 49, 50, 51, 52, 53, 54, 55, 56, 57] = [] := by
  have := trim_digits l
  rw [h] at this
  simpa using this
theorem trim_no {l : List UInt8} (h : l.all isDig = false) : (Lib.trimS l [48, 49, 50, 51, 52, 53, 54, 55, 56, 57] = []) = False := by
  have := trim_digits l
  rw [h] at this
  exact eq_false (by simpa using this)
theorem bytes_nil (l : List UInt8) : ((⟨l.toArray⟩ : ByteArray) = ⟨#[]⟩) = (l = []) := by
  apply propext
  constructor
  · intro h
    have := congrArg (fun b : ByteArray => b.data.toList) h
    simpa using this
  · rintro rfl; rfl
set_option maxHeartbeats 400000 in
theorem digits_0 (l : List UInt8) (m : Nat) (_hm : l.length ≤ 9223372036854775807) (_hmm : m ≤ 100) (h : l.length = 0) (w : World) : Calls Tryz.prog 119 #[.string ⟨l.toArray⟩, .int .i64 m] w fun e w' => e = .returned (.bool false) ∧ Below w.heap.size w w' := by
  obtain rfl : l = [] := List.length_eq_zero_iff.1 h
  clear h
  go_enter Tryz.func119, Tryz.ntmps119
  go_wp2_with (go_at_call 140; refine (dtrim _ (by assumption) _).mono ?_; rintro e w1 ⟨rfl, hb⟩)
  go_ret
  exact ⟨rfl, by first | assumption | exact Below.refl _ _⟩
set_option maxHeartbeats 400000 in
theorem digits_1 (l : List UInt8) (m : Nat) (_hm : l.length ≤ 9223372036854775807) (_hmm : m ≤ 100) (h : 0 < l.length) (h1 : m < l.length) (w : World) : Calls Tryz.prog 119 #[.string ⟨l.toArray⟩, .int .i64 m] w fun e w' => e = .returned (.bool false) ∧ Below w.heap.size w w' := by
  go_enter Tryz.func119, Tryz.ntmps119
  go_wp2_with (go_at_call 140; refine (dtrim _ (by assumption) _).mono ?_; rintro e w1 ⟨rfl, hb⟩)
  go_ret
  exact ⟨rfl, by first | assumption | exact Below.refl _ _⟩
set_option maxHeartbeats 400000 in
theorem digits_2 (l : List UInt8) (m : Nat) (hm : l.length ≤ 9223372036854775807) (_hmm : m ≤ 100) (h : 0 < l.length) (h1 : l.length ≤ m) (h2 : l.all isDig = false) (w : World) : Calls Tryz.prog 119 #[.string ⟨l.toArray⟩, .int .i64 m] w fun e w' => e = .returned (.bool false) ∧ Below w.heap.size w w' := by
  have ht := trim_no h2
  have hb0 := bytes_nil (Lib.trimS l [48, 49, 50, 51, 52, 53, 54, 55, 56, 57])
  rw [ht] at hb0
  clear ht h2
  go_enter Tryz.func119, Tryz.ntmps119
  go_wp2_with (go_at_call 140; refine (dtrim _ (by assumption) _).mono ?_; rintro e w1 ⟨rfl, hb⟩)
  go_ret
  exact ⟨rfl, by first | assumption | exact Below.refl _ _⟩
set_option maxHeartbeats 400000 in
theorem digits_3 (l : List UInt8) (m : Nat) (hm : l.length ≤ 9223372036854775807) (_hmm : m ≤ 100) (h : 0 < l.length) (h1 : l.length ≤ m) (h2 : l.all isDig = true) (w : World) : Calls Tryz.prog 119 #[.string ⟨l.toArray⟩, .int .i64 m] w fun e w' => e = .returned (.bool true) ∧ Below w.heap.size w w' := by
  have ht := trim_yes h2
  clear h2
  go_enter Tryz.func119, Tryz.ntmps119
  go_wp2_with (go_at_call 140; refine (dtrim _ (by assumption) _).mono ?_; rintro e w1 ⟨rfl, hb⟩)
  go_ret
  exact ⟨rfl, by first | assumption | exact Below.refl _ _⟩
theorem digits_any (l : List UInt8) (m : Nat) (hm : l.length ≤ 9223372036854775807) (hmm : m ≤ 100) (w : World) : Calls Tryz.prog 119 #[.string ⟨l.toArray⟩, .int .i64 m] w fun e w' => e = .returned (.bool (digOk l m)) ∧ Below w.heap.size w w' := by
  by_cases h0 : l.length = 0
  · rw [show digOk l m = false from by simp [digOk, h0]]
    exact digits_0 l m hm hmm h0 w
  by_cases h1 : m < l.length
  · rw [show digOk l m = false from by simp [digOk]; intro _ h; omega]
    exact digits_1 l m hm hmm (by omega) h1 w
  cases h2 : l.all isDig
  · rw [show digOk l m = false from by simp [digOk, h2]]
    exact digits_2 l m hm hmm (by omega) (by omega) h2 w
  · rw [show digOk l m = true from by simp [digOk, h2]; omega]
    exact digits_3 l m hm hmm (by omega) (by omega) h2 w
theorem digits_as (l : List UInt8) (m : Nat) (hm : l.length ≤ 9223372036854775807) (hmm : m ≤ 100) (p : Bool) (h : digOk l m = p) (w : World) : Calls Tryz.prog 119 #[.string ⟨l.toArray⟩, .int .i64 m] w fun e w' => e = .returned (.bool p) ∧ Below w.heap.size w w' := by
  subst h
  exact digits_any l m hm hmm w
end Go.Proofs.YtfbkoieodflcpaaGreatDoor
namespace Go.Proofs.YtfbkoieodflcpaaGreatDoor
open Go.RowKit

theorem tok_info : (Tryz.prog.info? 77).map (fun i => (i.zero, i.size, i.bytes)) = some (some (.agg #[.int .i64 0, .int .i64 0, .int .i64 0, .string ⟨#[]⟩, .int .i64 0, .int .i64 0, .int .i64 0, .int .i64 0, .int .i64 0, .int .i64 0, .int .i64 0]), 11, 96) := by kernel_rfl
def Tok.cs (x : Tok) : List Value := [.int .i64 x.kind, .int .i64 x.place, .int .i64 x.num, .string x.str, .int .i64 x.r, .int .i64 x.c, .int .i64 x.t, .int .i64 x.l, .int .i64 x.b, .int .i64 x.q, .int .i64 x.code]
def tRow (l : List Tok) : List Value := (l.map Tok.cs).flatten
theorem tRow_app (a b : List Tok) : tRow (a ++ b) = tRow a ++ tRow b := by simp [tRow]
theorem tRow_one (x : Tok) : tRow [x] = x.cs := by simp [tRow]
theorem tget {w : World} {g : Nat} {x : Tok} {T : TypeId} (h : w.heap[g]? = some (.cells #[.int .i64 x.kind, .int .i64 x.place, .int .i64 x.num, .string x.str, .int .i64 x.r, .int .i64 x.c, .int .i64 x.t, .int .i64 x.l, .int .i64 x.b, .int .i64 x.q, .int .i64 x.code] T (0, 0))) : ∀ (j : Nat) (u : Value), x.cs[j]? = some u → w.cell? ((⟨g, 0, none⟩ : Addr).add j) = some u := fun j u hj => by
  rw [show (⟨g, 0, none⟩ : Addr).add j = ⟨g, j, none⟩ by unfold Addr.add; split <;> simp [*], cell_of_row w g j _ T (0, 0) h, ← Array.getElem?_toList]
  exact hj
/-- a row of tokens of one's own -/
def OwnT (w : World) (B : Nat) (v : Value) (l : List Tok) : Prop := w.ownsRow B 77 11 v l.length (tRow l)
/-- a row of tokens that can be read -/
def RdT (w : World) (B : Nat) (v : Value) (l : List Tok) : Prop := ∃ A cap, v = .slice A l.length cap ∧ RdB w B A 11 (l.map Tok.cs)
theorem RdT.below {w w' : World} {B : Nat} {v : Value} {l : List Tok} (h : RdT w B v l) (hb : Below B w w') : RdT w' B v l := by
  obtain ⟨A, cap, e, h⟩ := h
  exact ⟨A, cap, e, h.below hb⟩
theorem RdT.mono {w : World} {B B' : Nat} {v : Value} {l : List Tok} (h : RdT w B v l) (hB : B ≤ B') : RdT w B' v l := by
  obtain ⟨A, cap, e, h⟩ := h
  exact ⟨A, cap, e, h.mono hB⟩
theorem own_rdt {w : World} {B : Nat} {v : Value} {l : List Tok} (h : OwnT w B v l) : RdT w w.heap.size v l :=
  ownsRow_rdk (by omega) (fun c hc => by obtain ⟨y, _, rfl⟩ := List.mem_map.1 hc; rfl) (by simp) h
end Go.Proofs.YtfbkoieodflcpaaGreatDoor
