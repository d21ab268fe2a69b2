/-
  The plain law of numbers' texts, written: the four digits of a rest. No program in sight; The plain law of numbers' texts, read. No program in sight; The tokens of a text, as a plain function; what holds of them; orielref04: bytes, words; orielref04: sign.
-/
import Derived.Test.YtfbkoieodflcpaaGreatDoorRows
import Derived.Test.YtfbkoieodflcpaaGreatDoorBase
import Derived.Test.YtfbkoieodflcpaaGreatDoorProg
import Derived.Test.YtfbkoieodflcpaaGreatDoorShelf
import Derived.Test.YtfbkoieodflcpaaGreatDoorAddrC
import Derived.Test.YtfbkoieodflcpaaGreatDoorMg5
import Derived.Test.YtfbkoieodflcpaaGreatDoorDecA
import Derived.Test.YtfbkoieodflcpaaGreatDoorValA
import Derived.Test.YtfbkoieodflcpaaGreatDoorValB
import Derived.Test.YtfbkoieodflcpaaGreatDoorMg9
import Derived.Test.YtfbkoieodflcpaaGreatDoorRefName
import Derived.Lib.ItoaMem
import Derived.Lib.TrimByte
import Derived.Lib.IndexLaws
import Derived.Lib.SlTrimSet
import Derived.Lib.ParseIntB
import Derived.WalkKit
import Derived.ProofKit
import Derived.OpenShut
import Derived.Carry
import Derived.ChangeSame
import Derived.Lib.Hide
import Derived.Deep.Draws
import Derived.Shelf.Strings.Builder1
import Derived.Shelf.Strings.Builder2
import Derived.Shelf.Strings.Trim
import Derived.Shelf.Small.Utf8
import Derived.Shelf.Small.Strs
import Derived.Shelf.Small.Wraps
import Derived.Shelf.Strings.BuilderF
import Derived.Shelf.Strings.BuilderK
import Derived.Shelf.Strconv.Itoa0
import Derived.Shelf.Strconv.Itoa1
import Derived.Shelf.LaysM
import Derived.Shelf.Strconv.Itoa2
import Derived.Shelf.Strconv.Itoa3
import Derived.Shelf.Strings.Search1
import Derived.Shelf.Strings.Search2
import Derived.Shelf.Strings.Search3
import Derived.Shelf.Strings.Cut
import Derived.Shelf.Strings.Count
import Derived.Shelf.Strings.Shaped
import Derived.Shelf.Strings.Prefix
import Derived.Shelf.Strings.Split
import Derived.Shelf.Strings.Replace
import Derived.Shelf.Strings.Runes
import Derived.Shelf.Strings.AsciiSet
import Derived.Shelf.Unicode.DecodeSlow
import Derived.WalkSpells
import Derived.WalkLawsBesides
import Derived.StillTactics
import Derived.Laws.Pointers
import Derived.Deep.RegionHeld3
import Derived.Deep.QuietTactic
import Derived.BigQuiet
import Derived.RowKit3
import Derived.Lib.OthersKept
import Derived.OwnWalk
import Derived.Lib.ItoaNum
namespace Go.Proofs.YtfbkoieodflcpaaGreatDoor
open Go

/-- four digits -/
def four (r : Nat) : List UInt8 := [UInt8.ofNat (48 + r / 1000), UInt8.ofNat (48 + r / 100 % 10), UInt8.ofNat (48 + r / 10 % 10), UInt8.ofNat (48 + r % 10)]
/-- the digits behind the point -/
def frac (r : Nat) : List UInt8 := Lib.trimRightB (four r) 48
/-- a number's text: n its size, low: is it below 0? -/
def textOf (low : Bool) (n : Nat) : List UInt8 := (if low then [45] else []) ++ (Lib.decDigits (n / 10000) ++ (if n % 10000 = 0 then [] else 46 :: frac (n % 10000)))
def printL (x : Int) : List UInt8 := if x = -9223372036854775808 then [] else textOf (decide (x < 0)) x.natAbs

theorem decSnoc {r : Nat} (h : 10 ≤ r) : Lib.decDigits r = Lib.decDigits (r / 10) ++ [UInt8.ofNat (48 + r % 10)] := by
  rw [Lib.decDigits, dif_neg (by omega)]
theorem dec_five {r : Nat} (h : r < 10000) : Lib.decDigits (10000 + r) = 49 :: four r := by
  rw [decSnoc (by omega), decSnoc (by omega), decSnoc (by omega), decSnoc (by omega), Lib.decDigits_one (by omega)]
  simp only [four, List.cons_append, List.nil_append]
  have e1 : (10000 + r) / 10 / 10 / 10 / 10 = 1 := by omega
  have e2 : (10000 + r) / 10 / 10 / 10 % 10 = r / 1000 := by omega
  have e3 : (10000 + r) / 10 / 10 % 10 = r / 100 % 10 := by omega
  have e4 : (10000 + r) / 10 % 10 = r / 10 % 10 := by omega
  have e5 : (10000 + r) % 10 = r % 10 := by omega
  rw [e1, e2, e3, e4, e5]
  rfl
theorem dec_len20 {u : Nat} (h : u < 18446744073709551616) : (Lib.decDigits u).length ≤ 20 := by
  rw [Lib.decDigits_length]
  by_cases h0 : u = 0
  · subst h0; rw [Lib.nDigits_small (by omega)]; omega
  · have := Lib.numDigits_eq u (by omega) h
    split at this <;> omega
theorem frac_len (r : Nat) : (frac r).length ≤ 4 := by
  unfold frac Lib.trimRightB
  rw [List.length_reverse]
  refine Nat.le_trans (List.dropWhile_sublist _).length_le ?_
  simp [four]
/-- the document's own way: digit by digit, as long as something is left -/
def digs : Nat → Nat → List UInt8
  | 0, _ => []
  | k + 1, r => if r = 0 then [] else UInt8.ofNat (48 + r / 1000) :: digs k (r % 1000 * 10)
theorem digs_frac : ∀ a b c d : Fin 10, a.val * 1000 + b.val * 100 + c.val * 10 + d.val = 0 ∨ digs 4 (a.val * 1000 + b.val * 100 + c.val * 10 + d.val) = frac (a.val * 1000 + b.val * 100 + c.val * 10 + d.val) := by decide +kernel
theorem digs_four {r : Nat} (h : r < 10000) (h0 : r ≠ 0) : digs 4 r = frac r := by
  have := digs_frac ⟨r / 1000, by omega⟩ ⟨r / 100 % 10, by omega⟩ ⟨r / 10 % 10, by omega⟩ ⟨r % 10, by omega⟩
  simp only at this
  rw [show r / 1000 * 1000 + r / 100 % 10 * 100 + r / 10 % 10 * 10 + r % 10 = r by omega] at this
  exact this.resolve_left h0
end Go.Proofs.YtfbkoieodflcpaaGreatDoor
namespace Go.Proofs.YtfbkoieodflcpaaGreatDoor
open Go

def isDig (b : UInt8) : Bool := decide (48 ≤ b.toNat) && decide (b.toNat ≤ 57)
end Go.Proofs.YtfbkoieodflcpaaGreatDoor
namespace Go.Proofs.YtfbkoieodflcpaaGreatDoor
open Go.RowKit

/-- a token: its kind, its place, and what it bears -/
structure Tok where
  kind : Int
  place : Int
  num : Int
  str : ByteArray
  r : Int
  c : Int
  t : Int
  l : Int
  b : Int
  q : Int
  code : Int
def Tok.put (x : Tok) (p : Int) : Tok := { x with place := p }
def upB (b : UInt8) : Bool := decide (65 ≤ b.toNat) && decide (b.toNat ≤ 90)
def partB (b : UInt8) : Bool := upB b || isDig b || decide (b.toNat = 95)
/-- letters, then digits -/
def meantB (w : List UInt8) : Bool := !(w.dropWhile upB).isEmpty && (w.dropWhile upB).all isDig
def Tok.last (x : Tok) : Bool := decide (x.kind = 0) || decide (x.kind = 8)
def blank (l : List UInt8) : List UInt8 := l.dropWhile fun b => decide (b.toNat = 32)
theorem takeWhile_le (p : UInt8 → Bool) : ∀ l : List UInt8, (l.takeWhile p).length ≤ l.length
  | [] => by simp
  | b :: l => by rw [List.takeWhile_cons]; split <;> simp; exact takeWhile_le p l
theorem takeWhile_take (p : UInt8 → Bool) : ∀ l : List UInt8, l.takeWhile p = l.take (l.takeWhile p).length
  | [] => by simp
  | b :: l => by
    rw [List.takeWhile_cons]; split
    · simp; exact takeWhile_take p l
    · simp
/-- what may stand behind a token: nothing, a blank, or what stood there -/
def OkR (l : List UInt8) (n : Nat) (r : List UInt8) : Prop := (∀ b, r.head? = some b → b.toNat = 32) ∨ r.head? = (l.drop n).head?
theorem OkR.no {l : List UInt8} {n : Nat} {r : List UInt8} (h : OkR l n r) (p : UInt8 → Bool) (hp : ∀ b : UInt8, b.toNat = 32 → p b = false) (hd : ∀ b, (l.drop n).head? = some b → p b = false) (b : UInt8) (hb : r.head? = some b) : p b = false := by
  rcases h with h | h
  · exact hp b (h b hb)
  · exact hd b (by rw [← h]; exact hb)
theorem dropWhile_head (p : UInt8 → Bool) : ∀ (l : List UInt8) (b : UInt8) (r : List UInt8), l.dropWhile p = b :: r → p b = false
  | [], b, r, h => by simp at h
  | c :: l, b, r, h => by
    rw [List.dropWhile_cons] at h
    split at h
    · exact dropWhile_head p l b r h
    · rename_i hc
      cases h
      simpa using hc
theorem drop_takeWhile (p : UInt8 → Bool) : ∀ l : List UInt8, l.drop (l.takeWhile p).length = l.dropWhile p
  | [] => by simp
  | b :: l => by
    rw [List.takeWhile_cons, List.dropWhile_cons]
    split
    · simpa using drop_takeWhile p l
    · simp
theorem drop_head (p : UInt8 → Bool) (l : List UInt8) (b : UInt8) (h : (l.drop (l.takeWhile p).length).head? = some b) : p b = false := by
  rw [drop_takeWhile] at h
  cases hd : l.dropWhile p with
  | nil => rw [hd] at h; simp at h
  | cons c r => rw [hd] at h; simp at h; subst h; exact dropWhile_head p l c r hd
theorem takeWhile_all (p : UInt8 → Bool) : ∀ l : List UInt8, (l.takeWhile p).all p = true
  | [] => by simp
  | b :: l => by
    rw [List.takeWhile_cons]; split
    · rename_i h; simp [h]
    · simp
end Go.Proofs.YtfbkoieodflcpaaGreatDoor
namespace Go.Proofs.YtfbkoieodflcpaaGreatDoor
open Go.RowKit

theorem twg_in (p : UInt8 → Bool) (t : List UInt8) (j : Nat) (h : j < (t.takeWhile p).length) (h2 : j < t.length) : p t[j] = true := by
  have e : t[j] = (t.takeWhile p)[j] := by
    have := List.takeWhile_append_dropWhile (p := p) (l := t)
    rw [List.getElem_of_eq this.symm h2, List.getElem_append_left h]
  rw [e]
  exact List.all_eq_true.1 (takeWhile_all p t) _ (List.getElem_mem h)
theorem twg_out (p : UInt8 → Bool) (t : List UInt8) (h2 : (t.takeWhile p).length < t.length) : p t[(t.takeWhile p).length] = false := by
  refine drop_head p t _ ?_
  rw [List.head?_drop, List.getElem?_eq_getElem h2]
theorem takeWhile_self (p : UInt8 → Bool) : ∀ l : List UInt8, l.all p = true → l.takeWhile p = l
  | [], _ => rfl
  | b :: l, h => by
    simp only [List.all_cons, Bool.and_eq_true] at h
    rw [List.takeWhile_cons, if_pos h.1, takeWhile_self p l h.2]
theorem meant_form (l : List UInt8) (k q : Nat) (hk : (l.takeWhile upB).length = k) (hq : ((l.drop k).takeWhile isDig).length = q) : meantB l = (decide (k < l.length) && decide (k + q = l.length)) := by
  have e1 : l.dropWhile upB = l.drop k := by rw [← hk, drop_takeWhile]
  have h1 := takeWhile_le isDig (l.drop k)
  rw [hq, List.length_drop] at h1
  unfold meantB
  rw [e1]
  rw [Bool.eq_iff_iff]
  simp only [Bool.and_eq_true, Bool.not_eq_true', decide_eq_true_eq]
  constructor
  · rintro ⟨h2, h3⟩
    have h4 : k < l.length := by
      refine Nat.lt_of_not_le fun h => ?_
      rw [List.drop_eq_nil_of_le h] at h2; simp at h2
    refine ⟨h4, ?_⟩
    have h5 : (l.drop k).takeWhile isDig = l.drop k := takeWhile_self isDig _ h3
    rw [h5, List.length_drop] at hq
    omega
  · rintro ⟨h2, h3⟩
    refine ⟨?_, ?_⟩
    · cases h4 : l.drop k with
      | nil => have := congrArg List.length h4; simp at this; omega
      | cons => rfl
    · have h5 : (l.drop k).takeWhile isDig = l.drop k := by
        rw [takeWhile_take, hq]; exact List.take_of_length_le (by rw [List.length_drop]; omega)
      rw [← h5]; exact takeWhile_all isDig _
end Go.Proofs.YtfbkoieodflcpaaGreatDoor
namespace Go.Proofs.YtfbkoieodflcpaaGreatDoor
open Go.RowKit

theorem list_bytes (a b : List UInt8) : ((⟨a.toArray⟩ : ByteArray) = ⟨b.toArray⟩) = (a = b) := by
  apply propext
  constructor
  · intro h
    have := congrArg (fun b : ByteArray => b.data.toList) h
    simpa using this
  · rintro rfl; rfl
end Go.Proofs.YtfbkoieodflcpaaGreatDoor
