/-
  The tokens of a text, as a plain function; what holds of them.
-/
import Derived.Test.YtfbkoieodflcpaaDoorMg4
import Derived.Test.YtfbkoieodflcpaaDoorRows
import Derived.Test.YtfbkoieodflcpaaDoorBase
import Derived.Test.YtfbkoieodflcpaaDoorProg
import Derived.Test.YtfbkoieodflcpaaDoorShelf
import Derived.Test.YtfbkoieodflcpaaDoorAddrC
import Derived.Test.YtfbkoieodflcpaaDoorNames
import Derived.Test.YtfbkoieodflcpaaDoorMg7
import Derived.Test.YtfbkoieodflcpaaDoorDecA
import Derived.Test.YtfbkoieodflcpaaDoorValA
import Derived.Test.YtfbkoieodflcpaaDoorValB
import Derived.Test.YtfbkoieodflcpaaDoorMg11
import Derived.Lib.ItoaMem
import Derived.Lib.TrimByte
import Derived.Lib.IndexLaws
import Derived.Lib.SlTrimSet
import Derived.Lib.ParseIntB
import Derived.WalkKit
import Derived.ProofKit
import Derived.OpenShut
import Derived.Carry
import Derived.ChangeSame
import Derived.Lib.Hide
import Derived.Deep.Draws
import Derived.Shelf.Strings.Builder1
import Derived.Shelf.Strings.Builder2
import Derived.Shelf.Strings.Trim
import Derived.Shelf.Small.Utf8
import Derived.Shelf.Small.Strs
import Derived.Shelf.Strings.BuilderF
import Derived.Shelf.Strings.BuilderK
import Derived.Shelf.Strconv.Itoa0
import Derived.Shelf.Strconv.Itoa1
import Derived.Shelf.LaysM
import Derived.Shelf.Strconv.Itoa2
import Derived.Shelf.Strconv.Itoa3
import Derived.Shelf.Strings.Search1
import Derived.Shelf.Strings.Search2
import Derived.Shelf.Strings.Search3
import Derived.Shelf.Strings.Count
import Derived.Shelf.Strings.Shaped
import Derived.Shelf.Strings.Split
import Derived.Shelf.Strings.Replace
import Derived.Shelf.Strings.Runes
import Derived.Shelf.Strings.AsciiSet
import Derived.Shelf.Unicode.DecodeSlow
import Derived.WalkSpells
import Derived.WalkLawsBesides
import Derived.StillTactics
import Derived.Laws.Pointers
import Derived.Deep.RegionHeld3
import Derived.Deep.QuietTactic
import Derived.BigQuiet
import Derived.RowKit3
import Derived.Lib.OthersKept
import Derived.OwnWalk
import Derived.Lib.ItoaNum
namespace Go.Proofs.YtfbkoieodflcpaaDoor
open Go.RowKit

/-- a token: its kind, its place, and what it bears -/
structure Tok where
  kind : Int
  place : Int
  num : Int
  str : ByteArray
  r : Int
  c : Int
  t : Int
  l : Int
  b : Int
  q : Int
  code : Int
def Tok.put (x : Tok) (p : Int) : Tok := { x with place := p }
def upB (b : UInt8) : Bool := decide (65 ≤ b.toNat) && decide (b.toNat ≤ 90)
def partB (b : UInt8) : Bool := upB b || isDig b || decide (b.toNat = 95)
/-- letters, then digits -/
def meantB (w : List UInt8) : Bool := !(w.dropWhile upB).isEmpty && (w.dropWhile upB).all isDig
def Tok.last (x : Tok) : Bool := decide (x.kind = 0) || decide (x.kind = 8)
def blank (l : List UInt8) : List UInt8 := l.dropWhile fun b => decide (b.toNat = 32)
theorem takeWhile_le (p : UInt8 → Bool) : ∀ l : List UInt8, (l.takeWhile p).length ≤ l.length
  | [] => by simp
  | b :: l => by rw [List.takeWhile_cons]; split <;> simp; exact takeWhile_le p l
theorem takeWhile_take (p : UInt8 → Bool) : ∀ l : List UInt8, l.takeWhile p = l.take (l.takeWhile p).length
  | [] => by simp
  | b :: l => by
    rw [List.takeWhile_cons]; split
    · simp; exact takeWhile_take p l
    · simp
/-- what may stand behind a token: nothing, a blank, or what stood there -/
def OkR (l : List UInt8) (n : Nat) (r : List UInt8) : Prop := (∀ b, r.head? = some b → b.toNat = 32) ∨ r.head? = (l.drop n).head?
theorem OkR.no {l : List UInt8} {n : Nat} {r : List UInt8} (h : OkR l n r) (p : UInt8 → Bool) (hp : ∀ b : UInt8, b.toNat = 32 → p b = false) (hd : ∀ b, (l.drop n).head? = some b → p b = false) (b : UInt8) (hb : r.head? = some b) : p b = false := by
  rcases h with h | h
  · exact hp b (h b hb)
  · exact hd b (by rw [← h]; exact hb)
theorem dropWhile_head (p : UInt8 → Bool) : ∀ (l : List UInt8) (b : UInt8) (r : List UInt8), l.dropWhile p = b :: r → p b = false
  | [], b, r, h => by simp at h
  | c :: l, b, r, h => by
    rw [List.dropWhile_cons] at h
    split at h
    · exact dropWhile_head p l b r h
    · rename_i hc
      cases h
      simpa using hc
theorem drop_takeWhile (p : UInt8 → Bool) : ∀ l : List UInt8, l.drop (l.takeWhile p).length = l.dropWhile p
  | [] => by simp
  | b :: l => by
    rw [List.takeWhile_cons, List.dropWhile_cons]
    split
    · simpa using drop_takeWhile p l
    · simp
theorem drop_head (p : UInt8 → Bool) (l : List UInt8) (b : UInt8) (h : (l.drop (l.takeWhile p).length).head? = some b) : p b = false := by
  rw [drop_takeWhile] at h
  cases hd : l.dropWhile p with
  | nil => rw [hd] at h; simp at h
  | cons c r => rw [hd] at h; simp at h; subst h; exact dropWhile_head p l c r hd
theorem takeWhile_all (p : UInt8 → Bool) : ∀ l : List UInt8, (l.takeWhile p).all p = true
  | [] => by simp
  | b :: l => by
    rw [List.takeWhile_cons]; split
    · rename_i h; simp [h]
    · simp
end Go.Proofs.YtfbkoieodflcpaaDoor
