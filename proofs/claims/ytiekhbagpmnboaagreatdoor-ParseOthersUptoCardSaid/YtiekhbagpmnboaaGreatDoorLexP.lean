/-
  The tokens of a text, as a plain function; what holds of them.
-/
import Derived.Test.YtiekhbagpmnboaaGreatDoorMg2
import Derived.Test.YtiekhbagpmnboaaGreatDoorRows
import Derived.Test.YtiekhbagpmnboaaGreatDoorMg0
import Derived.Test.YtiekhbagpmnboaaGreatDoorProg
import Derived.Test.YtiekhbagpmnboaaGreatDoorShelf
import Derived.Test.YtiekhbagpmnboaaGreatDoorAddrC
import Derived.Test.YtiekhbagpmnboaaGreatDoorNames
import Derived.Test.YtiekhbagpmnboaaGreatDoorParseW
import Derived.Test.YtiekhbagpmnboaaGreatDoorMg6
import Derived.Test.YtiekhbagpmnboaaGreatDoorValA
import Derived.Test.YtiekhbagpmnboaaGreatDoorValB
import Derived.Test.YtiekhbagpmnboaaGreatDoorMg9
import Derived.Lib.ItoaMem
import Derived.Lib.TrimByte
import Derived.Lib.IndexLaws
import Derived.Lib.SlTrimSet
import Derived.Lib.ParseIntB
import Derived.WalkKit
import Derived.ProofKit
import Derived.OpenShut
import Derived.Carry
import Derived.ChangeSame
import Derived.Lib.Hide
import Derived.Deep.Draws
import Derived.Shelf.Strings.Builder1
import Derived.Shelf.Strings.Trim
import Derived.Shelf.Small.Utf8
import Derived.Shelf.Small.Strs
import Derived.Shelf.Small.Wraps
import Derived.Shelf.Strings.BuilderF
import Derived.Shelf.Strings.BuilderK
import Derived.Shelf.Strconv.Itoa0
import Derived.Shelf.Strconv.Itoa1
import Derived.Shelf.LaysM
import Derived.Shelf.Strconv.Itoa2
import Derived.Shelf.Strconv.Itoa3
import Derived.Ground.MpProg
import Derived.Shelf.Pu.ParseUintPublic10
import Derived.Shelf.Strings.Search1
import Derived.Shelf.Strings.Search2
import Derived.Shelf.Strings.Cut
import Derived.Shelf.Strings.Shaped
import Derived.Shelf.Strings.Prefix
import Derived.Shelf.Strings.Runes
import Derived.Shelf.Strings.AsciiSet
import Derived.Shelf.Unicode.DecodeSlow
import Derived.WalkSpells
import Derived.WalkLawsBesides
import Derived.StillTactics
import Derived.Laws.Pointers
import Derived.Deep.RegionHeld3
import Derived.Deep.QuietTactic
import Derived.BigQuiet
import Derived.RowKit3
import Derived.Lib.OthersKept
import Derived.OwnWalk
import Derived.Lib.ItoaNum
namespace Go.Proofs.YtiekhbagpmnboaaGreatDoor
open Go.RowKit

/-- a token: its kind, its place, and what it bears -/
structure Tok where
  kind : Int
  place : Int
  num : Int
  str : ByteArray
  r : Int
  c : Int
  t : Int
  l : Int
  b : Int
  q : Int
  code : Int
def tokK (k : Int) : Tok := ⟨k, 0, 0, ⟨#[]⟩, 0, 0, 0, 0, 0, 0, 0⟩
def tokS (k : Int) (s : List UInt8) : Tok := ⟨k, 0, 0, ⟨s.toArray⟩, 0, 0, 0, 0, 0, 0, 0⟩
def tokNum (n : Int) : Tok := ⟨1, 0, n, ⟨#[]⟩, 0, 0, 0, 0, 0, 0, 0⟩
def tokCell (r c : Int) : Tok := ⟨4, 0, 0, ⟨#[]⟩, r, c, 0, 0, 0, 0, 0⟩
def tokRect (t l b q : Int) : Tok := ⟨5, 0, 0, ⟨#[]⟩, 0, 0, t, l, b, q, 0⟩
def tokCode (k : Int) : Tok := ⟨6, 0, 0, ⟨#[]⟩, 0, 0, 0, 0, 0, 0, k⟩
def Tok.put (x : Tok) (p : Int) : Tok := { x with place := p }
def upB (b : UInt8) : Bool := decide (65 ≤ b.toNat) && decide (b.toNat ≤ 90)
def partB (b : UInt8) : Bool := upB b || isDig b || decide (b.toNat = 95)
def numB (b : UInt8) : Bool := isDig b || decide (b.toNat = 46)
/-- a number's token, and how many bytes it has -/
def nuT (l : List UInt8) : Tok × Nat :=
  if numOk (l.takeWhile numB) then (tokNum (numV (l.takeWhile numB)), (l.takeWhile numB).length) else (tokK 8, 0)
/-- what stands in quotes, behind the first: the text, and how many bytes up to the last quote -/
def quoteG : List UInt8 → Option (List UInt8 × Nat)
  | [] => none
  | [b] => if b.toNat = 34 then some ([], 1) else none
  | b :: c :: r => if b.toNat = 34 then (if c.toNat = 34 then (quoteG r).map fun x => (c :: x.1, x.2 + 2) else some ([], 1)) else (quoteG (c :: r)).map fun x => (b :: x.1, x.2 + 1)
def textT (l : List UInt8) : Tok × Nat := match quoteG (l.drop 1) with | some x => (tokS 2 x.1, x.2 + 1) | none => (tokK 8, 0)
def bangB (b : UInt8) : Bool := decide (b.toNat ≠ 33)
def codeT (l : List UInt8) : Tok × Nat :=
  if codeOf ⟨(l.takeWhile bangB ++ [33]).toArray⟩ ≠ 0 ∧ codeOf ⟨(l.takeWhile bangB ++ [33]).toArray⟩ ≠ 1 ∧ (l.takeWhile bangB).length < l.length then (tokCode (codeOf ⟨(l.takeWhile bangB ++ [33]).toArray⟩), (l.takeWhile bangB).length + 1) else (tokK 8, 0)
/-- letters, then digits -/
def meantB (w : List UInt8) : Bool := !(w.dropWhile upB).isEmpty && (w.dropWhile upB).all isDig
def rectN (l : List UInt8) : Nat := (l.takeWhile partB).length + 1 + ((l.drop ((l.takeWhile partB).length + 1)).takeWhile partB).length
def colonB (l : List UInt8) : Bool := decide ((l.drop (l.takeWhile partB).length).head?.map UInt8.toNat = some 58)
def wordT (l : List UInt8) : Tok × Nat :=
  if meantB (l.takeWhile partB) then
    if colonB l then
      if qOk (l.take (rectN l)) then (tokRect (qT (l.take (rectN l))) (qL (l.take (rectN l))) (qB (l.take (rectN l))) (qR (l.take (rectN l))), rectN l) else (tokK 8, 0)
    else if pOk (l.takeWhile partB) then (tokCell (pRow (l.takeWhile partB)) (pCol (l.takeWhile partB)), (l.takeWhile partB).length) else (tokK 8, 0)
  else (tokS 3 (l.takeWhile partB), (l.takeWhile partB).length)
def signs : List UInt8 := [40, 41, 44, 43, 45, 42, 47, 37, 38, 61, 60, 62]
def twoB (l : List UInt8) : Bool := decide (l.take 2 = [60, 62]) || decide (l.take 2 = [60, 61]) || decide (l.take 2 = [62, 61])
def signT (l : List UInt8) : Tok × Nat :=
  if twoB l then (tokS 7 (l.take 2), 2) else if l.head?.any signs.contains then (tokS 7 (l.take 1), 1) else (tokK 8, 0)
/-- the token at a text's beginning, and how many bytes it has -/
def firstT : List UInt8 → Tok × Nat
  | [] => (tokK 0, 0)
  | c :: r => if isDig c then nuT (c :: r) else if c.toNat = 34 then textT (c :: r) else if c.toNat = 35 then codeT (c :: r) else if upB c then wordT (c :: r) else signT (c :: r)
def Tok.last (x : Tok) : Bool := decide (x.kind = 0) || decide (x.kind = 8)
def blank (l : List UInt8) : List UInt8 := l.dropWhile fun b => decide (b.toNat = 32)
/-- the tokens of what is left of a text of n bytes -/
def toks (n : Nat) : Nat → List UInt8 → List Tok
  | 0, _ => []
  | f + 1, l => (firstT (blank l)).1.put ((n : Int) - (blank l).length) :: if (firstT (blank l)).1.last then [] else toks n f ((blank l).drop (firstT (blank l)).2)
def lexL (l : List UInt8) : List Tok := match l with
  | b :: r => if b.toNat = 61 then toks l.length (r.length + 1) r else [tokK 8]
  | [] => [tokK 8]
theorem quote_small : ∀ (l : List UInt8) (x : List UInt8 × Nat), quoteG l = some x → 1 ≤ x.2 ∧ x.2 ≤ l.length ∧ x.1.length ≤ l.length
  | [], x, h => by simp [quoteG] at h
  | [b], x, h => by
    simp only [quoteG] at h
    split at h
    · simp at h; subst h; simp
    · simp at h
  | b :: c :: r, x, h => by
    simp only [quoteG] at h
    split at h
    · split at h
      · obtain ⟨y, hy, rfl⟩ := Option.map_eq_some_iff.1 h
        have := quote_small r y hy
        simp; omega
      · simp at h; subst h; simp
    · obtain ⟨y, hy, rfl⟩ := Option.map_eq_some_iff.1 h
      have := quote_small (c :: r) y hy
      simp at this ⊢; omega
theorem takeWhile_le (p : UInt8 → Bool) : ∀ l : List UInt8, (l.takeWhile p).length ≤ l.length
  | [] => by simp
  | b :: l => by rw [List.takeWhile_cons]; split <;> simp; exact takeWhile_le p l
theorem takeWhile_take (p : UInt8 → Bool) : ∀ l : List UInt8, l.takeWhile p = l.take (l.takeWhile p).length
  | [] => by simp
  | b :: l => by
    rw [List.takeWhile_cons]; split
    · simp; exact takeWhile_take p l
    · simp
theorem first_small (l : List UInt8) (h : (firstT l).1.last = false) : 1 ≤ (firstT l).2 ∧ (firstT l).2 ≤ l.length := by
  cases l with
  | nil => simp [firstT, Tok.last, tokK] at h
  | cons c r =>
    simp only [firstT] at h ⊢
    split at h
    · rename_i hc
      rw [if_pos hc]
      unfold nuT at h ⊢
      split at h
      · rename_i hk
        rw [if_pos hk]
        have := takeWhile_le numB (c :: r)
        refine ⟨?_, this⟩
        rw [List.takeWhile_cons, if_pos (by simp [numB, hc])]; simp
      · simp [Tok.last, tokK] at h
    · rename_i hc
      rw [if_neg hc]
      split at h
      · rename_i hd
        rw [if_pos hd]
        unfold textT at h ⊢
        cases hq : quoteG ((c :: r).drop 1) with
        | none => rw [hq] at h; simp [Tok.last, tokK] at h
        | some x => have := quote_small _ x hq; simp at this ⊢; omega
      · rename_i hd
        rw [if_neg hd]
        split at h
        · rename_i he
          rw [if_pos he]
          unfold codeT at h ⊢
          split at h
          · rename_i hk; rw [if_pos hk]; have := hk.2.2; simp only [List.length_cons] at *; omega
          · simp [Tok.last, tokK] at h
        · rename_i he
          rw [if_neg he]
          split at h
          · rename_i hu
            rw [if_pos hu]
            have h1 : 1 ≤ ((c :: r).takeWhile partB).length := by rw [List.takeWhile_cons, if_pos (by simp [partB, hu])]; simp
            have h2 := takeWhile_le partB (c :: r)
            unfold wordT at h ⊢
            split at h
            · rename_i hm
              rw [if_pos hm]
              split at h
              · rename_i hcol
                rw [if_pos hcol]
                split at h
                · rename_i hq
                  rw [if_pos hq]
                  have h3 := takeWhile_le partB ((c :: r).drop (((c :: r).takeWhile partB).length + 1))
                  have h4 : ((c :: r).takeWhile partB).length < (c :: r).length := by
                    refine Nat.lt_of_not_le fun hle => ?_
                    rw [colonB, List.drop_eq_nil_of_le hle] at hcol; simp at hcol
                  rw [List.length_drop] at h3
                  dsimp only
                  unfold rectN
                  omega
                · simp [Tok.last, tokK] at h
              · rename_i hcol
                rw [if_neg hcol]
                split at h
                · rename_i hq; rw [if_pos hq]; exact ⟨h1, h2⟩
                · simp [Tok.last, tokK] at h
            · rename_i hm; rw [if_neg hm]; exact ⟨h1, h2⟩
          · rename_i hu
            rw [if_neg hu]
            unfold signT at h ⊢
            split at h
            · rename_i ht
              rw [if_pos ht]
              refine ⟨by simp, ?_⟩
              cases r with
              | nil => simp [twoB] at ht
              | cons d r => simp
            · rename_i ht
              rw [if_neg ht]
              split at h
              · rename_i hs; rw [if_pos hs]; simp
              · simp [Tok.last, tokK] at h
theorem blank_le (l : List UInt8) : (blank l).length ≤ l.length := by
  unfold blank
  induction l with
  | nil => simp
  | cons b l ih => rw [List.dropWhile_cons]; split <;> simp <;> omega
theorem toks_len (n : Nat) : ∀ (f : Nat) (l : List UInt8), (toks n f l).length ≤ l.length + 1
  | 0, l => by simp [toks]
  | f + 1, l => by
    unfold toks
    have hb := blank_le l
    split
    · simp
    · rename_i h
      have h1 := first_small (blank l) (by simpa using h)
      have := toks_len n f ((blank l).drop (firstT (blank l)).2)
      rw [List.length_drop] at this
      simp only [List.length_cons]; omega
/-- what may stand behind a token: nothing, a blank, or what stood there -/
def OkR (l : List UInt8) (n : Nat) (r : List UInt8) : Prop := (∀ b, r.head? = some b → b.toNat = 32) ∨ r.head? = (l.drop n).head?
theorem OkR.no {l : List UInt8} {n : Nat} {r : List UInt8} (h : OkR l n r) (p : UInt8 → Bool) (hp : ∀ b : UInt8, b.toNat = 32 → p b = false) (hd : ∀ b, (l.drop n).head? = some b → p b = false) (b : UInt8) (hb : r.head? = some b) : p b = false := by
  rcases h with h | h
  · exact hp b (h b hb)
  · exact hd b (by rw [← h]; exact hb)
theorem dropWhile_head (p : UInt8 → Bool) : ∀ (l : List UInt8) (b : UInt8) (r : List UInt8), l.dropWhile p = b :: r → p b = false
  | [], b, r, h => by simp at h
  | c :: l, b, r, h => by
    rw [List.dropWhile_cons] at h
    split at h
    · exact dropWhile_head p l b r h
    · rename_i hc
      cases h
      simpa using hc
theorem drop_takeWhile (p : UInt8 → Bool) : ∀ l : List UInt8, l.drop (l.takeWhile p).length = l.dropWhile p
  | [] => by simp
  | b :: l => by
    rw [List.takeWhile_cons, List.dropWhile_cons]
    split
    · simpa using drop_takeWhile p l
    · simp
theorem drop_head (p : UInt8 → Bool) (l : List UInt8) (b : UInt8) (h : (l.drop (l.takeWhile p).length).head? = some b) : p b = false := by
  rw [drop_takeWhile] at h
  cases hd : l.dropWhile p with
  | nil => rw [hd] at h; simp at h
  | cons c r => rw [hd] at h; simp at h; subst h; exact dropWhile_head p l c r hd
theorem takeWhile_all (p : UInt8 → Bool) : ∀ l : List UInt8, (l.takeWhile p).all p = true
  | [] => by simp
  | b :: l => by
    rw [List.takeWhile_cons]; split
    · rename_i h; simp [h]
    · simp
theorem last_put (x : Tok) (p : Int) : (x.put p).last = x.last := rfl
theorem toks_ne (n f : Nat) (l : List UInt8) (h : 0 < f) : 0 < (toks n f l).length := by
  cases f with
  | zero => omega
  | succ f => simp [toks]
/-- where tokens stand -/
theorem toks_in (n : Nat) : ∀ (f : Nat) (l : List UInt8), l.length ≤ n → ∀ (k : Nat) (x : Tok), (toks n f l)[k]? = some x → (n : Int) - l.length ≤ x.place ∧ x.place ≤ n
  | 0, l, _ => fun k x h => by simp [toks] at h
  | f + 1, l, hl => fun k x h => by
    have hb := blank_le l
    unfold toks at h
    cases k with
    | zero =>
      simp at h; subst h
      simp only [Tok.put]; omega
    | succ k =>
      rw [List.getElem?_cons_succ] at h
      split at h
      · simp at h
      · rename_i h2
        have h1 := first_small (blank l) (by simpa using h2)
        have := toks_in n f _ (by rw [List.length_drop]; omega) k x h
        rw [List.length_drop] at this
        omega
theorem toks_rise (n : Nat) : ∀ (f : Nat) (l : List UInt8), l.length ≤ n → ∀ (k : Nat) (x y : Tok), (toks n f l)[k]? = some x → (toks n f l)[k + 1]? = some y → x.place < y.place
  | 0, l, _ => fun k x y h => by simp [toks] at h
  | f + 1, l, hl => fun k x y h h' => by
    have hb := blank_le l
    unfold toks at h h'
    rw [List.getElem?_cons_succ] at h'
    cases k with
    | zero =>
      simp at h; subst h
      split at h'
      · simp at h'
      · rename_i h2
        have h1 := first_small (blank l) (by simpa using h2)
        have := toks_in n f _ (by rw [List.length_drop]; omega) 0 y h'
        rw [List.length_drop] at this
        simp only [Tok.put]; omega
    | succ k =>
      rw [List.getElem?_cons_succ] at h
      split at h
      · simp at h
      · rename_i h2
        have h1 := first_small (blank l) (by simpa using h2)
        rw [if_neg h2] at h'
        exact toks_rise n f _ (by rw [List.length_drop]; omega) k x y h h'
theorem toks_last (n : Nat) : ∀ (f : Nat) (l : List UInt8), l.length < f → ∀ (k : Nat) (x : Tok), (toks n f l)[k]? = some x → x.last = decide (k + 1 = (toks n f l).length)
  | 0, l, h => by omega
  | f + 1, l, hf => fun k x h => by
    have hb := blank_le l
    unfold toks at h ⊢
    cases k with
    | zero =>
      simp at h; subst h
      rw [last_put]
      split
      · rename_i h2; simp [h2]
      · rename_i h2
        have h1 := first_small (blank l) (by simpa using h2)
        have := toks_ne n f ((blank l).drop (firstT (blank l)).2) (by omega)
        rw [List.length_cons, decide_eq_false (by omega)]
        simpa using h2
    | succ k =>
      rw [List.getElem?_cons_succ] at h
      split at h
      · simp at h
      · rename_i h2
        have h1 := first_small (blank l) (by simpa using h2)
        rw [if_neg h2, toks_last n f _ (by rw [List.length_drop]; omega) k x h, List.length_cons]
        simp
theorem first_end (l : List UInt8) (h : (firstT l).1.kind = 0) : l = [] := by
  cases l with
  | nil => rfl
  | cons c r =>
    exfalso
    simp only [firstT] at h
    split at h
    · unfold nuT at h; split at h <;> simp [tokNum, tokK] at h
    · split at h
      · unfold textT at h; split at h <;> simp [tokS, tokK] at h
      · split at h
        · unfold codeT at h; split at h <;> simp [tokCode, tokK] at h
        · split at h
          · unfold wordT at h; (repeat' split at h) <;> simp [tokS, tokK, tokRect, tokCell] at h
          · unfold signT at h; (repeat' split at h) <;> simp [tokS, tokK] at h
theorem toks_end (n : Nat) : ∀ (f : Nat) (l : List UInt8), l.length ≤ n → ∀ (k : Nat) (x : Tok), (toks n f l)[k]? = some x → x.kind = 0 → x.place = n
  | 0, l, _ => fun k x h => by simp [toks] at h
  | f + 1, l, hl => fun k x h hx => by
    have hb := blank_le l
    unfold toks at h
    cases k with
    | zero =>
      simp at h; subst h
      have := first_end (blank l) hx
      simp [Tok.put, this]
    | succ k =>
      rw [List.getElem?_cons_succ] at h
      split at h
      · simp at h
      · exact toks_end n f _ (by rw [List.length_drop]; omega) k x h hx
theorem all_bytes {P : UInt8 → Bool} (h : (List.range 256).all (fun n => P (UInt8.ofNat n)) = true) (b : UInt8) : P b = true := by
  have hb : b.toNat < 256 := b.toNat_lt
  have h2 := List.all_eq_true.1 h b.toNat (List.mem_range.2 hb)
  rwa [show UInt8.ofNat b.toNat = b by simp] at h2
def csNum : List UInt8 := [48, 49, 50, 51, 52, 53, 54, 55, 56, 57, 46]
def csPart : List UInt8 := [65, 66, 67, 68, 69, 70, 71, 72, 73, 74, 75, 76, 77, 78, 79, 80, 81, 82, 83, 84, 85, 86, 87, 88, 89, 90, 48, 49, 50, 51, 52, 53, 54, 55, 56, 57, 95]
def csUp : List UInt8 := [65, 66, 67, 68, 69, 70, 71, 72, 73, 74, 75, 76, 77, 78, 79, 80, 81, 82, 83, 84, 85, 86, 87, 88, 89, 90]
def csDig : List UInt8 := [48, 49, 50, 51, 52, 53, 54, 55, 56, 57]
theorem csNum_is : (csNum.contains ·) = numB := funext fun b => by simpa using all_bytes (P := fun b => csNum.contains b == numB b) (by decide +kernel) b
theorem csPart_is : (csPart.contains ·) = partB := funext fun b => by simpa using all_bytes (P := fun b => csPart.contains b == partB b) (by decide +kernel) b
theorem csUp_is : (csUp.contains ·) = upB := funext fun b => by simpa using all_bytes (P := fun b => csUp.contains b == upB b) (by decide +kernel) b
theorem csDig_is : (csDig.contains ·) = isDig := funext fun b => by simpa using all_bytes (P := fun b => csDig.contains b == isDig b) (by decide +kernel) b
/-- what the loop of a quoted text has met -/
theorem quote_step (acc s : List UInt8) (k : Nat) (q : List UInt8) (h : quoteG q = (quoteG s).map fun x => (acc ++ x.1, x.2 + k)) :
    (∀ b, s = [b] → b.toNat ≠ 34 → quoteG q = none) ∧ (s = [] → quoteG q = none) ∧
    (∀ b r, s = b :: r → b.toNat = 34 → (∀ c, r.head? = some c → c.toNat ≠ 34) → quoteG q = some (acc, k + 1)) ∧
    (∀ b c r, s = b :: c :: r → b.toNat = 34 → c.toNat = 34 → quoteG q = (quoteG r).map fun x => ((acc ++ [c]) ++ x.1, x.2 + (k + 2))) ∧
    (∀ b r, s = b :: r → b.toNat ≠ 34 → quoteG q = (quoteG r).map fun x => ((acc ++ [b]) ++ x.1, x.2 + (k + 1))) := by
  refine ⟨?_, ?_, ?_, ?_, ?_⟩
  · rintro b rfl hb; rw [h]; simp [quoteG, hb]
  · rintro rfl; rw [h]; simp [quoteG]
  · rintro b r rfl hb hr
    rw [h]
    cases r with
    | nil => simp [quoteG, hb]; omega
    | cons c r => simp [quoteG, hb, hr c (by simp)]; omega
  · rintro b c r rfl hb hc
    rw [h]
    simp only [quoteG, hb, hc, if_true, Option.map_map]
    congr 1
    funext x
    simp; omega
  · rintro b r rfl hb
    rw [h]
    cases r with
    | nil => simp [quoteG, hb]
    | cons c r =>
      simp only [quoteG, hb, if_false, Option.map_map]
      congr 1
      funext x
      simp; omega
end Go.Proofs.YtiekhbagpmnboaaGreatDoor
