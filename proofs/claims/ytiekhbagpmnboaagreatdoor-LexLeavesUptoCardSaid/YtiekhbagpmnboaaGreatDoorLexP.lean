/-
  The tokens of a text, as a plain function; what holds of them.
-/
import Derived.Test.YtiekhbagpmnboaaGreatDoorPrintL
import Derived.Test.YtiekhbagpmnboaaGreatDoorNumL
import Derived.Test.YtiekhbagpmnboaaGreatDoorRows
import Derived.Test.YtiekhbagpmnboaaGreatDoorBase
import Derived.Test.YtiekhbagpmnboaaGreatDoorProg
import Derived.Test.YtiekhbagpmnboaaGreatDoorShelf
import Derived.Test.YtiekhbagpmnboaaGreatDoorCutW
import Derived.Test.YtiekhbagpmnboaaGreatDoorAddrC
import Derived.Test.YtiekhbagpmnboaaGreatDoorNames
import Derived.Test.YtiekhbagpmnboaaGreatDoorParseW
import Derived.Test.YtiekhbagpmnboaaGreatDoorPRect
import Derived.Test.YtiekhbagpmnboaaGreatDoorDecA
import Derived.Test.YtiekhbagpmnboaaGreatDoorValA
import Derived.Test.YtiekhbagpmnboaaGreatDoorValB
import Derived.Test.YtiekhbagpmnboaaGreatDoorValD
import Derived.Lib.ItoaMem
import Derived.Lib.TrimByte
import Derived.Lib.IndexLaws
import Derived.Lib.SlTrimSet
import Derived.Lib.ParseIntB
import Derived.WalkKit
import Derived.ProofKit
import Derived.OpenShut
import Derived.Carry
import Derived.ChangeSame
import Derived.Lib.Hide
import Derived.Deep.Draws
import Derived.Shelf.Strings.Builder1
import Derived.Shelf.Strings.Trim
import Derived.Shelf.Small.Utf8
import Derived.Shelf.Small.Strs
import Derived.Shelf.Small.Wraps
import Derived.Shelf.Strings.BuilderF
import Derived.Shelf.Strings.BuilderK
import Derived.Shelf.Strconv.Itoa0
import Derived.Shelf.Strconv.Itoa1
import Derived.Shelf.LaysM
import Derived.Shelf.Strconv.Itoa2
import Derived.Shelf.Strconv.Itoa3
import Derived.Ground.MpProg
import Derived.Shelf.Pu.ParseUintPublic10
import Derived.Shelf.Strings.Search1
import Derived.Shelf.Strings.Search2
import Derived.Shelf.Strings.Cut
import Derived.Shelf.Strings.Shaped
import Derived.Shelf.Strings.Prefix
import Derived.Shelf.Strings.Runes
import Derived.Shelf.Strings.AsciiSet
import Derived.Shelf.Unicode.DecodeSlow
import Derived.WalkSpells
import Derived.WalkLawsBesides
import Derived.StillTactics
import Derived.Laws.Pointers
import Derived.Deep.RegionHeld3
import Derived.Deep.QuietTactic
import Derived.BigQuiet
import Derived.RowKit3
import Derived.Lib.OthersKept
import Derived.OwnWalk
import Derived.Lib.ItoaNum
namespace Go.Proofs.YtiekhbagpmnboaaGreatDoor
open Go.RowKit

/-- a token: its kind, its place, and what it bears -/
structure Tok where
  kind : Int
  place : Int
  num : Int
  str : ByteArray
  r : Int
  c : Int
  t : Int
  l : Int
  b : Int
  q : Int
  code : Int
def tokK (k : Int) : Tok := ⟨k, 0, 0, ⟨#[]⟩, 0, 0, 0, 0, 0, 0, 0⟩
def tokS (k : Int) (s : List UInt8) : Tok := ⟨k, 0, 0, ⟨s.toArray⟩, 0, 0, 0, 0, 0, 0, 0⟩
def tokNum (n : Int) : Tok := ⟨1, 0, n, ⟨#[]⟩, 0, 0, 0, 0, 0, 0, 0⟩
def tokCell (r c : Int) : Tok := ⟨4, 0, 0, ⟨#[]⟩, r, c, 0, 0, 0, 0, 0⟩
def tokRect (t l b q : Int) : Tok := ⟨5, 0, 0, ⟨#[]⟩, 0, 0, t, l, b, q, 0⟩
def tokCode (k : Int) : Tok := ⟨6, 0, 0, ⟨#[]⟩, 0, 0, 0, 0, 0, 0, k⟩
def Tok.put (x : Tok) (p : Int) : Tok := { x with place := p }
def upB (b : UInt8) : Bool := decide (65 ≤ b.toNat) && decide (b.toNat ≤ 90)
def partB (b : UInt8) : Bool := upB b || isDig b || decide (b.toNat = 95)
def numB (b : UInt8) : Bool := isDig b || decide (b.toNat = 46)
/-- a number's token, and how many bytes it has -/
def nuT (l : List UInt8) : Tok × Nat :=
  if numOk (l.takeWhile numB) then (tokNum (numV (l.takeWhile numB)), (l.takeWhile numB).length) else (tokK 8, 0)
/-- what stands in quotes, behind the first: the text, and how many bytes up to the last quote -/
def quoteG : List UInt8 → Option (List UInt8 × Nat)
  | [] => none
  | [b] => if b.toNat = 34 then some ([], 1) else none
  | b :: c :: r => if b.toNat = 34 then (if c.toNat = 34 then (quoteG r).map fun x => (c :: x.1, x.2 + 2) else some ([], 1)) else (quoteG (c :: r)).map fun x => (b :: x.1, x.2 + 1)
def textT (l : List UInt8) : Tok × Nat := match quoteG (l.drop 1) with | some x => (tokS 2 x.1, x.2 + 1) | none => (tokK 8, 0)
def bangB (b : UInt8) : Bool := decide (b.toNat ≠ 33)
def codeT (l : List UInt8) : Tok × Nat :=
  if codeOf ⟨(l.takeWhile bangB ++ [33]).toArray⟩ ≠ 0 ∧ codeOf ⟨(l.takeWhile bangB ++ [33]).toArray⟩ ≠ 1 ∧ (l.takeWhile bangB).length < l.length then (tokCode (codeOf ⟨(l.takeWhile bangB ++ [33]).toArray⟩), (l.takeWhile bangB).length + 1) else (tokK 8, 0)
/-- letters, then digits -/
def meantB (w : List UInt8) : Bool := !(w.dropWhile upB).isEmpty && (w.dropWhile upB).all isDig
def rectN (l : List UInt8) : Nat := (l.takeWhile partB).length + 1 + ((l.drop ((l.takeWhile partB).length + 1)).takeWhile partB).length
def colonB (l : List UInt8) : Bool := decide ((l.drop (l.takeWhile partB).length).head?.map UInt8.toNat = some 58)
def wordT (l : List UInt8) : Tok × Nat :=
  if meantB (l.takeWhile partB) then
    if colonB l then
      if qOk (l.take (rectN l)) then (tokRect (qT (l.take (rectN l))) (qL (l.take (rectN l))) (qB (l.take (rectN l))) (qR (l.take (rectN l))), rectN l) else (tokK 8, 0)
    else if pOk (l.takeWhile partB) then (tokCell (pRow (l.takeWhile partB)) (pCol (l.takeWhile partB)), (l.takeWhile partB).length) else (tokK 8, 0)
  else (tokS 3 (l.takeWhile partB), (l.takeWhile partB).length)
def signs : List UInt8 := [40, 41, 44, 43, 45, 42, 47, 37, 38, 61, 60, 62]
def twoB (l : List UInt8) : Bool := decide (l.take 2 = [60, 62]) || decide (l.take 2 = [60, 61]) || decide (l.take 2 = [62, 61])
def signT (l : List UInt8) : Tok × Nat :=
  if twoB l then (tokS 7 (l.take 2), 2) else if l.head?.any signs.contains then (tokS 7 (l.take 1), 1) else (tokK 8, 0)
/-- the token at a text's beginning, and how many bytes it has -/
def firstT : List UInt8 → Tok × Nat
  | [] => (tokK 0, 0)
  | c :: r => if isDig c then nuT (c :: r) else if c.toNat = 34 then textT (c :: r) else if c.toNat = 35 then codeT (c :: r) else if upB c then wordT (c :: r) else signT (c :: r)
def Tok.last (x : Tok) : Bool := decide (x.kind = 0) || decide (x.kind = 8)
def blank (l : List UInt8) : List UInt8 := l.dropWhile fun b => decide (b.toNat = 32)
/-- the tokens of what is left of a text of n bytes -/
def toks (n : Nat) : Nat → List UInt8 → List Tok
  | 0, _ => []
  | f + 1, l => (firstT (blank l)).1.put ((n : Int) - (blank l).length) :: if (firstT (blank l)).1.last then [] else toks n f ((blank l).drop (firstT (blank l)).2)
def lexL (l : List UInt8) : List Tok := match l with
  | b :: r => if b.toNat = 61 then toks l.length (r.length + 1) r else [tokK 8]
  | [] => [tokK 8]
theorem quote_small : ∀ (l : List UInt8) (x : List UInt8 × Nat), quoteG l = some x → 1 ≤ x.2 ∧ x.2 ≤ l.length ∧ x.1.length ≤ l.length
  | [], x, h => by simp [quoteG] at h
  | [b], x, h => by
    simp only [quoteG] at h
    split at h
    · simp at h; subst h; simp
    · simp at h
  | b :: c :: r, x, h => by
    simp only [quoteG] at h
    split at h
    · split at h
      · obtain ⟨y, hy, rfl⟩ := Option.map_eq_some_iff.1 h
        have := quote_small r y hy
        simp; omega
      · simp at h; subst h; simp
    · obtain ⟨y, hy, rfl⟩ := Option.map_eq_some_iff.1 h
      have := quote_small (c :: r) y hy
      simp at this ⊢; omega
theorem takeWhile_le (p : UInt8 → Bool) : ∀ l : List UInt8, (l.takeWhile p).length ≤ l.length
  | [] => by simp
  | b :: l => by rw [List.takeWhile_cons]; split <;> simp; exact takeWhile_le p l
theorem takeWhile_take (p : UInt8 → Bool) : ∀ l : List UInt8, l.takeWhile p = l.take (l.takeWhile p).length
  | [] => by simp
  | b :: l => by
    rw [List.takeWhile_cons]; split
    · simp; exact takeWhile_take p l
    · simp
theorem first_small (l : List UInt8) (h : (firstT l).1.last = false) : 1 ≤ (firstT l).2 ∧ (firstT l).2 ≤ l.length := by
  cases l with
  | nil => simp [firstT, Tok.last, tokK] at h
  | cons c r =>
    simp only [firstT] at h ⊢
    split at h
    · rename_i hc
      rw [if_pos hc]
      unfold nuT at h ⊢
      split at h
      · rename_i hk
        rw [if_pos hk]
        have := takeWhile_le numB (c :: r)
        refine ⟨?_, this⟩
        rw [List.takeWhile_cons, if_pos (by simp [numB, hc])]; simp
      · simp [Tok.last, tokK] at h
    · rename_i hc
      rw [if_neg hc]
      split at h
      · rename_i hd
        rw [if_pos hd]
        unfold textT at h ⊢
        cases hq : quoteG ((c :: r).drop 1) with
        | none => rw [hq] at h; simp [Tok.last, tokK] at h
        | some x => have := quote_small _ x hq; simp at this ⊢; omega
      · rename_i hd
        rw [if_neg hd]
        split at h
        · rename_i he
          rw [if_pos he]
          unfold codeT at h ⊢
          split at h
          · rename_i hk; rw [if_pos hk]; have := hk.2.2; simp only [List.length_cons] at *; omega
          · simp [Tok.last, tokK] at h
        · rename_i he
          rw [if_neg he]
          split at h
          · rename_i hu
            rw [if_pos hu]
            have h1 : 1 ≤ ((c :: r).takeWhile partB).length := by rw [List.takeWhile_cons, if_pos (by simp [partB, hu])]; simp
            have h2 := takeWhile_le partB (c :: r)
            unfold wordT at h ⊢
            split at h
            · rename_i hm
              rw [if_pos hm]
              split at h
              · rename_i hcol
                rw [if_pos hcol]
                split at h
                · rename_i hq
                  rw [if_pos hq]
                  have h3 := takeWhile_le partB ((c :: r).drop (((c :: r).takeWhile partB).length + 1))
                  have h4 : ((c :: r).takeWhile partB).length < (c :: r).length := by
                    refine Nat.lt_of_not_le fun hle => ?_
                    rw [colonB, List.drop_eq_nil_of_le hle] at hcol; simp at hcol
                  rw [List.length_drop] at h3
                  dsimp only
                  unfold rectN
                  omega
                · simp [Tok.last, tokK] at h
              · rename_i hcol
                rw [if_neg hcol]
                split at h
                · rename_i hq; rw [if_pos hq]; exact ⟨h1, h2⟩
                · simp [Tok.last, tokK] at h
            · rename_i hm; rw [if_neg hm]; exact ⟨h1, h2⟩
          · rename_i hu
            rw [if_neg hu]
            unfold signT at h ⊢
            split at h
            · rename_i ht
              rw [if_pos ht]
              refine ⟨by simp, ?_⟩
              cases r with
              | nil => simp [twoB] at ht
              | cons d r => simp
            · rename_i ht
              rw [if_neg ht]
              split at h
              · rename_i hs; rw [if_pos hs]; simp
              · simp [Tok.last, tokK] at h
theorem blank_le (l : List UInt8) : (blank l).length ≤ l.length := by
  unfold blank
  induction l with
  | nil => simp
  | cons b l ih => rw [List.dropWhile_cons]; split <;> simp <;> omega
theorem toks_len (n : Nat) : ∀ (f : Nat) (l : List UInt8), (toks n f l).length ≤ l.length + 1
  | 0, l => by simp [toks]
  | f + 1, l => by
    unfold toks
    have hb := blank_le l
    split
    · simp
    · rename_i h
      have h1 := first_small (blank l) (by simpa using h)
      have := toks_len n f ((blank l).drop (firstT (blank l)).2)
      rw [List.length_drop] at this
      simp only [List.length_cons]; omega
/-- with fuel enough one byte of fuel more is nothing more -/
theorem toks_fuel (n : Nat) : ∀ (f : Nat) (l : List UInt8), l.length < f → ∀ g, l.length < g → toks n f l = toks n g l
  | 0, l, h => by omega
  | f + 1, l, h => fun g hg => by
    cases g with
    | zero => omega
    | succ g =>
      have hb := blank_le l
      unfold toks
      split
      · rfl
      · rename_i h2
        have h1 := first_small (blank l) (by simpa using h2)
        rw [toks_fuel n f _ (by rw [List.length_drop]; omega) g (by rw [List.length_drop]; omega)]
/-- what may stand behind a token: nothing, a blank, or what stood there -/
def OkR (l : List UInt8) (n : Nat) (r : List UInt8) : Prop := (∀ b, r.head? = some b → b.toNat = 32) ∨ r.head? = (l.drop n).head?
theorem OkR.no {l : List UInt8} {n : Nat} {r : List UInt8} (h : OkR l n r) (p : UInt8 → Bool) (hp : ∀ b : UInt8, b.toNat = 32 → p b = false) (hd : ∀ b, (l.drop n).head? = some b → p b = false) (b : UInt8) (hb : r.head? = some b) : p b = false := by
  rcases h with h | h
  · exact hp b (h b hb)
  · exact hd b (by rw [← h]; exact hb)
theorem takeWhile_end (p : UInt8 → Bool) (r : List UInt8) (hr : ∀ b, r.head? = some b → p b = false) : ∀ l : List UInt8, (l.takeWhile p ++ r).takeWhile p = l.takeWhile p
  | [] => by
    cases r with
    | nil => simp
    | cons b r => simp [hr b (by simp)]
  | b :: l => by
    rw [List.takeWhile_cons]
    split
    · rename_i h
      rw [List.cons_append, List.takeWhile_cons, if_pos h, takeWhile_end p r hr l]
    · have := takeWhile_end p r hr []
      simpa using this
theorem dropWhile_head (p : UInt8 → Bool) : ∀ (l : List UInt8) (b : UInt8) (r : List UInt8), l.dropWhile p = b :: r → p b = false
  | [], b, r, h => by simp at h
  | c :: l, b, r, h => by
    rw [List.dropWhile_cons] at h
    split at h
    · exact dropWhile_head p l b r h
    · rename_i hc
      cases h
      simpa using hc
theorem drop_takeWhile (p : UInt8 → Bool) : ∀ l : List UInt8, l.drop (l.takeWhile p).length = l.dropWhile p
  | [] => by simp
  | b :: l => by
    rw [List.takeWhile_cons, List.dropWhile_cons]
    split
    · simpa using drop_takeWhile p l
    · simp
theorem drop_head (p : UInt8 → Bool) (l : List UInt8) (b : UInt8) (h : (l.drop (l.takeWhile p).length).head? = some b) : p b = false := by
  rw [drop_takeWhile] at h
  cases hd : l.dropWhile p with
  | nil => rw [hd] at h; simp at h
  | cons c r => rw [hd] at h; simp at h; subst h; exact dropWhile_head p l c r hd
theorem quote_head : ∀ (l : List UInt8) (x : List UInt8 × Nat), quoteG l = some x → ∀ b, (l.drop x.2).head? = some b → b.toNat ≠ 34
  | [], x, h => by simp [quoteG] at h
  | [b], x, h => by
    simp only [quoteG] at h
    split at h
    · simp at h; subst h; simp
    · simp at h
  | b :: c :: s, x, h => by
    simp only [quoteG] at h
    split at h
    · split at h
      · obtain ⟨y, hy, rfl⟩ := Option.map_eq_some_iff.1 h
        simpa using quote_head s y hy
      · rename_i hc
        simp at h; subst h
        simpa using hc
    · obtain ⟨y, hy, rfl⟩ := Option.map_eq_some_iff.1 h
      simpa using quote_head (c :: s) y hy
theorem quote_alone (r : List UInt8) (hr : ∀ b, r.head? = some b → b.toNat ≠ 34) : ∀ (l : List UInt8) (x : List UInt8 × Nat), quoteG l = some x → quoteG (l.take x.2 ++ r) = some x
  | [], x, h => by simp [quoteG] at h
  | [b], x, h => by
    simp only [quoteG] at h
    split at h
    · rename_i hb
      simp at h; subst h
      cases r with
      | nil => simp [quoteG, hb]
      | cons c r =>
        have hc : c.toNat ≠ 34 := hr c (by simp)
        simp [quoteG, hb, hc]
    · simp at h
  | b :: c :: s, x, h => by
    simp only [quoteG] at h
    split at h
    · rename_i hb
      split at h
      · rename_i hc
        obtain ⟨y, hy, rfl⟩ := Option.map_eq_some_iff.1 h
        have := quote_alone r hr s y hy
        simp [quoteG, hb, hc, this]
      · simp at h; subst h
        cases r with
        | nil => simp [quoteG, hb]
        | cons d r =>
          have hd : d.toNat ≠ 34 := hr d (by simp)
          simp [quoteG, hb, hd]
    · rename_i hb
      obtain ⟨y, hy, rfl⟩ := Option.map_eq_some_iff.1 h
      have := quote_alone r hr (c :: s) y hy
      have h1 := (quote_small (c :: s) y hy).1
      obtain ⟨m, hm⟩ : ∃ m, y.2 = m + 1 := ⟨y.2 - 1, by omega⟩
      rw [hm] at this ⊢
      simp only [List.take_succ_cons, List.cons_append] at this ⊢
      simp only [quoteG, hb, if_false, this, Option.map_some, hm]
theorem take_len (l r : List UInt8) (n : Nat) (h : n ≤ l.length) : (l.take n ++ r).take n = l.take n := by
  rw [List.take_append_of_le_length (by rw [List.length_take]; omega), List.take_take, Nat.min_self]
theorem word_colon (a : List UInt8) : ∀ (w : List UInt8), w.all partB = true → (w ++ 58 :: a).takeWhile partB = w
  | [], _ => by simp [partB, upB, isDig]
  | b :: w, h => by
    simp at h
    rw [List.cons_append, List.takeWhile_cons, if_pos h.1, word_colon a w (by simpa using h.2)]
theorem takeWhile_all (p : UInt8 → Bool) : ∀ l : List UInt8, (l.takeWhile p).all p = true
  | [] => by simp
  | b :: l => by
    rw [List.takeWhile_cons]; split
    · rename_i h; simp [h]
    · simp
theorem first_gen (l r : List UInt8) (h : (firstT l).1.last = false) (hr : OkR l (firstT l).2 r) : firstT (l.take (firstT l).2 ++ r) = firstT l := by
  have hs := first_small l h
  cases l with
  | nil => simp [firstT, Tok.last, tokK] at h
  | cons c l =>
    obtain ⟨n, hn⟩ : ∃ n, (firstT (c :: l)).2 = n + 1 := ⟨(firstT (c :: l)).2 - 1, by omega⟩
    have hform : (c :: l).take (firstT (c :: l)).2 ++ r = c :: (l.take n ++ r) := by rw [hn]; simp
    rw [hform]
    have hform' : (c :: l).take (firstT (c :: l)).2 ++ r = c :: (l.take n ++ r) := hform
    simp only [firstT] at h hform' hr ⊢
    split
    · rename_i hc
      rw [if_pos hc] at h hform' hr
      unfold nuT at h hform' hr
      split at h
      · rename_i hk
        rw [if_pos hk] at hform' hr
        dsimp only at hform' hr
        rw [← takeWhile_take] at hform'
        unfold nuT
        rw [← hform', takeWhile_end numB r (hr.no numB (fun b h => by simp [numB, isDig, h]) (drop_head numB _))]
      · simp [Tok.last, tokK] at h
    · rename_i hc
      rw [if_neg hc] at h hform' hr
      split
      · rename_i hd
        rw [if_pos hd] at h hform' hr
        unfold textT at h hform' hr
        cases hq : quoteG ((c :: l).drop 1) with
        | none => rw [hq] at h; simp [Tok.last, tokK] at h
        | some x =>
          rw [hq] at hform' hr
          dsimp only at hform' hr
          rw [List.take_succ_cons, List.cons_append] at hform'
          have h8 := (List.cons.inj hform').2
          have hq34 : ∀ b, r.head? = some b → b.toNat ≠ 34 := fun b hb => by
            have := hr.no (fun b => decide (b.toNat = 34)) (fun b h => by simp [h]) (fun b hb2 => by simpa using quote_head _ x hq b (by simpa using hb2)) b hb
            simpa using this
          have := quote_alone r hq34 _ x hq
          unfold textT
          simp only [List.drop_one, List.tail_cons] at this hq ⊢
          rw [← h8, this, hq]
      · rename_i hd
        rw [if_neg hd] at h hform' hr
        split
        · rename_i he
          rw [if_pos he] at h hform' hr
          unfold codeT at h hform' hr
          split at h
          · rename_i hk
            rw [if_pos hk] at hform' hr
            dsimp only at hform' hr
            have h3 := hk.2.2
            have hdr := drop_takeWhile bangB (c :: l)
            have hsome : ∃ s, (c :: l).take (((c :: l).takeWhile bangB).length + 1) = (c :: l).takeWhile bangB ++ s ∧ s.length = 1 ∧ ∀ b ∈ s, b.toNat = 33 := by
              have h7 := List.takeWhile_append_dropWhile (p := bangB) (l := c :: l)
              cases hdw : (c :: l).dropWhile bangB with
              | nil => rw [hdw] at h7; rw [List.append_nil] at h7; rw [h7] at h3; exact absurd h3 (Nat.lt_irrefl _)
              | cons d a =>
                rw [hdw] at h7
                refine ⟨[d], ?_, rfl, fun b hb => ?_⟩
                · generalize (c :: l).takeWhile bangB = W at *
                  rw [← h7, List.take_append, List.take_of_length_le (by omega), show W.length + 1 - W.length = 1 by omega]; simp
                · simp at hb; subst hb
                  have := dropWhile_head bangB _ _ _ hdw
                  simpa [bangB] using this
            obtain ⟨s, h4, h5, h6⟩ := hsome
            rw [h4] at hform'
            obtain ⟨d, rfl⟩ := List.length_eq_one_iff.1 h5
            have hd33 := h6 d (by simp)
            have key : ∀ a : List UInt8, a.all bangB = true → (a ++ (d :: r)).takeWhile bangB = a := by
              intro a
              induction a with
              | nil => intro _; simp [bangB, hd33]
              | cons x a ih => intro ha; simp at ha; rw [List.cons_append, List.takeWhile_cons, if_pos ha.1, ih (by simpa using ha.2)]
            have key2 := key _ (takeWhile_all bangB (c :: l))
            unfold codeT
            rw [← hform', List.append_assoc, List.singleton_append, key2, if_pos hk, if_pos ⟨hk.1, hk.2.1, by simp⟩]
          · simp [Tok.last, tokK] at h
        · rename_i he
          rw [if_neg he] at h hform' hr
          split
          · rename_i hu
            rw [if_pos hu] at h hform' hr
            unfold wordT at h hform' hr
            split at h
            · rename_i hm
              rw [if_pos hm] at hform' hr
              split at h
              · rename_i hcol
                rw [if_pos hcol] at hform' hr
                split at h
                · rename_i hq
                  rw [if_pos hq] at hform' hr
                  dsimp only at hform' hr
                  have hw := takeWhile_all partB (c :: l)
                  have hdr := drop_takeWhile partB (c :: l)
                  have hsplit : ∃ d a, (c :: l) = (c :: l).takeWhile partB ++ d :: a ∧ d.toNat = 58 := by
                    have h7 := List.takeWhile_append_dropWhile (p := partB) (l := c :: l)
                    rw [colonB, hdr] at hcol
                    cases hdw : (c :: l).dropWhile partB with
                    | nil => rw [hdw] at hcol; simp at hcol
                    | cons d a => rw [hdw] at h7 hcol; exact ⟨d, a, h7.symm, by simpa using hcol⟩
                  obtain ⟨d, a, hsp, hd58⟩ := hsplit
                  have hd' : d = 58 := by rw [← UInt8.toNat_inj]; exact hd58
                  subst hd'
                  generalize hW : (c :: l).takeWhile partB = W at *
                  have hdrop : (c :: l).drop (W.length + 1) = a := by rw [hsp]; simp
                  have hN : rectN (c :: l) = W.length + 1 + (a.takeWhile partB).length := by unfold rectN; rw [hW, hdrop]
                  have htake : (c :: l).take (rectN (c :: l)) = W ++ 58 :: a.takeWhile partB := by
                    rw [hN, hsp, List.take_append, List.take_of_length_le (by omega), show W.length + 1 + (a.takeWhile partB).length - W.length = (a.takeWhile partB).length + 1 by omega, List.take_succ_cons, ← takeWhile_take]
                  rw [htake] at hform'
                  rw [htake] at hq
                  have hform2 : c :: (l.take n ++ r) = W ++ 58 :: (a.takeWhile partB ++ r) := by rw [← hform']; simp
                  have e1 : (c :: (l.take n ++ r)).takeWhile partB = W := by rw [hform2]; exact word_colon _ W hw
                  have e2 : (c :: (l.take n ++ r)).drop (W.length + 1) = a.takeWhile partB ++ r := by rw [hform2]; simp
                  have hr2 : ∀ b, r.head? = some b → partB b = false := hr.no partB (fun b h => by simp [partB, upB, isDig, h]) (fun b hb => by
                    rw [hN, show W.length + 1 + (a.takeWhile partB).length = (W.length + 1) + (a.takeWhile partB).length by omega, ← List.drop_drop, hdrop] at hb
                    exact drop_head partB a b hb)
                  have e3 : rectN (c :: (l.take n ++ r)) = rectN (c :: l) := by unfold rectN; rw [e1, e2, takeWhile_end partB r hr2 a, hW, hdrop]
                  have e4 : (c :: (l.take n ++ r)).take (rectN (c :: l)) = W ++ 58 :: a.takeWhile partB := by
                    rw [hform2, hN, List.take_append, List.take_of_length_le (by omega), show W.length + 1 + (a.takeWhile partB).length - W.length = (a.takeWhile partB).length + 1 by omega, List.take_succ_cons, List.take_append_of_le_length (Nat.le_refl _), List.take_length]
                  have e5 : colonB (c :: (l.take n ++ r)) = true := by unfold colonB; rw [e1, hform2]; simp
                  unfold wordT
                  rw [e1, if_pos hm, e5, if_pos rfl, e3, e4, if_pos hq, hW, if_pos hm, if_pos hcol, htake, if_pos hq]
                · simp [Tok.last, tokK] at h
              · rename_i hcol
                rw [if_neg hcol] at hform' hr
                split at h
                · rename_i hq
                  rw [if_pos hq] at hform' hr
                  dsimp only at hform' hr
                  rw [← takeWhile_take] at hform'
                  have e1 := (takeWhile_end partB r (hr.no partB (fun b h => by simp [partB, upB, isDig, h]) (drop_head partB _)) (c :: l))
                  have hno := hr.no (fun b => decide (b.toNat = 58)) (fun b h => by simp [h]) (fun b hb => by
                    rw [colonB, hb] at hcol; simpa using hcol)
                  have e5 : colonB ((c :: l).takeWhile partB ++ r) = false := by
                    unfold colonB; rw [e1, List.drop_left]
                    cases hrh : r.head? with
                    | none => simp
                    | some d => simpa using hno d hrh
                  unfold wordT
                  rw [← hform', e1, if_pos hm, e5, if_neg (by simp), if_pos hq, if_pos hm, if_neg hcol]
                · simp [Tok.last, tokK] at h
            · rename_i hm
              rw [if_neg hm] at hform' hr
              dsimp only at hform' hr
              rw [← takeWhile_take] at hform'
              have e1 := (takeWhile_end partB r (hr.no partB (fun b h => by simp [partB, upB, isDig, h]) (drop_head partB _)) (c :: l))
              unfold wordT
              rw [← hform', e1, if_neg hm, if_neg hm]
          · rename_i hu
            rw [if_neg hu] at h hform' hr
            unfold signT at h hform' hr
            split at h
            · rename_i ht
              rw [if_pos ht] at hform' hr
              dsimp only at hform' hr
              have h2 : 2 ≤ (c :: l).length := by
                cases l with
                | nil => simp [twoB] at ht
                | cons d r => simp
              have e1 := take_len (c :: l) r 2 h2
              unfold signT
              rw [← hform', twoB, e1, if_pos (by exact ht), if_pos ht]
            · rename_i ht
              rw [if_neg ht] at hform' hr
              split at h
              · rename_i hsg
                rw [if_pos hsg] at hform' hr
                dsimp only at hform' hr
                have e2 : twoB ([c] ++ r) = false := by
                  rcases hr with hr | hr
                  · cases r with
                    | nil => simp [twoB]
                    | cons d r =>
                      have hd2 : d.toNat = 32 := hr d (by simp)
                      have hd' : d = 32 := by rw [← UInt8.toNat_inj]; exact hd2
                      subst hd'
                      simp [twoB]
                  · have : ([c] ++ r).take 2 = (c :: l).take 2 := by
                      cases r <;> cases l <;> simp at hr ⊢
                      exact hr
                    rw [twoB, this]; simpa [twoB] using ht
                have e3 : (c :: l).take 1 = [c] := by simp
                have e4 : ([c] ++ r).head?.any signs.contains = true := hsg
                unfold signT
                rw [← hform', e3, e2, if_neg (by simp), if_neg ht, if_pos e4, if_pos hsg]
                simp
              · simp [Tok.last, tokK] at h
def Tok.shift (x : Tok) : Tok := x.put (x.place + 1)
theorem last_put (x : Tok) (p : Int) : (x.put p).last = x.last := rfl
theorem toks_shift (n : Nat) : ∀ (f : Nat) (l : List UInt8), toks (n + 1) f l = (toks n f l).map Tok.shift
  | 0, l => by simp [toks]
  | f + 1, l => by
    simp only [toks, List.map_cons]
    refine List.cons_eq_cons.2 ⟨?_, ?_⟩
    · simp [Tok.shift, Tok.put]; omega
    · split
      · simp
      · exact toks_shift n f _
theorem toks_ne (n f : Nat) (l : List UInt8) (h : 0 < f) : 0 < (toks n f l).length := by
  cases f with
  | zero => omega
  | succ f => simp [toks]
theorem blank_all (b r : List UInt8) (h : b.all (fun b => decide (b.toNat = 32)) = true) : blank (b ++ r) = blank r := by
  induction b with
  | nil => rfl
  | cons c b ih =>
    simp only [List.all_cons, Bool.and_eq_true] at h
    rw [List.cons_append]
    unfold blank at ih ⊢
    rw [List.dropWhile_cons, if_pos h.1]
    exact ih h.2
theorem blank_form (l : List UInt8) : ∃ b, l = b ++ blank l ∧ b.all (fun b => decide (b.toNat = 32)) = true := ⟨l.takeWhile fun b => decide (b.toNat = 32), List.takeWhile_append_dropWhile.symm, takeWhile_all _ l⟩
theorem blank_head (l : List UInt8) (b : UInt8) (r : List UInt8) (h : blank l = b :: r) : ¬ b.toNat = 32 := by
  have := dropWhile_head _ l b r h
  simpa using this
theorem blank_id (l : List UInt8) (h : ∀ b, l.head? = some b → ¬ b.toNat = 32) : blank l = l := by
  cases l with
  | nil => rfl
  | cons b r =>
    unfold blank
    rw [List.dropWhile_cons, if_neg (by simpa using h b (by simp))]
theorem blank_blank (l : List UInt8) : blank (blank l) = blank l := blank_id _ fun b hb => by
  cases h : blank l with
  | nil => rw [h] at hb; simp at hb
  | cons c r => rw [h] at hb; simp at hb; subst hb; exact blank_head l c r h
theorem take_ins (B M R : List UInt8) (o : Nat) : (B ++ (M ++ R)).take (B.length + M.length + o) ++ 32 :: (B ++ (M ++ R)).drop (B.length + M.length + o) = B ++ (M ++ (R.take o ++ 32 :: R.drop o)) := by
  rw [← List.append_assoc, ← List.length_append, List.take_length_add_append, List.drop_length_add_append]
  simp
/-- a token's own bytes, ahead of what stands behind it -/
theorem blank_own (l r : List UInt8) (h : (firstT (blank l)).1.last = false) : blank ((blank l).take (firstT (blank l)).2 ++ r) = (blank l).take (firstT (blank l)).2 ++ r := by
  refine blank_id _ fun b hb => ?_
  have h1 := first_small (blank l) h
  cases hl : blank l with
  | nil => rw [hl] at h1; simp at h1; omega
  | cons c s =>
    rw [hl] at hb h1
    obtain ⟨m, hm⟩ : ∃ m, (firstT (c :: s)).2 = m + 1 := ⟨(firstT (c :: s)).2 - 1, by omega⟩
    rw [hm] at hb
    simp at hb
    subst hb
    exact blank_head l c s hl
/-- where tokens stand -/
theorem toks_in (n : Nat) : ∀ (f : Nat) (l : List UInt8), l.length ≤ n → ∀ (k : Nat) (x : Tok), (toks n f l)[k]? = some x → (n : Int) - l.length ≤ x.place ∧ x.place ≤ n
  | 0, l, _ => fun k x h => by simp [toks] at h
  | f + 1, l, hl => fun k x h => by
    have hb := blank_le l
    unfold toks at h
    cases k with
    | zero =>
      simp at h; subst h
      simp only [Tok.put]; omega
    | succ k =>
      rw [List.getElem?_cons_succ] at h
      split at h
      · simp at h
      · rename_i h2
        have h1 := first_small (blank l) (by simpa using h2)
        have := toks_in n f _ (by rw [List.length_drop]; omega) k x h
        rw [List.length_drop] at this
        omega
theorem toks_rise (n : Nat) : ∀ (f : Nat) (l : List UInt8), l.length ≤ n → ∀ (k : Nat) (x y : Tok), (toks n f l)[k]? = some x → (toks n f l)[k + 1]? = some y → x.place < y.place
  | 0, l, _ => fun k x y h => by simp [toks] at h
  | f + 1, l, hl => fun k x y h h' => by
    have hb := blank_le l
    unfold toks at h h'
    rw [List.getElem?_cons_succ] at h'
    cases k with
    | zero =>
      simp at h; subst h
      split at h'
      · simp at h'
      · rename_i h2
        have h1 := first_small (blank l) (by simpa using h2)
        have := toks_in n f _ (by rw [List.length_drop]; omega) 0 y h'
        rw [List.length_drop] at this
        simp only [Tok.put]; omega
    | succ k =>
      rw [List.getElem?_cons_succ] at h
      split at h
      · simp at h
      · rename_i h2
        have h1 := first_small (blank l) (by simpa using h2)
        rw [if_neg h2] at h'
        exact toks_rise n f _ (by rw [List.length_drop]; omega) k x y h h'
theorem toks_last (n : Nat) : ∀ (f : Nat) (l : List UInt8), l.length < f → ∀ (k : Nat) (x : Tok), (toks n f l)[k]? = some x → x.last = decide (k + 1 = (toks n f l).length)
  | 0, l, h => by omega
  | f + 1, l, hf => fun k x h => by
    have hb := blank_le l
    unfold toks at h ⊢
    cases k with
    | zero =>
      simp at h; subst h
      rw [last_put]
      split
      · rename_i h2; simp [h2]
      · rename_i h2
        have h1 := first_small (blank l) (by simpa using h2)
        have := toks_ne n f ((blank l).drop (firstT (blank l)).2) (by omega)
        rw [List.length_cons, decide_eq_false (by omega)]
        simpa using h2
    | succ k =>
      rw [List.getElem?_cons_succ] at h
      split at h
      · simp at h
      · rename_i h2
        have h1 := first_small (blank l) (by simpa using h2)
        rw [if_neg h2, toks_last n f _ (by rw [List.length_drop]; omega) k x h, List.length_cons]
        simp
theorem first_end (l : List UInt8) (h : (firstT l).1.kind = 0) : l = [] := by
  cases l with
  | nil => rfl
  | cons c r =>
    exfalso
    simp only [firstT] at h
    split at h
    · unfold nuT at h; split at h <;> simp [tokNum, tokK] at h
    · split at h
      · unfold textT at h; split at h <;> simp [tokS, tokK] at h
      · split at h
        · unfold codeT at h; split at h <;> simp [tokCode, tokK] at h
        · split at h
          · unfold wordT at h; (repeat' split at h) <;> simp [tokS, tokK, tokRect, tokCell] at h
          · unfold signT at h; (repeat' split at h) <;> simp [tokS, tokK] at h
theorem toks_end (n : Nat) : ∀ (f : Nat) (l : List UInt8), l.length ≤ n → ∀ (k : Nat) (x : Tok), (toks n f l)[k]? = some x → x.kind = 0 → x.place = n
  | 0, l, _ => fun k x h => by simp [toks] at h
  | f + 1, l, hl => fun k x h hx => by
    have hb := blank_le l
    unfold toks at h
    cases k with
    | zero =>
      simp at h; subst h
      have := first_end (blank l) hx
      simp [Tok.put, this]
    | succ k =>
      rw [List.getElem?_cons_succ] at h
      split at h
      · simp at h
      · exact toks_end n f _ (by rw [List.length_drop]; omega) k x h hx
/-- a blank put in where a token begins -/
theorem toks_ins (n : Nat) : ∀ (f : Nat) (l : List UInt8), l.length < f → l.length ≤ n → ∀ (k : Nat) (x : Tok) (o : Nat), (toks n f l)[k]? = some x → x.place = (n : Int) - l.length + o → ∀ g, l.length + 1 < g →
    toks (n + 1) g (l.take o ++ 32 :: l.drop o) = (toks n f l).take k ++ ((toks n f l).drop k).map Tok.shift
  | 0, l, h => by omega
  | f + 1, l, hf => fun hl k x o h ho g hg => by
    have hb := blank_le l
    obtain ⟨B, hB, hBa⟩ := blank_form l
    obtain ⟨g, rfl⟩ : ∃ g', g = g' + 1 := ⟨g - 1, by omega⟩
    have hlB : l.length = B.length + (blank l).length := by rw [← List.length_append, ← hB]
    unfold toks at h
    cases k with
    | zero =>
      simp at h; subst h
      simp only [Tok.put] at ho
      have hoB : o = B.length := by omega
      have hdrop : l.take o ++ 32 :: l.drop o = (B ++ [32]) ++ blank l := by
        rw [hoB]
        conv => lhs; rw [hB]
        simp
      have hbl : blank (l.take o ++ 32 :: l.drop o) = blank l := by
        rw [hdrop, blank_all _ _ (by simp only [List.all_append, hBa, Bool.true_and]; decide)]
        exact blank_blank l
      rw [List.take_zero, List.drop_zero, List.nil_append, ← toks_shift]
      rw [toks, toks, hbl]
      refine List.cons_eq_cons.2 ⟨rfl, ?_⟩
      split
      · rfl
      · rename_i h2
        have h1 := first_small (blank l) (by simpa using h2)
        exact toks_fuel _ _ _ (by rw [List.length_drop]; omega) _ (by rw [List.length_drop]; omega)
    | succ k =>
      rw [List.getElem?_cons_succ] at h
      split at h
      · simp at h
      · rename_i h2
        have h2' : (firstT (blank l)).1.last = false := by simpa using h2
        have h1 := first_small (blank l) h2'
        have hin := toks_in n f _ (by rw [List.length_drop]; omega) k x h
        rw [List.length_drop] at hin
        have hsplit := List.take_append_drop (firstT (blank l)).2 (blank l)
        have hmlen : ((blank l).take (firstT (blank l)).2).length = (firstT (blank l)).2 := by rw [List.length_take]; omega
        have hrlen : ((blank l).drop (firstT (blank l)).2).length = (blank l).length - (firstT (blank l)).2 := by rw [List.length_drop]
        obtain ⟨o', ho'⟩ : ∃ o' : Nat, o = B.length + (firstT (blank l)).2 + o' := ⟨o - (B.length + (firstT (blank l)).2), by omega⟩
        have ih := toks_ins n f _ (by rw [hrlen]; omega) (by rw [hrlen]; omega) k x o' h (by rw [hrlen]; omega) g (by rw [hrlen]; omega)
        have ho2 : o' ≤ ((blank l).drop (firstT (blank l)).2).length := by rw [hrlen]; omega
        have hl2 : l.take o ++ 32 :: l.drop o = B ++ ((blank l).take (firstT (blank l)).2 ++ (((blank l).drop (firstT (blank l)).2).take o' ++ 32 :: ((blank l).drop (firstT (blank l)).2).drop o')) := by
          have e1 : l = B ++ ((blank l).take (firstT (blank l)).2 ++ (blank l).drop (firstT (blank l)).2) := by rw [hsplit]; exact hB
          have := take_ins B ((blank l).take (firstT (blank l)).2) ((blank l).drop (firstT (blank l)).2) o'
          rwa [← e1, hmlen, ← ho'] at this
        have hok : OkR (blank l) (firstT (blank l)).2 (((blank l).drop (firstT (blank l)).2).take o' ++ 32 :: ((blank l).drop (firstT (blank l)).2).drop o') := by
          cases o' with
          | zero => exact .inl fun b hb => by simp at hb; subst hb; rfl
          | succ o' =>
            refine .inr ?_
            cases hd : (blank l).drop (firstT (blank l)).2 with
            | nil => rw [hd] at ho2; simp at ho2
            | cons d s => simp
        have hfirst := first_gen (blank l) _ h2' hok
        generalize hR : (((blank l).drop (firstT (blank l)).2).take o' ++ 32 :: ((blank l).drop (firstT (blank l)).2).drop o') = R at *
        have hRlen : R.length = ((blank l).drop (firstT (blank l)).2).length + 1 := by rw [← hR]; simp; omega
        have hbl : blank (l.take o ++ 32 :: l.drop o) = (blank l).take (firstT (blank l)).2 ++ R := by
          rw [hl2, blank_all _ _ hBa, blank_own l R h2']
        rw [toks, hbl, hfirst, if_neg h2]
        rw [show toks n (f + 1) l = (firstT (blank l)).1.put ((n : Int) - (blank l).length) :: toks n f ((blank l).drop (firstT (blank l)).2) by rw [toks, if_neg h2]]
        rw [List.take_succ_cons, List.drop_succ_cons, List.cons_append, ← ih]
        refine List.cons_eq_cons.2 ⟨?_, ?_⟩
        · congr 1
          rw [List.length_append, hmlen, hRlen, hrlen]; omega
        · rw [show ((blank l).take (firstT (blank l)).2 ++ R).drop (firstT (blank l)).2 = R by
            conv => lhs; rw [show (firstT (blank l)).2 = ((blank l).take (firstT (blank l)).2).length from hmlen.symm]
            rw [hmlen]; exact by
              have := List.drop_left (l₁ := (blank l).take (firstT (blank l)).2) (l₂ := R)
              rw [hmlen] at this
              exact this]
theorem all_bytes {P : UInt8 → Bool} (h : (List.range 256).all (fun n => P (UInt8.ofNat n)) = true) (b : UInt8) : P b = true := by
  have hb : b.toNat < 256 := b.toNat_lt
  have h2 := List.all_eq_true.1 h b.toNat (List.mem_range.2 hb)
  rwa [show UInt8.ofNat b.toNat = b by simp] at h2
def csNum : List UInt8 := [48, 49, 50, 51, 52, 53, 54, 55, 56, 57, 46]
def csPart : List UInt8 := [65, 66, 67, 68, 69, 70, 71, 72, 73, 74, 75, 76, 77, 78, 79, 80, 81, 82, 83, 84, 85, 86, 87, 88, 89, 90, 48, 49, 50, 51, 52, 53, 54, 55, 56, 57, 95]
def csUp : List UInt8 := [65, 66, 67, 68, 69, 70, 71, 72, 73, 74, 75, 76, 77, 78, 79, 80, 81, 82, 83, 84, 85, 86, 87, 88, 89, 90]
def csDig : List UInt8 := [48, 49, 50, 51, 52, 53, 54, 55, 56, 57]
theorem csNum_is : (csNum.contains ·) = numB := funext fun b => by simpa using all_bytes (P := fun b => csNum.contains b == numB b) (by decide +kernel) b
theorem csPart_is : (csPart.contains ·) = partB := funext fun b => by simpa using all_bytes (P := fun b => csPart.contains b == partB b) (by decide +kernel) b
theorem csUp_is : (csUp.contains ·) = upB := funext fun b => by simpa using all_bytes (P := fun b => csUp.contains b == upB b) (by decide +kernel) b
theorem csDig_is : (csDig.contains ·) = isDig := funext fun b => by simpa using all_bytes (P := fun b => csDig.contains b == isDig b) (by decide +kernel) b
/-- what the loop of a quoted text has met -/
theorem quote_step (acc s : List UInt8) (k : Nat) (q : List UInt8) (h : quoteG q = (quoteG s).map fun x => (acc ++ x.1, x.2 + k)) :
    (∀ b, s = [b] → b.toNat ≠ 34 → quoteG q = none) ∧ (s = [] → quoteG q = none) ∧
    (∀ b r, s = b :: r → b.toNat = 34 → (∀ c, r.head? = some c → c.toNat ≠ 34) → quoteG q = some (acc, k + 1)) ∧
    (∀ b c r, s = b :: c :: r → b.toNat = 34 → c.toNat = 34 → quoteG q = (quoteG r).map fun x => ((acc ++ [c]) ++ x.1, x.2 + (k + 2))) ∧
    (∀ b r, s = b :: r → b.toNat ≠ 34 → quoteG q = (quoteG r).map fun x => ((acc ++ [b]) ++ x.1, x.2 + (k + 1))) := by
  refine ⟨?_, ?_, ?_, ?_, ?_⟩
  · rintro b rfl hb; rw [h]; simp [quoteG, hb]
  · rintro rfl; rw [h]; simp [quoteG]
  · rintro b r rfl hb hr
    rw [h]
    cases r with
    | nil => simp [quoteG, hb]; omega
    | cons c r => simp [quoteG, hb, hr c (by simp)]; omega
  · rintro b c r rfl hb hc
    rw [h]
    simp only [quoteG, hb, hc, if_true, Option.map_map]
    congr 1
    funext x
    simp; omega
  · rintro b r rfl hb
    rw [h]
    cases r with
    | nil => simp [quoteG, hb]
    | cons c r =>
      simp only [quoteG, hb, if_false, Option.map_map]
      congr 1
      funext x
      simp; omega
end Go.Proofs.YtiekhbagpmnboaaGreatDoor
