/-
  print: how a leaf's text is told from what follows, plain.
-/
import Derived.Test.YtfbkoieodflcpaaDoorMg4
import Derived.Test.YtfbkoieodflcpaaDoorRows
import Derived.Test.YtfbkoieodflcpaaDoorBase
import Derived.Test.YtfbkoieodflcpaaDoorProg
import Derived.Test.YtfbkoieodflcpaaDoorShelf
import Derived.Test.YtfbkoieodflcpaaDoorAddrC
import Derived.Test.YtfbkoieodflcpaaDoorMg6
import Derived.Test.YtfbkoieodflcpaaDoorDecA
import Derived.Test.YtfbkoieodflcpaaDoorValA
import Derived.Test.YtfbkoieodflcpaaDoorValB
import Derived.Test.YtfbkoieodflcpaaDoorMg11
import Derived.Test.YtfbkoieodflcpaaDoorMg10
import Derived.Test.YtfbkoieodflcpaaDoorMapK
import Derived.Test.YtfbkoieodflcpaaDoorRefP
import Derived.Test.YtfbkoieodflcpaaDoorRefQ
import Derived.Test.YtfbkoieodflcpaaDoorShelfC
import Derived.Test.YtfbkoieodflcpaaDoorFmtU
import Derived.Test.YtfbkoieodflcpaaDoorNameX
import Derived.Test.YtfbkoieodflcpaaDoorNameY
import Derived.Test.YtfbkoieodflcpaaDoorDPrint
import Derived.Test.YtfbkoieodflcpaaDoorValL
import Derived.Test.YtfbkoieodflcpaaDoorPrP
import Derived.Test.YtfbkoieodflcpaaDoorPrA
import Derived.Test.YtfbkoieodflcpaaDoorPrS
import Derived.Test.YtfbkoieodflcpaaDoorPrT
import Derived.Test.YtfbkoieodflcpaaDoorPrO1
import Derived.WalkSpells
import Derived.WalkLawsBesides
import Derived.StillTactics
import Derived.Laws.Pointers
import Derived.Deep.RegionHeld3
import Derived.Deep.QuietTactic
import Derived.BigQuiet
import Derived.RowKit3
import Derived.Lib.Hide
import Derived.Lib.OthersKept
import Derived.OwnWalk
import Derived.Lib.IndexLaws
import Derived.Lib.ItoaMem
import Derived.Lib.TrimByte
import Derived.Lib.SlTrimSet
import Derived.Lib.ParseIntB
import Derived.WalkKit
import Derived.ProofKit
import Derived.OpenShut
import Derived.Carry
import Derived.ChangeSame
import Derived.Deep.Draws
import Derived.Shelf.Strings.Builder1
import Derived.Shelf.Strings.Builder2
import Derived.Shelf.Strings.Trim
import Derived.Shelf.Small.Utf8
import Derived.Shelf.Small.Strs
import Derived.Shelf.Strings.BuilderF
import Derived.Shelf.Strings.BuilderK
import Derived.Shelf.Strconv.Itoa0
import Derived.Shelf.Strconv.Itoa1
import Derived.Shelf.LaysM
import Derived.Shelf.Strconv.Itoa2
import Derived.Shelf.Strconv.Itoa3
import Derived.Shelf.Strings.Search1
import Derived.Shelf.Strings.Search2
import Derived.Shelf.Strings.Search3
import Derived.Shelf.Strings.Count
import Derived.Shelf.Strings.Shaped
import Derived.Shelf.Strings.Split
import Derived.Shelf.Strings.Replace
import Derived.Shelf.Strings.Runes
import Derived.Shelf.Strings.AsciiSet
import Derived.Shelf.Unicode.DecodeSlow
import Derived.Lib.ItoaNum
import Derived.Maps.OwnSet
import Derived.Maps.AppendAt
import Derived.Lib.Bytealg
import Derived.Lib.Replace
namespace Go.Proofs.YtfbkoieodflcpaaDoor
open Go.RowKit

/-- a byte of a word: a number, a name, a fault's name -/
def wordB (b : UInt8) : Bool := (decide (48 ≤ b.toNat) && decide (b.toNat ≤ 58)) || (decide (65 ≤ b.toNat) && decide (b.toNat ≤ 90)) || decide (b.toNat = 95) || decide (b.toNat = 46) || decide (b.toNat = 35) || decide (b.toNat = 33)
/-- what follows begins with no byte of p -/
def NoHead (p : UInt8 → Bool) (r : List UInt8) : Prop := ∀ b t, r = b :: t → p b = false
theorem word_split (p : UInt8 → Bool) : ∀ (a b r1 r2 : List UInt8), (∀ x ∈ a, p x = true) → (∀ x ∈ b, p x = true) → NoHead p r1 → NoHead p r2 → a ++ r1 = b ++ r2 → a = b ∧ r1 = r2
  | [], [], _, _, _, _, _, _, e => ⟨rfl, e⟩
  | [], y :: b, r1, r2, _, hb, h1, _, e => by
    have h := h1 y (b ++ r2) e
    rw [hb y (by simp)] at h; cases h
  | x :: a, [], r1, r2, ha, _, _, h2, e => by
    have h := h2 x (a ++ r1) e.symm
    rw [ha x (by simp)] at h; cases h
  | x :: a, y :: b, r1, r2, ha, hb, h1, h2, e => by
    injection e with e1 e2
    obtain ⟨h3, h4⟩ := word_split p a b r1 r2 (fun z hz => ha z (by simp [hz])) (fun z hz => hb z (by simp [hz])) h1 h2 e2
    exact ⟨by rw [e1, h3], h4⟩
/-- a text between quotes, and what follows, which begins with no quote -/
theorem quotes_split : ∀ (a b r1 r2 : List UInt8), NoHead (fun x => decide (x = 34)) r1 → NoHead (fun x => decide (x = 34)) r2 → quotesL a ++ 34 :: r1 = quotesL b ++ 34 :: r2 → a = b ∧ r1 = r2
  | [], [], _, _, _, _, e => by
    injection e with _ e
    exact ⟨rfl, e⟩
  | [], y :: b, r1, r2, h1, _, e => by
    rw [show quotesL (y :: b) = (if y = 34 then [34, 34] else [y]) ++ quotesL b from by unfold quotesL; rw [List.flatMap_cons]] at e
    by_cases hy : y = 34
    · rw [if_pos hy] at e
      have e' : (34 : UInt8) :: r1 = 34 :: (34 :: (quotesL b ++ 34 :: r2)) := e
      injection e' with _ e'
      have h := h1 _ _ e'
      simp at h
    · rw [if_neg hy] at e
      have e' : (34 : UInt8) :: r1 = y :: (quotesL b ++ 34 :: r2) := e
      injection e' with e' _
      exact absurd e'.symm hy
  | x :: a, [], r1, r2, _, h2, e => by
    rw [show quotesL (x :: a) = (if x = 34 then [34, 34] else [x]) ++ quotesL a from by unfold quotesL; rw [List.flatMap_cons]] at e
    by_cases hx : x = 34
    · rw [if_pos hx] at e
      have e' : 34 :: (34 :: (quotesL a ++ 34 :: r1)) = (34 : UInt8) :: r2 := e
      injection e' with _ e'
      have h := h2 _ _ e'.symm
      simp at h
    · rw [if_neg hx] at e
      have e' : x :: (quotesL a ++ 34 :: r1) = (34 : UInt8) :: r2 := e
      injection e' with e' _
      exact absurd e' hx
  | x :: a, y :: b, r1, r2, h1, h2, e => by
    rw [show quotesL (x :: a) = (if x = 34 then [34, 34] else [x]) ++ quotesL a from by unfold quotesL; rw [List.flatMap_cons], show quotesL (y :: b) = (if y = 34 then [34, 34] else [y]) ++ quotesL b from by unfold quotesL; rw [List.flatMap_cons]] at e
    by_cases hx : x = 34
    · by_cases hy : y = 34
      · rw [if_pos hx, if_pos hy] at e
        have e' : 34 :: (34 :: (quotesL a ++ 34 :: r1)) = (34 : UInt8) :: (34 :: (quotesL b ++ 34 :: r2)) := e
        injection e' with _ e'
        injection e' with _ e'
        obtain ⟨h3, h4⟩ := quotes_split a b r1 r2 h1 h2 e'
        exact ⟨by rw [hx, hy, h3], h4⟩
      · rw [if_pos hx, if_neg hy] at e
        have e' : 34 :: (34 :: (quotesL a ++ 34 :: r1)) = y :: (quotesL b ++ 34 :: r2) := e
        injection e' with e' _
        exact absurd e'.symm hy
    · by_cases hy : y = 34
      · rw [if_neg hx, if_pos hy] at e
        have e' : x :: (quotesL a ++ 34 :: r1) = (34 : UInt8) :: (34 :: (quotesL b ++ 34 :: r2)) := e
        injection e' with e' _
        exact absurd e' hx
      · rw [if_neg hx, if_neg hy] at e
        have e' : x :: (quotesL a ++ 34 :: r1) = y :: (quotesL b ++ 34 :: r2) := e
        injection e' with e1 e2
        obtain ⟨h3, h4⟩ := quotes_split a b r1 r2 h1 h2 e2
        exact ⟨by rw [e1, h3], h4⟩
theorem word_dig (n : Nat) : ∀ b ∈ Lib.decDigits n, wordB b = true := fun b hb => by
  have h := digits_nat n b hb
  unfold wordB
  simp; omega
theorem word_four {n : Nat} (h : n < 10000) : ∀ b ∈ four n, wordB b = true := fun b hb => by
  have e := dec_five h
  exact word_dig (10000 + n) b (by rw [e]; exact List.mem_cons_of_mem _ hb)
theorem word_frac {n : Nat} (h : n < 10000) : ∀ b ∈ frac n, wordB b = true := fun b hb => by
  unfold frac Lib.trimRightB at hb
  rw [List.mem_reverse] at hb
  exact word_four h b (List.mem_reverse.1 ((List.dropWhile_sublist _).mem hb))
theorem word_num {x : Int} (h : 0 ≤ x) : ∀ b ∈ printL x, wordB b = true := fun b hb => by
  unfold printL at hb
  rw [if_neg (by omega), show decide (x < 0) = false by simp; omega] at hb
  unfold textOf at hb
  simp only [Bool.false_eq_true, if_false, List.nil_append, List.mem_append] at hb
  rcases hb with hb | hb
  · exact word_dig _ b hb
  · split at hb
    · simp at hb
    · rcases List.mem_cons.1 hb with rfl | hb
      · decide
      · exact word_frac (Nat.mod_lt _ (by decide)) b hb
theorem word_ofNat {n : Nat} (h1 : 65 ≤ n) (h2 : n ≤ 90) : wordB (UInt8.ofNat n) = true := by
  unfold wordB
  rw [UInt8.toNat_ofNat_of_lt' (by show n < 256; omega)]
  simp; omega
theorem word_col {c : Nat} (h0 : 1 ≤ c) (h : c ≤ 256) : ∀ b ∈ colL c, wordB b = true := fun b hb => by
  unfold colL at hb
  split at hb
  · rcases List.mem_singleton.1 hb with rfl
    exact word_ofNat (by omega) (by omega)
  · rcases List.mem_cons.1 hb with rfl | hb
    · exact word_ofNat (by omega) (by omega)
    · rcases List.mem_singleton.1 hb with rfl
      exact word_ofNat (by omega) (by omega)
theorem word_name (r c : Int) : ∀ b ∈ nameZ r c, wordB b = true := fun b hb => by
  unfold nameZ at hb
  cases h : mayB r c
  · rw [h] at hb; simp at hb
  · rw [h, if_pos rfl] at hb
    obtain ⟨r', c', rfl, rfl, hm⟩ := mayB_ints h
    obtain ⟨m1, m2, m3, m4⟩ := mayN_of hm
    rcases List.mem_append.1 hb with hb | hb
    · exact word_col (by omega) (by omega) b hb
    · exact word_dig _ b hb
theorem word_rect (t l b r : Int) : ∀ x ∈ nameRectZ t l b r, wordB x = true := fun x hx => by
  unfold nameRectZ at hx
  split at hx
  · rcases List.mem_append.1 hx with hx | hx
    · exact word_name _ _ x hx
    · rcases List.mem_cons.1 hx with rfl | hx
      · decide
      · exact word_name _ _ x hx
  · simp at hx
theorem word_part {b : UInt8} (h : partB b = true) : wordB b = true := by
  unfold partB upB isDig at h
  unfold wordB
  simp only [Bool.or_eq_true, Bool.and_eq_true, decide_eq_true_eq] at h ⊢
  omega
theorem word_code {c : Int} (h1 : 1 ≤ c) (h2 : c ≤ 8) : ∀ b ∈ (codeName c).data.toList, wordB b = true := by
  have h3 : c = 1 ∨ c = 2 ∨ c = 3 ∨ c = 4 ∨ c = 5 ∨ c = 6 ∨ c = 7 ∨ c = 8 := by omega
  rcases h3 with rfl | rfl | rfl | rfl | rfl | rfl | rfl | rfl <;> decide
end Go.Proofs.YtfbkoieodflcpaaDoor
