/-
  print: a leaf and what follows, plain.
-/
import Derived.Test.YtfbkoieodflcpaaDoorMg4
import Derived.Test.YtfbkoieodflcpaaDoorRows
import Derived.Test.YtfbkoieodflcpaaDoorBase
import Derived.Test.YtfbkoieodflcpaaDoorProg
import Derived.Test.YtfbkoieodflcpaaDoorShelf
import Derived.Test.YtfbkoieodflcpaaDoorAddrC
import Derived.Test.YtfbkoieodflcpaaDoorMg6
import Derived.Test.YtfbkoieodflcpaaDoorDecA
import Derived.Test.YtfbkoieodflcpaaDoorValA
import Derived.Test.YtfbkoieodflcpaaDoorValB
import Derived.Test.YtfbkoieodflcpaaDoorMg11
import Derived.Test.YtfbkoieodflcpaaDoorMg10
import Derived.Test.YtfbkoieodflcpaaDoorMapK
import Derived.Test.YtfbkoieodflcpaaDoorRefP
import Derived.Test.YtfbkoieodflcpaaDoorRefQ
import Derived.Test.YtfbkoieodflcpaaDoorShelfC
import Derived.Test.YtfbkoieodflcpaaDoorFmtU
import Derived.Test.YtfbkoieodflcpaaDoorNameX
import Derived.Test.YtfbkoieodflcpaaDoorNameY
import Derived.Test.YtfbkoieodflcpaaDoorDPrint
import Derived.Test.YtfbkoieodflcpaaDoorValL
import Derived.Test.YtfbkoieodflcpaaDoorPrP
import Derived.Test.YtfbkoieodflcpaaDoorPrA
import Derived.Test.YtfbkoieodflcpaaDoorPrS
import Derived.Test.YtfbkoieodflcpaaDoorPrT
import Derived.Test.YtfbkoieodflcpaaDoorPrO1
import Derived.Test.YtfbkoieodflcpaaDoorPrO2
import Derived.Test.YtfbkoieodflcpaaDoorMg26
import Derived.Test.YtfbkoieodflcpaaDoorNumP
import Derived.Test.YtfbkoieodflcpaaDoorPrO5
import Derived.Test.YtfbkoieodflcpaaDoorRefN
import Derived.Test.YtfbkoieodflcpaaDoorRefM
import Derived.Test.YtfbkoieodflcpaaDoorRefY
import Derived.Test.YtfbkoieodflcpaaDoorRefZ
import Derived.Test.YtfbkoieodflcpaaDoorPrO6
import Derived.WalkSpells
import Derived.WalkLawsBesides
import Derived.StillTactics
import Derived.Laws.Pointers
import Derived.Deep.RegionHeld3
import Derived.Deep.QuietTactic
import Derived.BigQuiet
import Derived.RowKit3
import Derived.Lib.Hide
import Derived.Lib.OthersKept
import Derived.OwnWalk
import Derived.Lib.IndexLaws
import Derived.Lib.ItoaMem
import Derived.Lib.TrimByte
import Derived.Lib.SlTrimSet
import Derived.Lib.ParseIntB
import Derived.WalkKit
import Derived.ProofKit
import Derived.OpenShut
import Derived.Carry
import Derived.ChangeSame
import Derived.Deep.Draws
import Derived.Shelf.Strings.Builder1
import Derived.Shelf.Strings.Builder2
import Derived.Shelf.Strings.Trim
import Derived.Shelf.Small.Utf8
import Derived.Shelf.Small.Strs
import Derived.Shelf.Strings.BuilderF
import Derived.Shelf.Strings.BuilderK
import Derived.Shelf.Strconv.Itoa0
import Derived.Shelf.Strconv.Itoa1
import Derived.Shelf.LaysM
import Derived.Shelf.Strconv.Itoa2
import Derived.Shelf.Strconv.Itoa3
import Derived.Shelf.Strings.Search1
import Derived.Shelf.Strings.Search2
import Derived.Shelf.Strings.Search3
import Derived.Shelf.Strings.Count
import Derived.Shelf.Strings.Shaped
import Derived.Shelf.Strings.Split
import Derived.Shelf.Strings.Replace
import Derived.Shelf.Strings.Runes
import Derived.Shelf.Strings.AsciiSet
import Derived.Shelf.Unicode.DecodeSlow
import Derived.Lib.ItoaNum
import Derived.Maps.OwnSet
import Derived.Maps.AppendAt
import Derived.Lib.Bytealg
import Derived.Lib.Replace
namespace Go.Proofs.YtfbkoieodflcpaaDoor
open Go.RowKit

/-- what may follow a thing: no byte of a word, no quote, no open bracket -/
def Stop (r : List UInt8) : Prop := NoHead (fun b => wordB b || decide (b = 34) || decide (b = 40)) r
theorem Stop.word {r : List UInt8} (h : Stop r) : NoHead wordB r := fun b t e => by
  have := h b t e
  simp only [Bool.or_eq_false_iff] at this
  exact this.1.1
theorem Stop.quote {r : List UInt8} (h : Stop r) : NoHead (fun x => decide (x = 34)) r := fun b t e => by
  have := h b t e
  simp only [Bool.or_eq_false_iff] at this
  exact this.1.2
theorem cls_nil : clsT [] = 0 := by decide
theorem txt_word {n m : NL} (g : LeafV m) (s : ByteArray) (hn : leafT n = 34 :: (quotesL s.data.toList ++ [34])) (gt : ¬ (m.kind = 1 ∧ m.v.t = 2)) (r1 r2 : List UInt8) (e : leafT n ++ r1 = leafT m ++ r2) : False := by
  obtain ⟨h1, h2, h3⟩ := leaf_cls g gt
  cases hm : leafT m with
  | nil => rw [hm, cls_nil] at h1; omega
  | cons b t =>
    rw [hn, hm] at e
    injection e with e _
    have h4 := h2 b (by rw [hm]; simp)
    rw [← e] at h4
    revert h4
    decide
theorem bytes_inj {a b : ByteArray} (h : a.data.toList = b.data.toList) : a = b := by
  apply ByteArray.ext
  exact Array.toList_inj.1 h
theorem leaf_split {n m : NL} (h : LeafV n) (g : LeafV m) (r1 r2 : List UInt8) (s1 : Stop r1) (s2 : Stop r2) (e : leafT n ++ r1 = leafT m ++ r2) : n = m ∧ r1 = r2 := by
  by_cases ht : n.kind = 1 ∧ n.v.t = 2
  · by_cases gt : m.kind = 1 ∧ m.v.t = 2
    · have hx : ∃ s, leafT n = 34 :: (quotesL s.data.toList ++ [34]) ∧ n = ⟨1, ⟨2, 0, s, false, 0⟩, 0, 0, 0, 0, 0, 0, 0, ⟨#[]⟩, 0⟩ := by
        cases h with
        | txt s e1 h => exact ⟨s, h, e1⟩
        | num x _ _ e1 _ => subst e1; exact absurd ht.2 (by show ¬ (1 : Int) = 2; decide)
        | bool b e1 _ => subst e1; exact absurd ht.2 (by show ¬ (3 : Int) = 2; decide)
        | code c _ _ e1 _ => subst e1; exact absurd ht.2 (by show ¬ (4 : Int) = 2; decide)
        | cell r c _ e1 _ => subst e1; exact absurd ht.1 (by show ¬ (2 : Int) = 1; decide)
        | rect t l b q _ e1 _ => subst e1; exact absurd ht.1 (by show ¬ (3 : Int) = 1; decide)
      have gx : ∃ s, leafT m = 34 :: (quotesL s.data.toList ++ [34]) ∧ m = ⟨1, ⟨2, 0, s, false, 0⟩, 0, 0, 0, 0, 0, 0, 0, ⟨#[]⟩, 0⟩ := by
        cases g with
        | txt s e1 h => exact ⟨s, h, e1⟩
        | num x _ _ e1 _ => subst e1; exact absurd gt.2 (by show ¬ (1 : Int) = 2; decide)
        | bool b e1 _ => subst e1; exact absurd gt.2 (by show ¬ (3 : Int) = 2; decide)
        | code c _ _ e1 _ => subst e1; exact absurd gt.2 (by show ¬ (4 : Int) = 2; decide)
        | cell r c _ e1 _ => subst e1; exact absurd gt.1 (by show ¬ (2 : Int) = 1; decide)
        | rect t l b q _ e1 _ => subst e1; exact absurd gt.1 (by show ¬ (3 : Int) = 1; decide)
      obtain ⟨a, ha, ea⟩ := hx
      obtain ⟨b, hb, eb⟩ := gx
      rw [ha, hb] at e
      injection e with _ e
      have e' : (quotesL a.data.toList ++ [34]) ++ r1 = (quotesL b.data.toList ++ [34]) ++ r2 := e
      rw [List.append_assoc, List.append_assoc] at e'
      obtain ⟨e1, e2⟩ := quotes_split _ _ r1 r2 s1.quote s2.quote e'
      exact ⟨by rw [ea, eb, bytes_inj e1], e2⟩
    · exfalso
      cases h with
      | txt s e1 h => exact txt_word g s h gt r1 r2 e
      | num x _ _ e1 _ => subst e1; exact absurd ht.2 (by show ¬ (1 : Int) = 2; decide)
      | bool b e1 _ => subst e1; exact absurd ht.2 (by show ¬ (3 : Int) = 2; decide)
      | code c _ _ e1 _ => subst e1; exact absurd ht.2 (by show ¬ (4 : Int) = 2; decide)
      | cell r c _ e1 _ => subst e1; exact absurd ht.1 (by show ¬ (2 : Int) = 1; decide)
      | rect t l b q _ e1 _ => subst e1; exact absurd ht.1 (by show ¬ (3 : Int) = 1; decide)
  · by_cases gt : m.kind = 1 ∧ m.v.t = 2
    · exfalso
      cases g with
      | txt s e1 g => exact txt_word h s g ht r2 r1 e.symm
      | num x _ _ e1 _ => subst e1; exact absurd gt.2 (by show ¬ (1 : Int) = 2; decide)
      | bool b e1 _ => subst e1; exact absurd gt.2 (by show ¬ (3 : Int) = 2; decide)
      | code c _ _ e1 _ => subst e1; exact absurd gt.2 (by show ¬ (4 : Int) = 2; decide)
      | cell r c _ e1 _ => subst e1; exact absurd gt.1 (by show ¬ (2 : Int) = 1; decide)
      | rect t l b q _ e1 _ => subst e1; exact absurd gt.1 (by show ¬ (3 : Int) = 1; decide)
    · obtain ⟨e1, e2⟩ := word_split wordB _ _ r1 r2 (leaf_cls h ht).2.1 (leaf_cls g gt).2.1 s1.word s2.word e
      exact ⟨word_inj h g ht gt e1, e2⟩
end Go.Proofs.YtfbkoieodflcpaaDoor
