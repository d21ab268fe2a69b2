/-
  print: leaves, one against the other, plain.
-/
import Derived.Test.YtfbkoieodflcpaaDoorMg4
import Derived.Test.YtfbkoieodflcpaaDoorRows
import Derived.Test.YtfbkoieodflcpaaDoorBase
import Derived.Test.YtfbkoieodflcpaaDoorProg
import Derived.Test.YtfbkoieodflcpaaDoorShelf
import Derived.Test.YtfbkoieodflcpaaDoorAddrC
import Derived.Test.YtfbkoieodflcpaaDoorMg6
import Derived.Test.YtfbkoieodflcpaaDoorDecA
import Derived.Test.YtfbkoieodflcpaaDoorValA
import Derived.Test.YtfbkoieodflcpaaDoorValB
import Derived.Test.YtfbkoieodflcpaaDoorMg11
import Derived.Test.YtfbkoieodflcpaaDoorMg10
import Derived.Test.YtfbkoieodflcpaaDoorMapK
import Derived.Test.YtfbkoieodflcpaaDoorRefP
import Derived.Test.YtfbkoieodflcpaaDoorRefQ
import Derived.Test.YtfbkoieodflcpaaDoorShelfC
import Derived.Test.YtfbkoieodflcpaaDoorFmtU
import Derived.Test.YtfbkoieodflcpaaDoorNameX
import Derived.Test.YtfbkoieodflcpaaDoorNameY
import Derived.Test.YtfbkoieodflcpaaDoorDPrint
import Derived.Test.YtfbkoieodflcpaaDoorValL
import Derived.Test.YtfbkoieodflcpaaDoorPrP
import Derived.Test.YtfbkoieodflcpaaDoorPrA
import Derived.Test.YtfbkoieodflcpaaDoorPrS
import Derived.Test.YtfbkoieodflcpaaDoorPrT
import Derived.Test.YtfbkoieodflcpaaDoorPrO1
import Derived.Test.YtfbkoieodflcpaaDoorPrO2
import Derived.Test.YtfbkoieodflcpaaDoorMg26
import Derived.Test.YtfbkoieodflcpaaDoorNumP
import Derived.WalkSpells
import Derived.WalkLawsBesides
import Derived.StillTactics
import Derived.Laws.Pointers
import Derived.Deep.RegionHeld3
import Derived.Deep.QuietTactic
import Derived.BigQuiet
import Derived.RowKit3
import Derived.Lib.Hide
import Derived.Lib.OthersKept
import Derived.OwnWalk
import Derived.Lib.IndexLaws
import Derived.Lib.ItoaMem
import Derived.Lib.TrimByte
import Derived.Lib.SlTrimSet
import Derived.Lib.ParseIntB
import Derived.WalkKit
import Derived.ProofKit
import Derived.OpenShut
import Derived.Carry
import Derived.ChangeSame
import Derived.Deep.Draws
import Derived.Shelf.Strings.Builder1
import Derived.Shelf.Strings.Builder2
import Derived.Shelf.Strings.Trim
import Derived.Shelf.Small.Utf8
import Derived.Shelf.Small.Strs
import Derived.Shelf.Strings.BuilderF
import Derived.Shelf.Strings.BuilderK
import Derived.Shelf.Strconv.Itoa0
import Derived.Shelf.Strconv.Itoa1
import Derived.Shelf.LaysM
import Derived.Shelf.Strconv.Itoa2
import Derived.Shelf.Strconv.Itoa3
import Derived.Shelf.Strings.Search1
import Derived.Shelf.Strings.Search2
import Derived.Shelf.Strings.Search3
import Derived.Shelf.Strings.Count
import Derived.Shelf.Strings.Shaped
import Derived.Shelf.Strings.Split
import Derived.Shelf.Strings.Replace
import Derived.Shelf.Strings.Runes
import Derived.Shelf.Strings.AsciiSet
import Derived.Shelf.Unicode.DecodeSlow
import Derived.Lib.ItoaNum
import Derived.Maps.OwnSet
import Derived.Maps.AppendAt
import Derived.Lib.Bytealg
import Derived.Lib.Replace
namespace Go.Proofs.YtfbkoieodflcpaaDoor
open Go.RowKit

/-- what kind of leaf a text of word bytes is -/
def clsT (w : List UInt8) : Nat :=
  if w = [84, 82, 85, 69] then 2 else if w = [70, 65, 76, 83, 69] then 2
  else match w.head? with
    | some d => if isDig d then 1 else if d = 35 then 3 else if w.contains 58 then 5 else 4
    | none => 0
theorem cls_num {x : Int} (h : 0 ≤ x) : clsT (printL x) = 1 := by
  obtain ⟨d, t, e, hd⟩ : ∃ d t, printL x = d :: t ∧ isDig d = true := by
    unfold printL
    rw [if_neg (by omega), show decide (x < 0) = false by simp; omega]
    unfold textOf
    obtain ⟨_, h2, h3⟩ := dec_val (x.natAbs / 10000) (x.natAbs / 10000) (Nat.le_refl _)
    cases hD : Lib.decDigits (x.natAbs / 10000) with
    | nil => rw [hD] at h3; simp at h3
    | cons d t =>
      rw [hD] at h2
      refine ⟨d, _, rfl, ?_⟩
      simp at h2
      exact h2.1
  rw [e]
  unfold clsT
  have h1 : ¬ d :: t = [84, 82, 85, 69] := fun e => by injection e with e _; rw [e] at hd; revert hd; decide
  have h2 : ¬ d :: t = [70, 65, 76, 83, 69] := fun e => by injection e with e _; rw [e] at hd; revert hd; decide
  rw [if_neg h1, if_neg h2]
  simp [hd]
theorem cls_code {c : Int} (h1 : 1 ≤ c) (h2 : c ≤ 8) : clsT (codeName c).data.toList = 3 := by
  have h3 : c = 1 ∨ c = 2 ∨ c = 3 ∨ c = 4 ∨ c = 5 ∨ c = 6 ∨ c = 7 ∨ c = 8 := by omega
  rcases h3 with rfl | rfl | rfl | rfl | rfl | rfl | rfl | rfl <;> decide
theorem name_head {r c : Int} (h : mayB r c = true) : ∃ d t, nameZ r c = d :: t ∧ 65 ≤ d.toNat ∧ d.toNat ≤ 90 := by
  obtain ⟨r', c', rfl, rfl, hm⟩ := mayB_ints h
  obtain ⟨m1, m2, m3, m4⟩ := mayN_of hm
  rw [nameZ_nat hm]
  unfold nameL colL
  split
  · exact ⟨_, _, rfl, by rw [UInt8.toNat_ofNat_of_lt' (by show _ < 256; omega)]; omega⟩
  · exact ⟨_, _, rfl, by rw [UInt8.toNat_ofNat_of_lt' (by show _ < 256; omega)]; omega⟩
theorem name_not {r c : Int} (h : mayB r c = true) : nameZ r c ≠ [84, 82, 85, 69] ∧ nameZ r c ≠ [70, 65, 76, 83, 69] := by
  obtain ⟨r', c', rfl, rfl, hm⟩ := mayB_ints h
  have hp := parse_name hm
  rw [nameZ_nat hm]
  refine ⟨fun e => ?_, fun e => ?_⟩
  · rw [e] at hp; revert hp; rw [show parse [84, 82, 85, 69] = none by decide]; intro hp; cases hp
  · rw [e] at hp; revert hp; rw [show parse [70, 65, 76, 83, 69] = none by decide]; intro hp; cases hp
theorem head_cls {w : List UInt8} {d : UInt8} {t : List UInt8} (e : w = d :: t) (h1 : 65 ≤ d.toNat) (h2 : d.toNat ≤ 90) (n1 : w ≠ [84, 82, 85, 69]) (n2 : w ≠ [70, 65, 76, 83, 69]) : clsT w = if w.contains 58 then 5 else 4 := by
  have hd : isDig d = false := by unfold isDig; simp; omega
  have h35 : ¬ d = 35 := fun e => by rw [e] at h1; revert h1; decide
  unfold clsT
  rw [if_neg n1, if_neg n2, e]
  simp [hd, h35]
theorem cls_name {r c : Int} (h : mayB r c = true) : clsT (nameZ r c) = 4 := by
  obtain ⟨d, t, e, h1, h2⟩ := name_head h
  obtain ⟨n1, n2⟩ := name_not h
  rw [head_cls e h1 h2 n1 n2, if_neg]
  intro hc
  have hm : (58 : UInt8) ∈ nameZ r c := List.contains_iff_mem.1 hc
  have := name_no58 58 hm
  simp at this
theorem cls_rect {t l b q : Int} (h : mayRectB t l b q = true) (m1 : mayB t l = true) : clsT (nameRectZ t l b q) = 5 := by
  obtain ⟨d, u, e, h1, h2⟩ := name_head m1
  have hm : (58 : UInt8) ∈ nameRectZ t l b q := by rw [rect_form h]; simp
  have n1 : nameRectZ t l b q ≠ [84, 82, 85, 69] := fun e => by rw [e] at hm; revert hm; decide
  have n2 : nameRectZ t l b q ≠ [70, 65, 76, 83, 69] := fun e => by rw [e] at hm; revert hm; decide
  rw [head_cls (by rw [rect_form h, e]; rfl) h1 h2 n1 n2, if_pos (List.contains_iff_mem.2 hm)]
theorem rect_parts {t l b q : Int} (h : mayRectB t l b q = true) : mayB t l = true ∧ mayB b q = true := by
  unfold mayRectB at h
  simp only [Bool.and_eq_true] at h
  exact ⟨h.1.1.1, h.1.1.2⟩
end Go.Proofs.YtfbkoieodflcpaaDoor
