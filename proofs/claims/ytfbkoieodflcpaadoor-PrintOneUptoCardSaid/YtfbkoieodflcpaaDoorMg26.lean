/-
  print: a node that may be is its own parts, plain; print: leaves are told by their texts, plain.
-/
import Derived.Test.YtfbkoieodflcpaaDoorMg4
import Derived.Test.YtfbkoieodflcpaaDoorRows
import Derived.Test.YtfbkoieodflcpaaDoorBase
import Derived.Test.YtfbkoieodflcpaaDoorProg
import Derived.Test.YtfbkoieodflcpaaDoorShelf
import Derived.Test.YtfbkoieodflcpaaDoorAddrC
import Derived.Test.YtfbkoieodflcpaaDoorMg6
import Derived.Test.YtfbkoieodflcpaaDoorDecA
import Derived.Test.YtfbkoieodflcpaaDoorValA
import Derived.Test.YtfbkoieodflcpaaDoorValB
import Derived.Test.YtfbkoieodflcpaaDoorMg11
import Derived.Test.YtfbkoieodflcpaaDoorMg10
import Derived.Test.YtfbkoieodflcpaaDoorMapK
import Derived.Test.YtfbkoieodflcpaaDoorRefP
import Derived.Test.YtfbkoieodflcpaaDoorRefQ
import Derived.Test.YtfbkoieodflcpaaDoorShelfC
import Derived.Test.YtfbkoieodflcpaaDoorFmtU
import Derived.Test.YtfbkoieodflcpaaDoorNameX
import Derived.Test.YtfbkoieodflcpaaDoorNameY
import Derived.Test.YtfbkoieodflcpaaDoorDPrint
import Derived.Test.YtfbkoieodflcpaaDoorValL
import Derived.Test.YtfbkoieodflcpaaDoorPrP
import Derived.Test.YtfbkoieodflcpaaDoorPrA
import Derived.Test.YtfbkoieodflcpaaDoorPrS
import Derived.Test.YtfbkoieodflcpaaDoorPrT
import Derived.Test.YtfbkoieodflcpaaDoorPrO1
import Derived.Test.YtfbkoieodflcpaaDoorPrO2
import Derived.Test.YtfbkoieodflcpaaDoorNumP
import Derived.WalkSpells
import Derived.WalkLawsBesides
import Derived.StillTactics
import Derived.Laws.Pointers
import Derived.Deep.RegionHeld3
import Derived.Deep.QuietTactic
import Derived.BigQuiet
import Derived.RowKit3
import Derived.Lib.Hide
import Derived.Lib.OthersKept
import Derived.OwnWalk
import Derived.Lib.IndexLaws
import Derived.Lib.ItoaMem
import Derived.Lib.TrimByte
import Derived.Lib.SlTrimSet
import Derived.Lib.ParseIntB
import Derived.WalkKit
import Derived.ProofKit
import Derived.OpenShut
import Derived.Carry
import Derived.ChangeSame
import Derived.Deep.Draws
import Derived.Shelf.Strings.Builder1
import Derived.Shelf.Strings.Builder2
import Derived.Shelf.Strings.Trim
import Derived.Shelf.Small.Utf8
import Derived.Shelf.Small.Strs
import Derived.Shelf.Strings.BuilderF
import Derived.Shelf.Strings.BuilderK
import Derived.Shelf.Strconv.Itoa0
import Derived.Shelf.Strconv.Itoa1
import Derived.Shelf.LaysM
import Derived.Shelf.Strconv.Itoa2
import Derived.Shelf.Strconv.Itoa3
import Derived.Shelf.Strings.Search1
import Derived.Shelf.Strings.Search2
import Derived.Shelf.Strings.Search3
import Derived.Shelf.Strings.Count
import Derived.Shelf.Strings.Shaped
import Derived.Shelf.Strings.Split
import Derived.Shelf.Strings.Replace
import Derived.Shelf.Strings.Runes
import Derived.Shelf.Strings.AsciiSet
import Derived.Shelf.Unicode.DecodeSlow
import Derived.Lib.ItoaNum
import Derived.Maps.OwnSet
import Derived.Maps.AppendAt
import Derived.Lib.Bytealg
import Derived.Lib.Replace
namespace Go.Proofs.YtfbkoieodflcpaaDoor
open Go.RowKit

theorem may_val {n : NL} (h : n.may = true) (k : n.kind = 1) : n = ⟨1, n.v, 0, 0, 0, 0, 0, 0, 0, ⟨#[]⟩, 0⟩ := by
  unfold NL.may at h
  rw [if_pos k] at h
  simp only [Bool.and_eq_true, decide_eq_true_eq, NL.noC, NL.noR, NL.noO, NL.noN] at h
  obtain ⟨kd, ⟨t, x, s, b, c⟩, r, q1, rt, rl, rb, rq, op, nm, ag⟩ := n
  simp_all
theorem may_cell {n : NL} (h : n.may = true) (k : n.kind = 2) : n = ⟨2, ⟨0, 0, ⟨#[]⟩, false, 0⟩, n.r, n.c, 0, 0, 0, 0, 0, ⟨#[]⟩, 0⟩ ∧ mayB n.r n.c = true := by
  unfold NL.may at h
  rw [if_neg (by omega), if_pos k] at h
  simp only [Bool.and_eq_true, decide_eq_true_eq, NL.noV, NL.noR, NL.noO, NL.noN, vEq] at h
  obtain ⟨kd, ⟨t, x, s, b, c⟩, r, q1, rt, rl, rb, rq, op, nm, ag⟩ := n
  simp_all
theorem may_rct {n : NL} (h : n.may = true) (k : n.kind = 3) : n = ⟨3, ⟨0, 0, ⟨#[]⟩, false, 0⟩, 0, 0, n.t, n.l, n.b, n.q, 0, ⟨#[]⟩, 0⟩ ∧ mayRectB n.t n.l n.b n.q = true := by
  unfold NL.may at h
  rw [if_neg (by omega), if_neg (by omega), if_pos k] at h
  simp only [Bool.and_eq_true, decide_eq_true_eq, NL.noV, NL.noC, NL.noO, NL.noN, vEq] at h
  obtain ⟨kd, ⟨t, x, s, b, c⟩, r, q1, rt, rl, rb, rq, op, nm, ag⟩ := n
  simp_all
theorem may_op {n : NL} (h : n.may = true) (k : n.kind = 4) : n = ⟨4, ⟨0, 0, ⟨#[]⟩, false, 0⟩, 0, 0, 0, 0, 0, 0, n.op, ⟨#[]⟩, 0⟩ := by
  unfold NL.may at h
  rw [if_neg (by omega), if_neg (by omega), if_neg (by omega), if_pos k] at h
  simp only [Bool.and_eq_true, decide_eq_true_eq, NL.noV, NL.noC, NL.noR, NL.noN, vEq] at h
  obtain ⟨kd, ⟨t, x, s, b, c⟩, r, q1, rt, rl, rb, rq, op, nm, ag⟩ := n
  simp_all
theorem may_call {n : NL} (h : n.may = true) (k : n.kind = 5) : n = ⟨5, ⟨0, 0, ⟨#[]⟩, false, 0⟩, 0, 0, 0, 0, 0, 0, 0, n.name, n.args⟩ := by
  unfold NL.may at h
  rw [if_neg (by omega), if_neg (by omega), if_neg (by omega), if_neg (by omega), if_pos k] at h
  simp only [Bool.and_eq_true, decide_eq_true_eq, NL.noV, NL.noC, NL.noR, NL.noO, vEq] at h
  obtain ⟨kd, ⟨t, x, s, b, c⟩, r, q1, rt, rl, rb, rq, op, nm, ag⟩ := n
  simp_all
end Go.Proofs.YtfbkoieodflcpaaDoor
namespace Go.Proofs.YtfbkoieodflcpaaDoor
open Go.RowKit

theorem name_inj {r c r' c' : Int} (h : mayB r c = true) (h' : mayB r' c' = true) (e : nameZ r c = nameZ r' c') : r = r' ∧ c = c' := by
  obtain ⟨a, b, rfl, rfl, hm⟩ := mayB_ints h
  obtain ⟨a', b', rfl, rfl, hm'⟩ := mayB_ints h'
  rw [nameZ_nat hm, nameZ_nat hm'] at e
  have h1 := parse_name hm
  rw [e, parse_name hm'] at h1
  have h2 := Option.some.inj h1
  injection h2 with h3 h4
  exact ⟨by rw [h3], by rw [h4]⟩
theorem name_bytes {r c : Int} : ∀ b ∈ nameZ r c, (48 ≤ b.toNat ∧ b.toNat ≤ 57) ∨ (65 ≤ b.toNat ∧ b.toNat ≤ 90) := fun b hb => by
  unfold nameZ at hb
  cases h : mayB r c
  · rw [h] at hb; simp at hb
  · rw [h, if_pos rfl] at hb
    obtain ⟨r', c', rfl, rfl, hm⟩ := mayB_ints h
    obtain ⟨m1, m2, m3, m4⟩ := mayN_of hm
    rcases List.mem_append.1 hb with hb | hb
    · right
      unfold colL at hb
      split at hb
      · rcases List.mem_singleton.1 hb with rfl
        rw [UInt8.toNat_ofNat_of_lt' (by show _ < 256; omega)]; omega
      · rcases List.mem_cons.1 hb with rfl | hb
        · rw [UInt8.toNat_ofNat_of_lt' (by show _ < 256; omega)]; omega
        · rcases List.mem_singleton.1 hb with rfl
          rw [UInt8.toNat_ofNat_of_lt' (by show _ < 256; omega)]; omega
    · exact Or.inl (digits_nat _ b hb)
theorem name_no58 {r c : Int} : ∀ b ∈ nameZ r c, decide (b ≠ 58) = true := fun b hb => by
  have h := name_bytes b hb
  have : b ≠ 58 := fun e => by rw [e] at h; revert h; decide
  simpa using this
theorem rect_form {t l b q : Int} (h : mayRectB t l b q = true) : nameRectZ t l b q = nameZ t l ++ 58 :: nameZ b q := by
  unfold nameRectZ; rw [if_pos h]
theorem rect_inj {t l b q t' l' b' q' : Int} (h1 : mayRectB t l b q = true) (h2 : mayRectB t' l' b' q' = true) (m1 : mayB t l = true) (m2 : mayB b q = true) (m3 : mayB t' l' = true) (m4 : mayB b' q' = true) (e : nameRectZ t l b q = nameRectZ t' l' b' q') : t = t' ∧ l = l' ∧ b = b' ∧ q = q' := by
  rw [rect_form h1, rect_form h2] at e
  have hh : ∀ r : List UInt8, NoHead (fun x => decide (x ≠ 58)) (58 :: r) := fun r x s hx => by injection hx with hx _; rw [← hx]; rfl
  obtain ⟨e1, e2⟩ := word_split (fun x => decide (x ≠ 58)) _ _ _ _ name_no58 name_no58 (hh _) (hh _) e
  injection e2 with _ e2
  obtain ⟨a1, a2⟩ := name_inj m1 m3 e1
  obtain ⟨a3, a4⟩ := name_inj m2 m4 e2
  exact ⟨a1, a2, a3, a4⟩
theorem num_inj {x y : Int} (hx : 0 ≤ x ∧ x ≤ 9223372036854775807) (hy : 0 ≤ y ∧ y ≤ 9223372036854775807) (e : printL x = printL y) : x = y := by
  have h1 := (print_read (x := x) (by omega) (by omega)).1
  rw [e, (print_read (x := y) (by omega) (by omega)).1] at h1
  exact h1.symm
theorem code_inj {c d : Int} (hc : 1 ≤ c ∧ c ≤ 8) (hd : 1 ≤ d ∧ d ≤ 8) (e : (codeName c).data.toList = (codeName d).data.toList) : c = d := by
  have h1 : c = 1 ∨ c = 2 ∨ c = 3 ∨ c = 4 ∨ c = 5 ∨ c = 6 ∨ c = 7 ∨ c = 8 := by omega
  have h2 : d = 1 ∨ d = 2 ∨ d = 3 ∨ d = 4 ∨ d = 5 ∨ d = 6 ∨ d = 7 ∨ d = 8 := by omega
  rcases h1 with rfl | rfl | rfl | rfl | rfl | rfl | rfl | rfl <;> rcases h2 with rfl | rfl | rfl | rfl | rfl | rfl | rfl | rfl <;> first | rfl | (exact absurd e (by decide))
end Go.Proofs.YtfbkoieodflcpaaDoor
