/-
  aggs: BLANKS, COUNTIF, ROWS, COLS; aggs: COUNT, COUNTA, BLANKS, COUNTIF, ROWS, COLS behind their names; what may be, told plainly.
-/
import Derived.Test.YtaomlgpakbjegaaGreatDoorRows
import Derived.Test.YtaomlgpakbjegaaGreatDoorBase
import Derived.Test.YtaomlgpakbjegaaGreatDoorRowB
import Derived.Test.YtaomlgpakbjegaaGreatDoorMg4
import Derived.Test.YtaomlgpakbjegaaGreatDoorValA
import Derived.Test.YtaomlgpakbjegaaGreatDoorValB
import Derived.Test.YtaomlgpakbjegaaGreatDoorValC
import Derived.Test.YtaomlgpakbjegaaGreatDoorAddrC
import Derived.Test.YtaomlgpakbjegaaGreatDoorAddrI
import Derived.Test.YtaomlgpakbjegaaGreatDoorMapK
import Derived.Test.YtaomlgpakbjegaaGreatDoorArgK
import Derived.Test.YtaomlgpakbjegaaGreatDoorAArg
import Derived.Test.YtaomlgpakbjegaaGreatDoorProg
import Derived.Test.YtaomlgpakbjegaaGreatDoorShelfB
import Derived.Test.YtaomlgpakbjegaaGreatDoorDFlo
import Derived.Test.YtaomlgpakbjegaaGreatDoorMg1
import Derived.Test.YtaomlgpakbjegaaGreatDoorMg15
import Derived.Test.YtaomlgpakbjegaaGreatDoorValL
import Derived.Test.YtaomlgpakbjegaaGreatDoorNCallK
import Derived.Test.YtaomlgpakbjegaaGreatDoorAItm
import Derived.Test.YtaomlgpakbjegaaGreatDoorAAmo
import Derived.Test.YtaomlgpakbjegaaGreatDoorASum
import Derived.Test.YtaomlgpakbjegaaGreatDoorAFind
import Derived.Test.YtaomlgpakbjegaaGreatDoorACall
import Derived.Test.YtaomlgpakbjegaaGreatDoorACallB
import Derived.Test.YtaomlgpakbjegaaGreatDoorANum
import Derived.Test.YtaomlgpakbjegaaGreatDoorAInt
import Derived.Test.YtaomlgpakbjegaaGreatDoorALar
import Derived.Test.YtaomlgpakbjegaaGreatDoorACol
import Derived.Test.YtaomlgpakbjegaaGreatDoorAAt
import Derived.Test.YtaomlgpakbjegaaGreatDoorACnt
import Derived.Test.YtaomlgpakbjegaaGreatDoorACif
import Derived.Test.YtaomlgpakbjegaaGreatDoorAKn
import Derived.WalkSpells
import Derived.WalkLawsBesides
import Derived.StillTactics
import Derived.Laws.Pointers
import Derived.Deep.RegionHeld3
import Derived.Deep.QuietTactic
import Derived.BigQuiet
import Derived.RowKit3
import Derived.Lib.Hide
import Derived.Lib.OthersKept
import Derived.OwnWalk
import Derived.Lib.IndexLaws
import Derived.Lib.ItoaMem
import Derived.WalkKit
import Derived.ProofKit
import Derived.OpenShut
import Derived.Carry
import Derived.ChangeSame
import Derived.Deep.Draws
import Derived.Maps.OwnSet
import Derived.Maps.AppendAt
import Derived.Shelf.SlGeneric
import Derived.Shelf.SortM.Plain
import Derived.Shelf.SortM.SortNone
import Derived.Ground.SlgmProg
import Derived.Laws.EntriesVeiled
import Derived.Laws.BitsAllLaws
import Derived.Shelf.Strings.Builder1
import Derived.Shelf.Strings.Builder2
import Derived.Shelf.Strings.OnBuilder
import Derived.Shelf.Strings.Trim
import Derived.Shelf.Small.Utf8
import Derived.Shelf.Small.Bits
import Derived.Shelf.Small.Strs
import Derived.Shelf.Small.Wraps
import Derived.Shelf.Strings.BuilderF
import Derived.Shelf.Strings.BuilderK
import Derived.Shelf.Strconv.Itoa0
import Derived.Shelf.Strconv.Itoa1
import Derived.Shelf.LaysM
import Derived.Shelf.Strconv.Itoa2
import Derived.Ground.MpProg
import Derived.Shelf.Pu.ParseUintPublic10
import Derived.Shelf.Strings.Search1
import Derived.Shelf.Strings.Search2
import Derived.Shelf.Strings.Search3
import Derived.Shelf.Strings.Cut
import Derived.Shelf.Strings.Shaped
import Derived.Shelf.Strings.Prefix
import Derived.Shelf.Strings.Runes
import Derived.Shelf.Strings.AsciiSet
import Derived.Shelf.Bits.Mul64
import Derived.Shelf.Strings.Repeat
import Derived.Shelf.Unicode.DecodeSlow
import Derived.Lib.TrimByte
import Derived.Lib.Bytealg
import Derived.Lib.SlTrimSet
import Derived.Lib.ParseIntB
import Derived.Shelf.Strings.SlTrimAscii
import Derived.Lib.SmallJoins
import Derived.Deep.RegionWith
import Derived.Laws.Externs
import Derived.IntWalk
import Derived.Sort.OwnSorted
import Derived.Sort.OwnSortedInts
import Derived.Deep.AppendLies
import Derived.Deep.RegionLaw
namespace Go.Proofs.YtaomlgpakbjegaaGreatDoor
open Go.RowKit

theorem dr_cell {w : World} {o : Obj} {a : Addr} {v : Value} (h : a.block < w.heap.size) (h2 : w.cell? a = some v) : (w.alloc o).drew.cell? a = some v := by
  rw [show (w.alloc o).drew.cell? a = (w.alloc o).cell? a from rfl, World.cell?_alloc_lt _ _ _ h]
  exact h2
end Go.Proofs.YtaomlgpakbjegaaGreatDoor
namespace Go.Proofs.YtaomlgpakbjegaaGreatDoor
open Go.RowKit

theorem may_parts {x : AL} (h : x.many = true) (hm : argMay x = true) : mayRectB x.t x.l x.b x.r = true ∧ x.v.t = 0 ∧ entsOk x = true := by
  unfold argMay at hm
  rw [if_pos h] at hm
  simp only [Bool.and_eq_true] at hm
  refine ⟨hm.1.1, ?_, hm.2⟩
  have h2 := hm.1.2
  unfold vZero vEq at h2
  simp only [Bool.and_eq_true, decide_eq_true_eq] at h2
  exact h2.1.1.1.1
theorem ent_parts {x : AL} (h : entsOk x = true) (k : Nat) (e : EL) (he : x.es[k]? = some e) : inB x.t x.l x.b x.r e.r e.c = true ∧ e.v.may = true ∧ (∀ j d, k = j + 1 → x.es[j]? = some d → befB d.r d.c e.r e.c = true) := by
  unfold entsOk at h
  have h2 := (List.all_eq_true.1 h) k (List.mem_range.2 (List.getElem?_eq_some_iff.1 he).1)
  unfold entOk at h2
  rw [he] at h2
  simp only [Bool.and_eq_true] at h2
  refine ⟨h2.1.1, h2.1.2, ?_⟩
  intro j d hk hd
  subst hk
  have h3 := h2.2
  simp only [hd] at h3
  exact h3
theorem ent_key {x : AL} (hm : mayRectB x.t x.l x.b x.r = true) (h : entsOk x = true) : ∀ (k : Nat) (e : EL), x.es[k]? = some e → (k : Int) ≤ e.r * 16384 + e.c ∧ e.r ≤ 1048576 ∧ 0 ≤ e.r ∧ 0 ≤ e.c ∧ e.c ≤ 16384 := by
  obtain ⟨h1, h2, h3, h4, h5, h6⟩ := rect_in hm
  intro k
  induction k with
  | zero =>
    intro e he
    obtain ⟨a1, -, -⟩ := ent_parts h 0 e he
    unfold inB at a1
    simp only [Bool.and_eq_true, decide_eq_true_eq] at a1
    refine ⟨?_, ?_, ?_, ?_, ?_⟩ <;> omega
  | succ k ih =>
    intro e he
    obtain ⟨a1, -, a3⟩ := ent_parts h (k + 1) e he
    unfold inB at a1
    simp only [Bool.and_eq_true, decide_eq_true_eq] at a1
    obtain ⟨d, hd⟩ : ∃ d, x.es[k]? = some d := ⟨_, List.getElem?_eq_getElem (by have := (List.getElem?_eq_some_iff.1 he).1; omega)⟩
    obtain ⟨i1, i2, i3, i4, i5⟩ := ih d hd
    have b := a3 k d rfl hd
    unfold befB at b
    simp only [Bool.or_eq_true, Bool.and_eq_true, decide_eq_true_eq] at b
    refine ⟨?_, ?_, ?_, ?_, ?_⟩ <;> omega
theorem ent_len {x : AL} (hm : mayRectB x.t x.l x.b x.r = true) (h : entsOk x = true) : x.es.length ≤ 17179900000 := by
  rcases Nat.eq_zero_or_pos x.es.length with h0 | h0
  · omega
  · obtain ⟨a, b, c, d, e⟩ := ent_key hm h (x.es.length - 1) _ (List.getElem?_eq_getElem (by omega))
    omega
theorem numL_form {y : Int} (h : y ≠ -9223372036854775808) : numL y = ⟨1, y, ⟨#[]⟩, false, 0⟩ := by
  unfold numL numT numN numF
  rw [if_neg h, if_neg h, if_neg h]
theorem ArgsC.below {w w' : World} {v : Value} {l : List AL} (h : ArgsC w v l) (hb : Below w.heap.size w w') : ArgsC w' v l := by
  obtain ⟨A, cap, e, hc, hR, hin⟩ := h
  exact ⟨A, cap, e, hc, (hR.below hb).mono hb.size, fun x hx => ((hin x hx).below hb).mono hb.size⟩
end Go.Proofs.YtaomlgpakbjegaaGreatDoor
