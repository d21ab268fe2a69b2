/-
  nums: Call, what its parts answer.
-/
import Derived.Test.YtaomlgpakbjegaaGreatDoorRows
import Derived.Test.YtaomlgpakbjegaaGreatDoorBase
import Derived.Test.YtaomlgpakbjegaaGreatDoorMapK
import Derived.Test.YtaomlgpakbjegaaGreatDoorRowB
import Derived.Test.YtaomlgpakbjegaaGreatDoorMg4
import Derived.Test.YtaomlgpakbjegaaGreatDoorValA
import Derived.Test.YtaomlgpakbjegaaGreatDoorValB
import Derived.Test.YtaomlgpakbjegaaGreatDoorValC
import Derived.Test.YtaomlgpakbjegaaGreatDoorAddrC
import Derived.Test.YtaomlgpakbjegaaGreatDoorAddrI
import Derived.Test.YtaomlgpakbjegaaGreatDoorArgK
import Derived.Test.YtaomlgpakbjegaaGreatDoorDFlo
import Derived.Test.YtaomlgpakbjegaaGreatDoorProg
import Derived.Test.YtaomlgpakbjegaaGreatDoorMg1
import Derived.Test.YtaomlgpakbjegaaGreatDoorMg15
import Derived.Test.YtaomlgpakbjegaaGreatDoorValL
import Derived.Maps.AppendAt
import Derived.WalkSpells
import Derived.WalkLawsBesides
import Derived.StillTactics
import Derived.Laws.Pointers
import Derived.Deep.RegionHeld3
import Derived.Deep.QuietTactic
import Derived.BigQuiet
import Derived.RowKit3
import Derived.Lib.Hide
import Derived.Lib.OthersKept
import Derived.OwnWalk
import Derived.Lib.IndexLaws
import Derived.Lib.ItoaMem
import Derived.WalkKit
import Derived.ProofKit
import Derived.OpenShut
import Derived.Carry
import Derived.ChangeSame
import Derived.Deep.Draws
import Derived.Maps.OwnSet
import Derived.Laws.EntriesVeiled
import Derived.Laws.BitsAllLaws
import Derived.Shelf.Strings.Builder1
import Derived.Shelf.Strings.Builder2
import Derived.Shelf.Strings.OnBuilder
import Derived.Shelf.Strings.Trim
import Derived.Shelf.Small.Utf8
import Derived.Shelf.Small.Bits
import Derived.Shelf.Small.Strs
import Derived.Shelf.Small.Wraps
import Derived.Shelf.Strings.BuilderF
import Derived.Shelf.Strings.BuilderK
import Derived.Shelf.Strconv.Itoa0
import Derived.Shelf.Strconv.Itoa1
import Derived.Shelf.LaysM
import Derived.Shelf.Strconv.Itoa2
import Derived.Ground.MpProg
import Derived.Shelf.Pu.ParseUintPublic10
import Derived.Shelf.Strings.Search1
import Derived.Shelf.Strings.Search2
import Derived.Shelf.Strings.Search3
import Derived.Shelf.Strings.Cut
import Derived.Shelf.Strings.Shaped
import Derived.Shelf.Strings.Prefix
import Derived.Shelf.Strings.Runes
import Derived.Shelf.Strings.AsciiSet
import Derived.Shelf.Bits.Mul64
import Derived.Shelf.Strings.Repeat
import Derived.Shelf.Unicode.DecodeSlow
import Derived.Ground.SlgmProg
import Derived.Shelf.SortM.Plain
import Derived.Shelf.SortM.SortNone
import Derived.Lib.TrimByte
import Derived.Lib.Bytealg
import Derived.Lib.SlTrimSet
import Derived.Lib.ParseIntB
import Derived.Shelf.Strings.SlTrimAscii
import Derived.Lib.SmallJoins
import Derived.Deep.RegionWith
namespace Go.Proofs.YtaomlgpakbjegaaGreatDoor
open Go.RowKit

def VL.asN (v : VL) : Int := if v.may = true then (if v.t = 1 then v.n else if v.t = 3 then (if v.b = true then 10000 else 0) else 0) else 0
def VL.asC (v : VL) : Int := if v.may = true then (if v.t = 4 then v.c else if v.t = 2 then 4 else 0) else 8
theorem asnum_any (v : VL) (hv : v.ok) (w : World) : Calls Tryz.prog 44 #[.agg #[.int .i64 v.t, .int .i64 v.n, .string v.s, .bool v.b, .int .i64 v.c]] w fun e w' => e = .returned (.tuple #[.int .i64 v.asN, .int .i64 v.asC]) ∧ Below w.heap.size w w' := by
  obtain ⟨t, n, s, b, c⟩ := v
  have hn : -9223372036854775808 ≤ n ∧ n ≤ 9223372036854775807 := hv
  unfold VL.asN VL.asC VL.may
  cases m : vMay t n s b c
  · exact asnum_N t n s b c hn m w
  · obtain ⟨h1, h2, h3, h4, h5, h6, h7, h8⟩ := (vMay_iff t n s b c).1 m
    have ht : t = 0 ∨ t = 1 ∨ t = 2 ∨ t = 3 ∨ t = 4 := by omega
    rcases ht with rfl | rfl | rfl | rfl | rfl
    · obtain rfl : n = 0 := by omega
      obtain rfl : s = ⟨#[]⟩ := by rcases h4 with h | h; omega; exact h
      obtain rfl : b = false := by rcases h5 with h | h; omega; exact h
      obtain rfl : c = 0 := by omega
      exact asnum_0 w
    · obtain rfl : s = ⟨#[]⟩ := by rcases h4 with h | h; omega; exact h
      obtain rfl : b = false := by rcases h5 with h | h; omega; exact h
      obtain rfl : c = 0 := by omega
      exact asnum_1 n hn (h7 rfl) w
    · obtain rfl : n = 0 := by omega
      obtain rfl : b = false := by rcases h5 with h | h; omega; exact h
      obtain rfl : c = 0 := by omega
      exact asnum_2 s w
    · obtain rfl : n = 0 := by omega
      obtain rfl : s = ⟨#[]⟩ := by rcases h4 with h | h; omega; exact h
      obtain rfl : c = 0 := by omega
      cases b
      · exact asnum_f w
      · exact asnum_t w
    · obtain rfl : n = 0 := by omega
      obtain rfl : s = ⟨#[]⟩ := by rcases h4 with h | h; omega; exact h
      obtain rfl : b = false := by rcases h5 with h | h; omega; exact h
      exact asnum_4 c (h8 rfl) w
theorem asN_in (v : VL) (hv : v.ok) : -9223372036854775807 ≤ v.asN ∧ v.asN ≤ 9223372036854775807 := by
  have hn : -9223372036854775808 ≤ v.n ∧ v.n ≤ 9223372036854775807 := hv
  unfold VL.asN
  split
  · rename_i h
    obtain ⟨h1, h2, h3, h4, h5, h6, h7, h8⟩ := (vMay_iff v.t v.n v.s v.b v.c).1 h
    split
    · rename_i ht; have := h7 ht; omega
    · split
      · split <;> omega
      · omega
  · omega
theorem bool_info : (Tryz.prog.info? 4).map (fun i => (i.zero, i.size, i.bytes)) = some (some (.bool false), 1, 1) := by kernel_rfl
theorem ownsRow_rd {w : World} {B : Nat} {e : TypeId} {v : Value} {n : Nat} {xs : List Value} (h : w.ownsRow B e 1 v n xs) : ∃ A cap, v = .slice A n cap ∧ RdB w w.heap.size A 1 (xs.map fun x => [x]) := by
  obtain ⟨h1, h2⟩ := h
  rcases h2 with ⟨rfl, rfl⟩ | ⟨g, cap, cur, rfl, hB, hh, hnc, hm, hs, ht⟩
  · obtain rfl : xs = [] := List.eq_nil_of_length_eq_zero (by simpa using h1)
    exact ⟨none, 0, rfl, fun i c hi => by simp at hi⟩
  · refine ⟨_, cap, rfl, fun i c hi => ?_⟩
    rw [List.getElem?_map] at hi
    cases hx : xs[i]? with
    | none => rw [hx] at hi; cases hi
    | some x =>
      rw [hx] at hi; simp at hi; subst hi
      refine ⟨g, 0, rfl, (Array.getElem?_eq_some_iff.1 hh).1, fun j u hj => ?_⟩
      rcases j with _ | j
      · simp at hj; subst hj
        have hi2 : i < xs.length := (List.getElem?_eq_some_iff.1 hx).1
        rw [cell_of_row w g _ cur _ (0, 0) hh, ← Array.getElem?_toList]
        have : (cur.toList.take (n * 1))[i]? = some x := by rw [ht, hx]
        rw [List.getElem?_take, if_pos (by omega)] at this
        simpa using this
      · simp at hj
end Go.Proofs.YtaomlgpakbjegaaGreatDoor
