/-
  Package dec: Floor, Whole of both; nums: numbers, faults, wholes; nums: Call, what its parts answer.
-/
import Derived.Test.YtaomlgpakbjegaaGreatDoorRows
import Derived.Test.YtaomlgpakbjegaaGreatDoorBase
import Derived.Test.YtaomlgpakbjegaaGreatDoorMg5
import Derived.Test.YtaomlgpakbjegaaGreatDoorMg4
import Derived.Test.YtaomlgpakbjegaaGreatDoorValA
import Derived.Test.YtaomlgpakbjegaaGreatDoorValB
import Derived.Test.YtaomlgpakbjegaaGreatDoorValC
import Derived.Test.YtaomlgpakbjegaaGreatDoorAddrC
import Derived.Test.YtaomlgpakbjegaaGreatDoorMg10
import Derived.Test.YtaomlgpakbjegaaGreatDoorMapK
import Derived.Test.YtaomlgpakbjegaaGreatDoorProg
import Derived.Test.YtaomlgpakbjegaaGreatDoorShelf
import Derived.Test.YtaomlgpakbjegaaGreatDoorMg2
import Derived.Test.YtaomlgpakbjegaaGreatDoorMg13
import Derived.Test.YtaomlgpakbjegaaGreatDoorDPrint
import Derived.Test.YtaomlgpakbjegaaGreatDoorRPr
import Derived.Test.YtaomlgpakbjegaaGreatDoorKnuth
import Derived.Test.YtaomlgpakbjegaaGreatDoorDDiv
import Derived.Test.YtaomlgpakbjegaaGreatDoorDDig
import Derived.Test.YtaomlgpakbjegaaGreatDoorCutW
import Derived.Test.YtaomlgpakbjegaaGreatDoorDParse
import Derived.Test.YtaomlgpakbjegaaGreatDoorDecK
import Derived.Test.YtaomlgpakbjegaaGreatDoorDDivA
import Derived.Test.YtaomlgpakbjegaaGreatDoorMg23
import Derived.Test.YtaomlgpakbjegaaGreatDoorValL
import Derived.WalkSpells
import Derived.WalkLawsBesides
import Derived.StillTactics
import Derived.Laws.Pointers
import Derived.Deep.RegionHeld3
import Derived.Deep.QuietTactic
import Derived.BigQuiet
import Derived.RowKit3
import Derived.Lib.Hide
import Derived.Lib.OthersKept
import Derived.OwnWalk
import Derived.Lib.IndexLaws
import Derived.Lib.ItoaMem
import Derived.WalkKit
import Derived.ProofKit
import Derived.OpenShut
import Derived.Carry
import Derived.ChangeSame
import Derived.Deep.Draws
import Derived.Laws.BitsAllLaws
import Derived.Maps.OwnSet
import Derived.Maps.AppendAt
import Derived.Shelf.Strings.Builder1
import Derived.Shelf.Strings.Builder2
import Derived.Shelf.Strings.OnBuilder
import Derived.Shelf.Strings.Trim
import Derived.Shelf.Small.Utf8
import Derived.Shelf.Small.Bits
import Derived.Shelf.Small.Strs
import Derived.Shelf.Small.Wraps
import Derived.Shelf.Strings.BuilderF
import Derived.Shelf.Strings.BuilderK
import Derived.Shelf.Strconv.Itoa0
import Derived.Shelf.Strconv.Itoa1
import Derived.Shelf.LaysM
import Derived.Shelf.Strconv.Itoa2
import Derived.Ground.MpProg
import Derived.Shelf.Pu.ParseUintPublic10
import Derived.Shelf.Strings.Search1
import Derived.Shelf.Strings.Search2
import Derived.Shelf.Strings.Search3
import Derived.Shelf.Strings.Cut
import Derived.Shelf.Strings.Shaped
import Derived.Shelf.Strings.Prefix
import Derived.Shelf.Strings.Runes
import Derived.Shelf.Strings.AsciiSet
import Derived.Shelf.Bits.Mul64
import Derived.Shelf.Strings.Repeat
import Derived.Shelf.Unicode.DecodeSlow
import Derived.Ground.SlgmProg
import Derived.Shelf.SortM.Plain
import Derived.Shelf.SortM.SortNone
import Derived.Lib.TrimByte
import Derived.Lib.Bytealg
import Derived.Lib.SlTrimSet
import Derived.Lib.ParseIntB
import Derived.Shelf.Strings.SlTrimAscii
import Derived.Lib.SmallJoins
import Derived.Laws.EntriesVeiled
import Derived.Deep.RegionWith
namespace Go.Proofs.YtaomlgpakbjegaaGreatDoor
open Go.RowKit

/-- Floor -/
def floorV (x : Int) : Int := if x = -9223372036854775808 then 0 else subV x (modM x 10000)
def floorC (x : Int) : Int := if x = -9223372036854775808 then 2 else subC x (modM x 10000)
/-- Whole -/
def wholeV (x : Int) : Int := if x ≠ -9223372036854775808 ∧ x.tmod 10000 = 0 then x.tdiv 10000 else 0
def wholeB (x : Int) : Bool := decide (x ≠ -9223372036854775808) && decide (x.tmod 10000 = 0)
theorem modM_pos (a : Int) : 0 ≤ modM a 10000 ∧ modM a 10000 < 10000 := by
  have hr := tmod_lt a 10000 (by omega)
  unfold modM
  by_cases h4 : a.tmod 10000 = 0
  · rw [if_neg (by intro hh; exact hh.1 h4), h4]; omega
  by_cases h5 : a.tmod 10000 < 0
  · rw [if_pos (by simp [h4, h5])]; omega
  · rw [if_neg (by simp [h5])]; omega
set_option maxHeartbeats 1000000 in
theorem whole_no (x : Int) (hx : -9223372036854775808 ≤ x ∧ x ≤ 9223372036854775807) (h : x = -9223372036854775808) (w : World) : Calls Tryz.prog 45 #[.int .i64 x] w fun e w' => e = .returned (.tuple #[.int .i64 0, .bool false]) ∧ w = w' := by
  have m1 := may_no h
  clear h
  go_enter Tryz.func45, Tryz.ntmps45
  go_wp2_with (go_at_call 107; refine (dmay_any _ (by first | assumption | (constructor <;> omega)) _).mono ?_; rintro e w1 ⟨rfl, rfl⟩)
  go_ret2
  exact ⟨rfl, rfl⟩
set_option maxHeartbeats 1000000 in
theorem whole_part (x : Int) (hx : -9223372036854775808 ≤ x ∧ x ≤ 9223372036854775807) (h : x ≠ -9223372036854775808) (m : Int) (hm : x.tmod 10000 = m) (h4 : (m != 0) = true) (w : World) : Calls Tryz.prog 45 #[.int .i64 x] w fun e w' => e = .returned (.tuple #[.int .i64 0, .bool false]) ∧ w = w' := by
  have m1 := may_yes h
  have hr := tmod_lt x 10000 (by omega)
  rw [hm] at hr
  have hr1 : -10000 < m ∧ m < 10000 := by omega
  clear hr h
  go_enter Tryz.func45, Tryz.ntmps45
  go_wp2_with (go_at_call 107; refine (dmay_any _ (by first | assumption | (constructor <;> omega)) _).mono ?_; rintro e w1 ⟨rfl, rfl⟩)
  go_ret2
  exact ⟨rfl, rfl⟩
set_option maxHeartbeats 1000000 in
theorem whole_yes (x : Int) (hx : -9223372036854775808 ≤ x ∧ x ≤ 9223372036854775807) (h : x ≠ -9223372036854775808) (hm : x.tmod 10000 = 0) (w : World) : Calls Tryz.prog 45 #[.int .i64 x] w fun e w' => e = .returned (.tuple #[.int .i64 (x.tdiv 10000), .bool true]) ∧ w = w' := by
  have m1 := may_yes h
  have hd : -9223372036854775808 ≤ x.tdiv 10000 ∧ x.tdiv 10000 ≤ 9223372036854775807 := by
    have h1 := Int.mul_tdiv_add_tmod x 10000
    omega
  clear h
  go_enter Tryz.func45, Tryz.ntmps45
  go_wp2_with (go_at_call 107; refine (dmay_any _ (by first | assumption | (constructor <;> omega)) _).mono ?_; rintro e w1 ⟨rfl, rfl⟩)
  go_ret2
  first | exact ⟨rfl, rfl⟩ | (refine ⟨ret_ib ?_ rfl, rfl⟩; first | exact IntWalk.i64_in _ hd | (unfold wrap64; omega))
theorem whole_any (x : Int) (hx : -9223372036854775808 ≤ x ∧ x ≤ 9223372036854775807) (w : World) : Calls Tryz.prog 45 #[.int .i64 x] w fun e w' => e = .returned (.tuple #[.int .i64 (wholeV x), .bool (wholeB x)]) ∧ w = w' := by
  by_cases h : x = -9223372036854775808
  · rw [show wholeV x = 0 from if_neg (by simp [h]), show wholeB x = false by simp [wholeB, h]]
    exact whole_no x hx h w
  by_cases hm : x.tmod 10000 = 0
  · rw [show wholeV x = x.tdiv 10000 from if_pos ⟨h, hm⟩, show wholeB x = true by simp [wholeB, h, hm]]
    exact whole_yes x hx h hm w
  · rw [show wholeV x = 0 from if_neg (by simp [hm]), show wholeB x = false by simp [wholeB, hm]]
    exact whole_part x hx h _ rfl (by simpa using hm) w
end Go.Proofs.YtaomlgpakbjegaaGreatDoor
namespace Go.Proofs.YtaomlgpakbjegaaGreatDoor
open Go.RowKit

def VL.val (v : VL) : Value := .agg #[.int .i64 v.t, .int .i64 v.n, .string v.s, .bool v.b, .int .i64 v.c]
def errL (c : Int) : VL := ⟨4, 0, ⟨#[]⟩, false, errC c⟩
def numL (x : Int) : VL := ⟨numT x, numN x, ⟨#[]⟩, false, numF x⟩
theorem verr_any (c : Int) (w : World) : Calls Tryz.prog 40 #[.int .i64 c] w fun e w' => e = .returned (.agg #[.int .i64 4, .int .i64 0, .string ⟨#[]⟩, .bool false, .int .i64 (errC c)]) ∧ Below w.heap.size w w' := by
  unfold errC
  by_cases h : 1 ≤ c ∧ c ≤ 8
  · rw [if_pos h]; exact verr_yes c h w
  · rw [if_neg h]; exact verr_no c h w
theorem vnum_any (x : Int) (hx : -9223372036854775808 ≤ x ∧ x ≤ 9223372036854775807) (w : World) : Calls Tryz.prog 162 #[.int .i64 x] w fun e w' => e = .returned (.agg #[.int .i64 (numT x), .int .i64 (numN x), .string ⟨#[]⟩, .bool false, .int .i64 (numF x)]) ∧ Below w.heap.size w w' := by
  unfold numT numN numF
  by_cases h : x = -9223372036854775808
  · rw [if_pos h, if_pos h, if_pos h]; exact vnum_no x hx h w
  · rw [if_neg h, if_neg h, if_neg h]; exact vnum_yes x hx h w
/-- a number, or what is wrong -/
def toldL (x c : Int) : VL := if c ≠ 0 then errL c else numL x
def wholeL (n : Nat) (low : Bool) : VL := if 922337203685477 < n then errL 2 else numL (if low then -((n : Int) * 10000) else (n : Int) * 10000)
end Go.Proofs.YtaomlgpakbjegaaGreatDoor
namespace Go.Proofs.YtaomlgpakbjegaaGreatDoor
open Go.RowKit

def VL.asN (v : VL) : Int := if v.may = true then (if v.t = 1 then v.n else if v.t = 3 then (if v.b = true then 10000 else 0) else 0) else 0
def VL.asC (v : VL) : Int := if v.may = true then (if v.t = 4 then v.c else if v.t = 2 then 4 else 0) else 8
theorem asnum_any (v : VL) (hv : v.ok) (w : World) : Calls Tryz.prog 44 #[.agg #[.int .i64 v.t, .int .i64 v.n, .string v.s, .bool v.b, .int .i64 v.c]] w fun e w' => e = .returned (.tuple #[.int .i64 v.asN, .int .i64 v.asC]) ∧ Below w.heap.size w w' := by
  obtain ⟨t, n, s, b, c⟩ := v
  have hn : -9223372036854775808 ≤ n ∧ n ≤ 9223372036854775807 := hv
  unfold VL.asN VL.asC VL.may
  cases m : vMay t n s b c
  · exact asnum_N t n s b c hn m w
  · obtain ⟨h1, h2, h3, h4, h5, h6, h7, h8⟩ := (vMay_iff t n s b c).1 m
    have ht : t = 0 ∨ t = 1 ∨ t = 2 ∨ t = 3 ∨ t = 4 := by omega
    rcases ht with rfl | rfl | rfl | rfl | rfl
    · obtain rfl : n = 0 := by omega
      obtain rfl : s = ⟨#[]⟩ := by rcases h4 with h | h; omega; exact h
      obtain rfl : b = false := by rcases h5 with h | h; omega; exact h
      obtain rfl : c = 0 := by omega
      exact asnum_0 w
    · obtain rfl : s = ⟨#[]⟩ := by rcases h4 with h | h; omega; exact h
      obtain rfl : b = false := by rcases h5 with h | h; omega; exact h
      obtain rfl : c = 0 := by omega
      exact asnum_1 n hn (h7 rfl) w
    · obtain rfl : n = 0 := by omega
      obtain rfl : b = false := by rcases h5 with h | h; omega; exact h
      obtain rfl : c = 0 := by omega
      exact asnum_2 s w
    · obtain rfl : n = 0 := by omega
      obtain rfl : s = ⟨#[]⟩ := by rcases h4 with h | h; omega; exact h
      obtain rfl : c = 0 := by omega
      cases b
      · exact asnum_f w
      · exact asnum_t w
    · obtain rfl : n = 0 := by omega
      obtain rfl : s = ⟨#[]⟩ := by rcases h4 with h | h; omega; exact h
      obtain rfl : b = false := by rcases h5 with h | h; omega; exact h
      exact asnum_4 c (h8 rfl) w
theorem asN_in (v : VL) (hv : v.ok) : -9223372036854775807 ≤ v.asN ∧ v.asN ≤ 9223372036854775807 := by
  have hn : -9223372036854775808 ≤ v.n ∧ v.n ≤ 9223372036854775807 := hv
  unfold VL.asN
  split
  · rename_i h
    obtain ⟨h1, h2, h3, h4, h5, h6, h7, h8⟩ := (vMay_iff v.t v.n v.s v.b v.c).1 h
    split
    · rename_i ht; have := h7 ht; omega
    · split
      · split <;> omega
      · omega
  · omega
theorem bool_info : (Tryz.prog.info? 4).map (fun i => (i.zero, i.size, i.bytes)) = some (some (.bool false), 1, 1) := by kernel_rfl
theorem i64_info : (Tryz.prog.info? 2).map (fun i => (i.zero, i.size, i.bytes)) = some (some (.int .i64 0), 1, 8) := by kernel_rfl
theorem ownsRow_i64 {w : World} {B : Nat} {v : Value} {l : List Int} {n : Nat} (h : w.ownsRow B 2 1 v n (l.map fun n => Value.int .i64 n)) (hn : 0 < n) : ∃ g cap, v = .slice (some ⟨g, 0, none⟩) n cap ∧ B ≤ g ∧ n ≤ cap ∧ ∀ (j : Nat) (x : Int), l[j]? = some x → w.cell? ⟨g, j, none⟩ = some (.int .i64 x) := by
  obtain ⟨h1, h2⟩ := h
  rcases h2 with ⟨_, rfl⟩ | ⟨g, cap, cur, rfl, hB, hh, hnc, hm, hs, ht⟩
  · omega
  · refine ⟨g, cap, rfl, hB, hnc, fun j x hx => ?_⟩
    have hj : j < l.length := (List.getElem?_eq_some_iff.1 hx).1
    have hlen : l.length = n := by simpa using h1
    rw [cell_of_row w g j cur _ (0, 0) hh, ← Array.getElem?_toList]
    have : (cur.toList.take (n * 1))[j]? = some (.int .i64 x) := by rw [ht, List.getElem?_map, hx]; rfl
    rw [List.getElem?_take] at this
    rw [if_pos (by omega)] at this
    exact this
theorem cell_lt {w : World} {b j : Nat} {v : Value} (h : w.cell? ⟨b, j, none⟩ = some v) : b < w.heap.size := by
  rcases Nat.lt_or_ge b w.heap.size with h1 | h1
  · exact h1
  · unfold World.cell? at h
    rw [Array.getElem?_eq_none h1] at h
    cases h
def callS2 (l : List AL) (r : VL) : VL :=
  match l.find? (fun x => decide (x.v.asC ≠ 0)) with
    | some x => errL x.v.asC
    | none => r
/-- the first Fault; else the first that is no number; else r -/
def callS (l : List AL) (r : VL) : VL :=
  match l.find? (fun x => decide (x.v.t = 4)) with
    | some x => x.v
    | none => callS2 l r
theorem ownsRow_rd {w : World} {B : Nat} {e : TypeId} {v : Value} {n : Nat} {xs : List Value} (h : w.ownsRow B e 1 v n xs) : ∃ A cap, v = .slice A n cap ∧ RdB w w.heap.size A 1 (xs.map fun x => [x]) := by
  obtain ⟨h1, h2⟩ := h
  rcases h2 with ⟨rfl, rfl⟩ | ⟨g, cap, cur, rfl, hB, hh, hnc, hm, hs, ht⟩
  · obtain rfl : xs = [] := List.eq_nil_of_length_eq_zero (by simpa using h1)
    exact ⟨none, 0, rfl, fun i c hi => by simp at hi⟩
  · refine ⟨_, cap, rfl, fun i c hi => ?_⟩
    rw [List.getElem?_map] at hi
    cases hx : xs[i]? with
    | none => rw [hx] at hi; cases hi
    | some x =>
      rw [hx] at hi; simp at hi; subst hi
      refine ⟨g, 0, rfl, (Array.getElem?_eq_some_iff.1 hh).1, fun j u hj => ?_⟩
      rcases j with _ | j
      · simp at hj; subst hj
        have hi2 : i < xs.length := (List.getElem?_eq_some_iff.1 hx).1
        rw [cell_of_row w g _ cur _ (0, 0) hh, ← Array.getElem?_toList]
        have : (cur.toList.take (n * 1))[i]? = some x := by rw [ht, hx]
        rw [List.getElem?_take, if_pos (by omega)] at this
        simpa using this
      · simp at hj
end Go.Proofs.YtaomlgpakbjegaaGreatDoor
