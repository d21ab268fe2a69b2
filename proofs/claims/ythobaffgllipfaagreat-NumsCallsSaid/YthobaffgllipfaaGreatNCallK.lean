/-
  nums: Call, what its parts answer.
-/
import Derived.Test.YthobaffgllipfaaGreatRows
import Derived.Test.YthobaffgllipfaaGreatBase
import Derived.Test.YthobaffgllipfaaGreatMapK
import Derived.Test.YthobaffgllipfaaGreatNFind
import Derived.Test.YthobaffgllipfaaGreatMg3
import Derived.Test.YthobaffgllipfaaGreatValA
import Derived.Test.YthobaffgllipfaaGreatValB
import Derived.Test.YthobaffgllipfaaGreatDecS
import Derived.Test.YthobaffgllipfaaGreatValC
import Derived.Test.YthobaffgllipfaaGreatAddrC
import Derived.Test.YthobaffgllipfaaGreatMg9
import Derived.Test.YthobaffgllipfaaGreatDMod
import Derived.Test.YthobaffgllipfaaGreatDFlo
import Derived.Test.YthobaffgllipfaaGreatProg
import Derived.Test.YthobaffgllipfaaGreatMg12
import Derived.Test.YthobaffgllipfaaGreatDRnd
import Derived.Test.YthobaffgllipfaaGreatMg14
import Derived.Test.YthobaffgllipfaaGreatKnuth
import Derived.Test.YthobaffgllipfaaGreatDDiv
import Derived.Test.YthobaffgllipfaaGreatMg17
import Derived.Test.YthobaffgllipfaaGreatNDoA
import Derived.Test.YthobaffgllipfaaGreatNDoB
import Derived.Test.YthobaffgllipfaaGreatNDoC
import Derived.Test.YthobaffgllipfaaGreatMg21
import Derived.Test.YthobaffgllipfaaGreatNCall
import Derived.Test.YthobaffgllipfaaGreatValL
import Derived.Maps.AppendAt
import Derived.WalkSpells
import Derived.WalkLawsBesides
import Derived.StillTactics
import Derived.Laws.Pointers
import Derived.Deep.RegionHeld3
import Derived.Deep.QuietTactic
import Derived.BigQuiet
import Derived.RowKit3
import Derived.Lib.Hide
import Derived.Lib.OthersKept
import Derived.OwnWalk
import Derived.Lib.IndexLaws
import Derived.Lib.ItoaMem
import Derived.WalkKit
import Derived.ProofKit
import Derived.OpenShut
import Derived.Carry
import Derived.ChangeSame
import Derived.Deep.Draws
import Derived.Maps.OwnSet
import Derived.Laws.EntriesVeiled
import Derived.Laws.BitsAllLaws
import Derived.Shelf.Small.Bits
import Derived.Shelf.Strconv.Itoa0
import Derived.Shelf.Bits.Mul64
import Derived.Lib.TrimByte
import Derived.Lib.Bytealg
import Derived.Lib.SlTrimSet
import Derived.Lib.ParseIntB
import Derived.Shelf.Strings.SlTrimAscii
import Derived.Lib.SmallJoins
import Derived.Deep.RegionWith
namespace Go.Proofs.YthobaffgllipfaaGreat
open Go.RowKit

def VL.asN (v : VL) : Int := if v.may = true then (if v.t = 1 then v.n else if v.t = 3 then (if v.b = true then 10000 else 0) else 0) else 0
def VL.asC (v : VL) : Int := if v.may = true then (if v.t = 4 then v.c else if v.t = 2 then 4 else 0) else 8
theorem asnum_any (v : VL) (hv : v.ok) (w : World) : Calls Tryz.prog 10 #[.agg #[.int .i64 v.t, .int .i64 v.n, .string v.s, .bool v.b, .int .i64 v.c]] w fun e w' => e = .returned (.tuple #[.int .i64 v.asN, .int .i64 v.asC]) ∧ Below w.heap.size w w' := by
  obtain ⟨t, n, s, b, c⟩ := v
  have hn : -9223372036854775808 ≤ n ∧ n ≤ 9223372036854775807 := hv
  unfold VL.asN VL.asC VL.may
  cases m : vMay t n s b c
  · exact asnum_N t n s b c hn m w
  · obtain ⟨h1, h2, h3, h4, h5, h6, h7, h8⟩ := (vMay_iff t n s b c).1 m
    have ht : t = 0 ∨ t = 1 ∨ t = 2 ∨ t = 3 ∨ t = 4 := by omega
    rcases ht with rfl | rfl | rfl | rfl | rfl
    · obtain rfl : n = 0 := by omega
      obtain rfl : s = ⟨#[]⟩ := by rcases h4 with h | h; omega; exact h
      obtain rfl : b = false := by rcases h5 with h | h; omega; exact h
      obtain rfl : c = 0 := by omega
      exact asnum_0 w
    · obtain rfl : s = ⟨#[]⟩ := by rcases h4 with h | h; omega; exact h
      obtain rfl : b = false := by rcases h5 with h | h; omega; exact h
      obtain rfl : c = 0 := by omega
      exact asnum_1 n hn (h7 rfl) w
    · obtain rfl : n = 0 := by omega
      obtain rfl : b = false := by rcases h5 with h | h; omega; exact h
      obtain rfl : c = 0 := by omega
      exact asnum_2 s w
    · obtain rfl : n = 0 := by omega
      obtain rfl : s = ⟨#[]⟩ := by rcases h4 with h | h; omega; exact h
      obtain rfl : c = 0 := by omega
      cases b
      · exact asnum_f w
      · exact asnum_t w
    · obtain rfl : n = 0 := by omega
      obtain rfl : s = ⟨#[]⟩ := by rcases h4 with h | h; omega; exact h
      obtain rfl : b = false := by rcases h5 with h | h; omega; exact h
      exact asnum_4 c (h8 rfl) w
theorem asN_in (v : VL) (hv : v.ok) : -9223372036854775807 ≤ v.asN ∧ v.asN ≤ 9223372036854775807 := by
  have hn : -9223372036854775808 ≤ v.n ∧ v.n ≤ 9223372036854775807 := hv
  unfold VL.asN
  split
  · rename_i h
    obtain ⟨h1, h2, h3, h4, h5, h6, h7, h8⟩ := (vMay_iff v.t v.n v.s v.b v.c).1 h
    split
    · rename_i ht; have := h7 ht; omega
    · split
      · split <;> omega
      · omega
  · omega
theorem bool_info : (Tryz.prog.info? 4).map (fun i => (i.zero, i.size, i.bytes)) = some (some (.bool false), 1, 1) := by kernel_rfl
theorem i64_info : (Tryz.prog.info? 2).map (fun i => (i.zero, i.size, i.bytes)) = some (some (.int .i64 0), 1, 8) := by kernel_rfl
/-- what the called function answers, wherever the numbers lie -/
structure DoAt (name : ByteArray) (l : List Int) (r : VL) : Prop where
  out : ∀ (w : World) (b0 b1 b2 : Nat) (lo mo : Int) (d : Value), lookL nZero (nTab b0 b1 b2) name = .agg #[.int .i64 lo, .int .i64 mo, d] → b0 < w.heap.size → b1 < w.heap.size → b2 < w.heap.size →
    w.cell? ⟨b0, 0, none⟩ = some (.func (.func 38) #[] #[]) → w.cell? ⟨b1, 0, none⟩ = some (.func (.func 39) #[] #[]) → w.cell? ⟨b2, 0, none⟩ = some (.func (.func 46) #[] #[]) →
    ∀ gb cap, gb < w.heap.size → l.length ≤ cap → (∀ (j : Nat) (x : Int), l[j]? = some x → w.cell? ⟨gb, j, none⟩ = some (.int .i64 x)) →
    ∃ g c, d = .func (.func g) #[] c ∧ (∀ args w, Sem.run Tryz.prog (callFunc g args) w = .ok (.enter g args) w) ∧ Calls Tryz.prog g (#[.slice (some ⟨gb, 0, none⟩) l.length cap] ++ c) w fun e w' => e = .returned (.agg #[.int .i64 (r).t, .int .i64 (r).n, .string (r).s, .bool (r).b, .int .i64 (r).c]) ∧ Below w.heap.size w w'
theorem nLo_pos (s : ByteArray) (h : nKnown s = true) : 1 ≤ nLo s := by
  unfold nKnown nTab at h
  unfold nLo
  by_cases h0 : s = ⟨#[79, 68, 68]⟩
  · rw [if_pos h0]; omega
  rw [if_neg h0]
  by_cases h1 : s = ⟨#[67, 76, 65, 77, 80]⟩
  · rw [if_pos h1]; omega
  rw [if_neg h1]
  by_cases h2 : s = ⟨#[70, 65, 67, 84]⟩
  · rw [if_pos h2]; omega
  rw [if_neg h2]
  by_cases h3 : s = ⟨#[76, 67, 77]⟩
  · rw [if_pos h3]; omega
  rw [if_neg h3]
  by_cases h4 : s = ⟨#[71, 67, 68]⟩
  · rw [if_pos h4]; omega
  rw [if_neg h4]
  by_cases h5 : s = ⟨#[83, 81, 82, 84]⟩
  · rw [if_pos h5]; omega
  rw [if_neg h5]
  by_cases h6 : s = ⟨#[80, 79, 87, 69, 82]⟩
  · rw [if_pos h6]; omega
  rw [if_neg h6]
  by_cases h7 : s = ⟨#[81, 85, 79, 84]⟩
  · rw [if_pos h7]; omega
  rw [if_neg h7]
  by_cases h8 : s = ⟨#[77, 79, 68]⟩
  · rw [if_pos h8]; omega
  rw [if_neg h8]
  by_cases h9 : s = ⟨#[67, 69, 73, 76]⟩
  · rw [if_pos h9]; omega
  rw [if_neg h9]
  by_cases h10 : s = ⟨#[70, 76, 79, 79, 82]⟩
  · rw [if_pos h10]; omega
  rw [if_neg h10]
  by_cases h11 : s = ⟨#[82, 79, 85, 78, 68]⟩
  · rw [if_pos h11]; omega
  rw [if_neg h11]
  by_cases h12 : s = ⟨#[84, 82, 85, 78, 67]⟩
  · rw [if_pos h12]; omega
  rw [if_neg h12]
  by_cases h13 : s = ⟨#[73, 78, 84]⟩
  · rw [if_pos h13]; omega
  rw [if_neg h13]
  by_cases h14 : s = ⟨#[83, 73, 71, 78]⟩
  · rw [if_pos h14]; omega
  rw [if_neg h14]
  by_cases h15 : s = ⟨#[65, 66, 83]⟩
  · rw [if_pos h15]; omega
  rw [if_neg h15]
  simp only [hasL] at h
  simp [h0, h1, h2, h3, h4, h5, h6, h7, h8, h9, h10, h11, h12, h13, h14, h15] at h
theorem takesN_pos {s : ByteArray} {n : Nat} {z : Bool} (h : takesN s n z = true) : 1 ≤ n := by
  unfold takesN at h
  simp at h
  have := nLo_pos s h.1.1.1
  omega
theorem ownsRow_i64 {w : World} {B : Nat} {v : Value} {l : List Int} {n : Nat} (h : w.ownsRow B 2 1 v n (l.map fun n => Value.int .i64 n)) (hn : 0 < n) : ∃ g cap, v = .slice (some ⟨g, 0, none⟩) n cap ∧ B ≤ g ∧ n ≤ cap ∧ ∀ (j : Nat) (x : Int), l[j]? = some x → w.cell? ⟨g, j, none⟩ = some (.int .i64 x) := by
  obtain ⟨h1, h2⟩ := h
  rcases h2 with ⟨_, rfl⟩ | ⟨g, cap, cur, rfl, hB, hh, hnc, hm, hs, ht⟩
  · omega
  · refine ⟨g, cap, rfl, hB, hnc, fun j x hx => ?_⟩
    have hj : j < l.length := (List.getElem?_eq_some_iff.1 hx).1
    have hlen : l.length = n := by simpa using h1
    rw [cell_of_row w g j cur _ (0, 0) hh, ← Array.getElem?_toList]
    have : (cur.toList.take (n * 1))[j]? = some (.int .i64 x) := by rw [ht, List.getElem?_map, hx]; rfl
    rw [List.getElem?_take] at this
    rw [if_pos (by omega)] at this
    exact this
theorem cell_lt {w : World} {b j : Nat} {v : Value} (h : w.cell? ⟨b, j, none⟩ = some v) : b < w.heap.size := by
  rcases Nat.lt_or_ge b w.heap.size with h1 | h1
  · exact h1
  · unfold World.cell? at h
    rw [Array.getElem?_eq_none h1] at h
    cases h
def callS2 (l : List AL) (r : VL) : VL :=
  match l.find? (fun x => decide (x.v.asC ≠ 0)) with
    | some x => errL x.v.asC
    | none => r
/-- the first Fault; else the first that is no number; else r -/
def callS (l : List AL) (r : VL) : VL :=
  match l.find? (fun x => decide (x.v.t = 4)) with
    | some x => x.v
    | none => callS2 l r
/-- what Call answers: r where the function is called -/
def callR (name : ByteArray) (l : List AL) (r : VL) : VL :=
  if l.all argMay = false then errL 8
  else if takesN name l.length (l.any fun x => (true == x.many)) = false then errL 8
  else callS l r
/-- 'may' of each argument by its contract -/
structure MaysAt (l : List AL) : Prop where
  out : ∀ x ∈ l, ∀ w : World, x.In w w.heap.size → Calls Tryz.prog 7 #[.agg #[.bool x.many, .int .i64 x.v.t, .int .i64 x.v.n, .string x.v.s, .bool x.v.b, .int .i64 x.v.c, .int .i64 x.t, .int .i64 x.l, .int .i64 x.b, .int .i64 x.r, .slice x.A x.es.length x.cap]] w fun e w' => e = .returned (.bool (argMay x)) ∧ Below w.heap.size w w'
theorem ownsRow_rd {w : World} {B : Nat} {e : TypeId} {v : Value} {n : Nat} {xs : List Value} (h : w.ownsRow B e 1 v n xs) : ∃ A cap, v = .slice A n cap ∧ RdB w w.heap.size A 1 (xs.map fun x => [x]) := by
  obtain ⟨h1, h2⟩ := h
  rcases h2 with ⟨rfl, rfl⟩ | ⟨g, cap, cur, rfl, hB, hh, hnc, hm, hs, ht⟩
  · obtain rfl : xs = [] := List.eq_nil_of_length_eq_zero (by simpa using h1)
    exact ⟨none, 0, rfl, fun i c hi => by simp at hi⟩
  · refine ⟨_, cap, rfl, fun i c hi => ?_⟩
    rw [List.getElem?_map] at hi
    cases hx : xs[i]? with
    | none => rw [hx] at hi; cases hi
    | some x =>
      rw [hx] at hi; simp at hi; subst hi
      refine ⟨g, 0, rfl, (Array.getElem?_eq_some_iff.1 hh).1, fun j u hj => ?_⟩
      rcases j with _ | j
      · simp at hj; subst hj
        have hi2 : i < xs.length := (List.getElem?_eq_some_iff.1 hx).1
        rw [cell_of_row w g _ cur _ (0, 0) hh, ← Array.getElem?_toList]
        have : (cur.toList.take (n * 1))[i]? = some x := by rw [ht, hx]
        rw [List.getElem?_take, if_pos (by omega)] at this
        simpa using this
      · simp at hj
end Go.Proofs.YthobaffgllipfaaGreat
