/-
  print: the sign between two things, plain.
-/
import Derived.Test.YtfbkoieodflcpaaDoorMg4
import Derived.Test.YtfbkoieodflcpaaDoorRows
import Derived.Test.YtfbkoieodflcpaaDoorBase
import Derived.Test.YtfbkoieodflcpaaDoorProg
import Derived.Test.YtfbkoieodflcpaaDoorShelf
import Derived.Test.YtfbkoieodflcpaaDoorAddrC
import Derived.Test.YtfbkoieodflcpaaDoorMg6
import Derived.Test.YtfbkoieodflcpaaDoorDecA
import Derived.Test.YtfbkoieodflcpaaDoorValA
import Derived.Test.YtfbkoieodflcpaaDoorValB
import Derived.Test.YtfbkoieodflcpaaDoorMg11
import Derived.Test.YtfbkoieodflcpaaDoorMg10
import Derived.Test.YtfbkoieodflcpaaDoorMapK
import Derived.Test.YtfbkoieodflcpaaDoorRefP
import Derived.Test.YtfbkoieodflcpaaDoorRefQ
import Derived.Test.YtfbkoieodflcpaaDoorShelfC
import Derived.Test.YtfbkoieodflcpaaDoorFmtU
import Derived.Test.YtfbkoieodflcpaaDoorNameX
import Derived.Test.YtfbkoieodflcpaaDoorNameY
import Derived.Test.YtfbkoieodflcpaaDoorDPrint
import Derived.Test.YtfbkoieodflcpaaDoorValL
import Derived.Test.YtfbkoieodflcpaaDoorPrP
import Derived.Test.YtfbkoieodflcpaaDoorPrA
import Derived.Test.YtfbkoieodflcpaaDoorPrS
import Derived.Test.YtfbkoieodflcpaaDoorPrT
import Derived.Test.YtfbkoieodflcpaaDoorPrO1
import Derived.Test.YtfbkoieodflcpaaDoorPrO2
import Derived.Test.YtfbkoieodflcpaaDoorMg26
import Derived.Test.YtfbkoieodflcpaaDoorNumP
import Derived.Test.YtfbkoieodflcpaaDoorPrO5
import Derived.Test.YtfbkoieodflcpaaDoorRefN
import Derived.Test.YtfbkoieodflcpaaDoorRefM
import Derived.Test.YtfbkoieodflcpaaDoorRefY
import Derived.Test.YtfbkoieodflcpaaDoorRefZ
import Derived.Test.YtfbkoieodflcpaaDoorPrO6
import Derived.Test.YtfbkoieodflcpaaDoorPrO7
import Derived.WalkSpells
import Derived.WalkLawsBesides
import Derived.StillTactics
import Derived.Laws.Pointers
import Derived.Deep.RegionHeld3
import Derived.Deep.QuietTactic
import Derived.BigQuiet
import Derived.RowKit3
import Derived.Lib.Hide
import Derived.Lib.OthersKept
import Derived.OwnWalk
import Derived.Lib.IndexLaws
import Derived.Lib.ItoaMem
import Derived.Lib.TrimByte
import Derived.Lib.SlTrimSet
import Derived.Lib.ParseIntB
import Derived.WalkKit
import Derived.ProofKit
import Derived.OpenShut
import Derived.Carry
import Derived.ChangeSame
import Derived.Deep.Draws
import Derived.Shelf.Strings.Builder1
import Derived.Shelf.Strings.Builder2
import Derived.Shelf.Strings.Trim
import Derived.Shelf.Small.Utf8
import Derived.Shelf.Small.Strs
import Derived.Shelf.Strings.BuilderF
import Derived.Shelf.Strings.BuilderK
import Derived.Shelf.Strconv.Itoa0
import Derived.Shelf.Strconv.Itoa1
import Derived.Shelf.LaysM
import Derived.Shelf.Strconv.Itoa2
import Derived.Shelf.Strconv.Itoa3
import Derived.Shelf.Strings.Search1
import Derived.Shelf.Strings.Search2
import Derived.Shelf.Strings.Search3
import Derived.Shelf.Strings.Count
import Derived.Shelf.Strings.Shaped
import Derived.Shelf.Strings.Split
import Derived.Shelf.Strings.Replace
import Derived.Shelf.Strings.Runes
import Derived.Shelf.Strings.AsciiSet
import Derived.Shelf.Unicode.DecodeSlow
import Derived.Lib.ItoaNum
import Derived.Maps.OwnSet
import Derived.Maps.AppendAt
import Derived.Lib.Bytealg
import Derived.Lib.Replace
namespace Go.Proofs.YtfbkoieodflcpaaDoor
open Go.RowKit

/-- neither '=' nor '>' begins it -/
def NoEq (r : List UInt8) : Prop := NoHead (fun b => decide (b = 61) || decide (b = 62)) r
theorem op_cases {a : Int} (h1 : 3 ≤ a) (h2 : a ≤ 13) : a = 3 ∨ a = 4 ∨ a = 5 ∨ a = 6 ∨ a = 7 ∨ a = 8 ∨ a = 9 ∨ a = 10 ∨ a = 11 ∨ a = 12 ∨ a = 13 := by omega
/-- a sign as its bytes: the first, and the second or none -/
def sgA (a : Int) : UInt8 := if a = 3 then 42 else if a = 4 then 47 else if a = 5 then 43 else if a = 6 then 45 else if a = 7 then 38 else if a = 8 then 61 else if a = 9 then 60 else if a = 10 then 60 else if a = 11 then 60 else 62
def sgB (a : Int) : UInt8 := if a = 9 then 62 else if a = 11 then 61 else if a = 13 then 61 else 0
theorem op_one {a : Int} (h1 : 3 ≤ a) (h2 : a ≤ 13) (h3 : a ≠ 9) (h4 : a ≠ 11) (h5 : a ≠ 13) : opT a = [sgA a] := by
  rcases op_cases h1 h2 with rfl | rfl | rfl | rfl | rfl | rfl | rfl | rfl | rfl | rfl | rfl <;> first | rfl | (exact absurd rfl ‹_›)
theorem op_two {a : Int} (h : a = 9 ∨ a = 11 ∨ a = 13) : opT a = [sgA a, sgB a] := by
  rcases h with rfl | rfl | rfl <;> rfl
theorem sgB_eq {a : Int} (h : a = 9 ∨ a = 11 ∨ a = 13) : sgB a = 61 ∨ sgB a = 62 := by
  rcases h with rfl | rfl | rfl <;> decide
theorem sg_inj1 {a b : Int} (h1 : 3 ≤ a) (h2 : a ≤ 13) (g1 : 3 ≤ b) (g2 : b ≤ 13) (h3 : a ≠ 9 ∧ a ≠ 11 ∧ a ≠ 13) (g3 : b ≠ 9 ∧ b ≠ 11 ∧ b ≠ 13) (e : sgA a = sgA b) : a = b := by
  have ha : a = 3 ∨ a = 4 ∨ a = 5 ∨ a = 6 ∨ a = 7 ∨ a = 8 ∨ a = 10 ∨ a = 12 := by omega
  have hb : b = 3 ∨ b = 4 ∨ b = 5 ∨ b = 6 ∨ b = 7 ∨ b = 8 ∨ b = 10 ∨ b = 12 := by omega
  rcases ha with rfl | rfl | rfl | rfl | rfl | rfl | rfl | rfl <;> rcases hb with rfl | rfl | rfl | rfl | rfl | rfl | rfl | rfl <;> first | rfl | (exact absurd e (by decide))
theorem sg_inj2 {a b : Int} (h : a = 9 ∨ a = 11 ∨ a = 13) (g : b = 9 ∨ b = 11 ∨ b = 13) (e : sgA a = sgA b) (e2 : sgB a = sgB b) : a = b := by
  rcases h with rfl | rfl | rfl <;> rcases g with rfl | rfl | rfl <;> first | rfl | (exact absurd e (by decide)) | (exact absurd e2 (by decide))
theorem sign_split {a b : Int} (h1 : 3 ≤ a) (h2 : a ≤ 13) (g1 : 3 ≤ b) (g2 : b ≤ 13) (r1 r2 : List UInt8) (s1 : NoEq r1) (s2 : NoEq r2) (e : opT a ++ r1 = opT b ++ r2) : a = b ∧ r1 = r2 := by
  by_cases ha : a = 9 ∨ a = 11 ∨ a = 13
  · by_cases hb : b = 9 ∨ b = 11 ∨ b = 13
    · rw [op_two ha, op_two hb] at e
      injection e with e1 e
      injection e with e2 e
      exact ⟨sg_inj2 ha hb e1 e2, e⟩
    · rw [op_two ha, op_one g1 g2 (by omega) (by omega) (by omega)] at e
      injection e with e1 e
      have h := s2 (sgB a) r1 e.symm
      rcases sgB_eq ha with hs | hs <;> (rw [hs] at h; exact absurd h (by decide))
  · by_cases hb : b = 9 ∨ b = 11 ∨ b = 13
    · rw [op_two hb, op_one h1 h2 (by omega) (by omega) (by omega)] at e
      injection e with e1 e
      have h := s1 (sgB b) r2 e
      rcases sgB_eq hb with hs | hs <;> (rw [hs] at h; exact absurd h (by decide))
    · rw [op_one h1 h2 (by omega) (by omega) (by omega), op_one g1 g2 (by omega) (by omega) (by omega)] at e
      injection e with e1 e
      exact ⟨sg_inj1 h1 h2 g1 g2 (by omega) (by omega) e1, e⟩
end Go.Proofs.YtfbkoieodflcpaaDoor
