/-
  nums: the first Fault (plain).
-/
import Derived.Test.YthobaffgllipfaaRows
import Derived.Test.YthobaffgllipfaaBase
import Derived.Test.YthobaffgllipfaaMapK
import Derived.Test.YthobaffgllipfaaNFind
import Derived.Test.YthobaffgllipfaaRowB
import Derived.Test.YthobaffgllipfaaDecA
import Derived.Test.YthobaffgllipfaaValA
import Derived.Test.YthobaffgllipfaaValB
import Derived.Test.YthobaffgllipfaaDecS
import Derived.Test.YthobaffgllipfaaValC
import Derived.Test.YthobaffgllipfaaAddrC
import Derived.Test.YthobaffgllipfaaAddrI
import Derived.Test.YthobaffgllipfaaArgK
import Derived.Test.YthobaffgllipfaaDMod
import Derived.Test.YthobaffgllipfaaDFlo
import Derived.Test.YthobaffgllipfaaProg
import Derived.Test.YthobaffgllipfaaShelf
import Derived.Test.YthobaffgllipfaaPrintL
import Derived.Test.YthobaffgllipfaaDPrint
import Derived.Test.YthobaffgllipfaaDRnd
import Derived.Test.YthobaffgllipfaaDSqr
import Derived.Test.YthobaffgllipfaaKnuth
import Derived.Test.YthobaffgllipfaaDDiv
import Derived.Test.YthobaffgllipfaaDecK
import Derived.Test.YthobaffgllipfaaDDivA
import Derived.Test.YthobaffgllipfaaNDoA
import Derived.Test.YthobaffgllipfaaNDoB
import Derived.Test.YthobaffgllipfaaNDoC
import Derived.Test.YthobaffgllipfaaNDoD
import Derived.Test.YthobaffgllipfaaNDoE
import Derived.Test.YthobaffgllipfaaNCall
import Derived.Test.YthobaffgllipfaaValE
import Derived.Test.YthobaffgllipfaaValF
import Derived.Test.YthobaffgllipfaaValL
import Derived.Test.YthobaffgllipfaaNCallK
import Derived.Test.YthobaffgllipfaaNCallB
import Derived.Test.YthobaffgllipfaaNDoF
import Derived.Test.YthobaffgllipfaaNDoG
import Derived.Test.YthobaffgllipfaaNDoQ
import Derived.Test.YthobaffgllipfaaNDoAt
import Derived.Test.YthobaffgllipfaaNDoP
import Derived.Test.YthobaffgllipfaaNDoAt2
import Derived.Test.YthobaffgllipfaaDPow
import Derived.Test.YthobaffgllipfaaDPowB
import Derived.Test.YthobaffgllipfaaDPowC
import Derived.Test.YthobaffgllipfaaNDoAt3
import Derived.Test.YthobaffgllipfaaArgS
import Derived.Test.YthobaffgllipfaaNLaw
import Derived.WalkSpells
import Derived.WalkLawsBesides
import Derived.StillTactics
import Derived.Laws.Pointers
import Derived.Deep.RegionHeld3
import Derived.Deep.QuietTactic
import Derived.BigQuiet
import Derived.RowKit3
import Derived.Lib.Hide
import Derived.Lib.OthersKept
import Derived.OwnWalk
import Derived.Lib.IndexLaws
import Derived.Lib.ItoaMem
import Derived.WalkKit
import Derived.ProofKit
import Derived.OpenShut
import Derived.Carry
import Derived.ChangeSame
import Derived.Deep.Draws
import Derived.Maps.OwnSet
import Derived.Maps.AppendAt
import Derived.Laws.EntriesVeiled
import Derived.Laws.BitsAllLaws
import Derived.Shelf.Small.Bits
import Derived.Shelf.Strconv.Itoa0
import Derived.Shelf.Bits.Mul64
import Derived.Lib.TrimByte
import Derived.Lib.Bytealg
import Derived.Lib.SlTrimSet
import Derived.Lib.ParseIntB
import Derived.Shelf.Strings.SlTrimAscii
import Derived.Lib.SmallJoins
import Derived.Deep.RegionWith
import Derived.Laws.Externs
namespace Go.Proofs.Ythobaffgllipfaa
open Go.RowKit

/-- the first Fault of some values -/
def fltOf (l : List VL) : VL := (l.find? fun v => decide (v.t = 4)).getD v0
theorem fltOf_snoc (l : List VL) (v : VL) : fltOf (l ++ [v]) = if (fltOf l).t = 0 ∧ v.t = 4 then v else fltOf l := by
  unfold fltOf
  rw [List.find?_append]
  cases h : l.find? fun v => decide (v.t = 4) with
  | none =>
    by_cases h4 : v.t = 4
    · simp [h4, v0]
    · simp [h4, v0]
  | some u =>
    have hu : u.t = 4 := by simpa using List.find?_some h
    simp [hu]
theorem fltOf_t (l : List VL) : (fltOf l).t = 0 ∧ (l.find? fun v => decide (v.t = 4)) = none ∨ (fltOf l).t = 4 ∧ (l.find? fun v => decide (v.t = 4)) = some (fltOf l) := by
  unfold fltOf
  cases h : l.find? fun v => decide (v.t = 4) with
  | none => exact .inl ⟨rfl, rfl⟩
  | some u => exact .inr ⟨by simpa using List.find?_some h, by simp⟩
theorem sgl_argMay (v : VL) : argMay (sglL v) = v.may := by
  unfold argMay sglL rZero
  simp
theorem all_sgl (l : List VL) : (l.map sglL).all argMay = l.all VL.may := by
  rw [List.all_map]; exact congrArg (List.all l) (funext fun v => sgl_argMay v)
theorem any_sgl (l : List VL) : ((l.map sglL).any fun x => (true == x.many)) = false := by
  rw [List.any_map, List.any_eq_false]
  intro v _
  simp [sglL]
theorem asN_sgl (l : List VL) : ((l.map sglL).map fun x => x.v.asN) = l.map VL.asN := by rw [List.map_map]; rfl
theorem find_sgl (l : List VL) : (l.map sglL).find? (fun x => decide (x.v.t = 4)) = (l.find? fun v => decide (v.t = 4)).map sglL := by
  rw [List.find?_map]; rfl
/-- what Call answers of single values -/
def answR (name : ByteArray) (l : List VL) : VL := callR name (l.map sglL) (doR name (l.map VL.asN))
theorem errC_may (c : Int) : (errL c).may = true := by
  unfold errL VL.may
  have : 1 ≤ errC c ∧ errC c ≤ 8 := by unfold errC; split <;> omega
  rw [vMay_iff]
  simp
  all_goals omega
theorem numL_may (x : Int) : (numL x).may = true := by
  unfold numL VL.may numT numN numF
  rw [vMay_iff]
  simp only []
  split
  · simp
  · rename_i h
    simp [h]
theorem toldL_may (x c : Int) : (toldL x c).may = true := by
  unfold toldL; split
  · exact errC_may _
  · exact numL_may _
theorem wholeL_may (n : Nat) (b : Bool) : (wholeL n b).may = true := by
  unfold wholeL; split
  · exact errC_may _
  · exact numL_may _
theorem boolL_may (b : Bool) : (⟨3, 0, ⟨#[]⟩, b, 0⟩ : VL).may = true := by
  unfold VL.may
  rw [vMay_iff]; simp
theorem signL_may (x : Int) : (signL x).may = true := by
  unfold signL
  repeat' split
  all_goals first | with_reducible exact numL_may _ | with_reducible exact toldL_may _ _ | with_reducible exact errC_may _ | with_reducible exact wholeL_may _ _ | exact boolL_may _
theorem factL_may (x : Int) : (factL x).may = true := by
  unfold factL
  repeat' split
  all_goals first | with_reducible exact numL_may _ | with_reducible exact toldL_may _ _ | with_reducible exact errC_may _ | with_reducible exact wholeL_may _ _ | exact boolL_may _
theorem oddL_may (x : Int) : (oddL x).may = true := by
  unfold oddL
  repeat' split
  all_goals first | with_reducible exact numL_may _ | with_reducible exact toldL_may _ _ | with_reducible exact errC_may _ | with_reducible exact wholeL_may _ _ | exact boolL_may _
theorem quotL_may (x y : Int) : (quotL x y).may = true := by
  unfold quotL
  repeat' split
  all_goals first | with_reducible exact numL_may _ | with_reducible exact toldL_may _ _ | with_reducible exact errC_may _ | with_reducible exact wholeL_may _ _ | exact boolL_may _
theorem clampL_may (x y z : Int) : (clampL x y z).may = true := by
  unfold clampL
  repeat' split
  all_goals first | with_reducible exact numL_may _ | with_reducible exact toldL_may _ _ | with_reducible exact errC_may _ | with_reducible exact wholeL_may _ _ | exact boolL_may _
theorem gcdL_may (l : List Int) : (gcdL l).may = true := by
  unfold gcdL
  repeat' split
  all_goals first | with_reducible exact numL_may _ | with_reducible exact toldL_may _ _ | with_reducible exact errC_may _ | with_reducible exact wholeL_may _ _ | exact boolL_may _
theorem lcmL_may (l : List Int) : (lcmL l).may = true := by
  unfold lcmL
  repeat' split
  all_goals first | with_reducible exact numL_may _ | with_reducible exact toldL_may _ _ | with_reducible exact errC_may _ | with_reducible exact wholeL_may _ _ | exact boolL_may _
theorem doR_may (s : ByteArray) (l : List Int) : (doR s l).may = true := by
  unfold doR doF
  by_cases hABS : s = ⟨#[65, 66, 83]⟩
  · rw [if_pos hABS]; exact numL_may _
  rw [if_neg hABS]
  by_cases hSIGN : s = ⟨#[83, 73, 71, 78]⟩
  · rw [if_pos hSIGN]; exact signL_may _
  rw [if_neg hSIGN]
  by_cases hINT : s = ⟨#[73, 78, 84]⟩
  · rw [if_pos hINT]; exact toldL_may _ _
  rw [if_neg hINT]
  by_cases hTRUNC : s = ⟨#[84, 82, 85, 78, 67]⟩
  · rw [if_pos hTRUNC]; (split; exact toldL_may _ _; split; exact toldL_may _ _; exact errC_may _)
  rw [if_neg hTRUNC]
  by_cases hROUND : s = ⟨#[82, 79, 85, 78, 68]⟩
  · rw [if_pos hROUND]; (split; exact toldL_may _ _; split; exact toldL_may _ _; exact errC_may _)
  rw [if_neg hROUND]
  by_cases hFLOOR : s = ⟨#[70, 76, 79, 79, 82]⟩
  · rw [if_pos hFLOOR]; exact toldL_may _ _
  rw [if_neg hFLOOR]
  by_cases hCEIL : s = ⟨#[67, 69, 73, 76]⟩
  · rw [if_pos hCEIL]; exact toldL_may _ _
  rw [if_neg hCEIL]
  by_cases hMOD : s = ⟨#[77, 79, 68]⟩
  · rw [if_pos hMOD]; exact toldL_may _ _
  rw [if_neg hMOD]
  by_cases hQUOT : s = ⟨#[81, 85, 79, 84]⟩
  · rw [if_pos hQUOT]; exact quotL_may _ _
  rw [if_neg hQUOT]
  by_cases hPOWER : s = ⟨#[80, 79, 87, 69, 82]⟩
  · rw [if_pos hPOWER]; (split; exact toldL_may _ _; exact errC_may _)
  rw [if_neg hPOWER]
  by_cases hSQRT : s = ⟨#[83, 81, 82, 84]⟩
  · rw [if_pos hSQRT]; exact toldL_may _ _
  rw [if_neg hSQRT]
  by_cases hGCD : s = ⟨#[71, 67, 68]⟩
  · rw [if_pos hGCD]; exact gcdL_may _
  rw [if_neg hGCD]
  by_cases hLCM : s = ⟨#[76, 67, 77]⟩
  · rw [if_pos hLCM]; exact lcmL_may _
  rw [if_neg hLCM]
  by_cases hFACT : s = ⟨#[70, 65, 67, 84]⟩
  · rw [if_pos hFACT]; exact factL_may _
  rw [if_neg hFACT]
  by_cases hCLAMP : s = ⟨#[67, 76, 65, 77, 80]⟩
  · rw [if_pos hCLAMP]; exact clampL_may _ _ _
  rw [if_neg hCLAMP]
  by_cases hODD : s = ⟨#[79, 68, 68]⟩
  · rw [if_pos hODD]; exact oddL_may _
  rw [if_neg hODD]
  exact errC_may _
theorem answR_may (name : ByteArray) (l : List VL) : (answR name l).may = true := by
  unfold answR callR
  rw [all_sgl]
  split
  · exact errC_may _
  · rename_i h
    split
    · exact errC_may _
    · unfold callS
      rw [find_sgl]
      cases hf : l.find? fun v => decide (v.t = 4) with
      | none =>
        simp only [Option.map_none]
        unfold callS2
        split
        · exact errC_may _
        · exact doR_may _ _
      | some u =>
        simp only [Option.map_some]
        have h2 : l.all VL.may = true := by simpa using h
        exact List.all_eq_true.1 h2 u (List.mem_of_find?_eq_some hf)
theorem answR_no (name : ByteArray) (l : List VL) (h : (l.all VL.may && takesN name l.length false) = false) : answR name l = ⟨4, 0, ⟨#[]⟩, false, 8⟩ := by
  unfold answR callR
  rw [all_sgl, any_sgl, List.length_map]
  rcases Bool.and_eq_false_iff.1 h with h | h
  · rw [if_pos h]; rfl
  · split
    · rfl
    · first | rfl | (rw [if_pos h]; rfl)
theorem answR_yes (name : ByteArray) (l : List VL) (h1 : l.all VL.may = true) (h2 : takesN name l.length false = true) : (fltOf l).t = 0 ∨ answR name l = fltOf l := by
  rcases fltOf_t l with ⟨h, _⟩ | ⟨_, hf⟩
  · exact .inl h
  · refine .inr ?_
    unfold answR callR
    rw [all_sgl, any_sgl, List.length_map, if_neg (by rw [h1]; simp), if_neg (by rw [h2]; simp)]
    unfold callS
    rw [find_sgl, hf]
    rfl
def NIn (v : VL) : Prop := -9223372036854775808 ≤ v.n ∧ v.n ≤ 9223372036854775807
theorem errL_in (c : Int) : NIn (errL c) := ⟨by show _ ≤ (0 : Int); omega, by show (0 : Int) ≤ _; omega⟩
theorem numL_in (x : Int) (h : -9223372036854775808 ≤ x ∧ x ≤ 9223372036854775807) : NIn (numL x) := by
  show -9223372036854775808 ≤ numN x ∧ numN x ≤ 9223372036854775807
  unfold numN
  split <;> omega
theorem toldL_in (x c : Int) (h : -9223372036854775808 ≤ x ∧ x ≤ 9223372036854775807) : NIn (toldL x c) := by
  unfold toldL; split
  · exact errL_in _
  · exact numL_in _ h
theorem wholeL_in (n : Nat) (b : Bool) : NIn (wholeL n b) := by
  unfold wholeL; split
  · exact errL_in _
  · exact numL_in _ (by split <;> omega)
theorem signL_in (x : Int) : NIn (signL x) := by
  unfold signL
  repeat' split
  all_goals exact numL_in _ (by omega)
theorem factL_in (x : Int) : NIn (factL x) := by
  unfold factL
  repeat' split
  all_goals first | with_reducible exact errL_in _ | with_reducible exact wholeL_in _ _
theorem oddL_in (x : Int) : NIn (oddL x) := by
  unfold oddL
  split
  · exact ⟨by show _ ≤ (0 : Int); omega, by show (0 : Int) ≤ _; omega⟩
  · exact errL_in _
theorem quotL_in (x y : Int) : NIn (quotL x y) := by
  unfold quotL
  split
  · exact errL_in _
  · exact wholeL_in _ _
theorem clampL_in (x a b : Int) (hx : -9223372036854775808 ≤ x ∧ x ≤ 9223372036854775807) (ha : -9223372036854775808 ≤ a ∧ a ≤ 9223372036854775807) (hb : -9223372036854775808 ≤ b ∧ b ≤ 9223372036854775807) : NIn (clampL x a b) := by
  unfold clampL
  split
  · exact errL_in _
  · exact numL_in _ (by omega)
theorem gcdL_in (l : List Int) : NIn (gcdL l) := by
  unfold gcdL
  split
  · exact wholeL_in _ _
  · exact errL_in _
theorem lcmL_in (l : List Int) : NIn (lcmL l) := by
  unfold lcmL
  repeat' split
  all_goals first | with_reducible exact errL_in _ | with_reducible exact wholeL_in _ _ | exact numL_in _ (by omega)
theorem getD_in (l : List Int) (hl : ∀ x ∈ l, -9223372036854775807 ≤ x ∧ x ≤ 9223372036854775807) (i : Nat) : -9223372036854775807 ≤ l.getD i 0 ∧ l.getD i 0 ≤ 9223372036854775807 := by
  rw [List.getD_eq_getElem?_getD]
  cases h : l[i]? with
  | none => simp
  | some x => exact hl x (List.mem_of_getElem? h)
theorem doF_in (s : ByteArray) (l : List Int) (x y z : Int) (hx : -9223372036854775807 ≤ x ∧ x ≤ 9223372036854775807) (hy : -9223372036854775807 ≤ y ∧ y ≤ 9223372036854775807) (hz : -9223372036854775807 ≤ z ∧ z ≤ 9223372036854775807) : NIn (doF s l x y z) := by
  unfold doF
  by_cases hABS : s = ⟨#[65, 66, 83]⟩
  · rw [if_pos hABS]; exact numL_in _ (by omega)
  rw [if_neg hABS]
  by_cases hSIGN : s = ⟨#[83, 73, 71, 78]⟩
  · rw [if_pos hSIGN]; exact signL_in _
  rw [if_neg hSIGN]
  by_cases hINT : s = ⟨#[73, 78, 84]⟩
  · rw [if_pos hINT]; exact toldL_in _ _ (floorV_in _)
  rw [if_neg hINT]
  by_cases hTRUNC : s = ⟨#[84, 82, 85, 78, 67]⟩
  · rw [if_pos hTRUNC]; (split; exact toldL_in _ _ (truncV_in _ _ (by omega)); split; exact toldL_in _ _ (truncV_in _ _ (by omega)); exact errL_in _)
  rw [if_neg hTRUNC]
  by_cases hROUND : s = ⟨#[82, 79, 85, 78, 68]⟩
  · rw [if_pos hROUND]; (split; exact toldL_in _ _ (roundV_in _ _ (by omega)); split; exact toldL_in _ _ (roundV_in _ _ (by omega)); exact errL_in _)
  rw [if_neg hROUND]
  by_cases hFLOOR : s = ⟨#[70, 76, 79, 79, 82]⟩
  · rw [if_pos hFLOOR]; exact toldL_in _ _ (nfloorV_in _ _)
  rw [if_neg hFLOOR]
  by_cases hCEIL : s = ⟨#[67, 69, 73, 76]⟩
  · rw [if_pos hCEIL]; exact toldL_in _ _ (by have h1 := nfloorV_in (-x) y; have h2 := nfloorV_ne (-x) y; omega)
  rw [if_neg hCEIL]
  by_cases hMOD : s = ⟨#[77, 79, 68]⟩
  · rw [if_pos hMOD]; exact toldL_in _ _ (modV_in _ _ (by omega) (by omega))
  rw [if_neg hMOD]
  by_cases hQUOT : s = ⟨#[81, 85, 79, 84]⟩
  · rw [if_pos hQUOT]; exact quotL_in _ _
  rw [if_neg hQUOT]
  by_cases hPOWER : s = ⟨#[80, 79, 87, 69, 82]⟩
  · rw [if_pos hPOWER]; (split; exact toldL_in _ _ (powerV_in _ _); exact errL_in _)
  rw [if_neg hPOWER]
  by_cases hSQRT : s = ⟨#[83, 81, 82, 84]⟩
  · rw [if_pos hSQRT]; exact toldL_in _ _ (sqrtV_in _ (by omega))
  rw [if_neg hSQRT]
  by_cases hGCD : s = ⟨#[71, 67, 68]⟩
  · rw [if_pos hGCD]; exact gcdL_in _
  rw [if_neg hGCD]
  by_cases hLCM : s = ⟨#[76, 67, 77]⟩
  · rw [if_pos hLCM]; exact lcmL_in _
  rw [if_neg hLCM]
  by_cases hFACT : s = ⟨#[70, 65, 67, 84]⟩
  · rw [if_pos hFACT]; exact factL_in _
  rw [if_neg hFACT]
  by_cases hCLAMP : s = ⟨#[67, 76, 65, 77, 80]⟩
  · rw [if_pos hCLAMP]; exact clampL_in _ _ _ (by omega) (by omega) (by omega)
  rw [if_neg hCLAMP]
  by_cases hODD : s = ⟨#[79, 68, 68]⟩
  · rw [if_pos hODD]; exact oddL_in _
  rw [if_neg hODD]
  exact errL_in _
theorem doR_in (s : ByteArray) (l : List Int) (hl : ∀ x ∈ l, -9223372036854775807 ≤ x ∧ x ≤ 9223372036854775807) : NIn (doR s l) := doF_in s l _ _ _ (getD_in l hl 0) (getD_in l hl 1) (getD_in l hl 2)
theorem answR_in (name : ByteArray) (l : List VL) (hl : ∀ v ∈ l, v.ok) : NIn (answR name l) := by
  unfold answR callR
  split
  · exact errL_in _
  · split
    · exact errL_in _
    · unfold callS
      rw [find_sgl]
      cases hf : l.find? fun v => decide (v.t = 4) with
      | none =>
        simp only [Option.map_none]
        unfold callS2
        split
        · exact errL_in _
        · exact doR_in _ _ (fun x hx => by
            obtain ⟨v, hv, rfl⟩ := List.mem_map.1 hx
            exact asN_in v (hl v hv))
      | some u =>
        simp only [Option.map_some]
        exact hl u (List.mem_of_find?_eq_some hf)
end Go.Proofs.Ythobaffgllipfaa
