/-
  orielref07: quoted, sign, bound.
-/
import Derived.Test.YtfbkoieodflcpaaGreatDoorMg3
import Derived.Test.YtfbkoieodflcpaaGreatDoorRows
import Derived.Test.YtfbkoieodflcpaaGreatDoorBase
import Derived.Test.YtfbkoieodflcpaaGreatDoorProg
import Derived.Test.YtfbkoieodflcpaaGreatDoorShelf
import Derived.Test.YtfbkoieodflcpaaGreatDoorAddrC
import Derived.Test.YtfbkoieodflcpaaGreatDoorMg5
import Derived.Test.YtfbkoieodflcpaaGreatDoorDecA
import Derived.Test.YtfbkoieodflcpaaGreatDoorValA
import Derived.Test.YtfbkoieodflcpaaGreatDoorValB
import Derived.Test.YtfbkoieodflcpaaGreatDoorMg9
import Derived.Test.YtfbkoieodflcpaaGreatDoorMapK
import Derived.Test.YtfbkoieodflcpaaGreatDoorRefP
import Derived.Test.YtfbkoieodflcpaaGreatDoorRefQ
import Derived.Test.YtfbkoieodflcpaaGreatDoorRefName
import Derived.Test.YtfbkoieodflcpaaGreatDoorShelfC
import Derived.Test.YtfbkoieodflcpaaGreatDoorMg2
import Derived.Test.YtfbkoieodflcpaaGreatDoorNameX
import Derived.Test.YtfbkoieodflcpaaGreatDoorNameY
import Derived.Test.YtfbkoieodflcpaaGreatDoorDPrint
import Derived.Test.YtfbkoieodflcpaaGreatDoorValK
import Derived.Test.YtfbkoieodflcpaaGreatDoorRPr
import Derived.Test.YtfbkoieodflcpaaGreatDoorValL
import Derived.Test.YtfbkoieodflcpaaGreatDoorPrP
import Derived.Test.YtfbkoieodflcpaaGreatDoorPrA
import Derived.WalkSpells
import Derived.WalkLawsBesides
import Derived.StillTactics
import Derived.Laws.Pointers
import Derived.Deep.RegionHeld3
import Derived.Deep.QuietTactic
import Derived.BigQuiet
import Derived.RowKit3
import Derived.Lib.Hide
import Derived.Lib.OthersKept
import Derived.OwnWalk
import Derived.Lib.IndexLaws
import Derived.Lib.ItoaMem
import Derived.Lib.TrimByte
import Derived.Lib.SlTrimSet
import Derived.Lib.ParseIntB
import Derived.WalkKit
import Derived.ProofKit
import Derived.OpenShut
import Derived.Carry
import Derived.ChangeSame
import Derived.Deep.Draws
import Derived.Shelf.Strings.Builder1
import Derived.Shelf.Strings.Builder2
import Derived.Shelf.Strings.Trim
import Derived.Shelf.Small.Utf8
import Derived.Shelf.Small.Strs
import Derived.Shelf.Small.Wraps
import Derived.Shelf.Strings.BuilderF
import Derived.Shelf.Strings.BuilderK
import Derived.Shelf.Strconv.Itoa0
import Derived.Shelf.Strconv.Itoa1
import Derived.Shelf.LaysM
import Derived.Shelf.Strconv.Itoa2
import Derived.Shelf.Strconv.Itoa3
import Derived.Shelf.Strings.Search1
import Derived.Shelf.Strings.Search2
import Derived.Shelf.Strings.Search3
import Derived.Shelf.Strings.Cut
import Derived.Shelf.Strings.Count
import Derived.Shelf.Strings.Shaped
import Derived.Shelf.Strings.Prefix
import Derived.Shelf.Strings.Split
import Derived.Shelf.Strings.Replace
import Derived.Shelf.Strings.Runes
import Derived.Shelf.Strings.AsciiSet
import Derived.Shelf.Unicode.DecodeSlow
import Derived.Lib.ItoaNum
import Derived.Maps.OwnSet
import Derived.Maps.AppendAt
import Derived.Ground.MpProg
import Derived.Shelf.Pu.ParseUintPublic10
import Derived.Lib.Bytealg
import Derived.Lib.Replace
namespace Go.Proofs.YtfbkoieodflcpaaGreatDoor
open Go.RowKit

set_option maxHeartbeats 1000000 in
theorem r7bound (x : TL) (k : Int) (hl : x.text.length ≤ 100000000000000) (r : List UInt8) (h : x.at' k = r) (w : World) : Calls Tryz.prog 45 #[.string ⟨x.text.toArray⟩, .int .i64 x.binds, .int .i64 k] w fun e w' => e = .returned (.string ⟨r.toArray⟩) ∧ w = w' := by
  subst h
  obtain ⟨l, b⟩ := x
  show Calls Tryz.prog 45 #[.string ⟨l.toArray⟩, .int .i64 b, .int .i64 k] w _
  change l.length ≤ 100000000000000 at hl
  by_cases hb : b < k
  · have e : TL.at' ⟨l, b⟩ k = 40 :: (l ++ [41]) := by unfold TL.at'; rw [if_pos hb]
    rw [e]
    clear e
    go_enter Tryz.func45, Tryz.ntmps45
    go_wp2
    go_ret
    exact ⟨by rw [← brack_eq]; rfl, rfl⟩
  · have e : TL.at' ⟨l, b⟩ k = l := by unfold TL.at'; rw [if_neg hb]
    rw [e]
    clear e
    go_enter Tryz.func45, Tryz.ntmps45
    go_wp2
    go_ret
    exact ⟨rfl, rfl⟩
set_option maxRecDepth 100000 in
set_option maxHeartbeats 4000000 in
theorem r7sign (op : Int) (h1 : 1 ≤ op) (h2 : op ≤ 13) (w : World) : Calls Tryz.prog 46 #[.int .i64 op] w fun e w' => e = .returned (.string ⟨(opT op).toArray⟩) ∧ Below w.heap.size w w' := by
  have h3 : op = 1 ∨ op = 2 ∨ op = 3 ∨ op = 4 ∨ op = 5 ∨ op = 6 ∨ op = 7 ∨ op = 8 ∨ op = 9 ∨ op = 10 ∨ op = 11 ∨ op = 12 ∨ op = 13 := by omega
  clear h1 h2
  rcases h3 with rfl | rfl | rfl | rfl | rfl | rfl | rfl | rfl | rfl | rfl | rfl | rfl | rfl
  all_goals
    go_enter Tryz.func46, Tryz.ntmps46
    go_wp2
    go_ret
    exact ⟨rfl, by (repeat (first | (with_reducible exact Below.refl _ _) | (with_reducible refine Below.alloc ?_ (by first | omega | (dsimp only; omega) | (simp <;> omega)) _) | (with_reducible refine Below.setCell ?_ (by first | omega | (dsimp only; omega) | (simp <;> omega)) _) | (with_reducible refine Below.drew ?_) | (with_reducible refine below_drewN ?_ _) | (with_reducible refine Below.trans ?_ (Below.mono (by assumption) (by first | omega | (dsimp only; omega) | (simp <;> omega))))))⟩
theorem ext_one7 (l : List UInt8) (j : Nat) (h : j < l.length) : (⟨l.toArray⟩ : ByteArray).extract j (j + 1) = ⟨#[l[j]]⟩ := by
  apply ByteArray.ext
  rw [ByteArray.data_extract]
  apply Array.toList_inj.1
  show (l.toArray.extract j (j + 1)).toList = [l[j]]
  rw [Array.toList_extract, List.extract_eq_take_drop, List.drop_eq_getElem_cons h, show j + 1 - j = 1 by omega]
  rfl
theorem quotes_take (l : List UInt8) (j : Nat) (h : j < l.length) : quotesL (l.take (j + 1)) = quotesL (l.take j) ++ (if l[j] = 34 then [34, 34] else [l[j]]) := by
  rw [List.take_add_one, List.getElem?_eq_getElem h]
  unfold quotesL
  rw [Option.toList_some, List.flatMap_append]
  simp
set_option maxRecDepth 100000 in
set_option maxHeartbeats 4000000 in
theorem r7quoted (l : List UInt8) (hl : l.length ≤ 1048576) (w : World) : Calls Tryz.prog 40 #[.string ⟨l.toArray⟩] w fun e w' => e = .returned (.string ⟨(34 :: (quotesL l ++ [34])).toArray⟩) ∧ w = w' := by
  go_enter Tryz.func40, Tryz.ntmps40
  go_wp2
  go_loop [3, 4] (fun a i => ∃ (j : Nat) (u : ByteArray), j ≤ l.length ∧ a = .string u ∧ i = .int .i64 (j : Int) ∧ Hid (u = ⟨(34 :: quotesL (l.take j)).toArray⟩) ∧ u.size ≤ 2 * j + 1) (fun _ i => l.length - (intOf i).toNat)
  case atStart => exact ⟨0, _, by omega, rfl, rfl, Lib.hid rfl, by decide⟩
  case round =>
    obtain ⟨j, u, hj, rfl, rfl, hu, hus⟩ := hrel
    by_cases hlt : j < l.length
    · have hb : j < (⟨l.toArray⟩ : ByteArray).size := by show j < l.toArray.size; simpa using hlt
      have hjl : (j : Int) < (l.length : Int) := by omega
      have hj0 : (0 : Int) ≤ (j : Int) := by omega
      have hj1 : (j : Int) ≤ (j : Int) + 1 := by omega
      have hjl2 : (j : Int) + 1 ≤ (l.length : Int) := by omega
      have hwj : IntKind.i64.wrap ((j : Int) + 1) = (j : Int) + 1 := IntWalk.i64_in _ (by omega)
      by_cases hc : l[j] = 34
      · have hcn : ((⟨l.toArray⟩ : ByteArray)[j]'hb).toNat = 34 := by show l[j].toNat = 34; rw [hc]; rfl
        have g34 : (((((⟨l.toArray⟩ : ByteArray)[j]'hb).toNat : Nat) : Int) == 34) = true := by simp; omega
        have hqH := Lib.hid (show quotesL (l.take (j + 1)) = quotesL (l.take j) ++ [34, 34] by rw [quotes_take l j hlt, if_pos hc])
        have hcH := Lib.hid hc
        clear hc
        go_wp2
        go_round
        case rel => exact ⟨j + 1, _, by omega, rfl, by go_num, Lib.hid (by rw [ext_one7 l j hlt, hcH.out, hu.out, hqH.out]; apply ByteArray.ext; simp), by rw [ext_one7 l j hlt, ByteArray.size_append, ByteArray.size_append]; show u.size + 1 + 1 ≤ _; omega⟩
        case measure => simp [intOf]; omega
      · have hcn : ((⟨l.toArray⟩ : ByteArray)[j]'hb).toNat ≠ 34 := fun e => hc (UInt8.toNat_inj.1 e)
        have g34 : (((((⟨l.toArray⟩ : ByteArray)[j]'hb).toNat : Nat) : Int) == 34) = false := by simp; omega
        have hqH := Lib.hid (show quotesL (l.take (j + 1)) = quotesL (l.take j) ++ [l[j]] by rw [quotes_take l j hlt, if_neg hc])
        clear hc
        go_wp2
        go_round
        case rel => exact ⟨j + 1, _, by omega, rfl, by go_num, Lib.hid (by rw [ext_one7 l j hlt, hu.out, hqH.out]; apply ByteArray.ext; simp), by rw [ext_one7 l j hlt, ByteArray.size_append]; show u.size + 1 ≤ _; omega⟩
        case measure => simp [intOf]; omega
    · obtain rfl : j = l.length := by omega
      have hnn : ¬ ((l.length : Int) < (l.length : Int)) := by omega
      have hcc : ¬ (9223372036854775807 < u.size + 1) := by omega
      have e9 := Lib.hid (show u ++ (⟨#[34]⟩ : ByteArray) = ⟨(34 :: (quotesL l ++ [34])).toArray⟩ by rw [hu.out, List.take_of_length_le (Nat.le_refl _)]; apply ByteArray.ext; simp)
      go_wp2
      go_ret
      exact ⟨by rw [← e9.out]; rfl, rfl⟩
end Go.Proofs.YtfbkoieodflcpaaGreatDoor
