/-
  orielref04: quoted.
-/
import Derived.Test.YtiekhbagpmnboaaGreatDoorPrintL
import Derived.Test.YtiekhbagpmnboaaGreatDoorNumL
import Derived.Test.YtiekhbagpmnboaaGreatDoorRows
import Derived.Test.YtiekhbagpmnboaaGreatDoorBase
import Derived.Test.YtiekhbagpmnboaaGreatDoorProg
import Derived.Test.YtiekhbagpmnboaaGreatDoorShelf
import Derived.Test.YtiekhbagpmnboaaGreatDoorCutW
import Derived.Test.YtiekhbagpmnboaaGreatDoorAddrC
import Derived.Test.YtiekhbagpmnboaaGreatDoorNames
import Derived.Test.YtiekhbagpmnboaaGreatDoorParseW
import Derived.Test.YtiekhbagpmnboaaGreatDoorPRect
import Derived.Test.YtiekhbagpmnboaaGreatDoorDecA
import Derived.Test.YtiekhbagpmnboaaGreatDoorValA
import Derived.Test.YtiekhbagpmnboaaGreatDoorValB
import Derived.Test.YtiekhbagpmnboaaGreatDoorValD
import Derived.Test.YtiekhbagpmnboaaGreatDoorLexP
import Derived.Test.YtiekhbagpmnboaaGreatDoorRefName
import Derived.Test.YtiekhbagpmnboaaGreatDoorLexR
import Derived.WalkSpells
import Derived.WalkLawsBesides
import Derived.StillTactics
import Derived.Laws.Pointers
import Derived.Deep.RegionHeld3
import Derived.Deep.QuietTactic
import Derived.BigQuiet
import Derived.RowKit3
import Derived.Lib.Hide
import Derived.Lib.OthersKept
import Derived.OwnWalk
import Derived.Lib.IndexLaws
import Derived.Lib.ItoaMem
import Derived.Lib.TrimByte
import Derived.Lib.SlTrimSet
import Derived.Lib.ParseIntB
import Derived.WalkKit
import Derived.ProofKit
import Derived.OpenShut
import Derived.Carry
import Derived.ChangeSame
import Derived.Deep.Draws
import Derived.Shelf.Strings.Builder1
import Derived.Shelf.Strings.Trim
import Derived.Shelf.Small.Utf8
import Derived.Shelf.Small.Strs
import Derived.Shelf.Small.Wraps
import Derived.Shelf.Strings.BuilderF
import Derived.Shelf.Strings.BuilderK
import Derived.Shelf.Strconv.Itoa0
import Derived.Shelf.Strconv.Itoa1
import Derived.Shelf.LaysM
import Derived.Shelf.Strconv.Itoa2
import Derived.Shelf.Strconv.Itoa3
import Derived.Ground.MpProg
import Derived.Shelf.Pu.ParseUintPublic10
import Derived.Shelf.Strings.Search1
import Derived.Shelf.Strings.Search2
import Derived.Shelf.Strings.Cut
import Derived.Shelf.Strings.Shaped
import Derived.Shelf.Strings.Prefix
import Derived.Shelf.Strings.Runes
import Derived.Shelf.Strings.AsciiSet
import Derived.Shelf.Unicode.DecodeSlow
import Derived.Lib.ItoaNum
namespace Go.Proofs.YtiekhbagpmnboaaGreatDoor
open Go.RowKit

set_option maxHeartbeats 2000000 in
theorem r4quoted_yes (l : List UInt8) (at' : Nat) (hl : l.length ≤ 9223372036854775000) (_ham : l.length ≤ maxLen) (ha : at' < l.length) (t : List UInt8) (n : Nat) (hq : quoteG (l.drop (at' + 1)) = some (t, n)) (w : World) : Calls Tryz.prog 34 #[.string ⟨l.toArray⟩, .int .i64 (at' : Int)] w fun e w' => e = .returned (.tuple #[.agg #[.int .i64 2, .int .i64 (at' : Int), .int .i64 0, .string ⟨t.toArray⟩, .int .i64 0, .int .i64 0, .int .i64 0, .int .i64 0, .int .i64 0, .int .i64 0, .int .i64 0], .int .i64 ((at' + 1 + n : Nat) : Int)]) ∧ Below w.heap.size w w' := by
  have hq' := Lib.hid hq
  clear hq
  go_enter Tryz.func34, Tryz.ntmps34
  go_wp2
  go_loop [6, 7] (fun t n => ∃ (j : Nat) (acc : List UInt8), at' + 1 + j ≤ l.length ∧ acc.length ≤ j ∧ n = .int .i64 ((at' + 1 + j : Nat) : Int) ∧ t = .string ⟨acc.toArray⟩ ∧ Hid (quoteG (l.drop (at' + 1)) = (quoteG ((l.drop (at' + 1)).drop j)).map fun x => (acc ++ x.1, x.2 + j))) (fun _ n => l.length - (intOf n).toNat)
  case atStart => exact ⟨0, [], by omega, by simp, rfl, rfl, Lib.hid (quote_start _)⟩
  case round =>
    obtain ⟨j, acc, hj, hacc, rfl, rfl, hG⟩ := hrel
    obtain ⟨g1, g2, g3, g4, g5⟩ := quote_step acc _ j _ hG.out
    by_cases h1 : at' + 1 + j < l.length
    · have hd1 : (l.drop (at' + 1)).drop j = l[at' + 1 + j] :: l.drop (at' + 1 + j + 1) := by rw [List.drop_drop, drop_at l _ h1]
      have hb : at' + 1 + j < (⟨l.toArray⟩ : ByteArray).size := by show at' + 1 + j < l.toArray.size; simpa using h1
      by_cases h2 : l[at' + 1 + j].toNat = 34
      · have hb2 : ((⟨l.toArray⟩ : ByteArray)[at' + 1 + j]'hb).toNat = 34 := h2
        by_cases h3 : at' + 1 + j + 1 < l.length
        · have hc : at' + 1 + j + 1 < (⟨l.toArray⟩ : ByteArray).size := by show at' + 1 + j + 1 < l.toArray.size; simpa using h3
          by_cases h4 : l[at' + 1 + j + 1].toNat = 34
          · have hc2 : ((⟨l.toArray⟩ : ByteArray)[at' + 1 + j + 1]'hc).toNat = 34 := h4
            have h34 : l[at' + 1 + j + 1] = 34 := by rw [← UInt8.toNat_inj]; exact h4
            have hG2 := Lib.hid (g4 _ _ _ (by rw [hd1, drop_at l _ h3]) h2 h4)
            rw [h34] at hG2
            have happ := bytes_append acc [34]
            clear g1 g2 g3 g4 g5 hG hd1 h34 h2 h4
            go_wp2
            go_round
            case rel => exact ⟨j + 2, acc ++ [34], by omega, by simp; omega, by go_num, by first | rfl | (rw [happ]; rfl) | simp [happ], by
              have := hG2.out
              rw [show (l.drop (at' + 1)).drop (j + 2) = l.drop (at' + 1 + j + 1 + 1) by rw [List.drop_drop]; congr 1]
              exact Lib.hid this⟩
            case measure => simp [intOf]; omega
          · have hc2 : ((⟨l.toArray⟩ : ByteArray)[at' + 1 + j + 1]'hc).toNat ≠ 34 := h4
            have hE := g3 _ _ hd1 h2 (fun c hc => by rw [List.head?_drop, List.getElem?_eq_getElem h3] at hc; cases hc; exact h4)
            clear g1 g2 g3 g4 g5 hG hd1 h2 h4
            rw [hq'.out] at hE
            obtain ⟨rfl, hn⟩ : t = acc ∧ n = j + 1 := by injection hE with h; injection h with h5 h6; exact ⟨h5, h6⟩
            have hn' := Lib.hid hn
            clear hn hE hq'
            go_wp2
            refine bodyPost_ret (v := _) ?_ rfl ⟨rfl, by (repeat (first | (with_reducible exact Below.refl _ _) | (with_reducible refine Below.alloc ?_ (by first | omega | (dsimp only; omega) | (simp <;> omega)) _) | (with_reducible refine Below.setCell ?_ (by first | omega | (dsimp only; omega) | (simp <;> omega)) _) | (with_reducible refine Below.drew ?_) | (with_reducible refine below_drewN ?_ _) | (with_reducible refine Below.trans ?_ (Below.mono (by assumption) (by first | omega | (dsimp only; omega) | (simp <;> omega))))))⟩
            rw [hn'.out]
            first | (simp [results, Tryz.results34, go_sem, *]; done) | (simp [results, Tryz.results34, go_sem, *]; omega)
        · have hE := g3 _ _ hd1 h2 (fun c hc => by rw [List.head?_drop, List.getElem?_eq_none (by omega)] at hc; cases hc)
          clear g1 g2 g3 g4 g5 hG hd1 h2
          rw [hq'.out] at hE
          obtain ⟨rfl, hn⟩ : t = acc ∧ n = j + 1 := by injection hE with h; injection h with h5 h6; exact ⟨h5, h6⟩
          have hn' := Lib.hid hn
          clear hn hE hq'
          go_wp2
          refine bodyPost_ret (v := _) ?_ rfl ⟨rfl, by (repeat (first | (with_reducible exact Below.refl _ _) | (with_reducible refine Below.alloc ?_ (by first | omega | (dsimp only; omega) | (simp <;> omega)) _) | (with_reducible refine Below.setCell ?_ (by first | omega | (dsimp only; omega) | (simp <;> omega)) _) | (with_reducible refine Below.drew ?_) | (with_reducible refine below_drewN ?_ _) | (with_reducible refine Below.trans ?_ (Below.mono (by assumption) (by first | omega | (dsimp only; omega) | (simp <;> omega))))))⟩
          rw [hn'.out]
          first | (simp [results, Tryz.results34, go_sem, *]; done) | (simp [results, Tryz.results34, go_sem, *]; omega)
      · have hb2 : ((⟨l.toArray⟩ : ByteArray)[at' + 1 + j]'hb).toNat ≠ 34 := h2
        have hG2 := Lib.hid (g5 _ _ hd1 h2)
        have hx := ext_one l _ h1
        have happ := bytes_append acc [l[at' + 1 + j]]
        clear g1 g2 g3 g4 g5 hG hd1 h2
        go_wp2
        go_round
        case rel => exact ⟨j + 1, acc ++ [l[at' + 1 + j]], by omega, by simp; omega, by go_num, by first | rfl | (rw [hx, happ]; rfl) | simp [hx, happ], by
          have := hG2.out
          rw [show (l.drop (at' + 1)).drop (j + 1) = l.drop (at' + 1 + j + 1) by rw [List.drop_drop]; congr 1]
          exact Lib.hid this⟩
        case measure => simp [intOf]; omega
    · have hE := g2 (by rw [List.drop_drop]; exact List.drop_eq_nil_of_le (by omega))
      clear g1 g2 g3 g4 g5 hG
      rw [hq'.out] at hE
      cases hE
set_option maxHeartbeats 2000000 in
theorem r4quoted_no (l : List UInt8) (at' : Nat) (hl : l.length ≤ 9223372036854775000) (_ham : l.length ≤ maxLen) (ha : at' < l.length) (hq : quoteG (l.drop (at' + 1)) = none) (w : World) : Calls Tryz.prog 34 #[.string ⟨l.toArray⟩, .int .i64 (at' : Int)] w fun e w' => e = .returned (.tuple #[.agg #[.int .i64 8, .int .i64 (at' : Int), .int .i64 0, .string ⟨#[]⟩, .int .i64 0, .int .i64 0, .int .i64 0, .int .i64 0, .int .i64 0, .int .i64 0, .int .i64 0], .int .i64 (at' : Int)]) ∧ Below w.heap.size w w' := by
  have hq' := Lib.hid hq
  clear hq
  go_enter Tryz.func34, Tryz.ntmps34
  go_wp2
  go_loop [6, 7] (fun t n => ∃ (j : Nat) (acc : List UInt8), at' + 1 + j ≤ l.length ∧ acc.length ≤ j ∧ n = .int .i64 ((at' + 1 + j : Nat) : Int) ∧ t = .string ⟨acc.toArray⟩ ∧ Hid (quoteG (l.drop (at' + 1)) = (quoteG ((l.drop (at' + 1)).drop j)).map fun x => (acc ++ x.1, x.2 + j))) (fun _ n => l.length - (intOf n).toNat)
  case atStart => exact ⟨0, [], by omega, by simp, rfl, rfl, Lib.hid (quote_start _)⟩
  case round =>
    obtain ⟨j, acc, hj, hacc, rfl, rfl, hG⟩ := hrel
    obtain ⟨g1, g2, g3, g4, g5⟩ := quote_step acc _ j _ hG.out
    by_cases h1 : at' + 1 + j < l.length
    · have hd1 : (l.drop (at' + 1)).drop j = l[at' + 1 + j] :: l.drop (at' + 1 + j + 1) := by rw [List.drop_drop, drop_at l _ h1]
      have hb : at' + 1 + j < (⟨l.toArray⟩ : ByteArray).size := by show at' + 1 + j < l.toArray.size; simpa using h1
      by_cases h2 : l[at' + 1 + j].toNat = 34
      · have hb2 : ((⟨l.toArray⟩ : ByteArray)[at' + 1 + j]'hb).toNat = 34 := h2
        by_cases h3 : at' + 1 + j + 1 < l.length
        · have hc : at' + 1 + j + 1 < (⟨l.toArray⟩ : ByteArray).size := by show at' + 1 + j + 1 < l.toArray.size; simpa using h3
          by_cases h4 : l[at' + 1 + j + 1].toNat = 34
          · have hc2 : ((⟨l.toArray⟩ : ByteArray)[at' + 1 + j + 1]'hc).toNat = 34 := h4
            have h34 : l[at' + 1 + j + 1] = 34 := by rw [← UInt8.toNat_inj]; exact h4
            have hG2 := Lib.hid (g4 _ _ _ (by rw [hd1, drop_at l _ h3]) h2 h4)
            rw [h34] at hG2
            have happ := bytes_append acc [34]
            clear g1 g2 g3 g4 g5 hG hd1 h34 h2 h4
            go_wp2
            go_round
            case rel => exact ⟨j + 2, acc ++ [34], by omega, by simp; omega, by go_num, by first | rfl | (rw [happ]; rfl) | simp [happ], by
              have := hG2.out
              rw [show (l.drop (at' + 1)).drop (j + 2) = l.drop (at' + 1 + j + 1 + 1) by rw [List.drop_drop]; congr 1]
              exact Lib.hid this⟩
            case measure => simp [intOf]; omega
          · have hc2 : ((⟨l.toArray⟩ : ByteArray)[at' + 1 + j + 1]'hc).toNat ≠ 34 := h4
            have hE := g3 _ _ hd1 h2 (fun c hc => by rw [List.head?_drop, List.getElem?_eq_getElem h3] at hc; cases hc; exact h4)
            clear g1 g2 g3 g4 g5 hG hd1 h2 h4
            rw [hq'.out] at hE
            cases hE
        · have hE := g3 _ _ hd1 h2 (fun c hc => by rw [List.head?_drop, List.getElem?_eq_none (by omega)] at hc; cases hc)
          clear g1 g2 g3 g4 g5 hG hd1 h2
          rw [hq'.out] at hE
          cases hE
      · have hb2 : ((⟨l.toArray⟩ : ByteArray)[at' + 1 + j]'hb).toNat ≠ 34 := h2
        have hG2 := Lib.hid (g5 _ _ hd1 h2)
        have hx := ext_one l _ h1
        have happ := bytes_append acc [l[at' + 1 + j]]
        clear g1 g2 g3 g4 g5 hG hd1 h2
        go_wp2
        go_round
        case rel => exact ⟨j + 1, acc ++ [l[at' + 1 + j]], by omega, by simp; omega, by go_num, by first | rfl | (rw [hx, happ]; rfl) | simp [hx, happ], by
          have := hG2.out
          rw [show (l.drop (at' + 1)).drop (j + 1) = l.drop (at' + 1 + j + 1) by rw [List.drop_drop]; congr 1]
          exact Lib.hid this⟩
        case measure => simp [intOf]; omega
    · have hE := g2 (by rw [List.drop_drop]; exact List.drop_eq_nil_of_le (by omega))
      clear g1 g2 g3 g4 g5 hG
      clear hE hq'
      go_wp2_with (go_at_call 66; refine (r4wrong _ _).mono ?_; rintro e w2 ⟨rfl, hb2⟩; obtain ⟨hc2, hf2, hz2⟩ := bkeep hb2 (w.heap.size + 1) (by first | omega | (simp <;> omega)))
      refine bodyPost_ret (v := _) ?_ rfl ⟨rfl, by (repeat (first | (with_reducible exact Below.refl _ _) | (with_reducible refine Below.alloc ?_ (by first | omega | (dsimp only; omega) | (simp <;> omega)) _) | (with_reducible refine Below.setCell ?_ (by first | omega | (dsimp only; omega) | (simp <;> omega)) _) | (with_reducible refine Below.drew ?_) | (with_reducible refine below_drewN ?_ _) | (with_reducible refine Below.trans ?_ (Below.mono (by assumption) (by first | omega | (dsimp only; omega) | (simp <;> omega))))))⟩
      first | (simp [results, Tryz.results34, go_sem, *]; done) | (simp [results, Tryz.results34, go_sem, *]; omega)
end Go.Proofs.YtiekhbagpmnboaaGreatDoor
