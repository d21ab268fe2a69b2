/-
  lex: quoted.
-/
import Derived.Test.YtiekhbagpmnboaaGreatDoorPrintL
import Derived.Test.YtiekhbagpmnboaaGreatDoorNumL
import Derived.Test.YtiekhbagpmnboaaGreatDoorRows
import Derived.Test.YtiekhbagpmnboaaGreatDoorBase
import Derived.Test.YtiekhbagpmnboaaGreatDoorProg
import Derived.Test.YtiekhbagpmnboaaGreatDoorShelf
import Derived.Test.YtiekhbagpmnboaaGreatDoorCutW
import Derived.Test.YtiekhbagpmnboaaGreatDoorAddrC
import Derived.Test.YtiekhbagpmnboaaGreatDoorNames
import Derived.Test.YtiekhbagpmnboaaGreatDoorParseW
import Derived.Test.YtiekhbagpmnboaaGreatDoorPRect
import Derived.Test.YtiekhbagpmnboaaGreatDoorDecA
import Derived.Test.YtiekhbagpmnboaaGreatDoorValA
import Derived.Test.YtiekhbagpmnboaaGreatDoorValB
import Derived.Test.YtiekhbagpmnboaaGreatDoorValD
import Derived.Test.YtiekhbagpmnboaaGreatDoorLexP
import Derived.Test.YtiekhbagpmnboaaGreatDoorLexW
import Derived.Test.YtiekhbagpmnboaaGreatDoorRefName
import Derived.Test.YtiekhbagpmnboaaGreatDoorLexR
import Derived.Test.YtiekhbagpmnboaaGreatDoorLexQ
import Derived.Test.YtiekhbagpmnboaaGreatDoorMg21
import Derived.WalkSpells
import Derived.WalkLawsBesides
import Derived.StillTactics
import Derived.Laws.Pointers
import Derived.Deep.RegionHeld3
import Derived.Deep.QuietTactic
import Derived.BigQuiet
import Derived.RowKit3
import Derived.Lib.Hide
import Derived.Lib.OthersKept
import Derived.OwnWalk
import Derived.Lib.IndexLaws
import Derived.Lib.ItoaMem
import Derived.Lib.TrimByte
import Derived.Lib.SlTrimSet
import Derived.Lib.ParseIntB
import Derived.WalkKit
import Derived.ProofKit
import Derived.OpenShut
import Derived.Carry
import Derived.ChangeSame
import Derived.Deep.Draws
import Derived.Shelf.Strings.Builder1
import Derived.Shelf.Strings.Trim
import Derived.Shelf.Small.Utf8
import Derived.Shelf.Small.Strs
import Derived.Shelf.Small.Wraps
import Derived.Shelf.Strings.BuilderF
import Derived.Shelf.Strings.BuilderK
import Derived.Shelf.Strconv.Itoa0
import Derived.Shelf.Strconv.Itoa1
import Derived.Shelf.LaysM
import Derived.Shelf.Strconv.Itoa2
import Derived.Shelf.Strconv.Itoa3
import Derived.Ground.MpProg
import Derived.Shelf.Pu.ParseUintPublic10
import Derived.Shelf.Strings.Search1
import Derived.Shelf.Strings.Search2
import Derived.Shelf.Strings.Cut
import Derived.Shelf.Strings.Shaped
import Derived.Shelf.Strings.Prefix
import Derived.Shelf.Strings.Runes
import Derived.Shelf.Strings.AsciiSet
import Derived.Shelf.Unicode.DecodeSlow
import Derived.Lib.ItoaNum
import Derived.Shelf.Strings.SlTrimAscii
namespace Go.Proofs.YtiekhbagpmnboaaGreatDoor
open Go.RowKit

theorem lwrite34 (B : Nat) (acc : List UInt8) (hl : acc.length + 1 ≤ 140737488355328) (w : World) (hB : B ≤ w.heap.size) (h : Lib.IsBuilderF 130 5 B B (Lib.byteCells acc) w) : Calls Tryz.prog 80 #[.pointer (some ⟨B, 0, none⟩), .int .u8 34] w fun e w' => e = .returned .nilIface ∧ Lib.IsBuilderF 130 5 B B (Lib.byteCells (acc ++ [34])) w' ∧ Below B w w' := lwrite B acc 34 hl w hB h
set_option maxRecDepth 100000 in
set_option maxHeartbeats 2000000 in
theorem lquoted_yes (l : List UInt8) (hl : l.length ≤ 140737488355327) (h0 : 0 < l.length) (t : List UInt8) (n : Nat) (hq : quoteG (l.drop 1) = some (t, n)) (w : World) : Calls Tryz.prog 46 #[.string ⟨l.toArray⟩] w fun e w' => e = .returned (.tuple #[.agg #[.int .i64 2, .int .i64 0, .int .i64 0, .string ⟨t.toArray⟩, .int .i64 0, .int .i64 0, .int .i64 0, .int .i64 0, .int .i64 0, .int .i64 0, .int .i64 0], .int .i64 ((1 + n : Nat) : Int)]) ∧ Below w.heap.size w w' := by
  have hq' := Lib.hid hq
  clear hq
  go_enter Tryz.func46, Tryz.ntmps46
  go_wp2
  have hI0 : Lib.IsBuilderF 130 5 (w.heap.size + 1) (w.heap.size + 1) (Lib.byteCells ([])) ((w.alloc (.cells #[.int .i64 0, .int .i64 0, .int .i64 0, .string ⟨#[]⟩, .int .i64 0, .int .i64 0, .int .i64 0, .int .i64 0, .int .i64 0, .int .i64 0, .int .i64 0] 33)).alloc (.cells #[.pointer none, .slice none 0 0] 130)) := by
    have h9 := Lib.IsBuilderF.of (Lib.fresh_isBuilder 130 5 (w.alloc (.cells #[.int .i64 0, .int .i64 0, .int .i64 0, .string ⟨#[]⟩, .int .i64 0, .int .i64 0, .int .i64 0, .int .i64 0, .int .i64 0, .int .i64 0, .int .i64 0] 33)))
    simp only [World.size_alloc] at h9
    exact h9
  obtain ⟨w0, hw0⟩ : ∃ w0, ((w.alloc (.cells #[.int .i64 0, .int .i64 0, .int .i64 0, .string ⟨#[]⟩, .int .i64 0, .int .i64 0, .int .i64 0, .int .i64 0, .int .i64 0, .int .i64 0, .int .i64 0] 33)).alloc (.cells #[.pointer none, .slice none 0 0] 130)) = w0 := ⟨_, rfl⟩
  have hsz : w0.heap.size = w.heap.size + 2 := by rw [← hw0]; simp
  go_loopw [5] (fun i wr => ∃ (j : Nat) (acc : List UInt8), 1 + j ≤ l.length ∧ acc.length ≤ j ∧ i = .int .i64 ((1 + j : Nat) : Int) ∧ Lib.IsBuilderF 130 5 (w.heap.size + 1) (w.heap.size + 1) (Lib.byteCells (acc)) wr ∧ Below (w.heap.size + 1) w0 wr ∧ Hid (quoteG (l.drop 1) = (quoteG ((l.drop 1).drop j)).map fun x => (acc ++ x.1, x.2 + j))) (fun i _ => l.length - (intOf i).toNat)
  case atStart => exact ⟨0, [], by omega, by simp, rfl, hI0, by rw [hw0]; exact Below.refl _ _, Lib.hid (quote_start _)⟩
  case round =>
    clear hI0
    obtain ⟨j, acc, hj, hacc, rfl, hIb, hbr, hG⟩ := hrel
    obtain ⟨hc, hf, hz⟩ := keepB hbr (by omega)
    have hzr := hbr.size
    subst hw0
    obtain ⟨g1, g2, g3, g4, g5⟩ := quote_step acc _ j _ hG.out
    by_cases h1 : 1 + j < l.length
    · have hd1 : (l.drop 1).drop j = l[1 + j] :: l.drop (1 + j + 1) := by rw [List.drop_drop, drop_at l _ h1]
      have hb : 1 + j < (⟨l.toArray⟩ : ByteArray).size := by show 1 + j < l.toArray.size; simpa using h1
      by_cases h2 : l[1 + j].toNat = 34
      · have hb2 : ((⟨l.toArray⟩ : ByteArray)[1 + j]'hb).toNat = 34 := h2
        by_cases h3 : 1 + j + 1 < l.length
        · have hz0 : ((1 : Int) + (j : Int) + 1 == (l.length : Int)) = false := by simp; omega
          have hcb : 1 + j + 1 < (⟨l.toArray⟩ : ByteArray).size := by show 1 + j + 1 < l.toArray.size; simpa using h3
          by_cases h4 : l[1 + j + 1].toNat = 34
          · have hc2 : ((⟨l.toArray⟩ : ByteArray)[1 + j + 1]'hcb).toNat = 34 := h4
            have h34 : l[1 + j + 1] = 34 := by rw [← UInt8.toNat_inj]; exact h4
            have hG2 := Lib.hid (g4 _ _ _ (by rw [hd1, drop_at l _ h3]) h2 h4)
            rw [h34] at hG2
            clear g1 g2 g3 g4 g5 hG hd1 h2 h4 h34
            go_wp2_with fail
            refine (lwrite34 (w.heap.size + 1) acc (by omega) _ (by omega) hIb).mono ?_
            rintro e w4 ⟨rfl, hI4, hb4⟩
            have hbr4 := hbr.trans hb4
            clear hb4 hIb hbr
            go_wp2
            go_roundw
            case rel => exact ⟨j + 2, acc ++ [34], by omega, by simp; omega, by go_num, hI4, hbr4, by
              have := hG2.out
              rw [show (l.drop 1).drop (j + 2) = l.drop (1 + j + 1 + 1) by rw [List.drop_drop]; congr 1]
              exact Lib.hid this⟩
            case measure => simp [intOf]; omega
          · have hc2 : ((⟨l.toArray⟩ : ByteArray)[1 + j + 1]'hcb).toNat ≠ 34 := h4
            have hE := g3 _ _ hd1 h2 (fun c hc => by rw [List.head?_drop, List.getElem?_eq_getElem h3] at hc; cases hc; exact h4)
            clear g1 g2 g3 g4 g5 hG hd1 h2 h4
            rw [hq'.out] at hE
            obtain ⟨rfl, hn⟩ : t = acc ∧ n = j + 1 := by injection hE with h; injection h with h5 h6; exact ⟨h5, h6⟩
            have hn' := Lib.hid hn
            clear hn hE hq'
            have hq1 : Below w.heap.size w wr := (((Below.refl _ w).alloc (Nat.le_refl _) _).alloc (by simp) _).trans (hbr.mono (by omega))
            go_wp2_with fail
            refine (bstring_any (w.heap.size + 1) t _ rfl _ (by omega) hIb).mono ?_
            rintro e w4 ⟨rfl, hI4, hb4⟩
            obtain ⟨hc4, hf4, hz4⟩ := keepB hb4 (by omega)
            clear hI4 hIb
            go_wp2
            refine bodyPost_ret (v := _) ?_ rfl ⟨rfl, by (repeat (first | (with_reducible exact Below.refl _ _) | (with_reducible refine Below.alloc ?_ (by first | omega | (dsimp only; omega) | (simp <;> omega)) _) | (with_reducible refine Below.setCell ?_ (by first | omega | (dsimp only; omega) | (simp <;> omega)) _) | (with_reducible refine Below.drew ?_) | (with_reducible refine below_drewN ?_ _) | (with_reducible refine Below.trans ?_ (Below.mono (by assumption) (by first | omega | (dsimp only; omega) | (simp <;> omega))))))⟩
            rw [hn'.out]
            first | (simp [results, Tryz.results46, go_sem, *]; done) | (simp [results, Tryz.results46, go_sem, *]; omega)
        · have hE := g3 _ _ hd1 h2 (fun c hc => by rw [List.head?_drop, List.getElem?_eq_none (by omega)] at hc; cases hc)
          have hz0 : ((1 : Int) + (j : Int) + 1 == (l.length : Int)) = true := by simp; omega
          clear g1 g2 g3 g4 g5 hG hd1 h2
          rw [hq'.out] at hE
          obtain ⟨rfl, hn⟩ : t = acc ∧ n = j + 1 := by injection hE with h; injection h with h5 h6; exact ⟨h5, h6⟩
          have hn' := Lib.hid hn
          clear hn hE hq'
          have hq1 : Below w.heap.size w wr := (((Below.refl _ w).alloc (Nat.le_refl _) _).alloc (by simp) _).trans (hbr.mono (by omega))
          go_wp2_with fail
          refine (bstring_any (w.heap.size + 1) t _ rfl _ (by omega) hIb).mono ?_
          rintro e w4 ⟨rfl, hI4, hb4⟩
          obtain ⟨hc4, hf4, hz4⟩ := keepB hb4 (by omega)
          clear hI4 hIb
          go_wp2
          refine bodyPost_ret (v := _) ?_ rfl ⟨rfl, by (repeat (first | (with_reducible exact Below.refl _ _) | (with_reducible refine Below.alloc ?_ (by first | omega | (dsimp only; omega) | (simp <;> omega)) _) | (with_reducible refine Below.setCell ?_ (by first | omega | (dsimp only; omega) | (simp <;> omega)) _) | (with_reducible refine Below.drew ?_) | (with_reducible refine below_drewN ?_ _) | (with_reducible refine Below.trans ?_ (Below.mono (by assumption) (by first | omega | (dsimp only; omega) | (simp <;> omega))))))⟩
          rw [hn'.out]
          first | (simp [results, Tryz.results46, go_sem, *]; done) | (simp [results, Tryz.results46, go_sem, *]; omega)
      · have hb2 : ((⟨l.toArray⟩ : ByteArray)[1 + j]'hb).toNat ≠ 34 := h2
        have hG2 := Lib.hid (g5 _ _ hd1 h2)
        clear g1 g2 g3 g4 g5 hG hd1 h2
        go_wp2_with fail
        refine (lwrite (w.heap.size + 1) acc ((⟨l.toArray⟩ : ByteArray)[1 + j]'hb) (by omega) _ (by omega) hIb).mono ?_
        rintro e w4 ⟨rfl, hI4, hb4⟩
        have hbr4 := hbr.trans hb4
        clear hb4 hIb hbr
        go_wp2
        go_roundw
        case rel => exact ⟨j + 1, acc ++ [l[1 + j]], by omega, by simp; omega, by go_num, hI4, hbr4, by
          have := hG2.out
          rw [show (l.drop 1).drop (j + 1) = l.drop (1 + j + 1) by rw [List.drop_drop]; congr 1]
          exact Lib.hid this⟩
        case measure => simp [intOf]; omega
    · have hE := g2 (by rw [List.drop_drop]; exact List.drop_eq_nil_of_le (by omega))
      clear g1 g2 g3 g4 g5 hG
      rw [hq'.out] at hE
      cases hE
set_option maxRecDepth 100000 in
set_option maxHeartbeats 2000000 in
theorem lquoted_no (l : List UInt8) (hl : l.length ≤ 140737488355327) (h0 : 0 < l.length) (hq : quoteG (l.drop 1) = none) (w : World) : Calls Tryz.prog 46 #[.string ⟨l.toArray⟩] w fun e w' => e = .returned (.tuple #[.agg #[.int .i64 8, .int .i64 0, .int .i64 0, .string ⟨#[]⟩, .int .i64 0, .int .i64 0, .int .i64 0, .int .i64 0, .int .i64 0, .int .i64 0, .int .i64 0], .int .i64 0]) ∧ Below w.heap.size w w' := by
  have hq' := Lib.hid hq
  clear hq
  go_enter Tryz.func46, Tryz.ntmps46
  go_wp2
  have hI0 : Lib.IsBuilderF 130 5 (w.heap.size + 1) (w.heap.size + 1) (Lib.byteCells ([])) ((w.alloc (.cells #[.int .i64 0, .int .i64 0, .int .i64 0, .string ⟨#[]⟩, .int .i64 0, .int .i64 0, .int .i64 0, .int .i64 0, .int .i64 0, .int .i64 0, .int .i64 0] 33)).alloc (.cells #[.pointer none, .slice none 0 0] 130)) := by
    have h9 := Lib.IsBuilderF.of (Lib.fresh_isBuilder 130 5 (w.alloc (.cells #[.int .i64 0, .int .i64 0, .int .i64 0, .string ⟨#[]⟩, .int .i64 0, .int .i64 0, .int .i64 0, .int .i64 0, .int .i64 0, .int .i64 0, .int .i64 0] 33)))
    simp only [World.size_alloc] at h9
    exact h9
  obtain ⟨w0, hw0⟩ : ∃ w0, ((w.alloc (.cells #[.int .i64 0, .int .i64 0, .int .i64 0, .string ⟨#[]⟩, .int .i64 0, .int .i64 0, .int .i64 0, .int .i64 0, .int .i64 0, .int .i64 0, .int .i64 0] 33)).alloc (.cells #[.pointer none, .slice none 0 0] 130)) = w0 := ⟨_, rfl⟩
  have hsz : w0.heap.size = w.heap.size + 2 := by rw [← hw0]; simp
  go_loopw [5] (fun i wr => ∃ (j : Nat) (acc : List UInt8), 1 + j ≤ l.length ∧ acc.length ≤ j ∧ i = .int .i64 ((1 + j : Nat) : Int) ∧ Lib.IsBuilderF 130 5 (w.heap.size + 1) (w.heap.size + 1) (Lib.byteCells (acc)) wr ∧ Below (w.heap.size + 1) w0 wr ∧ Hid (quoteG (l.drop 1) = (quoteG ((l.drop 1).drop j)).map fun x => (acc ++ x.1, x.2 + j))) (fun i _ => l.length - (intOf i).toNat)
  case atStart => exact ⟨0, [], by omega, by simp, rfl, hI0, by rw [hw0]; exact Below.refl _ _, Lib.hid (quote_start _)⟩
  case round =>
    clear hI0
    obtain ⟨j, acc, hj, hacc, rfl, hIb, hbr, hG⟩ := hrel
    obtain ⟨hc, hf, hz⟩ := keepB hbr (by omega)
    have hzr := hbr.size
    subst hw0
    obtain ⟨g1, g2, g3, g4, g5⟩ := quote_step acc _ j _ hG.out
    by_cases h1 : 1 + j < l.length
    · have hd1 : (l.drop 1).drop j = l[1 + j] :: l.drop (1 + j + 1) := by rw [List.drop_drop, drop_at l _ h1]
      have hb : 1 + j < (⟨l.toArray⟩ : ByteArray).size := by show 1 + j < l.toArray.size; simpa using h1
      by_cases h2 : l[1 + j].toNat = 34
      · have hb2 : ((⟨l.toArray⟩ : ByteArray)[1 + j]'hb).toNat = 34 := h2
        by_cases h3 : 1 + j + 1 < l.length
        · have hz0 : ((1 : Int) + (j : Int) + 1 == (l.length : Int)) = false := by simp; omega
          have hcb : 1 + j + 1 < (⟨l.toArray⟩ : ByteArray).size := by show 1 + j + 1 < l.toArray.size; simpa using h3
          by_cases h4 : l[1 + j + 1].toNat = 34
          · have hc2 : ((⟨l.toArray⟩ : ByteArray)[1 + j + 1]'hcb).toNat = 34 := h4
            have h34 : l[1 + j + 1] = 34 := by rw [← UInt8.toNat_inj]; exact h4
            have hG2 := Lib.hid (g4 _ _ _ (by rw [hd1, drop_at l _ h3]) h2 h4)
            rw [h34] at hG2
            clear g1 g2 g3 g4 g5 hG hd1 h2 h4 h34
            go_wp2_with fail
            refine (lwrite34 (w.heap.size + 1) acc (by omega) _ (by omega) hIb).mono ?_
            rintro e w4 ⟨rfl, hI4, hb4⟩
            have hbr4 := hbr.trans hb4
            clear hb4 hIb hbr
            go_wp2
            go_roundw
            case rel => exact ⟨j + 2, acc ++ [34], by omega, by simp; omega, by go_num, hI4, hbr4, by
              have := hG2.out
              rw [show (l.drop 1).drop (j + 2) = l.drop (1 + j + 1 + 1) by rw [List.drop_drop]; congr 1]
              exact Lib.hid this⟩
            case measure => simp [intOf]; omega
          · have hc2 : ((⟨l.toArray⟩ : ByteArray)[1 + j + 1]'hcb).toNat ≠ 34 := h4
            have hE := g3 _ _ hd1 h2 (fun c hc => by rw [List.head?_drop, List.getElem?_eq_getElem h3] at hc; cases hc; exact h4)
            clear g1 g2 g3 g4 g5 hG hd1 h2 h4
            rw [hq'.out] at hE
            cases hE
        · have hE := g3 _ _ hd1 h2 (fun c hc => by rw [List.head?_drop, List.getElem?_eq_none (by omega)] at hc; cases hc)
          have hz0 : ((1 : Int) + (j : Int) + 1 == (l.length : Int)) = true := by simp; omega
          clear g1 g2 g3 g4 g5 hG hd1 h2
          rw [hq'.out] at hE
          cases hE
      · have hb2 : ((⟨l.toArray⟩ : ByteArray)[1 + j]'hb).toNat ≠ 34 := h2
        have hG2 := Lib.hid (g5 _ _ hd1 h2)
        clear g1 g2 g3 g4 g5 hG hd1 h2
        go_wp2_with fail
        refine (lwrite (w.heap.size + 1) acc ((⟨l.toArray⟩ : ByteArray)[1 + j]'hb) (by omega) _ (by omega) hIb).mono ?_
        rintro e w4 ⟨rfl, hI4, hb4⟩
        have hbr4 := hbr.trans hb4
        clear hb4 hIb hbr
        go_wp2
        go_roundw
        case rel => exact ⟨j + 1, acc ++ [l[1 + j]], by omega, by simp; omega, by go_num, hI4, hbr4, by
          have := hG2.out
          rw [show (l.drop 1).drop (j + 1) = l.drop (1 + j + 1) by rw [List.drop_drop]; congr 1]
          exact Lib.hid this⟩
        case measure => simp [intOf]; omega
    · have hE := g2 (by rw [List.drop_drop]; exact List.drop_eq_nil_of_le (by omega))
      clear g1 g2 g3 g4 g5 hG
      clear hE hq'
      have hq1 : Below w.heap.size w wr := (((Below.refl _ w).alloc (Nat.le_refl _) _).alloc (by simp) _).trans (hbr.mono (by omega))
      clear hIb
      go_wp2
      refine bodyPost_ret (v := _) ?_ rfl ⟨rfl, by (repeat (first | (with_reducible exact Below.refl _ _) | (with_reducible refine Below.alloc ?_ (by first | omega | (dsimp only; omega) | (simp <;> omega)) _) | (with_reducible refine Below.setCell ?_ (by first | omega | (dsimp only; omega) | (simp <;> omega)) _) | (with_reducible refine Below.drew ?_) | (with_reducible refine below_drewN ?_ _) | (with_reducible refine Below.trans ?_ (Below.mono (by assumption) (by first | omega | (dsimp only; omega) | (simp <;> omega))))))⟩
      first | (simp [results, Tryz.results46, go_sem, *]; done) | (simp [results, Tryz.results46, go_sem, *]; omega)
theorem lquoted (l : List UInt8) (hl : l.length ≤ 140737488355327) (h0 : 0 < l.length) (x : Tok) (n : Nat) (hx : textT l = (x, n)) (w : World) : Calls Tryz.prog 46 #[.string ⟨l.toArray⟩] w fun e w' => e = .returned (.tuple #[.agg #[.int .i64 x.kind, .int .i64 x.place, .int .i64 x.num, .string x.str, .int .i64 x.r, .int .i64 x.c, .int .i64 x.t, .int .i64 x.l, .int .i64 x.b, .int .i64 x.q, .int .i64 x.code], .int .i64 (n : Int)]) ∧ Below w.heap.size w w' := by
  unfold textT at hx
  cases hq : quoteG (l.drop 1) with
  | none => rw [hq] at hx; cases hx; exact lquoted_no l hl h0 hq w
  | some y =>
    rw [hq] at hx; cases hx
    have := lquoted_yes l hl h0 y.1 y.2 hq w
    rwa [Nat.add_comm] at this
end Go.Proofs.YtiekhbagpmnboaaGreatDoor
