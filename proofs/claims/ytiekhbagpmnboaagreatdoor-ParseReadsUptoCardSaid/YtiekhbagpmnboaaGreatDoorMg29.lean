/-
  orielref04: quoted; Contracts of Go's library at this seat's translation, laid by the kit's own command in its plain mode; A strings.Builder of one's own; lex: quoted; orielref04: what each of its functions answers.
-/
import Derived.Test.YtiekhbagpmnboaaGreatDoorMg0
import Derived.Test.YtiekhbagpmnboaaGreatDoorRows
import Derived.Test.YtiekhbagpmnboaaGreatDoorProg
import Derived.Test.YtiekhbagpmnboaaGreatDoorAddrC
import Derived.Test.YtiekhbagpmnboaaGreatDoorMg2
import Derived.Test.YtiekhbagpmnboaaGreatDoorMg26
import Derived.Test.YtiekhbagpmnboaaGreatDoorValA
import Derived.Test.YtiekhbagpmnboaaGreatDoorValB
import Derived.Test.YtiekhbagpmnboaaGreatDoorMg5
import Derived.Test.YtiekhbagpmnboaaGreatDoorMg27
import Derived.Test.YtiekhbagpmnboaaGreatDoorLexS
import Derived.Test.YtiekhbagpmnboaaGreatDoorLexN
import Derived.Test.YtiekhbagpmnboaaGreatDoorRDPar
import Derived.Test.YtiekhbagpmnboaaGreatDoorRDParB
import Derived.Test.YtiekhbagpmnboaaGreatDoorDDig
import Derived.Test.YtiekhbagpmnboaaGreatDoorDParse
import Derived.Test.YtiekhbagpmnboaaGreatDoorRDJoin
import Derived.Test.YtiekhbagpmnboaaGreatDoorLexD
import Derived.WalkSpells
import Derived.WalkLawsBesides
import Derived.StillTactics
import Derived.Laws.Pointers
import Derived.Deep.RegionHeld3
import Derived.Deep.QuietTactic
import Derived.BigQuiet
import Derived.RowKit3
import Derived.Lib.Hide
import Derived.Lib.OthersKept
import Derived.OwnWalk
import Derived.Lib.IndexLaws
import Derived.Lib.ItoaMem
import Derived.Lib.TrimByte
import Derived.Lib.SlTrimSet
import Derived.Lib.ParseIntB
import Derived.WalkKit
import Derived.ProofKit
import Derived.OpenShut
import Derived.Carry
import Derived.ChangeSame
import Derived.Deep.Draws
import Derived.Shelf.Strings.Builder1
import Derived.Shelf.Strings.Trim
import Derived.Shelf.Small.Utf8
import Derived.Shelf.Small.Strs
import Derived.Shelf.Small.Wraps
import Derived.Shelf.Strings.BuilderF
import Derived.Shelf.Strings.BuilderK
import Derived.Shelf.Strconv.Itoa0
import Derived.Shelf.Strconv.Itoa1
import Derived.Shelf.LaysM
import Derived.Shelf.Strconv.Itoa2
import Derived.Shelf.Strconv.Itoa3
import Derived.Ground.MpProg
import Derived.Shelf.Pu.ParseUintPublic10
import Derived.Shelf.Strings.Search1
import Derived.Shelf.Strings.Search2
import Derived.Shelf.Strings.Cut
import Derived.Shelf.Strings.Shaped
import Derived.Shelf.Strings.Prefix
import Derived.Shelf.Strings.Runes
import Derived.Shelf.Strings.AsciiSet
import Derived.Shelf.Unicode.DecodeSlow
import Derived.Lib.ItoaNum
import Derived.Shelf.Strings.SlTrimAscii
import Derived.Lib.SmallJoins
namespace Go.Proofs.YtiekhbagpmnboaaGreatDoor
open Go.RowKit

set_option maxHeartbeats 2000000 in
theorem r4quoted_yes (l : List UInt8) (at' : Nat) (hl : l.length ≤ 9223372036854775000) (_ham : l.length ≤ maxLen) (ha : at' < l.length) (t : List UInt8) (n : Nat) (hq : quoteG (l.drop (at' + 1)) = some (t, n)) (w : World) : Calls Tryz.prog 34 #[.string ⟨l.toArray⟩, .int .i64 (at' : Int)] w fun e w' => e = .returned (.tuple #[.agg #[.int .i64 2, .int .i64 (at' : Int), .int .i64 0, .string ⟨t.toArray⟩, .int .i64 0, .int .i64 0, .int .i64 0, .int .i64 0, .int .i64 0, .int .i64 0, .int .i64 0], .int .i64 ((at' + 1 + n : Nat) : Int)]) ∧ Below w.heap.size w w' := by
  have hq' := Lib.hid hq
  clear hq
  go_enter Tryz.func34, Tryz.ntmps34
  go_wp2
  go_loop [6, 7] (fun t n => ∃ (j : Nat) (acc : List UInt8), at' + 1 + j ≤ l.length ∧ acc.length ≤ j ∧ n = .int .i64 ((at' + 1 + j : Nat) : Int) ∧ t = .string ⟨acc.toArray⟩ ∧ Hid (quoteG (l.drop (at' + 1)) = (quoteG ((l.drop (at' + 1)).drop j)).map fun x => (acc ++ x.1, x.2 + j))) (fun _ n => l.length - (intOf n).toNat)
  case atStart => exact ⟨0, [], by omega, by simp, rfl, rfl, Lib.hid (quote_start _)⟩
  case round =>
    obtain ⟨j, acc, hj, hacc, rfl, rfl, hG⟩ := hrel
    obtain ⟨g1, g2, g3, g4, g5⟩ := quote_step acc _ j _ hG.out
    by_cases h1 : at' + 1 + j < l.length
    · have hd1 : (l.drop (at' + 1)).drop j = l[at' + 1 + j] :: l.drop (at' + 1 + j + 1) := by rw [List.drop_drop, drop_at l _ h1]
      have hb : at' + 1 + j < (⟨l.toArray⟩ : ByteArray).size := by show at' + 1 + j < l.toArray.size; simpa using h1
      by_cases h2 : l[at' + 1 + j].toNat = 34
      · have hb2 : ((⟨l.toArray⟩ : ByteArray)[at' + 1 + j]'hb).toNat = 34 := h2
        by_cases h3 : at' + 1 + j + 1 < l.length
        · have hc : at' + 1 + j + 1 < (⟨l.toArray⟩ : ByteArray).size := by show at' + 1 + j + 1 < l.toArray.size; simpa using h3
          by_cases h4 : l[at' + 1 + j + 1].toNat = 34
          · have hc2 : ((⟨l.toArray⟩ : ByteArray)[at' + 1 + j + 1]'hc).toNat = 34 := h4
            have h34 : l[at' + 1 + j + 1] = 34 := by rw [← UInt8.toNat_inj]; exact h4
            have hG2 := Lib.hid (g4 _ _ _ (by rw [hd1, drop_at l _ h3]) h2 h4)
            rw [h34] at hG2
            have happ := bytes_append acc [34]
            clear g1 g2 g3 g4 g5 hG hd1 h34 h2 h4
            go_wp2
            go_round
            case rel => exact ⟨j + 2, acc ++ [34], by omega, by simp; omega, by go_num, by first | rfl | (rw [happ]; rfl) | simp [happ], by
              have := hG2.out
              rw [show (l.drop (at' + 1)).drop (j + 2) = l.drop (at' + 1 + j + 1 + 1) by rw [List.drop_drop]; congr 1]
              exact Lib.hid this⟩
            case measure => simp [intOf]; omega
          · have hc2 : ((⟨l.toArray⟩ : ByteArray)[at' + 1 + j + 1]'hc).toNat ≠ 34 := h4
            have hE := g3 _ _ hd1 h2 (fun c hc => by rw [List.head?_drop, List.getElem?_eq_getElem h3] at hc; cases hc; exact h4)
            clear g1 g2 g3 g4 g5 hG hd1 h2 h4
            rw [hq'.out] at hE
            obtain ⟨rfl, hn⟩ : t = acc ∧ n = j + 1 := by injection hE with h; injection h with h5 h6; exact ⟨h5, h6⟩
            have hn' := Lib.hid hn
            clear hn hE hq'
            go_wp2
            refine bodyPost_ret (v := _) ?_ rfl ⟨rfl, by (repeat (first | (with_reducible exact Below.refl _ _) | (with_reducible refine Below.alloc ?_ (by first | omega | (dsimp only; omega) | (simp <;> omega)) _) | (with_reducible refine Below.setCell ?_ (by first | omega | (dsimp only; omega) | (simp <;> omega)) _) | (with_reducible refine Below.drew ?_) | (with_reducible refine below_drewN ?_ _) | (with_reducible refine Below.trans ?_ (Below.mono (by assumption) (by first | omega | (dsimp only; omega) | (simp <;> omega))))))⟩
            rw [hn'.out]
            first | (simp [results, Tryz.results34, go_sem, *]; done) | (simp [results, Tryz.results34, go_sem, *]; omega)
        · have hE := g3 _ _ hd1 h2 (fun c hc => by rw [List.head?_drop, List.getElem?_eq_none (by omega)] at hc; cases hc)
          clear g1 g2 g3 g4 g5 hG hd1 h2
          rw [hq'.out] at hE
          obtain ⟨rfl, hn⟩ : t = acc ∧ n = j + 1 := by injection hE with h; injection h with h5 h6; exact ⟨h5, h6⟩
          have hn' := Lib.hid hn
          clear hn hE hq'
          go_wp2
          refine bodyPost_ret (v := _) ?_ rfl ⟨rfl, by (repeat (first | (with_reducible exact Below.refl _ _) | (with_reducible refine Below.alloc ?_ (by first | omega | (dsimp only; omega) | (simp <;> omega)) _) | (with_reducible refine Below.setCell ?_ (by first | omega | (dsimp only; omega) | (simp <;> omega)) _) | (with_reducible refine Below.drew ?_) | (with_reducible refine below_drewN ?_ _) | (with_reducible refine Below.trans ?_ (Below.mono (by assumption) (by first | omega | (dsimp only; omega) | (simp <;> omega))))))⟩
          rw [hn'.out]
          first | (simp [results, Tryz.results34, go_sem, *]; done) | (simp [results, Tryz.results34, go_sem, *]; omega)
      · have hb2 : ((⟨l.toArray⟩ : ByteArray)[at' + 1 + j]'hb).toNat ≠ 34 := h2
        have hG2 := Lib.hid (g5 _ _ hd1 h2)
        have hx := ext_one l _ h1
        have happ := bytes_append acc [l[at' + 1 + j]]
        clear g1 g2 g3 g4 g5 hG hd1 h2
        go_wp2
        go_round
        case rel => exact ⟨j + 1, acc ++ [l[at' + 1 + j]], by omega, by simp; omega, by go_num, by first | rfl | (rw [hx, happ]; rfl) | simp [hx, happ], by
          have := hG2.out
          rw [show (l.drop (at' + 1)).drop (j + 1) = l.drop (at' + 1 + j + 1) by rw [List.drop_drop]; congr 1]
          exact Lib.hid this⟩
        case measure => simp [intOf]; omega
    · have hE := g2 (by rw [List.drop_drop]; exact List.drop_eq_nil_of_le (by omega))
      clear g1 g2 g3 g4 g5 hG
      rw [hq'.out] at hE
      cases hE
set_option maxHeartbeats 2000000 in
theorem r4quoted_no (l : List UInt8) (at' : Nat) (hl : l.length ≤ 9223372036854775000) (_ham : l.length ≤ maxLen) (ha : at' < l.length) (hq : quoteG (l.drop (at' + 1)) = none) (w : World) : Calls Tryz.prog 34 #[.string ⟨l.toArray⟩, .int .i64 (at' : Int)] w fun e w' => e = .returned (.tuple #[.agg #[.int .i64 8, .int .i64 (at' : Int), .int .i64 0, .string ⟨#[]⟩, .int .i64 0, .int .i64 0, .int .i64 0, .int .i64 0, .int .i64 0, .int .i64 0, .int .i64 0], .int .i64 (at' : Int)]) ∧ Below w.heap.size w w' := by
  have hq' := Lib.hid hq
  clear hq
  go_enter Tryz.func34, Tryz.ntmps34
  go_wp2
  go_loop [6, 7] (fun t n => ∃ (j : Nat) (acc : List UInt8), at' + 1 + j ≤ l.length ∧ acc.length ≤ j ∧ n = .int .i64 ((at' + 1 + j : Nat) : Int) ∧ t = .string ⟨acc.toArray⟩ ∧ Hid (quoteG (l.drop (at' + 1)) = (quoteG ((l.drop (at' + 1)).drop j)).map fun x => (acc ++ x.1, x.2 + j))) (fun _ n => l.length - (intOf n).toNat)
  case atStart => exact ⟨0, [], by omega, by simp, rfl, rfl, Lib.hid (quote_start _)⟩
  case round =>
    obtain ⟨j, acc, hj, hacc, rfl, rfl, hG⟩ := hrel
    obtain ⟨g1, g2, g3, g4, g5⟩ := quote_step acc _ j _ hG.out
    by_cases h1 : at' + 1 + j < l.length
    · have hd1 : (l.drop (at' + 1)).drop j = l[at' + 1 + j] :: l.drop (at' + 1 + j + 1) := by rw [List.drop_drop, drop_at l _ h1]
      have hb : at' + 1 + j < (⟨l.toArray⟩ : ByteArray).size := by show at' + 1 + j < l.toArray.size; simpa using h1
      by_cases h2 : l[at' + 1 + j].toNat = 34
      · have hb2 : ((⟨l.toArray⟩ : ByteArray)[at' + 1 + j]'hb).toNat = 34 := h2
        by_cases h3 : at' + 1 + j + 1 < l.length
        · have hc : at' + 1 + j + 1 < (⟨l.toArray⟩ : ByteArray).size := by show at' + 1 + j + 1 < l.toArray.size; simpa using h3
          by_cases h4 : l[at' + 1 + j + 1].toNat = 34
          · have hc2 : ((⟨l.toArray⟩ : ByteArray)[at' + 1 + j + 1]'hc).toNat = 34 := h4
            have h34 : l[at' + 1 + j + 1] = 34 := by rw [← UInt8.toNat_inj]; exact h4
            have hG2 := Lib.hid (g4 _ _ _ (by rw [hd1, drop_at l _ h3]) h2 h4)
            rw [h34] at hG2
            have happ := bytes_append acc [34]
            clear g1 g2 g3 g4 g5 hG hd1 h34 h2 h4
            go_wp2
            go_round
            case rel => exact ⟨j + 2, acc ++ [34], by omega, by simp; omega, by go_num, by first | rfl | (rw [happ]; rfl) | simp [happ], by
              have := hG2.out
              rw [show (l.drop (at' + 1)).drop (j + 2) = l.drop (at' + 1 + j + 1 + 1) by rw [List.drop_drop]; congr 1]
              exact Lib.hid this⟩
            case measure => simp [intOf]; omega
          · have hc2 : ((⟨l.toArray⟩ : ByteArray)[at' + 1 + j + 1]'hc).toNat ≠ 34 := h4
            have hE := g3 _ _ hd1 h2 (fun c hc => by rw [List.head?_drop, List.getElem?_eq_getElem h3] at hc; cases hc; exact h4)
            clear g1 g2 g3 g4 g5 hG hd1 h2 h4
            rw [hq'.out] at hE
            cases hE
        · have hE := g3 _ _ hd1 h2 (fun c hc => by rw [List.head?_drop, List.getElem?_eq_none (by omega)] at hc; cases hc)
          clear g1 g2 g3 g4 g5 hG hd1 h2
          rw [hq'.out] at hE
          cases hE
      · have hb2 : ((⟨l.toArray⟩ : ByteArray)[at' + 1 + j]'hb).toNat ≠ 34 := h2
        have hG2 := Lib.hid (g5 _ _ hd1 h2)
        have hx := ext_one l _ h1
        have happ := bytes_append acc [l[at' + 1 + j]]
        clear g1 g2 g3 g4 g5 hG hd1 h2
        go_wp2
        go_round
        case rel => exact ⟨j + 1, acc ++ [l[at' + 1 + j]], by omega, by simp; omega, by go_num, by first | rfl | (rw [hx, happ]; rfl) | simp [hx, happ], by
          have := hG2.out
          rw [show (l.drop (at' + 1)).drop (j + 1) = l.drop (at' + 1 + j + 1) by rw [List.drop_drop]; congr 1]
          exact Lib.hid this⟩
        case measure => simp [intOf]; omega
    · have hE := g2 (by rw [List.drop_drop]; exact List.drop_eq_nil_of_le (by omega))
      clear g1 g2 g3 g4 g5 hG
      clear hE hq'
      go_wp2_with (go_at_call 66; refine (r4wrong _ _).mono ?_; rintro e w2 ⟨rfl, hb2⟩; obtain ⟨hc2, hf2, hz2⟩ := bkeep hb2 (w.heap.size + 1) (by first | omega | (simp <;> omega)))
      refine bodyPost_ret (v := _) ?_ rfl ⟨rfl, by (repeat (first | (with_reducible exact Below.refl _ _) | (with_reducible refine Below.alloc ?_ (by first | omega | (dsimp only; omega) | (simp <;> omega)) _) | (with_reducible refine Below.setCell ?_ (by first | omega | (dsimp only; omega) | (simp <;> omega)) _) | (with_reducible refine Below.drew ?_) | (with_reducible refine below_drewN ?_ _) | (with_reducible refine Below.trans ?_ (Below.mono (by assumption) (by first | omega | (dsimp only; omega) | (simp <;> omega))))))⟩
      first | (simp [results, Tryz.results34, go_sem, *]; done) | (simp [results, Tryz.results34, go_sem, *]; omega)
end Go.Proofs.YtiekhbagpmnboaaGreatDoor
namespace Go.Proofs
open Go.Shelf
def Tryz.lays169_ren : Go.Shelf.Ren := ⟨fun | 169 => 79 | n => n, fun | 70 => 127 | 9 => 9 | 0 => 0 | 72 => 130 | 37 => 128 | 127 => 146 | 3 => 3 | 5 => 5 | n => n, fun | n => n⟩
theorem Tryz.lays169 : Go.Proofs.Lays.n169 Tryz.prog Tryz.lays169_ren := {
  mixed := by kernel_rfl
  f169 := Tryz.func79.trans (congrArg some (by kernel_rfl))
  t0 := Tryz.underlying0
  a0 := Tryz.isAgg0
  z0 := Tryz.sizeOf0
  v0 := Tryz.zeroValue0
  t3 := Tryz.underlying3
  a3 := Tryz.isAgg3
  z3 := Tryz.sizeOf3
  v3 := Tryz.zeroValue3
  t9 := Tryz.underlying9
  a9 := Tryz.isAgg9
  z9 := Tryz.sizeOf9
  v9 := Tryz.zeroValue9
  t37 := Tryz.underlying128
  a37 := Tryz.isAgg128
  z37 := Tryz.sizeOf128
  v37 := Tryz.zeroValue128
  t70 := Tryz.underlying127
  a70 := Tryz.isAgg127
  z70 := Tryz.sizeOf127
  v70 := Tryz.zeroValue127
  t72 := Tryz.underlying130
  a72 := Tryz.isAgg130
  z72 := Tryz.sizeOf130
  v72 := Tryz.zeroValue130
  t127 := Tryz.underlying146
  a127 := Tryz.isAgg146
  z127 := Tryz.sizeOf146
  v127 := Tryz.zeroValue146 }
theorem Tryz.Builder_Extra_169 : Builder.Extra Tryz.prog Tryz.lays169_ren := {
  sizeBuilder := by kernel_rfl
  liesBuilder := by kernel_rfl
  t5 := Tryz.underlying5
  a5 := Tryz.isAgg5
  z5 := Tryz.sizeOf5
  v5 := Tryz.zeroValue5
  infoByte := by kernel_rfl
  cellsByte := by kernel_rfl
  sizeByte := by kernel_rfl
  neB5 := by decide }
open Go.RowKit in
/-- (*strings.Builder).String: "String returns the accumulated string.": WHATEVER THE BUILDER HOLDS; THE FORM '_f': OF A BUILDER THAT MAY HAVE BEEN READ BEFORE; AND IT IS A BUILDER STILL, holding the same bytes: it can be written on. (LAID: no walk: one application.) -/
theorem Tryz.Builder_String_any_f (B b : Nat) (l : List UInt8) (w : World) (h : Lib.IsBuilderF 130 5 B b (Lib.byteCells l) w) (hBw : B ≤ w.heap.size) :
    Calls Tryz.prog 79 #[.pointer (some ⟨b, 0, none⟩)] w fun e w' => e = .returned (.string ⟨l.toArray⟩) ∧ (Lib.IsBuilderF 130 5 B b (Lib.byteCells l) w' ∧ Below B w w') := Any.Builder_String_any_f Tryz.lays169 Tryz.Builder_Extra_169 B b l w h hBw
end Go.Proofs
namespace Go.Proofs.YtiekhbagpmnboaaGreatDoor
open Go.RowKit

/-- the library's numbers, in this translation -/
def bren : Go.Shelf.Ren := ⟨fun | 167 => 80 | 169 => 79 | 240 => 107 | 276 => 135 | n => n, fun | 0 => 0 | 3 => 3 | 4 => 4 | 5 => 5 | 9 => 9 | 20 => 20 | 37 => 128 | 70 => 127 | 72 => 130 | 75 => 122 | 80 => 131 | 164 => 162 | n => n, fun | n => n⟩
theorem lays_wbyte : Go.Proofs.Lays.n167 Tryz.prog bren := {
  mixed := by kernel_rfl
  f167 := Tryz.func80.trans (congrArg some (by kernel_rfl))
  f240 := Tryz.func107.trans (congrArg some (by kernel_rfl))
  f276 := Tryz.func135.trans (congrArg some (by kernel_rfl))
  t0 := Tryz.underlying0
  a0 := Tryz.isAgg0
  z0 := Tryz.sizeOf0
  v0 := Tryz.zeroValue0
  t4 := Tryz.underlying4
  a4 := Tryz.isAgg4
  z4 := Tryz.sizeOf4
  v4 := Tryz.zeroValue4
  t5 := Tryz.underlying5
  a5 := Tryz.isAgg5
  z5 := Tryz.sizeOf5
  v5 := Tryz.zeroValue5
  t9 := Tryz.underlying9
  a9 := Tryz.isAgg9
  z9 := Tryz.sizeOf9
  v9 := Tryz.zeroValue9
  t20 := Tryz.underlying20
  a20 := Tryz.isAgg20
  z20 := Tryz.sizeOf20
  v20 := Tryz.zeroValue20
  t37 := Tryz.underlying128
  a37 := Tryz.isAgg128
  z37 := Tryz.sizeOf128
  v37 := Tryz.zeroValue128
  t70 := Tryz.underlying127
  a70 := Tryz.isAgg127
  z70 := Tryz.sizeOf127
  v70 := Tryz.zeroValue127
  t72 := Tryz.underlying130
  a72 := Tryz.isAgg130
  z72 := Tryz.sizeOf130
  v72 := Tryz.zeroValue130
  t75 := Tryz.underlying122
  a75 := Tryz.isAgg122
  z75 := Tryz.sizeOf122
  v75 := Tryz.zeroValue122
  t164 := Tryz.underlying162
  a164 := Tryz.isAgg162
  z164 := Tryz.sizeOf162
  v164 := Tryz.zeroValue162 }
theorem bextra : Builder.Extra Tryz.prog bren := {
  sizeBuilder := by kernel_rfl
  liesBuilder := by kernel_rfl
  t5 := Tryz.underlying5
  a5 := Tryz.isAgg5
  z5 := Tryz.sizeOf5
  v5 := Tryz.zeroValue5
  infoByte := by kernel_rfl
  cellsByte := by kernel_rfl
  sizeByte := by kernel_rfl
  neB5 := by decide }
theorem byteCells_app (a b : List UInt8) : Lib.byteCells (a ++ b) = Lib.byteCells a ++ Lib.byteCells b := by simp [Lib.byteCells]
theorem byteCells_len (a : List UInt8) : (Lib.byteCells a).length = a.length := by simp [Lib.byteCells]
theorem lwrite (B : Nat) (acc : List UInt8) (b : UInt8) (hl : acc.length + 1 ≤ 140737488355328) (w : World) (hB : B ≤ w.heap.size) (h : Lib.IsBuilderF 130 5 B B (Lib.byteCells acc) w) : Calls Tryz.prog 80 #[.pointer (some ⟨B, 0, none⟩), .int .u8 (b.toNat : Int)] w fun e w' => e = .returned .nilIface ∧ Lib.IsBuilderF 130 5 B B (Lib.byteCells (acc ++ [b])) w' ∧ Below B w w' := by
  refine (Go.Proofs.Any.Builder_WriteByte_k lays_wbyte bextra B B _ (b.toNat : Int) w h (by rw [byteCells_len]; exact hl) hB).mono ?_
  rintro e w' ⟨he, h1, h2, _⟩
  refine ⟨he, ?_, h2⟩
  rw [byteCells_app]
  exact Or.inr h1
theorem bstring_any (B : Nat) (acc : List UInt8) (d : ByteArray) (hd : (⟨acc.toArray⟩ : ByteArray) = d) (w : World) (hB : B ≤ w.heap.size) (h : Lib.IsBuilderF 130 5 B B (Lib.byteCells (acc)) w) : Calls Tryz.prog 79 #[.pointer (some ⟨B, 0, none⟩)] w fun e w' => e = .returned (.string d) ∧ Lib.IsBuilderF 130 5 B B (Lib.byteCells (acc)) w' ∧ Below B w w' := by
  rw [← hd]
  exact Tryz.Builder_String_any_f B B acc w h hB
end Go.Proofs.YtiekhbagpmnboaaGreatDoor
namespace Go.Proofs.YtiekhbagpmnboaaGreatDoor
open Go.RowKit

theorem lwrite34 (B : Nat) (acc : List UInt8) (hl : acc.length + 1 ≤ 140737488355328) (w : World) (hB : B ≤ w.heap.size) (h : Lib.IsBuilderF 130 5 B B (Lib.byteCells acc) w) : Calls Tryz.prog 80 #[.pointer (some ⟨B, 0, none⟩), .int .u8 34] w fun e w' => e = .returned .nilIface ∧ Lib.IsBuilderF 130 5 B B (Lib.byteCells (acc ++ [34])) w' ∧ Below B w w' := lwrite B acc 34 hl w hB h
set_option maxRecDepth 100000 in
set_option maxHeartbeats 2000000 in
theorem lquoted_yes (l : List UInt8) (hl : l.length ≤ 140737488355327) (h0 : 0 < l.length) (t : List UInt8) (n : Nat) (hq : quoteG (l.drop 1) = some (t, n)) (w : World) : Calls Tryz.prog 46 #[.string ⟨l.toArray⟩] w fun e w' => e = .returned (.tuple #[.agg #[.int .i64 2, .int .i64 0, .int .i64 0, .string ⟨t.toArray⟩, .int .i64 0, .int .i64 0, .int .i64 0, .int .i64 0, .int .i64 0, .int .i64 0, .int .i64 0], .int .i64 ((1 + n : Nat) : Int)]) ∧ Below w.heap.size w w' := by
  have hq' := Lib.hid hq
  clear hq
  go_enter Tryz.func46, Tryz.ntmps46
  go_wp2
  have hI0 : Lib.IsBuilderF 130 5 (w.heap.size + 1) (w.heap.size + 1) (Lib.byteCells ([])) ((w.alloc (.cells #[.int .i64 0, .int .i64 0, .int .i64 0, .string ⟨#[]⟩, .int .i64 0, .int .i64 0, .int .i64 0, .int .i64 0, .int .i64 0, .int .i64 0, .int .i64 0] 33)).alloc (.cells #[.pointer none, .slice none 0 0] 130)) := by
    have h9 := Lib.IsBuilderF.of (Lib.fresh_isBuilder 130 5 (w.alloc (.cells #[.int .i64 0, .int .i64 0, .int .i64 0, .string ⟨#[]⟩, .int .i64 0, .int .i64 0, .int .i64 0, .int .i64 0, .int .i64 0, .int .i64 0, .int .i64 0] 33)))
    simp only [World.size_alloc] at h9
    exact h9
  obtain ⟨w0, hw0⟩ : ∃ w0, ((w.alloc (.cells #[.int .i64 0, .int .i64 0, .int .i64 0, .string ⟨#[]⟩, .int .i64 0, .int .i64 0, .int .i64 0, .int .i64 0, .int .i64 0, .int .i64 0, .int .i64 0] 33)).alloc (.cells #[.pointer none, .slice none 0 0] 130)) = w0 := ⟨_, rfl⟩
  have hsz : w0.heap.size = w.heap.size + 2 := by rw [← hw0]; simp
  go_loopw [5] (fun i wr => ∃ (j : Nat) (acc : List UInt8), 1 + j ≤ l.length ∧ acc.length ≤ j ∧ i = .int .i64 ((1 + j : Nat) : Int) ∧ Lib.IsBuilderF 130 5 (w.heap.size + 1) (w.heap.size + 1) (Lib.byteCells (acc)) wr ∧ Below (w.heap.size + 1) w0 wr ∧ Hid (quoteG (l.drop 1) = (quoteG ((l.drop 1).drop j)).map fun x => (acc ++ x.1, x.2 + j))) (fun i _ => l.length - (intOf i).toNat)
  case atStart => exact ⟨0, [], by omega, by simp, rfl, hI0, by rw [hw0]; exact Below.refl _ _, Lib.hid (quote_start _)⟩
  case round =>
    clear hI0
    obtain ⟨j, acc, hj, hacc, rfl, hIb, hbr, hG⟩ := hrel
    obtain ⟨hc, hf, hz⟩ := keepB hbr (by omega)
    have hzr := hbr.size
    subst hw0
    obtain ⟨g1, g2, g3, g4, g5⟩ := quote_step acc _ j _ hG.out
    by_cases h1 : 1 + j < l.length
    · have hd1 : (l.drop 1).drop j = l[1 + j] :: l.drop (1 + j + 1) := by rw [List.drop_drop, drop_at l _ h1]
      have hb : 1 + j < (⟨l.toArray⟩ : ByteArray).size := by show 1 + j < l.toArray.size; simpa using h1
      by_cases h2 : l[1 + j].toNat = 34
      · have hb2 : ((⟨l.toArray⟩ : ByteArray)[1 + j]'hb).toNat = 34 := h2
        by_cases h3 : 1 + j + 1 < l.length
        · have hz0 : ((1 : Int) + (j : Int) + 1 == (l.length : Int)) = false := by simp; omega
          have hcb : 1 + j + 1 < (⟨l.toArray⟩ : ByteArray).size := by show 1 + j + 1 < l.toArray.size; simpa using h3
          by_cases h4 : l[1 + j + 1].toNat = 34
          · have hc2 : ((⟨l.toArray⟩ : ByteArray)[1 + j + 1]'hcb).toNat = 34 := h4
            have h34 : l[1 + j + 1] = 34 := by rw [← UInt8.toNat_inj]; exact h4
            have hG2 := Lib.hid (g4 _ _ _ (by rw [hd1, drop_at l _ h3]) h2 h4)
            rw [h34] at hG2
            clear g1 g2 g3 g4 g5 hG hd1 h2 h4 h34
            go_wp2_with fail
            refine (lwrite34 (w.heap.size + 1) acc (by omega) _ (by omega) hIb).mono ?_
            rintro e w4 ⟨rfl, hI4, hb4⟩
            have hbr4 := hbr.trans hb4
            clear hb4 hIb hbr
            go_wp2
            go_roundw
            case rel => exact ⟨j + 2, acc ++ [34], by omega, by simp; omega, by go_num, hI4, hbr4, by
              have := hG2.out
              rw [show (l.drop 1).drop (j + 2) = l.drop (1 + j + 1 + 1) by rw [List.drop_drop]; congr 1]
              exact Lib.hid this⟩
            case measure => simp [intOf]; omega
          · have hc2 : ((⟨l.toArray⟩ : ByteArray)[1 + j + 1]'hcb).toNat ≠ 34 := h4
            have hE := g3 _ _ hd1 h2 (fun c hc => by rw [List.head?_drop, List.getElem?_eq_getElem h3] at hc; cases hc; exact h4)
            clear g1 g2 g3 g4 g5 hG hd1 h2 h4
            rw [hq'.out] at hE
            obtain ⟨rfl, hn⟩ : t = acc ∧ n = j + 1 := by injection hE with h; injection h with h5 h6; exact ⟨h5, h6⟩
            have hn' := Lib.hid hn
            clear hn hE hq'
            have hq1 : Below w.heap.size w wr := (((Below.refl _ w).alloc (Nat.le_refl _) _).alloc (by simp) _).trans (hbr.mono (by omega))
            go_wp2_with fail
            refine (bstring_any (w.heap.size + 1) t _ rfl _ (by omega) hIb).mono ?_
            rintro e w4 ⟨rfl, hI4, hb4⟩
            obtain ⟨hc4, hf4, hz4⟩ := keepB hb4 (by omega)
            clear hI4 hIb
            go_wp2
            refine bodyPost_ret (v := _) ?_ rfl ⟨rfl, by (repeat (first | (with_reducible exact Below.refl _ _) | (with_reducible refine Below.alloc ?_ (by first | omega | (dsimp only; omega) | (simp <;> omega)) _) | (with_reducible refine Below.setCell ?_ (by first | omega | (dsimp only; omega) | (simp <;> omega)) _) | (with_reducible refine Below.drew ?_) | (with_reducible refine below_drewN ?_ _) | (with_reducible refine Below.trans ?_ (Below.mono (by assumption) (by first | omega | (dsimp only; omega) | (simp <;> omega))))))⟩
            rw [hn'.out]
            first | (simp [results, Tryz.results46, go_sem, *]; done) | (simp [results, Tryz.results46, go_sem, *]; omega)
        · have hE := g3 _ _ hd1 h2 (fun c hc => by rw [List.head?_drop, List.getElem?_eq_none (by omega)] at hc; cases hc)
          have hz0 : ((1 : Int) + (j : Int) + 1 == (l.length : Int)) = true := by simp; omega
          clear g1 g2 g3 g4 g5 hG hd1 h2
          rw [hq'.out] at hE
          obtain ⟨rfl, hn⟩ : t = acc ∧ n = j + 1 := by injection hE with h; injection h with h5 h6; exact ⟨h5, h6⟩
          have hn' := Lib.hid hn
          clear hn hE hq'
          have hq1 : Below w.heap.size w wr := (((Below.refl _ w).alloc (Nat.le_refl _) _).alloc (by simp) _).trans (hbr.mono (by omega))
          go_wp2_with fail
          refine (bstring_any (w.heap.size + 1) t _ rfl _ (by omega) hIb).mono ?_
          rintro e w4 ⟨rfl, hI4, hb4⟩
          obtain ⟨hc4, hf4, hz4⟩ := keepB hb4 (by omega)
          clear hI4 hIb
          go_wp2
          refine bodyPost_ret (v := _) ?_ rfl ⟨rfl, by (repeat (first | (with_reducible exact Below.refl _ _) | (with_reducible refine Below.alloc ?_ (by first | omega | (dsimp only; omega) | (simp <;> omega)) _) | (with_reducible refine Below.setCell ?_ (by first | omega | (dsimp only; omega) | (simp <;> omega)) _) | (with_reducible refine Below.drew ?_) | (with_reducible refine below_drewN ?_ _) | (with_reducible refine Below.trans ?_ (Below.mono (by assumption) (by first | omega | (dsimp only; omega) | (simp <;> omega))))))⟩
          rw [hn'.out]
          first | (simp [results, Tryz.results46, go_sem, *]; done) | (simp [results, Tryz.results46, go_sem, *]; omega)
      · have hb2 : ((⟨l.toArray⟩ : ByteArray)[1 + j]'hb).toNat ≠ 34 := h2
        have hG2 := Lib.hid (g5 _ _ hd1 h2)
        clear g1 g2 g3 g4 g5 hG hd1 h2
        go_wp2_with fail
        refine (lwrite (w.heap.size + 1) acc ((⟨l.toArray⟩ : ByteArray)[1 + j]'hb) (by omega) _ (by omega) hIb).mono ?_
        rintro e w4 ⟨rfl, hI4, hb4⟩
        have hbr4 := hbr.trans hb4
        clear hb4 hIb hbr
        go_wp2
        go_roundw
        case rel => exact ⟨j + 1, acc ++ [l[1 + j]], by omega, by simp; omega, by go_num, hI4, hbr4, by
          have := hG2.out
          rw [show (l.drop 1).drop (j + 1) = l.drop (1 + j + 1) by rw [List.drop_drop]; congr 1]
          exact Lib.hid this⟩
        case measure => simp [intOf]; omega
    · have hE := g2 (by rw [List.drop_drop]; exact List.drop_eq_nil_of_le (by omega))
      clear g1 g2 g3 g4 g5 hG
      rw [hq'.out] at hE
      cases hE
set_option maxRecDepth 100000 in
set_option maxHeartbeats 2000000 in
theorem lquoted_no (l : List UInt8) (hl : l.length ≤ 140737488355327) (h0 : 0 < l.length) (hq : quoteG (l.drop 1) = none) (w : World) : Calls Tryz.prog 46 #[.string ⟨l.toArray⟩] w fun e w' => e = .returned (.tuple #[.agg #[.int .i64 8, .int .i64 0, .int .i64 0, .string ⟨#[]⟩, .int .i64 0, .int .i64 0, .int .i64 0, .int .i64 0, .int .i64 0, .int .i64 0, .int .i64 0], .int .i64 0]) ∧ Below w.heap.size w w' := by
  have hq' := Lib.hid hq
  clear hq
  go_enter Tryz.func46, Tryz.ntmps46
  go_wp2
  have hI0 : Lib.IsBuilderF 130 5 (w.heap.size + 1) (w.heap.size + 1) (Lib.byteCells ([])) ((w.alloc (.cells #[.int .i64 0, .int .i64 0, .int .i64 0, .string ⟨#[]⟩, .int .i64 0, .int .i64 0, .int .i64 0, .int .i64 0, .int .i64 0, .int .i64 0, .int .i64 0] 33)).alloc (.cells #[.pointer none, .slice none 0 0] 130)) := by
    have h9 := Lib.IsBuilderF.of (Lib.fresh_isBuilder 130 5 (w.alloc (.cells #[.int .i64 0, .int .i64 0, .int .i64 0, .string ⟨#[]⟩, .int .i64 0, .int .i64 0, .int .i64 0, .int .i64 0, .int .i64 0, .int .i64 0, .int .i64 0] 33)))
    simp only [World.size_alloc] at h9
    exact h9
  obtain ⟨w0, hw0⟩ : ∃ w0, ((w.alloc (.cells #[.int .i64 0, .int .i64 0, .int .i64 0, .string ⟨#[]⟩, .int .i64 0, .int .i64 0, .int .i64 0, .int .i64 0, .int .i64 0, .int .i64 0, .int .i64 0] 33)).alloc (.cells #[.pointer none, .slice none 0 0] 130)) = w0 := ⟨_, rfl⟩
  have hsz : w0.heap.size = w.heap.size + 2 := by rw [← hw0]; simp
  go_loopw [5] (fun i wr => ∃ (j : Nat) (acc : List UInt8), 1 + j ≤ l.length ∧ acc.length ≤ j ∧ i = .int .i64 ((1 + j : Nat) : Int) ∧ Lib.IsBuilderF 130 5 (w.heap.size + 1) (w.heap.size + 1) (Lib.byteCells (acc)) wr ∧ Below (w.heap.size + 1) w0 wr ∧ Hid (quoteG (l.drop 1) = (quoteG ((l.drop 1).drop j)).map fun x => (acc ++ x.1, x.2 + j))) (fun i _ => l.length - (intOf i).toNat)
  case atStart => exact ⟨0, [], by omega, by simp, rfl, hI0, by rw [hw0]; exact Below.refl _ _, Lib.hid (quote_start _)⟩
  case round =>
    clear hI0
    obtain ⟨j, acc, hj, hacc, rfl, hIb, hbr, hG⟩ := hrel
    obtain ⟨hc, hf, hz⟩ := keepB hbr (by omega)
    have hzr := hbr.size
    subst hw0
    obtain ⟨g1, g2, g3, g4, g5⟩ := quote_step acc _ j _ hG.out
    by_cases h1 : 1 + j < l.length
    · have hd1 : (l.drop 1).drop j = l[1 + j] :: l.drop (1 + j + 1) := by rw [List.drop_drop, drop_at l _ h1]
      have hb : 1 + j < (⟨l.toArray⟩ : ByteArray).size := by show 1 + j < l.toArray.size; simpa using h1
      by_cases h2 : l[1 + j].toNat = 34
      · have hb2 : ((⟨l.toArray⟩ : ByteArray)[1 + j]'hb).toNat = 34 := h2
        by_cases h3 : 1 + j + 1 < l.length
        · have hz0 : ((1 : Int) + (j : Int) + 1 == (l.length : Int)) = false := by simp; omega
          have hcb : 1 + j + 1 < (⟨l.toArray⟩ : ByteArray).size := by show 1 + j + 1 < l.toArray.size; simpa using h3
          by_cases h4 : l[1 + j + 1].toNat = 34
          · have hc2 : ((⟨l.toArray⟩ : ByteArray)[1 + j + 1]'hcb).toNat = 34 := h4
            have h34 : l[1 + j + 1] = 34 := by rw [← UInt8.toNat_inj]; exact h4
            have hG2 := Lib.hid (g4 _ _ _ (by rw [hd1, drop_at l _ h3]) h2 h4)
            rw [h34] at hG2
            clear g1 g2 g3 g4 g5 hG hd1 h2 h4 h34
            go_wp2_with fail
            refine (lwrite34 (w.heap.size + 1) acc (by omega) _ (by omega) hIb).mono ?_
            rintro e w4 ⟨rfl, hI4, hb4⟩
            have hbr4 := hbr.trans hb4
            clear hb4 hIb hbr
            go_wp2
            go_roundw
            case rel => exact ⟨j + 2, acc ++ [34], by omega, by simp; omega, by go_num, hI4, hbr4, by
              have := hG2.out
              rw [show (l.drop 1).drop (j + 2) = l.drop (1 + j + 1 + 1) by rw [List.drop_drop]; congr 1]
              exact Lib.hid this⟩
            case measure => simp [intOf]; omega
          · have hc2 : ((⟨l.toArray⟩ : ByteArray)[1 + j + 1]'hcb).toNat ≠ 34 := h4
            have hE := g3 _ _ hd1 h2 (fun c hc => by rw [List.head?_drop, List.getElem?_eq_getElem h3] at hc; cases hc; exact h4)
            clear g1 g2 g3 g4 g5 hG hd1 h2 h4
            rw [hq'.out] at hE
            cases hE
        · have hE := g3 _ _ hd1 h2 (fun c hc => by rw [List.head?_drop, List.getElem?_eq_none (by omega)] at hc; cases hc)
          have hz0 : ((1 : Int) + (j : Int) + 1 == (l.length : Int)) = true := by simp; omega
          clear g1 g2 g3 g4 g5 hG hd1 h2
          rw [hq'.out] at hE
          cases hE
      · have hb2 : ((⟨l.toArray⟩ : ByteArray)[1 + j]'hb).toNat ≠ 34 := h2
        have hG2 := Lib.hid (g5 _ _ hd1 h2)
        clear g1 g2 g3 g4 g5 hG hd1 h2
        go_wp2_with fail
        refine (lwrite (w.heap.size + 1) acc ((⟨l.toArray⟩ : ByteArray)[1 + j]'hb) (by omega) _ (by omega) hIb).mono ?_
        rintro e w4 ⟨rfl, hI4, hb4⟩
        have hbr4 := hbr.trans hb4
        clear hb4 hIb hbr
        go_wp2
        go_roundw
        case rel => exact ⟨j + 1, acc ++ [l[1 + j]], by omega, by simp; omega, by go_num, hI4, hbr4, by
          have := hG2.out
          rw [show (l.drop 1).drop (j + 1) = l.drop (1 + j + 1) by rw [List.drop_drop]; congr 1]
          exact Lib.hid this⟩
        case measure => simp [intOf]; omega
    · have hE := g2 (by rw [List.drop_drop]; exact List.drop_eq_nil_of_le (by omega))
      clear g1 g2 g3 g4 g5 hG
      clear hE hq'
      have hq1 : Below w.heap.size w wr := (((Below.refl _ w).alloc (Nat.le_refl _) _).alloc (by simp) _).trans (hbr.mono (by omega))
      clear hIb
      go_wp2
      refine bodyPost_ret (v := _) ?_ rfl ⟨rfl, by (repeat (first | (with_reducible exact Below.refl _ _) | (with_reducible refine Below.alloc ?_ (by first | omega | (dsimp only; omega) | (simp <;> omega)) _) | (with_reducible refine Below.setCell ?_ (by first | omega | (dsimp only; omega) | (simp <;> omega)) _) | (with_reducible refine Below.drew ?_) | (with_reducible refine below_drewN ?_ _) | (with_reducible refine Below.trans ?_ (Below.mono (by assumption) (by first | omega | (dsimp only; omega) | (simp <;> omega))))))⟩
      first | (simp [results, Tryz.results46, go_sem, *]; done) | (simp [results, Tryz.results46, go_sem, *]; omega)
theorem lquoted (l : List UInt8) (hl : l.length ≤ 140737488355327) (h0 : 0 < l.length) (x : Tok) (n : Nat) (hx : textT l = (x, n)) (w : World) : Calls Tryz.prog 46 #[.string ⟨l.toArray⟩] w fun e w' => e = .returned (.tuple #[.agg #[.int .i64 x.kind, .int .i64 x.place, .int .i64 x.num, .string x.str, .int .i64 x.r, .int .i64 x.c, .int .i64 x.t, .int .i64 x.l, .int .i64 x.b, .int .i64 x.q, .int .i64 x.code], .int .i64 (n : Int)]) ∧ Below w.heap.size w w' := by
  unfold textT at hx
  cases hq : quoteG (l.drop 1) with
  | none => rw [hq] at hx; cases hx; exact lquoted_no l hl h0 hq w
  | some y =>
    rw [hq] at hx; cases hx
    have := lquoted_yes l hl h0 y.1 y.2 hq w
    rwa [Nat.add_comm] at this
end Go.Proofs.YtiekhbagpmnboaaGreatDoor
namespace Go.Proofs.YtiekhbagpmnboaaGreatDoor
open Go.RowKit

theorem r4number (l : List UInt8) (at' : Nat) (hl : l.length ≤ 9223372036854775000) (ham : l.length ≤ maxLen) (ha : at' < l.length) (x : Tok) (n : Nat) (hx : nuT (l.drop at') = (x, n)) (w : World) : Calls Tryz.prog 33 #[.string ⟨l.toArray⟩, .int .i64 (at' : Int)] w fun e w' => e = .returned (.tuple #[.agg #[.int .i64 x.kind, .int .i64 (at' : Int), .int .i64 x.num, .string x.str, .int .i64 x.r, .int .i64 x.c, .int .i64 x.t, .int .i64 x.l, .int .i64 x.b, .int .i64 x.q, .int .i64 x.code], .int .i64 ((at' + n : Nat) : Int)]) ∧ Below w.heap.size w w' := by
  unfold nuT at hx
  have hs : (⟨((l.drop at').takeWhile numB).toArray⟩ : ByteArray).size ≤ maxLen := by
    have := takeWhile_le numB (l.drop at')
    rw [List.length_drop] at this
    show ((l.drop at').takeWhile numB).toArray.size ≤ _
    rw [List.size_toArray]; omega
  split at hx
  · rename_i h
    cases hx
    exact r4number_yes l _ at' _ (by omega) (by omega) rfl rfl hs _ rfl h w
  · rename_i h
    cases hx
    exact r4number_no l _ at' _ (by omega) (by omega) rfl rfl hs _ rfl (by simpa using h) w
theorem r4quoted (l : List UInt8) (at' : Nat) (hl : l.length ≤ 9223372036854775000) (ham : l.length ≤ maxLen) (ha : at' < l.length) (x : Tok) (n : Nat) (hx : textT (l.drop at') = (x, n)) (w : World) : Calls Tryz.prog 34 #[.string ⟨l.toArray⟩, .int .i64 (at' : Int)] w fun e w' => e = .returned (.tuple #[.agg #[.int .i64 x.kind, .int .i64 (at' : Int), .int .i64 x.num, .string x.str, .int .i64 x.r, .int .i64 x.c, .int .i64 x.t, .int .i64 x.l, .int .i64 x.b, .int .i64 x.q, .int .i64 x.code], .int .i64 ((at' + n : Nat) : Int)]) ∧ Below w.heap.size w w' := by
  unfold textT at hx
  rw [List.drop_drop] at hx
  cases hq : quoteG (l.drop (at' + 1)) with
  | none =>
    rw [hq] at hx; cases hx
    exact r4quoted_no l at' hl ham ha hq w
  | some y =>
    rw [hq] at hx; cases hx
    have := r4quoted_yes l at' hl ham ha y.1 y.2 hq w
    rwa [show at' + 1 + y.2 = at' + (y.2 + 1) by omega] at this
theorem r4fault (l : List UInt8) (at' : Nat) (hl : l.length ≤ 9223372036854775000) (_ham : l.length ≤ maxLen) (ha : at' < l.length) (x : Tok) (n : Nat) (hx : codeT (l.drop at') = (x, n)) (w : World) : Calls Tryz.prog 35 #[.string ⟨l.toArray⟩, .int .i64 (at' : Int)] w fun e w' => e = .returned (.tuple #[.agg #[.int .i64 x.kind, .int .i64 (at' : Int), .int .i64 x.num, .string x.str, .int .i64 x.r, .int .i64 x.c, .int .i64 x.t, .int .i64 x.l, .int .i64 x.b, .int .i64 x.q, .int .i64 x.code], .int .i64 ((at' + n : Nat) : Int)]) ∧ Below w.heap.size w w' := by
  unfold codeT at hx
  have hle := takeWhile_le bangB (l.drop at')
  rw [List.length_drop] at hle
  split at hx
  · rename_i h
    cases hx
    exact r4fault_yes l _ at' _ (by omega) (by omega) rfl rfl (by have := h.2.2; rw [List.length_drop] at this; omega) _ rfl h.1 h.2.1 w
  · rename_i h
    cases hx
    by_cases h3 : at' + ((l.drop at').takeWhile bangB).length < l.length
    · by_cases h1 : codeOf ⟨((l.drop at').takeWhile bangB ++ [33]).toArray⟩ = 0
      · exact r4fault_no l _ at' _ (by omega) (by omega) rfl rfl h3 h1 w
      · by_cases h2 : codeOf ⟨((l.drop at').takeWhile bangB ++ [33]).toArray⟩ = 1
        · exact r4fault_cycle l _ at' _ (by omega) (by omega) rfl rfl h3 h2 w
        · exact absurd ⟨h1, h2, by rw [List.length_drop]; omega⟩ h
    · exact r4fault_none l _ at' _ (by omega) (by omega) rfl rfl (by omega) w
theorem r4sign (l : List UInt8) (at' : Nat) (hl : l.length ≤ 9223372036854775000) (_ham : l.length ≤ maxLen) (ha : at' < l.length) (x : Tok) (n : Nat) (hx : signT (l.drop at') = (x, n)) (w : World) : Calls Tryz.prog 38 #[.string ⟨l.toArray⟩, .int .i64 (at' : Int)] w fun e w' => e = .returned (.tuple #[.agg #[.int .i64 x.kind, .int .i64 (at' : Int), .int .i64 x.num, .string x.str, .int .i64 x.r, .int .i64 x.c, .int .i64 x.t, .int .i64 x.l, .int .i64 x.b, .int .i64 x.q, .int .i64 x.code], .int .i64 ((at' + n : Nat) : Int)]) ∧ Below w.heap.size w w' := by
  unfold signT at hx
  have hhead : (l.drop at').head? = some l[at'] := by rw [List.head?_drop, List.getElem?_eq_getElem ha]
  have htk : (l.drop at').take 1 = [l[at']] := by rw [List.take_one, hhead]; rfl
  split at hx
  · rename_i h
    simp only [twoB, Bool.or_eq_true, decide_eq_true_eq] at h
    rcases h with (h | h) | h
    · rw [h] at hx; cases hx; exact r4sign_ne l at' hl ha h w
    · rw [h] at hx; cases hx; exact r4sign_le l at' hl ha h w
    · rw [h] at hx; cases hx; exact r4sign_ge l at' hl ha h w
  · rename_i h
    simp only [twoB, Bool.or_eq_true, decide_eq_true_eq, not_or] at h
    obtain ⟨⟨n1, n2⟩, n3⟩ := h
    rw [hhead, htk] at hx
    split at hx
    · rename_i hs
      cases hx
      obtain ⟨j, hj, e, hn⟩ := (sign_at _).1 (by simpa using hs)
      by_cases hm : at' + 1 < l.length
      · exact r4sign_more_yes l at' hl ha hm n1 n2 n3 j hj e hn w
      · exact r4sign_last_yes l at' hl ha (by omega) j hj e hn w
    · rename_i hs
      cases hx
      have hn : ∀ i (hi : i < 12), signs[i] ≠ l[at'] := fun i hi h => hs (by
        simp only [Option.any_some, List.contains_iff_mem]
        rw [← h]; exact List.getElem_mem hi)
      by_cases hm : at' + 1 < l.length
      · exact r4sign_more_no l at' hl ha hm n1 n2 n3 hn w
      · exact r4sign_last_no l at' hl ha (by omega) hn w
theorem r4name (l : List UInt8) (at' : Nat) (hl : l.length ≤ 9223372036854775000) (_ham : l.length ≤ maxLen) (ha : at' < l.length) (hu : upB l[at'] = true) (x : Tok) (n : Nat) (hx : wordT (l.drop at') = (x, n)) (w : World) : Calls Tryz.prog 37 #[.string ⟨l.toArray⟩, .int .i64 (at' : Int)] w fun e w' => e = .returned (.tuple #[.agg #[.int .i64 x.kind, .int .i64 (at' : Int), .int .i64 x.num, .string x.str, .int .i64 x.r, .int .i64 x.c, .int .i64 x.t, .int .i64 x.l, .int .i64 x.b, .int .i64 x.q, .int .i64 x.code], .int .i64 ((at' + n : Nat) : Int)]) ∧ Below w.heap.size w w' := by
  have hle := takeWhile_le partB (l.drop at')
  rw [List.length_drop] at hle
  have h0 : 0 < (((l.drop at').takeWhile partB).takeWhile upB).length := by
    rw [drop_at l at' ha, List.takeWhile_cons, if_pos (by simp [partB, hu]), List.takeWhile_cons, if_pos hu]; simp
  unfold wordT at hx
  split at hx
  · rename_i hm
    split at hx
    · rename_i hc
      have hb : at' + ((l.drop at').takeWhile partB).length < l.length := by
        refine Nat.lt_of_not_le fun h => ?_
        unfold colonB at hc
        rw [List.drop_drop, List.drop_eq_nil_of_le h] at hc
        simp at hc
      have hc' : l[at' + ((l.drop at').takeWhile partB).length].toNat = 58 := by
        unfold colonB at hc
        rw [List.drop_drop, List.head?_drop, List.getElem?_eq_getElem hb] at hc
        simpa using hc
      have hN : rectN (l.drop at') = ((l.drop at').takeWhile partB).length + 1 + ((l.drop (at' + ((l.drop at').takeWhile partB).length + 1)).takeWhile partB).length := by
        unfold rectN; rw [List.drop_drop]; rfl
      split at hx
      · rename_i hq
        cases hx
        rw [hN] at hq ⊢
        exact r4name_rect_true l _ at' _ hl (by omega) rfl rfl h0 hm _ hb hc' rfl _ rfl hq w
      · rename_i hq
        cases hx
        rw [hN] at hq
        exact r4name_rect_false l _ at' _ hl (by omega) rfl rfl h0 hm _ hb hc' rfl _ rfl (by simpa using hq) w
    · rename_i hc
      by_cases hb : at' + ((l.drop at').takeWhile partB).length < l.length
      · have hc' : l[at' + ((l.drop at').takeWhile partB).length].toNat ≠ 58 := fun h => hc (by
          unfold colonB
          rw [List.drop_drop, List.head?_drop, List.getElem?_eq_getElem hb]
          simpa using h)
        split at hx
        · rename_i hq; cases hx; exact r4name_cell_more_true l _ at' _ hl (by omega) rfl rfl h0 hm hb hc' hq w
        · rename_i hq; cases hx; exact r4name_cell_more_false l _ at' _ hl (by omega) rfl rfl h0 hm hb hc' (by simpa using hq) w
      · split at hx
        · rename_i hq; cases hx; exact r4name_cell_end_true l _ at' _ hl (by omega) rfl rfl h0 hm (by omega) hq w
        · rename_i hq; cases hx; exact r4name_cell_end_false l _ at' _ hl (by omega) rfl rfl h0 hm (by omega) (by simpa using hq) w
  · rename_i hm
    cases hx
    exact r4name_word l _ at' _ hl (by omega) rfl rfl h0 (by simpa using hm) w
end Go.Proofs.YtiekhbagpmnboaaGreatDoor
