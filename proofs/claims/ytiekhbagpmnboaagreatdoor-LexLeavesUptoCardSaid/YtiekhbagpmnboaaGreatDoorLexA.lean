/-
  orielref04: what each of its functions answers.
-/
import Derived.Test.YtiekhbagpmnboaaGreatDoorPrintL
import Derived.Test.YtiekhbagpmnboaaGreatDoorNumL
import Derived.Test.YtiekhbagpmnboaaGreatDoorRows
import Derived.Test.YtiekhbagpmnboaaGreatDoorBase
import Derived.Test.YtiekhbagpmnboaaGreatDoorProg
import Derived.Test.YtiekhbagpmnboaaGreatDoorShelf
import Derived.Test.YtiekhbagpmnboaaGreatDoorCutW
import Derived.Test.YtiekhbagpmnboaaGreatDoorAddrC
import Derived.Test.YtiekhbagpmnboaaGreatDoorNames
import Derived.Test.YtiekhbagpmnboaaGreatDoorParseW
import Derived.Test.YtiekhbagpmnboaaGreatDoorPRect
import Derived.Test.YtiekhbagpmnboaaGreatDoorDecA
import Derived.Test.YtiekhbagpmnboaaGreatDoorValA
import Derived.Test.YtiekhbagpmnboaaGreatDoorValB
import Derived.Test.YtiekhbagpmnboaaGreatDoorValD
import Derived.Test.YtiekhbagpmnboaaGreatDoorLexP
import Derived.Test.YtiekhbagpmnboaaGreatDoorRefName
import Derived.Test.YtiekhbagpmnboaaGreatDoorLexR
import Derived.Test.YtiekhbagpmnboaaGreatDoorLexQ
import Derived.Test.YtiekhbagpmnboaaGreatDoorLexS
import Derived.Test.YtiekhbagpmnboaaGreatDoorRParse
import Derived.Test.YtiekhbagpmnboaaGreatDoorRPRect
import Derived.Test.YtiekhbagpmnboaaGreatDoorLexN
import Derived.Test.YtiekhbagpmnboaaGreatDoorMg30
import Derived.Test.YtiekhbagpmnboaaGreatDoorMg31
import Derived.Test.YtiekhbagpmnboaaGreatDoorRDPar
import Derived.Test.YtiekhbagpmnboaaGreatDoorRDParB
import Derived.Test.YtiekhbagpmnboaaGreatDoorDDig
import Derived.Test.YtiekhbagpmnboaaGreatDoorDParse
import Derived.Test.YtiekhbagpmnboaaGreatDoorRDJoin
import Derived.Test.YtiekhbagpmnboaaGreatDoorValK
import Derived.Test.YtiekhbagpmnboaaGreatDoorLexD
import Derived.WalkSpells
import Derived.WalkLawsBesides
import Derived.StillTactics
import Derived.Laws.Pointers
import Derived.Deep.RegionHeld3
import Derived.Deep.QuietTactic
import Derived.BigQuiet
import Derived.RowKit3
import Derived.Lib.Hide
import Derived.Lib.OthersKept
import Derived.OwnWalk
import Derived.Lib.IndexLaws
import Derived.Lib.ItoaMem
import Derived.Lib.TrimByte
import Derived.Lib.SlTrimSet
import Derived.Lib.ParseIntB
import Derived.WalkKit
import Derived.ProofKit
import Derived.OpenShut
import Derived.Carry
import Derived.ChangeSame
import Derived.Deep.Draws
import Derived.Shelf.Strings.Builder1
import Derived.Shelf.Strings.Trim
import Derived.Shelf.Small.Utf8
import Derived.Shelf.Small.Strs
import Derived.Shelf.Small.Wraps
import Derived.Shelf.Strings.BuilderF
import Derived.Shelf.Strings.BuilderK
import Derived.Shelf.Strconv.Itoa0
import Derived.Shelf.Strconv.Itoa1
import Derived.Shelf.LaysM
import Derived.Shelf.Strconv.Itoa2
import Derived.Shelf.Strconv.Itoa3
import Derived.Ground.MpProg
import Derived.Shelf.Pu.ParseUintPublic10
import Derived.Shelf.Strings.Search1
import Derived.Shelf.Strings.Search2
import Derived.Shelf.Strings.Cut
import Derived.Shelf.Strings.Shaped
import Derived.Shelf.Strings.Prefix
import Derived.Shelf.Strings.Runes
import Derived.Shelf.Strings.AsciiSet
import Derived.Shelf.Unicode.DecodeSlow
import Derived.Lib.ItoaNum
import Derived.Shelf.Strings.SlTrimAscii
import Derived.Lib.SmallJoins
namespace Go.Proofs.YtiekhbagpmnboaaGreatDoor
open Go.RowKit

theorem r4number (l : List UInt8) (at' : Nat) (hl : l.length ≤ 9223372036854775000) (ham : l.length ≤ maxLen) (ha : at' < l.length) (x : Tok) (n : Nat) (hx : nuT (l.drop at') = (x, n)) (w : World) : Calls Tryz.prog 33 #[.string ⟨l.toArray⟩, .int .i64 (at' : Int)] w fun e w' => e = .returned (.tuple #[.agg #[.int .i64 x.kind, .int .i64 (at' : Int), .int .i64 x.num, .string x.str, .int .i64 x.r, .int .i64 x.c, .int .i64 x.t, .int .i64 x.l, .int .i64 x.b, .int .i64 x.q, .int .i64 x.code], .int .i64 ((at' + n : Nat) : Int)]) ∧ Below w.heap.size w w' := by
  unfold nuT at hx
  have hs : (⟨((l.drop at').takeWhile numB).toArray⟩ : ByteArray).size ≤ maxLen := by
    have := takeWhile_le numB (l.drop at')
    rw [List.length_drop] at this
    show ((l.drop at').takeWhile numB).toArray.size ≤ _
    rw [List.size_toArray]; omega
  split at hx
  · rename_i h
    cases hx
    exact r4number_yes l _ at' _ (by omega) (by omega) rfl rfl hs _ rfl h w
  · rename_i h
    cases hx
    exact r4number_no l _ at' _ (by omega) (by omega) rfl rfl hs _ rfl (by simpa using h) w
theorem r4quoted (l : List UInt8) (at' : Nat) (hl : l.length ≤ 9223372036854775000) (ham : l.length ≤ maxLen) (ha : at' < l.length) (x : Tok) (n : Nat) (hx : textT (l.drop at') = (x, n)) (w : World) : Calls Tryz.prog 34 #[.string ⟨l.toArray⟩, .int .i64 (at' : Int)] w fun e w' => e = .returned (.tuple #[.agg #[.int .i64 x.kind, .int .i64 (at' : Int), .int .i64 x.num, .string x.str, .int .i64 x.r, .int .i64 x.c, .int .i64 x.t, .int .i64 x.l, .int .i64 x.b, .int .i64 x.q, .int .i64 x.code], .int .i64 ((at' + n : Nat) : Int)]) ∧ Below w.heap.size w w' := by
  unfold textT at hx
  rw [List.drop_drop] at hx
  cases hq : quoteG (l.drop (at' + 1)) with
  | none =>
    rw [hq] at hx; cases hx
    exact r4quoted_no l at' hl ham ha hq w
  | some y =>
    rw [hq] at hx; cases hx
    have := r4quoted_yes l at' hl ham ha y.1 y.2 hq w
    rwa [show at' + 1 + y.2 = at' + (y.2 + 1) by omega] at this
theorem r4fault (l : List UInt8) (at' : Nat) (hl : l.length ≤ 9223372036854775000) (_ham : l.length ≤ maxLen) (ha : at' < l.length) (x : Tok) (n : Nat) (hx : codeT (l.drop at') = (x, n)) (w : World) : Calls Tryz.prog 35 #[.string ⟨l.toArray⟩, .int .i64 (at' : Int)] w fun e w' => e = .returned (.tuple #[.agg #[.int .i64 x.kind, .int .i64 (at' : Int), .int .i64 x.num, .string x.str, .int .i64 x.r, .int .i64 x.c, .int .i64 x.t, .int .i64 x.l, .int .i64 x.b, .int .i64 x.q, .int .i64 x.code], .int .i64 ((at' + n : Nat) : Int)]) ∧ Below w.heap.size w w' := by
  unfold codeT at hx
  have hle := takeWhile_le bangB (l.drop at')
  rw [List.length_drop] at hle
  split at hx
  · rename_i h
    cases hx
    exact r4fault_yes l _ at' _ (by omega) (by omega) rfl rfl (by have := h.2.2; rw [List.length_drop] at this; omega) _ rfl h.1 h.2.1 w
  · rename_i h
    cases hx
    by_cases h3 : at' + ((l.drop at').takeWhile bangB).length < l.length
    · by_cases h1 : codeOf ⟨((l.drop at').takeWhile bangB ++ [33]).toArray⟩ = 0
      · exact r4fault_no l _ at' _ (by omega) (by omega) rfl rfl h3 h1 w
      · by_cases h2 : codeOf ⟨((l.drop at').takeWhile bangB ++ [33]).toArray⟩ = 1
        · exact r4fault_cycle l _ at' _ (by omega) (by omega) rfl rfl h3 h2 w
        · exact absurd ⟨h1, h2, by rw [List.length_drop]; omega⟩ h
    · exact r4fault_none l _ at' _ (by omega) (by omega) rfl rfl (by omega) w
theorem r4sign (l : List UInt8) (at' : Nat) (hl : l.length ≤ 9223372036854775000) (_ham : l.length ≤ maxLen) (ha : at' < l.length) (x : Tok) (n : Nat) (hx : signT (l.drop at') = (x, n)) (w : World) : Calls Tryz.prog 38 #[.string ⟨l.toArray⟩, .int .i64 (at' : Int)] w fun e w' => e = .returned (.tuple #[.agg #[.int .i64 x.kind, .int .i64 (at' : Int), .int .i64 x.num, .string x.str, .int .i64 x.r, .int .i64 x.c, .int .i64 x.t, .int .i64 x.l, .int .i64 x.b, .int .i64 x.q, .int .i64 x.code], .int .i64 ((at' + n : Nat) : Int)]) ∧ Below w.heap.size w w' := by
  unfold signT at hx
  have hhead : (l.drop at').head? = some l[at'] := by rw [List.head?_drop, List.getElem?_eq_getElem ha]
  have htk : (l.drop at').take 1 = [l[at']] := by rw [List.take_one, hhead]; rfl
  split at hx
  · rename_i h
    simp only [twoB, Bool.or_eq_true, decide_eq_true_eq] at h
    rcases h with (h | h) | h
    · rw [h] at hx; cases hx; exact r4sign_ne l at' hl ha h w
    · rw [h] at hx; cases hx; exact r4sign_le l at' hl ha h w
    · rw [h] at hx; cases hx; exact r4sign_ge l at' hl ha h w
  · rename_i h
    simp only [twoB, Bool.or_eq_true, decide_eq_true_eq, not_or] at h
    obtain ⟨⟨n1, n2⟩, n3⟩ := h
    rw [hhead, htk] at hx
    split at hx
    · rename_i hs
      cases hx
      obtain ⟨j, hj, e, hn⟩ := (sign_at _).1 (by simpa using hs)
      by_cases hm : at' + 1 < l.length
      · exact r4sign_more_yes l at' hl ha hm n1 n2 n3 j hj e hn w
      · exact r4sign_last_yes l at' hl ha (by omega) j hj e hn w
    · rename_i hs
      cases hx
      have hn : ∀ i (hi : i < 12), signs[i] ≠ l[at'] := fun i hi h => hs (by
        simp only [Option.any_some, List.contains_iff_mem]
        rw [← h]; exact List.getElem_mem hi)
      by_cases hm : at' + 1 < l.length
      · exact r4sign_more_no l at' hl ha hm n1 n2 n3 hn w
      · exact r4sign_last_no l at' hl ha (by omega) hn w
theorem r4name (l : List UInt8) (at' : Nat) (hl : l.length ≤ 9223372036854775000) (_ham : l.length ≤ maxLen) (ha : at' < l.length) (hu : upB l[at'] = true) (x : Tok) (n : Nat) (hx : wordT (l.drop at') = (x, n)) (w : World) : Calls Tryz.prog 37 #[.string ⟨l.toArray⟩, .int .i64 (at' : Int)] w fun e w' => e = .returned (.tuple #[.agg #[.int .i64 x.kind, .int .i64 (at' : Int), .int .i64 x.num, .string x.str, .int .i64 x.r, .int .i64 x.c, .int .i64 x.t, .int .i64 x.l, .int .i64 x.b, .int .i64 x.q, .int .i64 x.code], .int .i64 ((at' + n : Nat) : Int)]) ∧ Below w.heap.size w w' := by
  have hle := takeWhile_le partB (l.drop at')
  rw [List.length_drop] at hle
  have h0 : 0 < (((l.drop at').takeWhile partB).takeWhile upB).length := by
    rw [drop_at l at' ha, List.takeWhile_cons, if_pos (by simp [partB, hu]), List.takeWhile_cons, if_pos hu]; simp
  unfold wordT at hx
  split at hx
  · rename_i hm
    split at hx
    · rename_i hc
      have hb : at' + ((l.drop at').takeWhile partB).length < l.length := by
        refine Nat.lt_of_not_le fun h => ?_
        unfold colonB at hc
        rw [List.drop_drop, List.drop_eq_nil_of_le h] at hc
        simp at hc
      have hc' : l[at' + ((l.drop at').takeWhile partB).length].toNat = 58 := by
        unfold colonB at hc
        rw [List.drop_drop, List.head?_drop, List.getElem?_eq_getElem hb] at hc
        simpa using hc
      have hN : rectN (l.drop at') = ((l.drop at').takeWhile partB).length + 1 + ((l.drop (at' + ((l.drop at').takeWhile partB).length + 1)).takeWhile partB).length := by
        unfold rectN; rw [List.drop_drop]; rfl
      split at hx
      · rename_i hq
        cases hx
        rw [hN] at hq ⊢
        exact r4name_rect_true l _ at' _ hl (by omega) rfl rfl h0 hm _ hb hc' rfl _ rfl hq w
      · rename_i hq
        cases hx
        rw [hN] at hq
        exact r4name_rect_false l _ at' _ hl (by omega) rfl rfl h0 hm _ hb hc' rfl _ rfl (by simpa using hq) w
    · rename_i hc
      by_cases hb : at' + ((l.drop at').takeWhile partB).length < l.length
      · have hc' : l[at' + ((l.drop at').takeWhile partB).length].toNat ≠ 58 := fun h => hc (by
          unfold colonB
          rw [List.drop_drop, List.head?_drop, List.getElem?_eq_getElem hb]
          simpa using h)
        split at hx
        · rename_i hq; cases hx; exact r4name_cell_more_true l _ at' _ hl (by omega) rfl rfl h0 hm hb hc' hq w
        · rename_i hq; cases hx; exact r4name_cell_more_false l _ at' _ hl (by omega) rfl rfl h0 hm hb hc' (by simpa using hq) w
      · split at hx
        · rename_i hq; cases hx; exact r4name_cell_end_true l _ at' _ hl (by omega) rfl rfl h0 hm (by omega) hq w
        · rename_i hq; cases hx; exact r4name_cell_end_false l _ at' _ hl (by omega) rfl rfl h0 hm (by omega) (by simpa using hq) w
  · rename_i hm
    cases hx
    exact r4name_word l _ at' _ hl (by omega) rfl rfl h0 (by simpa using hm) w
end Go.Proofs.YtiekhbagpmnboaaGreatDoor
