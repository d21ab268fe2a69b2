/-
  The document's own ParseRect.
-/
import Derived.Test.YtiekhbagpmnboaaGreatDoorRows
import Derived.Test.YtiekhbagpmnboaaGreatDoorBase
import Derived.Test.YtiekhbagpmnboaaGreatDoorProg
import Derived.Test.YtiekhbagpmnboaaGreatDoorShelf
import Derived.Test.YtiekhbagpmnboaaGreatDoorCutW
import Derived.Test.YtiekhbagpmnboaaGreatDoorAddrC
import Derived.Test.YtiekhbagpmnboaaGreatDoorNames
import Derived.Test.YtiekhbagpmnboaaGreatDoorParseW
import Derived.Test.YtiekhbagpmnboaaGreatDoorPRect
import Derived.Test.YtiekhbagpmnboaaGreatDoorRefName
import Derived.Test.YtiekhbagpmnboaaGreatDoorRParse
import Derived.WalkSpells
import Derived.WalkLawsBesides
import Derived.StillTactics
import Derived.Laws.Pointers
import Derived.Deep.RegionHeld3
import Derived.Deep.QuietTactic
import Derived.BigQuiet
import Derived.RowKit3
import Derived.Lib.Hide
import Derived.Lib.OthersKept
import Derived.OwnWalk
import Derived.Lib.IndexLaws
import Derived.WalkKit
import Derived.ProofKit
import Derived.OpenShut
import Derived.Carry
import Derived.ChangeSame
import Derived.Deep.Draws
import Derived.Shelf.Strings.Builder1
import Derived.Shelf.Strings.Trim
import Derived.Shelf.Small.Utf8
import Derived.Shelf.Small.Strs
import Derived.Shelf.Small.Wraps
import Derived.Shelf.Strings.BuilderF
import Derived.Shelf.Strings.BuilderK
import Derived.Shelf.Strconv.Itoa0
import Derived.Shelf.Strconv.Itoa1
import Derived.Shelf.LaysM
import Derived.Shelf.Strconv.Itoa2
import Derived.Shelf.Strconv.Itoa3
import Derived.Ground.MpProg
import Derived.Shelf.Pu.ParseUintPublic10
import Derived.Shelf.Strings.Search1
import Derived.Shelf.Strings.Search2
import Derived.Shelf.Strings.Cut
import Derived.Shelf.Strings.Shaped
import Derived.Shelf.Strings.Prefix
import Derived.Shelf.Strings.Runes
import Derived.Shelf.Strings.AsciiSet
import Derived.Shelf.Unicode.DecodeSlow
import Derived.Lib.ItoaNum
import Derived.Lib.ItoaMem
namespace Go.Proofs.YtiekhbagpmnboaaGreatDoor
open Go.RowKit

set_option maxHeartbeats 4000000 in
theorem rprect_any (l : List UInt8) (hm : l.length ≤ 9223372036854775807) (w : World) : Calls Tryz.prog 70 #[.string ⟨l.toArray⟩] w fun e w' => e = .returned (.tuple #[.agg #[.int .i64 (qT l), .int .i64 (qL l), .int .i64 (qB l), .int .i64 (qR l)], .bool (qOk l)]) ∧ Below w.heap.size w w' := by
  go_enter Tryz.func70, Tryz.ntmps70
  go_wp2
  go_loop [4] (fun i => ∃ k : Nat, k ≤ l.length ∧ i = .int .i64 k ∧ ∀ j, j < k → l[j]? ≠ some 58) (fun i => l.length - (intOf i).toNat)
  case atStart => exact ⟨0, Nat.zero_le _, rfl, fun j hj => absurd hj (Nat.not_lt_zero _)⟩
  case round =>
    obtain ⟨k, hk, rfl, hno⟩ := hrel
    have hno' := Lib.hid hno
    clear hno
    by_cases hlt : k < l.length
    · have hb : k < (⟨l.toArray⟩ : ByteArray).size := by show k < l.toArray.size; simpa using hlt
      by_cases hc : l[k] = 58
      · have e0 : ((((⟨l.toArray⟩ : ByteArray)[k]'hb).toNat : Int) != 58) = false := by
          have : ((⟨l.toArray⟩ : ByteArray)[k]'hb) = 58 := hc
          rw [this]; rfl
        have hi := idx_of (l := l) (c := 58) (i := k) (by rw [List.getElem?_eq_getElem hlt, hc]) hno'.out
        obtain ⟨a, ha⟩ : ∃ a, a = l.take k := ⟨_, rfl⟩
        obtain ⟨b, hbb⟩ : ∃ b, b = l.drop (k + 1) := ⟨_, rfl⟩
        have hx1 : (⟨l.toArray⟩ : ByteArray).extract 0 k = ⟨a.toArray⟩ := by rw [ha, ext_take']
        have hx2 : (⟨l.toArray⟩ : ByteArray).extract (k + 1) l.length = ⟨b.toArray⟩ := by rw [hbb, ext_drop' _ _ _ (Nat.le_refl _)]
        have hla : a.length ≤ 9223372036854775807 := by rw [ha]; simp; omega
        have hlb : b.length ≤ 9223372036854775807 := by rw [hbb]; simp; omega
        have H := Lib.hid (And.intro hi (And.intro ha hbb))
        clear hi ha hbb hc
        cases g1 : pOk a
        · have hp' := Lib.hid (show parseRect l = .none from by rw [prect_at H.out.1 H.out.2.1 H.out.2.2, g1]; rfl)
          go_wp2_with fail
          refine (rparse_t a hla _).mono ?_
          rintro e w2 ⟨rfl, hb2⟩
          obtain ⟨hc2, hf2, hz2⟩ := bkeep hb2 (w.heap.size + 1) (by simp)
          have y1 : w.heap.size < w2.heap.size := by omega
          have y2 : w.heap.size < w2.heap.size + 1 := by omega
          go_wp2_with fail
          refine (rparse_t b hlb _).mono ?_
          rintro e w3 ⟨rfl, hb3⟩
          obtain ⟨hc3, hf3, hz3⟩ := bkeep hb3 (w2.heap.size + 1) (by simp)
          have y3 : w.heap.size < w3.heap.size := by omega
          have y4 : w.heap.size < w3.heap.size + 1 := by omega
          have y5 : w.heap.size < w3.heap.size + 2 := by omega
          have y6 : w2.heap.size < w3.heap.size := by omega
          have y7 : w2.heap.size < w3.heap.size + 1 := by omega
          have y8 : w2.heap.size < w3.heap.size + 2 := by omega
          go_wp2_with (go_at_call 99; refine (rmayRect_any _ _ _ _ _).mono ?_; rintro e w4 ⟨rfl, hb4⟩; obtain ⟨hc4, hf4, hz4⟩ := bkeep hb4 (w3.heap.size + 2) (by simp))
          all_goals refine bodyPost_ret (v := .tuple #[.agg #[.int .i64 (qT l), .int .i64 (qL l), .int .i64 (qB l), .int .i64 (qR l)], .bool (qOk l)]) ?_ rfl ⟨rfl, by (repeat (first | (with_reducible exact Below.refl _ _) | (with_reducible refine Below.alloc ?_ (by first | omega | (dsimp only; omega) | (simp <;> omega)) _) | (with_reducible refine Below.setCell ?_ (by first | omega | (dsimp only; omega) | (simp <;> omega)) _) | (with_reducible refine Below.drew ?_) | (with_reducible refine below_drewN ?_ _) | (with_reducible refine Below.trans ?_ (Below.mono (by assumption) (by first | omega | (dsimp only; omega) | (simp <;> omega))))))⟩
          all_goals simp [results, Tryz.results70, go_sem, qT, qL, qB, qR, qOk, hp'.out, *]
        · cases g2 : pOk b
          · have hp' := Lib.hid (show parseRect l = .none from by rw [prect_at H.out.1 H.out.2.1 H.out.2.2, g1, g2]; rfl)
            go_wp2_with fail
            refine (rparse_t a hla _).mono ?_
            rintro e w2 ⟨rfl, hb2⟩
            obtain ⟨hc2, hf2, hz2⟩ := bkeep hb2 (w.heap.size + 1) (by simp)
            have y1 : w.heap.size < w2.heap.size := by omega
            have y2 : w.heap.size < w2.heap.size + 1 := by omega
            go_wp2_with fail
            refine (rparse_t b hlb _).mono ?_
            rintro e w3 ⟨rfl, hb3⟩
            obtain ⟨hc3, hf3, hz3⟩ := bkeep hb3 (w2.heap.size + 1) (by simp)
            have y3 : w.heap.size < w3.heap.size := by omega
            have y4 : w.heap.size < w3.heap.size + 1 := by omega
            have y5 : w.heap.size < w3.heap.size + 2 := by omega
            have y6 : w2.heap.size < w3.heap.size := by omega
            have y7 : w2.heap.size < w3.heap.size + 1 := by omega
            have y8 : w2.heap.size < w3.heap.size + 2 := by omega
            go_wp2_with (go_at_call 99; refine (rmayRect_any _ _ _ _ _).mono ?_; rintro e w4 ⟨rfl, hb4⟩; obtain ⟨hc4, hf4, hz4⟩ := bkeep hb4 (w3.heap.size + 2) (by simp))
            all_goals refine bodyPost_ret (v := .tuple #[.agg #[.int .i64 (qT l), .int .i64 (qL l), .int .i64 (qB l), .int .i64 (qR l)], .bool (qOk l)]) ?_ rfl ⟨rfl, by (repeat (first | (with_reducible exact Below.refl _ _) | (with_reducible refine Below.alloc ?_ (by first | omega | (dsimp only; omega) | (simp <;> omega)) _) | (with_reducible refine Below.setCell ?_ (by first | omega | (dsimp only; omega) | (simp <;> omega)) _) | (with_reducible refine Below.drew ?_) | (with_reducible refine below_drewN ?_ _) | (with_reducible refine Below.trans ?_ (Below.mono (by assumption) (by first | omega | (dsimp only; omega) | (simp <;> omega))))))⟩
            all_goals simp [results, Tryz.results70, go_sem, qT, qL, qB, qR, qOk, hp'.out, *]
          · cases g3 : mayRectB (pRow a) (pCol a) (pRow b) (pCol b)
            · have hp' := Lib.hid (show parseRect l = .none from by rw [prect_at H.out.1 H.out.2.1 H.out.2.2, g1, g2, g3]; rfl)
              go_wp2_with fail
              refine (rparse_t a hla _).mono ?_
              rintro e w2 ⟨rfl, hb2⟩
              obtain ⟨hc2, hf2, hz2⟩ := bkeep hb2 (w.heap.size + 1) (by simp)
              have y1 : w.heap.size < w2.heap.size := by omega
              have y2 : w.heap.size < w2.heap.size + 1 := by omega
              go_wp2_with fail
              refine (rparse_t b hlb _).mono ?_
              rintro e w3 ⟨rfl, hb3⟩
              obtain ⟨hc3, hf3, hz3⟩ := bkeep hb3 (w2.heap.size + 1) (by simp)
              have y3 : w.heap.size < w3.heap.size := by omega
              have y4 : w.heap.size < w3.heap.size + 1 := by omega
              have y5 : w.heap.size < w3.heap.size + 2 := by omega
              have y6 : w2.heap.size < w3.heap.size := by omega
              have y7 : w2.heap.size < w3.heap.size + 1 := by omega
              have y8 : w2.heap.size < w3.heap.size + 2 := by omega
              go_wp2_with (go_at_call 99; refine (rmayRect_any _ _ _ _ _).mono ?_; rintro e w4 ⟨rfl, hb4⟩; obtain ⟨hc4, hf4, hz4⟩ := bkeep hb4 (w3.heap.size + 2) (by simp))
              all_goals refine bodyPost_ret (v := .tuple #[.agg #[.int .i64 (qT l), .int .i64 (qL l), .int .i64 (qB l), .int .i64 (qR l)], .bool (qOk l)]) ?_ rfl ⟨rfl, by (repeat (first | (with_reducible exact Below.refl _ _) | (with_reducible refine Below.alloc ?_ (by first | omega | (dsimp only; omega) | (simp <;> omega)) _) | (with_reducible refine Below.setCell ?_ (by first | omega | (dsimp only; omega) | (simp <;> omega)) _) | (with_reducible refine Below.drew ?_) | (with_reducible refine below_drewN ?_ _) | (with_reducible refine Below.trans ?_ (Below.mono (by assumption) (by first | omega | (dsimp only; omega) | (simp <;> omega))))))⟩
              all_goals simp [results, Tryz.results70, go_sem, qT, qL, qB, qR, qOk, hp'.out, *]
            · have hp' := Lib.hid (show parseRect l = some (pRow a, pCol a, pRow b, pCol b) from by rw [prect_at H.out.1 H.out.2.1 H.out.2.2, g1, g2, g3]; rfl)
              go_wp2_with fail
              refine (rparse_t a hla _).mono ?_
              rintro e w2 ⟨rfl, hb2⟩
              obtain ⟨hc2, hf2, hz2⟩ := bkeep hb2 (w.heap.size + 1) (by simp)
              have y1 : w.heap.size < w2.heap.size := by omega
              have y2 : w.heap.size < w2.heap.size + 1 := by omega
              go_wp2_with fail
              refine (rparse_t b hlb _).mono ?_
              rintro e w3 ⟨rfl, hb3⟩
              obtain ⟨hc3, hf3, hz3⟩ := bkeep hb3 (w2.heap.size + 1) (by simp)
              have y3 : w.heap.size < w3.heap.size := by omega
              have y4 : w.heap.size < w3.heap.size + 1 := by omega
              have y5 : w.heap.size < w3.heap.size + 2 := by omega
              have y6 : w2.heap.size < w3.heap.size := by omega
              have y7 : w2.heap.size < w3.heap.size + 1 := by omega
              have y8 : w2.heap.size < w3.heap.size + 2 := by omega
              go_wp2_with (go_at_call 99; refine (rmayRect_any _ _ _ _ _).mono ?_; rintro e w4 ⟨rfl, hb4⟩; obtain ⟨hc4, hf4, hz4⟩ := bkeep hb4 (w3.heap.size + 2) (by simp))
              all_goals refine bodyPost_ret (v := .tuple #[.agg #[.int .i64 (qT l), .int .i64 (qL l), .int .i64 (qB l), .int .i64 (qR l)], .bool (qOk l)]) ?_ rfl ⟨rfl, by (repeat (first | (with_reducible exact Below.refl _ _) | (with_reducible refine Below.alloc ?_ (by first | omega | (dsimp only; omega) | (simp <;> omega)) _) | (with_reducible refine Below.setCell ?_ (by first | omega | (dsimp only; omega) | (simp <;> omega)) _) | (with_reducible refine Below.drew ?_) | (with_reducible refine below_drewN ?_ _) | (with_reducible refine Below.trans ?_ (Below.mono (by assumption) (by first | omega | (dsimp only; omega) | (simp <;> omega))))))⟩
              all_goals simp [results, Tryz.results70, go_sem, qT, qL, qB, qR, qOk, hp'.out, *]
      · have e0 : ((((⟨l.toArray⟩ : ByteArray)[k]'hb).toNat : Int) != 58) = true := by
          have h1 : ((⟨l.toArray⟩ : ByteArray)[k]'hb) ≠ 58 := hc
          have h2 : ((⟨l.toArray⟩ : ByteArray)[k]'hb).toNat ≠ 58 := fun h => h1 (UInt8.toNat_inj.1 h)
          simp
          omega
        have hc' := Lib.hid hc
        clear hc
        go_wp2
        go_round
        case rel =>
          refine ⟨k + 1, by omega, by go_num, fun j hj => ?_⟩
          by_cases hjk : j < k
          · exact hno'.out j hjk
          · obtain rfl : j = k := by omega
            rw [List.getElem?_eq_getElem hlt]
            simpa using hc'.out
        case measure => simp [intOf]; omega
    · have hp := Lib.hid (prect_no (idx_no (l := l) (c := 58) (fun j hj => hno'.out j (by omega))))
      go_wp2
      all_goals refine bodyPost_ret (v := .tuple #[.agg #[.int .i64 (qT l), .int .i64 (qL l), .int .i64 (qB l), .int .i64 (qR l)], .bool (qOk l)]) ?_ rfl ⟨rfl, by (repeat (first | (with_reducible exact Below.refl _ _) | (with_reducible refine Below.alloc ?_ (by first | omega | (dsimp only; omega) | (simp <;> omega)) _) | (with_reducible refine Below.setCell ?_ (by first | omega | (dsimp only; omega) | (simp <;> omega)) _) | (with_reducible refine Below.drew ?_) | (with_reducible refine below_drewN ?_ _) | (with_reducible refine Below.trans ?_ (Below.mono (by assumption) (by first | omega | (dsimp only; omega) | (simp <;> omega))))))⟩
      all_goals simp [results, Tryz.results70, go_sem, qT, qL, qB, qR, qOk, hp.out, *]
end Go.Proofs.YtiekhbagpmnboaaGreatDoor
