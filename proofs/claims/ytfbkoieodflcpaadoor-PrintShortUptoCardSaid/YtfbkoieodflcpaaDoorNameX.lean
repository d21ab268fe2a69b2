/-
  Name of package addr.
-/
import Derived.Test.YtfbkoieodflcpaaDoorRows
import Derived.Test.YtfbkoieodflcpaaDoorBase
import Derived.Test.YtfbkoieodflcpaaDoorAddrC
import Derived.Test.YtfbkoieodflcpaaDoorNames
import Derived.Test.YtfbkoieodflcpaaDoorMg7
import Derived.Test.YtfbkoieodflcpaaDoorProg
import Derived.Test.YtfbkoieodflcpaaDoorShelf
import Derived.Test.YtfbkoieodflcpaaDoorShelfC
import Derived.Test.YtfbkoieodflcpaaDoorFmtU
import Derived.WalkSpells
import Derived.WalkLawsBesides
import Derived.StillTactics
import Derived.Laws.Pointers
import Derived.Deep.RegionHeld3
import Derived.Deep.QuietTactic
import Derived.BigQuiet
import Derived.RowKit3
import Derived.Lib.Hide
import Derived.Lib.OthersKept
import Derived.OwnWalk
import Derived.Lib.IndexLaws
import Derived.WalkKit
import Derived.ProofKit
import Derived.OpenShut
import Derived.Carry
import Derived.ChangeSame
import Derived.Deep.Draws
import Derived.Lib.ItoaNum
import Derived.Lib.ItoaMem
import Derived.Shelf.Strings.Builder1
import Derived.Shelf.Strings.Builder2
import Derived.Shelf.Strings.Trim
import Derived.Shelf.Small.Utf8
import Derived.Shelf.Small.Strs
import Derived.Shelf.Strings.BuilderF
import Derived.Shelf.Strings.BuilderK
import Derived.Shelf.Strconv.Itoa0
import Derived.Shelf.Strconv.Itoa1
import Derived.Shelf.LaysM
import Derived.Shelf.Strconv.Itoa2
import Derived.Shelf.Strconv.Itoa3
import Derived.Shelf.Strings.Search1
import Derived.Shelf.Strings.Search2
import Derived.Shelf.Strings.Search3
import Derived.Shelf.Strings.Count
import Derived.Shelf.Strings.Shaped
import Derived.Shelf.Strings.Split
import Derived.Shelf.Strings.Replace
import Derived.Shelf.Strings.Runes
import Derived.Shelf.Strings.AsciiSet
import Derived.Shelf.Unicode.DecodeSlow
namespace Go.Proofs.YtfbkoieodflcpaaDoor
open Go.RowKit

theorem col_one {n : Nat} (h : n ≤ 26) : colL n = [UInt8.ofNat (64 + n)] := by unfold colL; rw [if_pos h]
theorem col_two {n : Nat} (h1 : 27 ≤ n) : colL n = colL ((n - 1) / 26) ++ colL ((n - 1) % 26 + 1) ∨ 676 < n := by
  by_cases h2 : 676 < n
  · exact .inr h2
  refine .inl ?_
  rw [col_one (n := (n - 1) / 26) (by omega), col_one (n := (n - 1) % 26 + 1) (by omega)]
  unfold colL
  rw [if_neg (by omega)]
  have e1 : 65 + (n - 27) / 26 = 64 + (n - 1) / 26 := by omega
  have e2 : 65 + (n - 27) % 26 = 64 + ((n - 1) % 26 + 1) := by omega
  rw [e1, e2]
  rfl
theorem enc_letter : ∀ n : Fin 26, Utf8.encode (65 + ((n.val + 1 : Nat) : Int) - 1) = ⟨#[UInt8.ofNat (64 + (n.val + 1))]⟩ := by decide +kernel
theorem enc_at {n : Nat} (h1 : 1 ≤ n) (h2 : n ≤ 26) : Utf8.encode (65 + (n : Int) - 1) = ⟨(colL n).toArray⟩ := by
  have := enc_letter ⟨n - 1, by omega⟩
  rw [show n - 1 + 1 = n from by omega] at this
  rw [this, col_one h2]
set_option maxHeartbeats 400000 in
theorem letters_one (n : Nat) (h1 : 1 ≤ n) (h2 : n ≤ 26) (w : World) : Calls Tryd.prog 25 #[.int .i64 n] w fun e w' => e = .returned (.string ⟨(colL n).toArray⟩) ∧ Below w.heap.size w w' := by
  have hc := Lib.hid (enc_at h1 h2)
  go_enter Tryd.func25, Tryd.ntmps25
  go_wp2_with fail
  go_ret
  exact ⟨by rw [← hc.out]; rfl, Below.refl _ _⟩
set_option maxHeartbeats 400000 in
theorem letters_two (n : Nat) (h1 : 27 ≤ n) (h2 : n ≤ 256) (w : World) : Calls Tryd.prog 25 #[.int .i64 n] w fun e w' => e = .returned (.string ⟨(colL n).toArray⟩) ∧ Below w.heap.size w w' := by
  have hc := Lib.hid ((col_two h1).resolve_right (by omega))
  have hl1 := (col_len ((n - 1) / 26)).2
  have hl2 := (col_len ((n - 1) % 26 + 1)).2
  have hadd := fun w' => run_string_add_lists (P := Tryd.prog) w' (colL ((n - 1) / 26)) (colL ((n - 1) % 26 + 1)) (by omega) (by omega)
  go_enter Tryd.func25, Tryd.ntmps25
  go_wp2_with fail
  rw [show ((n : Int) - 1) / 26 = (((n - 1) / 26 : Nat) : Int) from by omega]
  refine (letters_one _ (by omega) (by omega) _).mono ?_
  rintro e w1 ⟨rfl, hb⟩
  go_wp2_with fail
  rw [show ((n : Int) - 1) % 26 + 1 = (((n - 1) % 26 + 1 : Nat) : Int) from by omega]
  refine (letters_one _ (by omega) (by omega) _).mono ?_
  rintro e w2 ⟨rfl, hb2⟩
  go_wp2
  go_ret
  have z := hb.size
  exact ⟨by rw [hc.out]; rfl, by (repeat (first | (with_reducible exact Below.refl _ _) | (with_reducible refine Below.alloc ?_ (by first | omega | (dsimp only; omega) | (simp <;> omega)) _) | (with_reducible refine Below.setCell ?_ (by first | omega | (dsimp only; omega) | (simp <;> omega)) _) | (with_reducible refine Below.drew ?_) | (with_reducible refine below_drewN ?_ _) | (with_reducible refine Below.trans ?_ (Below.mono (by assumption) (by first | omega | (dsimp only; omega) | (simp <;> omega))))))⟩
theorem letters_any (n : Nat) (h1 : 1 ≤ n) (h2 : n ≤ 256) (w : World) : Calls Tryd.prog 25 #[.int .i64 n] w fun e w' => e = .returned (.string ⟨(colL n).toArray⟩) ∧ Below w.heap.size w w' := by
  by_cases h : n ≤ 26
  · exact letters_one n h1 h w
  · exact letters_two n (by omega) h2 w

/-- the library's table of powers of ten is as the program's text lays it -/
theorem itoa_any (n : Nat) (h1 : n ≤ 9223372036854775807) (w : World) (ht : Tab w) : Calls Tryd.prog 26 #[.int .i64 n] w fun e w' => e = .returned (.string ⟨(Lib.decDigits n).toArray⟩) ∧ Below w.heap.size w w' :=
  (Tryd.strconv_Itoa n (by omega) (by omega) w ht.1).mono fun e w' ⟨he, k, os, hw⟩ => ⟨by rw [he, Lib.itoa_nonneg], by subst hw; exact below_grow w k os⟩
set_option maxHeartbeats 400000 in
theorem name_no (r c : Int) (h : mayB r c = false) (w : World) : Calls Tryd.prog 12 #[.agg #[.int .i64 r, .int .i64 c]] w fun e w' => e = .returned (.string ⟨(nameZ r c).toArray⟩) ∧ Below w.heap.size w w' := by
  have hn := Lib.hid (nameZ_no h)
  go_enter Tryd.func12, Tryd.ntmps12
  go_wp2_with (go_at_call 24; refine (may_any _ _ _).mono ?_; rintro e w1 ⟨rfl, hb⟩; obtain ⟨hc, hf, hz⟩ := bkeep hb (w.heap.size + 1) (by first | omega | (simp <;> omega)))
  go_ret
  exact ⟨by rw [hn.out]; rfl, by (repeat (first | (with_reducible exact Below.refl _ _) | (with_reducible refine Below.alloc ?_ (by first | omega | (dsimp only; omega) | (simp <;> omega)) _) | (with_reducible refine Below.setCell ?_ (by first | omega | (dsimp only; omega) | (simp <;> omega)) _) | (with_reducible refine Below.drew ?_) | (with_reducible refine below_drewN ?_ _) | (with_reducible refine Below.trans ?_ (Below.mono (by assumption) (by first | omega | (dsimp only; omega) | (simp <;> omega))))))⟩
set_option maxHeartbeats 1000000 in
theorem name_yes' (r c : Nat) (h : mayN r c = true) (w : World) (ht : Tab w) : Calls Tryd.prog 12 #[.agg #[.int .i64 r, .int .i64 c]] w fun e w' => e = .returned (.string ⟨(nameZ r c).toArray⟩) ∧ Below w.heap.size w w' := by
  have hn := Lib.hid (nameZ_nat h)
  obtain ⟨m1, m2, m3, m4⟩ := mayN_of h
  have hm : mayB r c = true := (mayB_nat r c).trans h
  clear h
  have hl1 := (col_len c).2
  have hl2 := dec_len (r := r) (by omega)
  have hadd := fun w' => run_string_add_lists (P := Tryd.prog) w' (colL c) (Lib.decDigits r) (by omega) (by omega)
  go_enter Tryd.func12, Tryd.ntmps12
  go_wp2_with (go_at_call 24; refine (may_any _ _ _).mono ?_; rintro e w1 ⟨rfl, hb⟩; obtain ⟨hc, hf, hz⟩ := bkeep hb (w.heap.size + 1) (by first | omega | (simp <;> omega)); have ht1 := Tab.below ht (by (repeat (first | (with_reducible exact Below.refl _ _) | (with_reducible refine Below.alloc ?_ (by first | omega | (dsimp only; omega) | (simp <;> omega)) _) | (with_reducible refine Below.setCell ?_ (by first | omega | (dsimp only; omega) | (simp <;> omega)) _) | (with_reducible refine Below.drew ?_) | (with_reducible refine below_drewN ?_ _) | (with_reducible refine Below.trans ?_ (Below.mono (by assumption) (by first | omega | (dsimp only; omega) | (simp <;> omega))))))))
  go_region_held3 (fun w' => w'.cell? ⟨w.heap.size, 0, none⟩ = some (.int .i64 r) ∧ w'.cell? ⟨w.heap.size, 1, none⟩ = some (.int .i64 c) ∧ Tab w' ∧ Below w.heap.size w w' ∧ w.heap.size + 1 ≤ w'.heap.size)
    (first | ((go_split_ands; refine ⟨?_, ?_, ?_, ?_, ?_⟩ <;> first | (rw [hb.cell (by dsimp only; omega)]; assumption) | exact Below.trans (by assumption) (hb.mono (by omega)) | exact Tab.below (by assumption) hb | (have := hb.size; omega))) | ((refine ⟨?_, ?_, ?_, ?_, ?_⟩ <;> first | (simp [go_sem, *]; done) | ((repeat (first | (with_reducible exact Below.refl _ _) | (with_reducible refine Below.alloc ?_ (by first | omega | (dsimp only; omega) | (simp <;> omega)) _) | (with_reducible refine Below.setCell ?_ (by first | omega | (dsimp only; omega) | (simp <;> omega)) _) | (with_reducible refine Below.drew ?_) | (with_reducible refine below_drewN ?_ _) | (with_reducible refine Below.trans ?_ (Below.mono (by assumption) (by first | omega | (dsimp only; omega) | (simp <;> omega)))))); done) | exact Tab.below (by assumption) (by (repeat (first | (with_reducible exact Below.refl _ _) | (with_reducible refine Below.alloc ?_ (by first | omega | (dsimp only; omega) | (simp <;> omega)) _) | (with_reducible refine Below.setCell ?_ (by first | omega | (dsimp only; omega) | (simp <;> omega)) _) | (with_reducible refine Below.drew ?_) | (with_reducible refine below_drewN ?_ _) | (with_reducible refine Below.trans ?_ (Below.mono (by assumption) (by first | omega | (dsimp only; omega) | (simp <;> omega))))))) | (simp; omega))))
    (first | (go_at_call 25; refine (letters_any _ (by omega) (by omega) _).mono ?_; rintro e w1 ⟨rfl, hb⟩) | (go_at_call 26; refine (itoa_any _ (by omega) _ (by first | assumption | (go_split_ands; assumption))).mono ?_; rintro e w1 ⟨rfl, hb⟩))
  go_split_ands
  go_wp2
  go_ret
  go_split_ands
  refine ⟨?_, by assumption⟩
  rw [hn.out, nameL]
  rfl
theorem aname_any (r c : Int) (w : World) (ht : Tab w) : Calls Tryd.prog 12 #[.agg #[.int .i64 r, .int .i64 c]] w fun e w' => e = .returned (.string ⟨(nameZ r c).toArray⟩) ∧ Below w.heap.size w w' := by
  cases h : mayB r c
  · exact name_no r c h w
  · obtain ⟨r', c', rfl, rfl, hm⟩ := mayB_ints h
    exact name_yes' r' c' hm w ht
end Go.Proofs.YtfbkoieodflcpaaDoor
