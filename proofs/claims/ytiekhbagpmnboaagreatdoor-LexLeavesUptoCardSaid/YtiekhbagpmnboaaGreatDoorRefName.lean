/-
  The document's own names of cells: column, digits, Name.
-/
import Derived.Test.YtiekhbagpmnboaaGreatDoorRows
import Derived.Test.YtiekhbagpmnboaaGreatDoorBase
import Derived.Test.YtiekhbagpmnboaaGreatDoorAddrC
import Derived.Test.YtiekhbagpmnboaaGreatDoorNames
import Derived.Test.YtiekhbagpmnboaaGreatDoorParseW
import Derived.WalkSpells
import Derived.WalkLawsBesides
import Derived.StillTactics
import Derived.Laws.Pointers
import Derived.Deep.RegionHeld3
import Derived.Deep.QuietTactic
import Derived.BigQuiet
import Derived.RowKit3
import Derived.Lib.Hide
import Derived.Lib.OthersKept
import Derived.WalkKit
import Derived.ProofKit
import Derived.OpenShut
import Derived.Carry
import Derived.ChangeSame
import Derived.Deep.Draws
import Derived.OwnWalk
import Derived.Lib.IndexLaws
import Derived.Lib.ItoaNum
import Derived.Lib.ItoaMem
namespace Go.Proofs.YtiekhbagpmnboaaGreatDoor
open Go.RowKit

theorem abc_one : ∀ n : Fin 26, (⟨#[65, 66, 67, 68, 69, 70, 71, 72, 73, 74, 75, 76, 77, 78, 79, 80, 81, 82, 83, 84, 85, 86, 87, 88, 89, 90]⟩ : ByteArray).extract n.val (n.val + 1) = ⟨#[UInt8.ofNat (65 + n.val)]⟩ := by decide +kernel
theorem dig_one : ∀ n : Fin 10, (⟨#[48, 49, 50, 51, 52, 53, 54, 55, 56, 57]⟩ : ByteArray).extract n.val (n.val + 1) = ⟨#[UInt8.ofNat (48 + n.val)]⟩ := by decide +kernel
theorem abc_at {n m : Nat} (h : n < 26) (hm : m = n + 1) : (⟨#[65, 66, 67, 68, 69, 70, 71, 72, 73, 74, 75, 76, 77, 78, 79, 80, 81, 82, 83, 84, 85, 86, 87, 88, 89, 90]⟩ : ByteArray).extract n m = ⟨#[UInt8.ofNat (65 + n)]⟩ := by subst hm; exact abc_one ⟨n, h⟩
theorem dig_at {n m : Nat} (h : n < 10) (hm : m = n + 1) : (⟨#[48, 49, 50, 51, 52, 53, 54, 55, 56, 57]⟩ : ByteArray).extract n m = ⟨#[UInt8.ofNat (48 + n)]⟩ := by subst hm; exact dig_one ⟨n, h⟩
theorem bytes_append (a b : List UInt8) : (⟨a.toArray⟩ : ByteArray) ++ ⟨b.toArray⟩ = ⟨(a ++ b).toArray⟩ := by
  apply ByteArray.ext
  simp

set_option maxHeartbeats 400000 in
theorem column_one (n : Nat) (h1 : 1 ≤ n) (h2 : n ≤ 26) (w : World) : Calls Tryz.prog 100 #[.int .i64 n] w fun e w' => e = .returned (.string ⟨(colL n).toArray⟩) ∧ Below w.heap.size w w' := by
  have hc : (⟨(colL n).toArray⟩ : ByteArray) = (⟨#[65, 66, 67, 68, 69, 70, 71, 72, 73, 74, 75, 76, 77, 78, 79, 80, 81, 82, 83, 84, 85, 86, 87, 88, 89, 90]⟩ : ByteArray).extract (n - 1) n := by
    rw [abc_at (by omega) (by omega)]
    unfold colL
    rw [if_pos h2, show 65 + (n - 1) = 64 + n from by omega]
  have hc' := Lib.hid hc
  clear hc
  go_enter Tryz.func100, Tryz.ntmps100
  go_wp2
  go_ret
  exact ⟨by rw [hc'.out]; rfl, Below.refl _ _⟩
set_option maxHeartbeats 400000 in
theorem column_two (n : Nat) (h1 : 27 ≤ n) (h2 : n ≤ 256) (w : World) : Calls Tryz.prog 100 #[.int .i64 n] w fun e w' => e = .returned (.string ⟨(colL n).toArray⟩) ∧ Below w.heap.size w w' := by
  have hc : (⟨(colL n).toArray⟩ : ByteArray) = (⟨#[65, 66, 67, 68, 69, 70, 71, 72, 73, 74, 75, 76, 77, 78, 79, 80, 81, 82, 83, 84, 85, 86, 87, 88, 89, 90]⟩ : ByteArray).extract ((n - 27) / 26) ((n - 27) / 26 + 1) ++ (⟨#[65, 66, 67, 68, 69, 70, 71, 72, 73, 74, 75, 76, 77, 78, 79, 80, 81, 82, 83, 84, 85, 86, 87, 88, 89, 90]⟩ : ByteArray).extract ((n - 27) % 26) ((n - 27) % 26 + 1) := by
    rw [abc_at (by omega) rfl, abc_at (by omega) rfl]
    unfold colL
    rw [if_neg (by omega)]
    exact (bytes_append [_] [_]).symm
  have hc' := Lib.hid hc
  clear hc
  go_enter Tryz.func100, Tryz.ntmps100
  go_wp2
  go_quiet (fail)
  go_wp2
  go_ret
  exact ⟨by rw [hc'.out]; rfl, below_drewN (Below.refl _ _) _⟩
theorem column_any (n : Nat) (h1 : 1 ≤ n) (h2 : n ≤ 256) (w : World) : Calls Tryz.prog 100 #[.int .i64 n] w fun e w' => e = .returned (.string ⟨(colL n).toArray⟩) ∧ Below w.heap.size w w' := by
  by_cases h : n ≤ 26
  · exact column_one n h1 h w
  · exact column_two n (by omega) h2 w
/-- what is left to write, and what is written -/
def digTo (m : Nat) : List UInt8 := if m = 0 then [] else Lib.decDigits m
theorem digTo_step {m : Nat} (h : 0 < m) (l : List UInt8) : digTo (m / 10) ++ ([UInt8.ofNat (48 + m % 10)] ++ l) = digTo m ++ l := by
  unfold digTo
  by_cases h10 : m < 10
  · rw [if_pos (by omega), if_neg (by omega), Lib.decDigits_one h10, show m % 10 = m from by omega]
    simp
  · rw [if_neg (by omega), if_neg (by omega), dec_snoc (r := m) (by omega)]
    simp
theorem digTo_len {n : Nat} (h : n ≤ 4096) : (digTo n).length ≤ 4 := by
  unfold digTo
  split
  · simp
  · exact dec_len (by omega)
set_option maxHeartbeats 400000 in
theorem rf_digits (n : Nat) (h2 : n ≤ 4096) (w : World) : Calls Tryz.prog 122 #[.int .i64 n] w fun e w' => e = .returned (.string ⟨(digTo n).toArray⟩) ∧ Below w.heap.size w w' := by
  go_enter Tryz.func122, Tryz.ntmps122
  go_wp2
  go_loopw [0, 3] (fun m t wr => ∃ (k : Nat) (l : List UInt8), k ≤ n ∧ m = .int .i64 k ∧ t = .string ⟨l.toArray⟩ ∧ digTo k ++ l = digTo n ∧ Below w.heap.size w wr) (fun m _ _ => (intOf m).toNat)
  case atStart => exact ⟨n, [], Nat.le_refl _, rfl, rfl, by simp, Below.refl _ _⟩
  case round =>
    obtain ⟨k, l, hk, rfl, rfl, hl, hb⟩ := hrel
    by_cases h0 : 0 < k
    · have hd := Lib.hid (dig_at (n := k % 10) (by omega) rfl)
      have hst := Lib.hid (digTo_step h0 l)
      have hlen : l.length ≤ 4 := by
        have h4 := digTo_len h2
        rw [← hl] at h4
        simp at h4
        omega
      have hl' := Lib.hid hl
      clear hl
      go_wp2
      go_roundw
      case rel =>
        refine ⟨k / 10, [UInt8.ofNat (48 + k % 10)] ++ l, by omega, by go_num, ?_, by rw [hst.out, hl'.out], hb⟩
        rw [hd.out]
        exact congrArg Value.string (bytes_append [_] l)
      case measure => simp [intOf]; omega
    · have hl' := Lib.hid hl
      clear hl
      go_wp2
      go_ret
      refine ⟨?_, hb⟩
      rw [← hl'.out]
      obtain rfl : k = 0 := by omega
      simp [digTo]
/-- a cell's name, the empty text of one that may not be -/
def nameZ (r c : Int) : List UInt8 := if mayB r c then colL c.toNat ++ Lib.decDigits r.toNat else []
theorem digTo_pos {m : Nat} (h : 0 < m) : digTo m = Lib.decDigits m := by unfold digTo; rw [if_neg (by omega)]
theorem nameZ_nat {r c : Nat} (h : mayN r c = true) : nameZ r c = nameL r c := by
  unfold nameZ
  rw [mayB_nat, h, if_pos rfl]
  simp [nameL]
theorem nameZ_no {r c : Int} (h : mayB r c = false) : nameZ r c = [] := by simp [nameZ, h]
theorem mayB_ints {r c : Int} (h : mayB r c = true) : ∃ r' c' : Nat, r = r' ∧ c = c' ∧ mayN r' c' = true := by
  obtain ⟨h1, h2, h3, h4⟩ : 1 ≤ r ∧ r ≤ 4096 ∧ 1 ≤ c ∧ c ≤ 256 := by simpa [mayB, and_assoc] using h
  obtain ⟨r, rfl⟩ := Int.eq_ofNat_of_zero_le (show 0 ≤ r by omega)
  obtain ⟨c, rfl⟩ := Int.eq_ofNat_of_zero_le (show 0 ≤ c by omega)
  exact ⟨r, c, rfl, rfl, by rw [← mayB_nat]; exact h⟩
set_option maxHeartbeats 400000 in
theorem rname_no (r c : Int) (h : mayB r c = false) (w : World) : Calls Tryz.prog 101 #[.agg #[.int .i64 r, .int .i64 c]] w fun e w' => e = .returned (.string ⟨(nameZ r c).toArray⟩) ∧ Below w.heap.size w w' := by
  have hn := Lib.hid (nameZ_no h)
  go_enter Tryz.func101, Tryz.ntmps101
  go_wp2_with (go_at_call 121; refine (rmay_any _ _ _).mono ?_; rintro e w1 ⟨rfl, hb⟩; obtain ⟨hc, hf, hz⟩ := bkeep hb (w.heap.size + 1) (by first | omega | (simp <;> omega)))
  go_ret
  exact ⟨by rw [hn.out]; rfl, by (repeat (first | (with_reducible exact Below.refl _ _) | (with_reducible refine Below.alloc ?_ (by first | omega | (dsimp only; omega) | (simp <;> omega)) _) | (with_reducible refine Below.setCell ?_ (by first | omega | (dsimp only; omega) | (simp <;> omega)) _) | (with_reducible refine Below.drew ?_) | (with_reducible refine below_drewN ?_ _) | (with_reducible refine Below.trans ?_ (Below.mono (by assumption) (by first | omega | (dsimp only; omega) | (simp <;> omega))))))⟩
set_option maxHeartbeats 400000 in
theorem rname_yes (r c : Nat) (h : mayN r c = true) (w : World) : Calls Tryz.prog 101 #[.agg #[.int .i64 r, .int .i64 c]] w fun e w' => e = .returned (.string ⟨(nameZ r c).toArray⟩) ∧ Below w.heap.size w w' := by
  have hn := Lib.hid (nameZ_nat h)
  obtain ⟨m1, m2, m3, m4⟩ := mayN_of h
  have hm : mayB r c = true := (mayB_nat r c).trans h
  clear h
  have hl1 := (col_len c).2
  have hl2 := digTo_len (n := r) (by omega)
  have hadd := fun w' => run_string_add_lists (P := Tryz.prog) w' (colL c) (digTo r) (by omega) (by omega)
  go_enter Tryz.func101, Tryz.ntmps101
  go_wp2_with (go_at_call 121; refine (rmay_any _ _ _).mono ?_; rintro e w1 ⟨rfl, hb⟩; obtain ⟨hc, hf, hz⟩ := bkeep hb (w.heap.size + 1) (by first | omega | (simp <;> omega)))
  go_region_held3 (fun w' => w'.cell? ⟨w.heap.size, 0, none⟩ = some (.int .i64 r) ∧ w'.cell? ⟨w.heap.size, 1, none⟩ = some (.int .i64 c) ∧ Below w.heap.size w w' ∧ w.heap.size + 1 ≤ w'.heap.size)
    (first | ((go_split_ands; refine ⟨?_, ?_, ?_, ?_⟩ <;> first | (rw [hb.cell (by dsimp only; omega)]; assumption) | exact Below.trans (by assumption) (hb.mono (by omega)) | (have := hb.size; omega))) | ((refine ⟨?_, ?_, ?_, ?_⟩ <;> first | (simp [go_sem, *]; done) | ((repeat (first | (with_reducible exact Below.refl _ _) | (with_reducible refine Below.alloc ?_ (by first | omega | (dsimp only; omega) | (simp <;> omega)) _) | (with_reducible refine Below.setCell ?_ (by first | omega | (dsimp only; omega) | (simp <;> omega)) _) | (with_reducible refine Below.drew ?_) | (with_reducible refine below_drewN ?_ _) | (with_reducible refine Below.trans ?_ (Below.mono (by assumption) (by first | omega | (dsimp only; omega) | (simp <;> omega)))))); done) | (simp; omega))))
    (first | (go_at_call 100; refine (column_any _ (by omega) (by omega) _).mono ?_; rintro e w1 ⟨rfl, hb⟩) | (go_at_call 122; refine (rf_digits _ (by omega) _).mono ?_; rintro e w1 ⟨rfl, hb⟩))
  go_split_ands
  go_wp2
  go_ret
  go_split_ands
  refine ⟨?_, by assumption⟩
  rw [hn.out, nameL, ← digTo_pos (by omega)]
  rfl
theorem rname_any (r c : Int) (w : World) : Calls Tryz.prog 101 #[.agg #[.int .i64 r, .int .i64 c]] w fun e w' => e = .returned (.string ⟨(nameZ r c).toArray⟩) ∧ Below w.heap.size w w' := by
  cases h : mayB r c
  · exact rname_no r c h w
  · obtain ⟨r', c', rfl, rfl, hm⟩ := mayB_ints h
    exact rname_yes r' c' hm w
end Go.Proofs.YtiekhbagpmnboaaGreatDoor
