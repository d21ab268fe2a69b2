/-
  Package value: Named.
-/
import Derived.Test.YtiekhbagpmnboaaGreatDoorRows
import Derived.Test.YtiekhbagpmnboaaGreatDoorBase
import Derived.Test.YtiekhbagpmnboaaGreatDoorDecA
import Derived.Test.YtiekhbagpmnboaaGreatDoorValA
import Derived.Test.YtiekhbagpmnboaaGreatDoorValB
import Derived.WalkSpells
import Derived.WalkLawsBesides
import Derived.StillTactics
import Derived.Laws.Pointers
import Derived.Deep.RegionHeld3
import Derived.Deep.QuietTactic
import Derived.BigQuiet
import Derived.RowKit3
import Derived.Lib.Hide
import Derived.Lib.OthersKept
import Derived.OwnWalk
import Derived.Lib.IndexLaws
import Derived.Lib.ItoaMem
import Derived.WalkKit
import Derived.ProofKit
import Derived.OpenShut
import Derived.Carry
import Derived.ChangeSame
import Derived.Deep.Draws
namespace Go.Proofs.YtiekhbagpmnboaaGreatDoor
open Go.RowKit

/-- the code of a name, nought of any other text -/
def codeOf (s : ByteArray) : Int :=
  if s = ⟨#[35, 67, 89, 67, 76, 69, 33]⟩ then 1 else
  if s = ⟨#[35, 78, 85, 77, 33]⟩ then 2 else
  if s = ⟨#[35, 68, 73, 86, 33]⟩ then 3 else
  if s = ⟨#[35, 84, 89, 80, 69, 33]⟩ then 4 else
  if s = ⟨#[35, 82, 65, 78, 71, 69, 33]⟩ then 5 else
  if s = ⟨#[35, 77, 73, 83, 83, 33]⟩ then 6 else
  if s = ⟨#[35, 76, 79, 78, 71, 33]⟩ then 7 else
  if s = ⟨#[35, 65, 82, 71, 33]⟩ then 8 else
  0
theorem codeOf_is1 {s : ByteArray} (h : codeOf s = 1) : ⟨#[35, 67, 89, 67, 76, 69, 33]⟩ = s := by
  unfold codeOf at h
  repeat' split at h
  all_goals first | (exact Eq.symm (by assumption)) | (exfalso; omega)
theorem codeOf_at1 : codeOf (⟨#[35, 67, 89, 67, 76, 69, 33]⟩) = 1 := by decide +kernel
theorem lit_ne1 : ((⟨#[35, 67, 89, 67, 76, 69, 33]⟩ : ByteArray) = ⟨#[]⟩) = False := eq_false (by decide +kernel)
theorem codeOf_is2 {s : ByteArray} (h : codeOf s = 2) : ⟨#[35, 78, 85, 77, 33]⟩ = s := by
  unfold codeOf at h
  repeat' split at h
  all_goals first | (exact Eq.symm (by assumption)) | (exfalso; omega)
theorem codeOf_at2 : codeOf (⟨#[35, 78, 85, 77, 33]⟩) = 2 := by decide +kernel
theorem lit_ne2 : ((⟨#[35, 78, 85, 77, 33]⟩ : ByteArray) = ⟨#[]⟩) = False := eq_false (by decide +kernel)
theorem codeOf_is3 {s : ByteArray} (h : codeOf s = 3) : ⟨#[35, 68, 73, 86, 33]⟩ = s := by
  unfold codeOf at h
  repeat' split at h
  all_goals first | (exact Eq.symm (by assumption)) | (exfalso; omega)
theorem codeOf_at3 : codeOf (⟨#[35, 68, 73, 86, 33]⟩) = 3 := by decide +kernel
theorem lit_ne3 : ((⟨#[35, 68, 73, 86, 33]⟩ : ByteArray) = ⟨#[]⟩) = False := eq_false (by decide +kernel)
theorem codeOf_is4 {s : ByteArray} (h : codeOf s = 4) : ⟨#[35, 84, 89, 80, 69, 33]⟩ = s := by
  unfold codeOf at h
  repeat' split at h
  all_goals first | (exact Eq.symm (by assumption)) | (exfalso; omega)
theorem codeOf_at4 : codeOf (⟨#[35, 84, 89, 80, 69, 33]⟩) = 4 := by decide +kernel
theorem lit_ne4 : ((⟨#[35, 84, 89, 80, 69, 33]⟩ : ByteArray) = ⟨#[]⟩) = False := eq_false (by decide +kernel)
theorem codeOf_is5 {s : ByteArray} (h : codeOf s = 5) : ⟨#[35, 82, 65, 78, 71, 69, 33]⟩ = s := by
  unfold codeOf at h
  repeat' split at h
  all_goals first | (exact Eq.symm (by assumption)) | (exfalso; omega)
theorem codeOf_at5 : codeOf (⟨#[35, 82, 65, 78, 71, 69, 33]⟩) = 5 := by decide +kernel
theorem lit_ne5 : ((⟨#[35, 82, 65, 78, 71, 69, 33]⟩ : ByteArray) = ⟨#[]⟩) = False := eq_false (by decide +kernel)
theorem codeOf_is6 {s : ByteArray} (h : codeOf s = 6) : ⟨#[35, 77, 73, 83, 83, 33]⟩ = s := by
  unfold codeOf at h
  repeat' split at h
  all_goals first | (exact Eq.symm (by assumption)) | (exfalso; omega)
theorem codeOf_at6 : codeOf (⟨#[35, 77, 73, 83, 83, 33]⟩) = 6 := by decide +kernel
theorem lit_ne6 : ((⟨#[35, 77, 73, 83, 83, 33]⟩ : ByteArray) = ⟨#[]⟩) = False := eq_false (by decide +kernel)
theorem codeOf_is7 {s : ByteArray} (h : codeOf s = 7) : ⟨#[35, 76, 79, 78, 71, 33]⟩ = s := by
  unfold codeOf at h
  repeat' split at h
  all_goals first | (exact Eq.symm (by assumption)) | (exfalso; omega)
theorem codeOf_at7 : codeOf (⟨#[35, 76, 79, 78, 71, 33]⟩) = 7 := by decide +kernel
theorem lit_ne7 : ((⟨#[35, 76, 79, 78, 71, 33]⟩ : ByteArray) = ⟨#[]⟩) = False := eq_false (by decide +kernel)
theorem codeOf_is8 {s : ByteArray} (h : codeOf s = 8) : ⟨#[35, 65, 82, 71, 33]⟩ = s := by
  unfold codeOf at h
  repeat' split at h
  all_goals first | (exact Eq.symm (by assumption)) | (exfalso; omega)
theorem codeOf_at8 : codeOf (⟨#[35, 65, 82, 71, 33]⟩) = 8 := by decide +kernel
theorem lit_ne8 : ((⟨#[35, 65, 82, 71, 33]⟩ : ByteArray) = ⟨#[]⟩) = False := eq_false (by decide +kernel)
theorem codeOf_at0 : codeOf (⟨#[]⟩) = 0 := by decide +kernel
theorem codeOf_le (s : ByteArray) : 0 ≤ codeOf s ∧ codeOf s ≤ 8 := by
  unfold codeOf
  repeat' split
  all_goals omega
set_option maxRecDepth 100000 in
set_option maxHeartbeats 4000000 in
theorem named_any (s : ByteArray) (w : World) :
    Calls Tryz.prog 48 #[.string s] w
      fun e w' => e = .returned (.tuple #[.int .i64 (codeOf s), .bool (!decide (codeOf s = 0))]) ∧ Below w.heap.size w w' := by
  go_enter Tryz.func48, Tryz.ntmps48
  go_wp2_with (go_at_call 82; refine (names_any _).mono ?_; rintro e w1 ⟨rfl, hb⟩; obtain ⟨hc, hf, hz⟩ := bkeep hb (w.heap.size) (by first | omega | (simp <;> omega)))
  go_loop [7] (fun i => ∃ k : Nat, k ≤ 9 ∧ i = .int .i64 k ∧ (codeOf s = 0 ∨ (k : Int) ≤ codeOf s)) (fun i => 9 - (intOf i).toNat)
  case atStart => exact ⟨0, by omega, rfl, by have := codeOf_le s; omega⟩
  case round =>
    obtain ⟨k, hk, rfl, hk2⟩ := hrel
    have hk5 : k = 0 ∨ k = 1 ∨ k = 2 ∨ k = 3 ∨ k = 4 ∨ k = 5 ∨ k = 6 ∨ k = 7 ∨ k = 8 ∨ k = 9 := by omega
    rcases hk5 with rfl | rfl | rfl | rfl | rfl | rfl | rfl | rfl | rfl | rfl
    · by_cases he : (⟨#[]⟩ : ByteArray) = s
      · subst he
        go_wp2
        exact ⟨⟨1, by omega, rfl, Or.inl codeOf_at0⟩, by simp [intOf]⟩
      · have hd : decide ((⟨#[]⟩ : ByteArray) = s) = false := by simp [he]
        go_wp2
        exact ⟨⟨1, by omega, rfl, by have := codeOf_le s; omega⟩, by simp [intOf]⟩
    · by_cases he : (⟨#[35, 67, 89, 67, 76, 69, 33]⟩ : ByteArray) = s
      · subst he
        have h1 := lit_ne1
        rw [codeOf_at1]
        clear hk2
        go_wp2
        refine bodyPost_ret (v := .tuple #[.int .i64 1, .bool true]) ?_ rfl ⟨rfl, by (repeat (first | (with_reducible exact Below.refl _ _) | (with_reducible refine Below.alloc ?_ (by first | omega | (dsimp only; omega) | (simp <;> omega)) _) | (with_reducible refine Below.setCell ?_ (by first | omega | (dsimp only; omega) | (simp <;> omega)) _) | (with_reducible refine Below.drew ?_) | (with_reducible refine below_drewN ?_ _) | (with_reducible refine Below.trans ?_ (Below.mono (by assumption) (by first | omega | (dsimp only; omega) | (simp <;> omega))))))⟩
        simp [results, Tryz.results48, go_sem, *]
      · have hd : decide ((⟨#[35, 67, 89, 67, 76, 69, 33]⟩ : ByteArray) = s) = false := by simp [he]
        go_wp2
        exact ⟨⟨2, by omega, rfl, by rcases hk2 with h | h; exact Or.inl h; right; rcases Int.lt_or_eq_of_le h with h | h; exact h; exact absurd (codeOf_is1 h.symm) he⟩, by simp [intOf]⟩
    · by_cases he : (⟨#[35, 78, 85, 77, 33]⟩ : ByteArray) = s
      · subst he
        have h1 := lit_ne2
        rw [codeOf_at2]
        clear hk2
        go_wp2
        refine bodyPost_ret (v := .tuple #[.int .i64 2, .bool true]) ?_ rfl ⟨rfl, by (repeat (first | (with_reducible exact Below.refl _ _) | (with_reducible refine Below.alloc ?_ (by first | omega | (dsimp only; omega) | (simp <;> omega)) _) | (with_reducible refine Below.setCell ?_ (by first | omega | (dsimp only; omega) | (simp <;> omega)) _) | (with_reducible refine Below.drew ?_) | (with_reducible refine below_drewN ?_ _) | (with_reducible refine Below.trans ?_ (Below.mono (by assumption) (by first | omega | (dsimp only; omega) | (simp <;> omega))))))⟩
        simp [results, Tryz.results48, go_sem, *]
      · have hd : decide ((⟨#[35, 78, 85, 77, 33]⟩ : ByteArray) = s) = false := by simp [he]
        go_wp2
        exact ⟨⟨3, by omega, rfl, by rcases hk2 with h | h; exact Or.inl h; right; rcases Int.lt_or_eq_of_le h with h | h; exact h; exact absurd (codeOf_is2 h.symm) he⟩, by simp [intOf]⟩
    · by_cases he : (⟨#[35, 68, 73, 86, 33]⟩ : ByteArray) = s
      · subst he
        have h1 := lit_ne3
        rw [codeOf_at3]
        clear hk2
        go_wp2
        refine bodyPost_ret (v := .tuple #[.int .i64 3, .bool true]) ?_ rfl ⟨rfl, by (repeat (first | (with_reducible exact Below.refl _ _) | (with_reducible refine Below.alloc ?_ (by first | omega | (dsimp only; omega) | (simp <;> omega)) _) | (with_reducible refine Below.setCell ?_ (by first | omega | (dsimp only; omega) | (simp <;> omega)) _) | (with_reducible refine Below.drew ?_) | (with_reducible refine below_drewN ?_ _) | (with_reducible refine Below.trans ?_ (Below.mono (by assumption) (by first | omega | (dsimp only; omega) | (simp <;> omega))))))⟩
        simp [results, Tryz.results48, go_sem, *]
      · have hd : decide ((⟨#[35, 68, 73, 86, 33]⟩ : ByteArray) = s) = false := by simp [he]
        go_wp2
        exact ⟨⟨4, by omega, rfl, by rcases hk2 with h | h; exact Or.inl h; right; rcases Int.lt_or_eq_of_le h with h | h; exact h; exact absurd (codeOf_is3 h.symm) he⟩, by simp [intOf]⟩
    · by_cases he : (⟨#[35, 84, 89, 80, 69, 33]⟩ : ByteArray) = s
      · subst he
        have h1 := lit_ne4
        rw [codeOf_at4]
        clear hk2
        go_wp2
        refine bodyPost_ret (v := .tuple #[.int .i64 4, .bool true]) ?_ rfl ⟨rfl, by (repeat (first | (with_reducible exact Below.refl _ _) | (with_reducible refine Below.alloc ?_ (by first | omega | (dsimp only; omega) | (simp <;> omega)) _) | (with_reducible refine Below.setCell ?_ (by first | omega | (dsimp only; omega) | (simp <;> omega)) _) | (with_reducible refine Below.drew ?_) | (with_reducible refine below_drewN ?_ _) | (with_reducible refine Below.trans ?_ (Below.mono (by assumption) (by first | omega | (dsimp only; omega) | (simp <;> omega))))))⟩
        simp [results, Tryz.results48, go_sem, *]
      · have hd : decide ((⟨#[35, 84, 89, 80, 69, 33]⟩ : ByteArray) = s) = false := by simp [he]
        go_wp2
        exact ⟨⟨5, by omega, rfl, by rcases hk2 with h | h; exact Or.inl h; right; rcases Int.lt_or_eq_of_le h with h | h; exact h; exact absurd (codeOf_is4 h.symm) he⟩, by simp [intOf]⟩
    · by_cases he : (⟨#[35, 82, 65, 78, 71, 69, 33]⟩ : ByteArray) = s
      · subst he
        have h1 := lit_ne5
        rw [codeOf_at5]
        clear hk2
        go_wp2
        refine bodyPost_ret (v := .tuple #[.int .i64 5, .bool true]) ?_ rfl ⟨rfl, by (repeat (first | (with_reducible exact Below.refl _ _) | (with_reducible refine Below.alloc ?_ (by first | omega | (dsimp only; omega) | (simp <;> omega)) _) | (with_reducible refine Below.setCell ?_ (by first | omega | (dsimp only; omega) | (simp <;> omega)) _) | (with_reducible refine Below.drew ?_) | (with_reducible refine below_drewN ?_ _) | (with_reducible refine Below.trans ?_ (Below.mono (by assumption) (by first | omega | (dsimp only; omega) | (simp <;> omega))))))⟩
        simp [results, Tryz.results48, go_sem, *]
      · have hd : decide ((⟨#[35, 82, 65, 78, 71, 69, 33]⟩ : ByteArray) = s) = false := by simp [he]
        go_wp2
        exact ⟨⟨6, by omega, rfl, by rcases hk2 with h | h; exact Or.inl h; right; rcases Int.lt_or_eq_of_le h with h | h; exact h; exact absurd (codeOf_is5 h.symm) he⟩, by simp [intOf]⟩
    · by_cases he : (⟨#[35, 77, 73, 83, 83, 33]⟩ : ByteArray) = s
      · subst he
        have h1 := lit_ne6
        rw [codeOf_at6]
        clear hk2
        go_wp2
        refine bodyPost_ret (v := .tuple #[.int .i64 6, .bool true]) ?_ rfl ⟨rfl, by (repeat (first | (with_reducible exact Below.refl _ _) | (with_reducible refine Below.alloc ?_ (by first | omega | (dsimp only; omega) | (simp <;> omega)) _) | (with_reducible refine Below.setCell ?_ (by first | omega | (dsimp only; omega) | (simp <;> omega)) _) | (with_reducible refine Below.drew ?_) | (with_reducible refine below_drewN ?_ _) | (with_reducible refine Below.trans ?_ (Below.mono (by assumption) (by first | omega | (dsimp only; omega) | (simp <;> omega))))))⟩
        simp [results, Tryz.results48, go_sem, *]
      · have hd : decide ((⟨#[35, 77, 73, 83, 83, 33]⟩ : ByteArray) = s) = false := by simp [he]
        go_wp2
        exact ⟨⟨7, by omega, rfl, by rcases hk2 with h | h; exact Or.inl h; right; rcases Int.lt_or_eq_of_le h with h | h; exact h; exact absurd (codeOf_is6 h.symm) he⟩, by simp [intOf]⟩
    · by_cases he : (⟨#[35, 76, 79, 78, 71, 33]⟩ : ByteArray) = s
      · subst he
        have h1 := lit_ne7
        rw [codeOf_at7]
        clear hk2
        go_wp2
        refine bodyPost_ret (v := .tuple #[.int .i64 7, .bool true]) ?_ rfl ⟨rfl, by (repeat (first | (with_reducible exact Below.refl _ _) | (with_reducible refine Below.alloc ?_ (by first | omega | (dsimp only; omega) | (simp <;> omega)) _) | (with_reducible refine Below.setCell ?_ (by first | omega | (dsimp only; omega) | (simp <;> omega)) _) | (with_reducible refine Below.drew ?_) | (with_reducible refine below_drewN ?_ _) | (with_reducible refine Below.trans ?_ (Below.mono (by assumption) (by first | omega | (dsimp only; omega) | (simp <;> omega))))))⟩
        simp [results, Tryz.results48, go_sem, *]
      · have hd : decide ((⟨#[35, 76, 79, 78, 71, 33]⟩ : ByteArray) = s) = false := by simp [he]
        go_wp2
        exact ⟨⟨8, by omega, rfl, by rcases hk2 with h | h; exact Or.inl h; right; rcases Int.lt_or_eq_of_le h with h | h; exact h; exact absurd (codeOf_is7 h.symm) he⟩, by simp [intOf]⟩
    · by_cases he : (⟨#[35, 65, 82, 71, 33]⟩ : ByteArray) = s
      · subst he
        have h1 := lit_ne8
        rw [codeOf_at8]
        clear hk2
        go_wp2
        refine bodyPost_ret (v := .tuple #[.int .i64 8, .bool true]) ?_ rfl ⟨rfl, by (repeat (first | (with_reducible exact Below.refl _ _) | (with_reducible refine Below.alloc ?_ (by first | omega | (dsimp only; omega) | (simp <;> omega)) _) | (with_reducible refine Below.setCell ?_ (by first | omega | (dsimp only; omega) | (simp <;> omega)) _) | (with_reducible refine Below.drew ?_) | (with_reducible refine below_drewN ?_ _) | (with_reducible refine Below.trans ?_ (Below.mono (by assumption) (by first | omega | (dsimp only; omega) | (simp <;> omega))))))⟩
        simp [results, Tryz.results48, go_sem, *]
      · have hd : decide ((⟨#[35, 65, 82, 71, 33]⟩ : ByteArray) = s) = false := by simp [he]
        go_wp2
        exact ⟨⟨9, by omega, rfl, by rcases hk2 with h | h; exact Or.inl h; right; rcases Int.lt_or_eq_of_le h with h | h; exact h; exact absurd (codeOf_is8 h.symm) he⟩, by simp [intOf]⟩
    · have h0 : codeOf s = 0 := by
        have := codeOf_le s
        omega
      have h0' := Lib.hid h0
      clear hk2 h0
      go_wp2
      refine bodyPost_ret (v := .tuple #[.int .i64 0, .bool false]) ?_ rfl ⟨by rw [h0'.out]; rfl, by (repeat (first | (with_reducible exact Below.refl _ _) | (with_reducible refine Below.alloc ?_ (by first | omega | (dsimp only; omega) | (simp <;> omega)) _) | (with_reducible refine Below.setCell ?_ (by first | omega | (dsimp only; omega) | (simp <;> omega)) _) | (with_reducible refine Below.drew ?_) | (with_reducible refine below_drewN ?_ _) | (with_reducible refine Below.trans ?_ (Below.mono (by assumption) (by first | omega | (dsimp only; omega) | (simp <;> omega))))))⟩
      simp [results, Tryz.results48, go_sem, *]
end Go.Proofs.YtiekhbagpmnboaaGreatDoor
