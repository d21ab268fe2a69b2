/-
  Package value: the document's names of codes.
-/
import Derived.Test.YtiekhbagpmnboaaGreatDoorRows
import Derived.Test.YtiekhbagpmnboaaGreatDoorBase
import Derived.Test.YtiekhbagpmnboaaGreatDoorDecA
import Derived.Test.YtiekhbagpmnboaaGreatDoorValA
import Derived.Test.YtiekhbagpmnboaaGreatDoorValB
import Derived.Test.YtiekhbagpmnboaaGreatDoorValD
import Derived.WalkSpells
import Derived.WalkLawsBesides
import Derived.StillTactics
import Derived.Laws.Pointers
import Derived.Deep.RegionHeld3
import Derived.Deep.QuietTactic
import Derived.BigQuiet
import Derived.RowKit3
import Derived.Lib.Hide
import Derived.Lib.OthersKept
import Derived.OwnWalk
import Derived.Lib.IndexLaws
import Derived.Lib.ItoaMem
import Derived.WalkKit
import Derived.ProofKit
import Derived.OpenShut
import Derived.Carry
import Derived.ChangeSame
import Derived.Deep.Draws
namespace Go.Proofs.YtiekhbagpmnboaaGreatDoor
open Go.RowKit

set_option maxHeartbeats 1000000 in
theorem rnames_any (w : World) : Calls Tryz.prog 97 #[] w fun e w' => e = .returned (.slice (some ⟨w.heap.size, 0, none⟩) 8 8) ∧ w'.cell? ⟨w.heap.size, 0, none⟩ = some (.string (⟨#[35, 67, 89, 67, 76, 69, 33]⟩)) ∧ w'.cell? ⟨w.heap.size, 1, none⟩ = some (.string (⟨#[35, 78, 85, 77, 33]⟩)) ∧ w'.cell? ⟨w.heap.size, 2, none⟩ = some (.string (⟨#[35, 68, 73, 86, 33]⟩)) ∧ w'.cell? ⟨w.heap.size, 3, none⟩ = some (.string (⟨#[35, 84, 89, 80, 69, 33]⟩)) ∧ w'.cell? ⟨w.heap.size, 4, none⟩ = some (.string (⟨#[35, 82, 65, 78, 71, 69, 33]⟩)) ∧ w'.cell? ⟨w.heap.size, 5, none⟩ = some (.string (⟨#[35, 77, 73, 83, 83, 33]⟩)) ∧ w'.cell? ⟨w.heap.size, 6, none⟩ = some (.string (⟨#[35, 76, 79, 78, 71, 33]⟩)) ∧ w'.cell? ⟨w.heap.size, 7, none⟩ = some (.string (⟨#[35, 65, 82, 71, 33]⟩)) ∧ w.heap.size < w'.heap.size ∧ Below w.heap.size w w' := by
  go_enter Tryz.func97, Tryz.ntmps97
  go_wp2
  go_ret
  refine ⟨rfl, ?_, ?_, ?_, ?_, ?_, ?_, ?_, ?_, ?_, by (repeat (first | (with_reducible exact Below.refl _ _) | (with_reducible refine Below.alloc ?_ (by first | omega | (dsimp only; omega) | (simp <;> omega)) _) | (with_reducible refine Below.setCell ?_ (by first | omega | (dsimp only; omega) | (simp <;> omega)) _) | (with_reducible refine Below.drew ?_) | (with_reducible refine below_drewN ?_ _) | (with_reducible refine Below.trans ?_ (Below.mono (by assumption) (by first | omega | (dsimp only; omega) | (simp <;> omega))))))⟩ <;> simp [go_sem]
set_option maxRecDepth 100000 in
set_option maxHeartbeats 4000000 in
theorem rnamed_any (s : ByteArray) (w : World) :
    Calls Tryz.prog 67 #[.string s] w
      fun e w' => e = .returned (.tuple #[.int .i64 (codeOf s), .bool (!decide (codeOf s = 0))]) ∧ Below w.heap.size w w' := by
  go_enter Tryz.func67, Tryz.ntmps67
  go_wp2_with (go_at_call 97; refine (rnames_any _).mono ?_; rintro e w1 ⟨rfl, h0, h1, h2, h3, h4, h5, h6, h7, hz, hb⟩)
  go_loop [5] (fun i => ∃ k : Nat, k ≤ 8 ∧ i = .int .i64 k ∧ (codeOf s = 0 ∨ (k : Int) + 1 ≤ codeOf s)) (fun i => 8 - (intOf i).toNat)
  case atStart => exact ⟨0, by omega, rfl, by have := codeOf_le s; omega⟩
  case round =>
    obtain ⟨k, hk, rfl, hk2⟩ := hrel
    have hk5 : k = 0 ∨ k = 1 ∨ k = 2 ∨ k = 3 ∨ k = 4 ∨ k = 5 ∨ k = 6 ∨ k = 7 ∨ k = 8 := by omega
    rcases hk5 with rfl | rfl | rfl | rfl | rfl | rfl | rfl | rfl | rfl
    · by_cases he : (⟨#[35, 67, 89, 67, 76, 69, 33]⟩ : ByteArray) = s
      · subst he
        rw [codeOf_at1]
        clear hk2
        go_wp2
        refine bodyPost_ret (v := .tuple #[.int .i64 1, .bool true]) ?_ rfl ⟨rfl, by (repeat (first | (with_reducible exact Below.refl _ _) | (with_reducible refine Below.alloc ?_ (by first | omega | (dsimp only; omega) | (simp <;> omega)) _) | (with_reducible refine Below.setCell ?_ (by first | omega | (dsimp only; omega) | (simp <;> omega)) _) | (with_reducible refine Below.drew ?_) | (with_reducible refine below_drewN ?_ _) | (with_reducible refine Below.trans ?_ (Below.mono (by assumption) (by first | omega | (dsimp only; omega) | (simp <;> omega))))))⟩
        simp [results, Tryz.results67, go_sem, *]
      · have hd : decide ((⟨#[35, 67, 89, 67, 76, 69, 33]⟩ : ByteArray) = s) = false := by simp [he]
        go_wp2
        exact ⟨⟨1, by omega, rfl, by rcases hk2 with h | h; exact Or.inl h; right; rcases Int.lt_or_eq_of_le h with h | h; omega; exact absurd (codeOf_is1 (by omega)) he⟩, by simp [intOf]⟩
    · by_cases he : (⟨#[35, 78, 85, 77, 33]⟩ : ByteArray) = s
      · subst he
        rw [codeOf_at2]
        clear hk2
        go_wp2
        refine bodyPost_ret (v := .tuple #[.int .i64 2, .bool true]) ?_ rfl ⟨rfl, by (repeat (first | (with_reducible exact Below.refl _ _) | (with_reducible refine Below.alloc ?_ (by first | omega | (dsimp only; omega) | (simp <;> omega)) _) | (with_reducible refine Below.setCell ?_ (by first | omega | (dsimp only; omega) | (simp <;> omega)) _) | (with_reducible refine Below.drew ?_) | (with_reducible refine below_drewN ?_ _) | (with_reducible refine Below.trans ?_ (Below.mono (by assumption) (by first | omega | (dsimp only; omega) | (simp <;> omega))))))⟩
        simp [results, Tryz.results67, go_sem, *]
      · have hd : decide ((⟨#[35, 78, 85, 77, 33]⟩ : ByteArray) = s) = false := by simp [he]
        go_wp2
        exact ⟨⟨2, by omega, rfl, by rcases hk2 with h | h; exact Or.inl h; right; rcases Int.lt_or_eq_of_le h with h | h; omega; exact absurd (codeOf_is2 (by omega)) he⟩, by simp [intOf]⟩
    · by_cases he : (⟨#[35, 68, 73, 86, 33]⟩ : ByteArray) = s
      · subst he
        rw [codeOf_at3]
        clear hk2
        go_wp2
        refine bodyPost_ret (v := .tuple #[.int .i64 3, .bool true]) ?_ rfl ⟨rfl, by (repeat (first | (with_reducible exact Below.refl _ _) | (with_reducible refine Below.alloc ?_ (by first | omega | (dsimp only; omega) | (simp <;> omega)) _) | (with_reducible refine Below.setCell ?_ (by first | omega | (dsimp only; omega) | (simp <;> omega)) _) | (with_reducible refine Below.drew ?_) | (with_reducible refine below_drewN ?_ _) | (with_reducible refine Below.trans ?_ (Below.mono (by assumption) (by first | omega | (dsimp only; omega) | (simp <;> omega))))))⟩
        simp [results, Tryz.results67, go_sem, *]
      · have hd : decide ((⟨#[35, 68, 73, 86, 33]⟩ : ByteArray) = s) = false := by simp [he]
        go_wp2
        exact ⟨⟨3, by omega, rfl, by rcases hk2 with h | h; exact Or.inl h; right; rcases Int.lt_or_eq_of_le h with h | h; omega; exact absurd (codeOf_is3 (by omega)) he⟩, by simp [intOf]⟩
    · by_cases he : (⟨#[35, 84, 89, 80, 69, 33]⟩ : ByteArray) = s
      · subst he
        rw [codeOf_at4]
        clear hk2
        go_wp2
        refine bodyPost_ret (v := .tuple #[.int .i64 4, .bool true]) ?_ rfl ⟨rfl, by (repeat (first | (with_reducible exact Below.refl _ _) | (with_reducible refine Below.alloc ?_ (by first | omega | (dsimp only; omega) | (simp <;> omega)) _) | (with_reducible refine Below.setCell ?_ (by first | omega | (dsimp only; omega) | (simp <;> omega)) _) | (with_reducible refine Below.drew ?_) | (with_reducible refine below_drewN ?_ _) | (with_reducible refine Below.trans ?_ (Below.mono (by assumption) (by first | omega | (dsimp only; omega) | (simp <;> omega))))))⟩
        simp [results, Tryz.results67, go_sem, *]
      · have hd : decide ((⟨#[35, 84, 89, 80, 69, 33]⟩ : ByteArray) = s) = false := by simp [he]
        go_wp2
        exact ⟨⟨4, by omega, rfl, by rcases hk2 with h | h; exact Or.inl h; right; rcases Int.lt_or_eq_of_le h with h | h; omega; exact absurd (codeOf_is4 (by omega)) he⟩, by simp [intOf]⟩
    · by_cases he : (⟨#[35, 82, 65, 78, 71, 69, 33]⟩ : ByteArray) = s
      · subst he
        rw [codeOf_at5]
        clear hk2
        go_wp2
        refine bodyPost_ret (v := .tuple #[.int .i64 5, .bool true]) ?_ rfl ⟨rfl, by (repeat (first | (with_reducible exact Below.refl _ _) | (with_reducible refine Below.alloc ?_ (by first | omega | (dsimp only; omega) | (simp <;> omega)) _) | (with_reducible refine Below.setCell ?_ (by first | omega | (dsimp only; omega) | (simp <;> omega)) _) | (with_reducible refine Below.drew ?_) | (with_reducible refine below_drewN ?_ _) | (with_reducible refine Below.trans ?_ (Below.mono (by assumption) (by first | omega | (dsimp only; omega) | (simp <;> omega))))))⟩
        simp [results, Tryz.results67, go_sem, *]
      · have hd : decide ((⟨#[35, 82, 65, 78, 71, 69, 33]⟩ : ByteArray) = s) = false := by simp [he]
        go_wp2
        exact ⟨⟨5, by omega, rfl, by rcases hk2 with h | h; exact Or.inl h; right; rcases Int.lt_or_eq_of_le h with h | h; omega; exact absurd (codeOf_is5 (by omega)) he⟩, by simp [intOf]⟩
    · by_cases he : (⟨#[35, 77, 73, 83, 83, 33]⟩ : ByteArray) = s
      · subst he
        rw [codeOf_at6]
        clear hk2
        go_wp2
        refine bodyPost_ret (v := .tuple #[.int .i64 6, .bool true]) ?_ rfl ⟨rfl, by (repeat (first | (with_reducible exact Below.refl _ _) | (with_reducible refine Below.alloc ?_ (by first | omega | (dsimp only; omega) | (simp <;> omega)) _) | (with_reducible refine Below.setCell ?_ (by first | omega | (dsimp only; omega) | (simp <;> omega)) _) | (with_reducible refine Below.drew ?_) | (with_reducible refine below_drewN ?_ _) | (with_reducible refine Below.trans ?_ (Below.mono (by assumption) (by first | omega | (dsimp only; omega) | (simp <;> omega))))))⟩
        simp [results, Tryz.results67, go_sem, *]
      · have hd : decide ((⟨#[35, 77, 73, 83, 83, 33]⟩ : ByteArray) = s) = false := by simp [he]
        go_wp2
        exact ⟨⟨6, by omega, rfl, by rcases hk2 with h | h; exact Or.inl h; right; rcases Int.lt_or_eq_of_le h with h | h; omega; exact absurd (codeOf_is6 (by omega)) he⟩, by simp [intOf]⟩
    · by_cases he : (⟨#[35, 76, 79, 78, 71, 33]⟩ : ByteArray) = s
      · subst he
        rw [codeOf_at7]
        clear hk2
        go_wp2
        refine bodyPost_ret (v := .tuple #[.int .i64 7, .bool true]) ?_ rfl ⟨rfl, by (repeat (first | (with_reducible exact Below.refl _ _) | (with_reducible refine Below.alloc ?_ (by first | omega | (dsimp only; omega) | (simp <;> omega)) _) | (with_reducible refine Below.setCell ?_ (by first | omega | (dsimp only; omega) | (simp <;> omega)) _) | (with_reducible refine Below.drew ?_) | (with_reducible refine below_drewN ?_ _) | (with_reducible refine Below.trans ?_ (Below.mono (by assumption) (by first | omega | (dsimp only; omega) | (simp <;> omega))))))⟩
        simp [results, Tryz.results67, go_sem, *]
      · have hd : decide ((⟨#[35, 76, 79, 78, 71, 33]⟩ : ByteArray) = s) = false := by simp [he]
        go_wp2
        exact ⟨⟨7, by omega, rfl, by rcases hk2 with h | h; exact Or.inl h; right; rcases Int.lt_or_eq_of_le h with h | h; omega; exact absurd (codeOf_is7 (by omega)) he⟩, by simp [intOf]⟩
    · by_cases he : (⟨#[35, 65, 82, 71, 33]⟩ : ByteArray) = s
      · subst he
        rw [codeOf_at8]
        clear hk2
        go_wp2
        refine bodyPost_ret (v := .tuple #[.int .i64 8, .bool true]) ?_ rfl ⟨rfl, by (repeat (first | (with_reducible exact Below.refl _ _) | (with_reducible refine Below.alloc ?_ (by first | omega | (dsimp only; omega) | (simp <;> omega)) _) | (with_reducible refine Below.setCell ?_ (by first | omega | (dsimp only; omega) | (simp <;> omega)) _) | (with_reducible refine Below.drew ?_) | (with_reducible refine below_drewN ?_ _) | (with_reducible refine Below.trans ?_ (Below.mono (by assumption) (by first | omega | (dsimp only; omega) | (simp <;> omega))))))⟩
        simp [results, Tryz.results67, go_sem, *]
      · have hd : decide ((⟨#[35, 65, 82, 71, 33]⟩ : ByteArray) = s) = false := by simp [he]
        go_wp2
        exact ⟨⟨8, by omega, rfl, by rcases hk2 with h | h; exact Or.inl h; right; rcases Int.lt_or_eq_of_le h with h | h; omega; exact absurd (codeOf_is8 (by omega)) he⟩, by simp [intOf]⟩
    · have h0 : codeOf s = 0 := by
        have := codeOf_le s
        omega
      have h0' := Lib.hid h0
      clear hk2 h0
      go_wp2
      refine bodyPost_ret (v := .tuple #[.int .i64 0, .bool false]) ?_ rfl ⟨by rw [h0'.out]; rfl, by (repeat (first | (with_reducible exact Below.refl _ _) | (with_reducible refine Below.alloc ?_ (by first | omega | (dsimp only; omega) | (simp <;> omega)) _) | (with_reducible refine Below.setCell ?_ (by first | omega | (dsimp only; omega) | (simp <;> omega)) _) | (with_reducible refine Below.drew ?_) | (with_reducible refine below_drewN ?_ _) | (with_reducible refine Below.trans ?_ (Below.mono (by assumption) (by first | omega | (dsimp only; omega) | (simp <;> omega))))))⟩
      simp [results, Tryz.results67, go_sem, *]
end Go.Proofs.YtiekhbagpmnboaaGreatDoor
