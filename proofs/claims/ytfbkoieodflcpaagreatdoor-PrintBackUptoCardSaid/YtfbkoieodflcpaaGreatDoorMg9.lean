/-
  Neg, Add, Sub of package dec, and the document's own; Package value: Named; Rows of cells in memory; A map by texts that a literal makes, in the call's own memory: filled, looked into; Arguments of functions: how they lie in memory; Package value: cmp.Compare, truth; Package value: Compare; Slices of things of several cells that came in: their lists.
-/
import Derived.Test.YtfbkoieodflcpaaGreatDoorRows
import Derived.Test.YtfbkoieodflcpaaGreatDoorMg0
import Derived.Test.YtfbkoieodflcpaaGreatDoorValA
import Derived.Test.YtfbkoieodflcpaaGreatDoorValB
import Derived.Test.YtfbkoieodflcpaaGreatDoorAddrC
import Derived.Test.YtfbkoieodflcpaaGreatDoorProg
import Derived.Test.YtfbkoieodflcpaaGreatDoorShelf
import Derived.WalkSpells
import Derived.WalkLawsBesides
import Derived.StillTactics
import Derived.Laws.Pointers
import Derived.Deep.RegionHeld3
import Derived.Deep.QuietTactic
import Derived.BigQuiet
import Derived.RowKit3
import Derived.Lib.Hide
import Derived.Lib.OthersKept
import Derived.OwnWalk
import Derived.Lib.IndexLaws
import Derived.Lib.ItoaMem
import Derived.WalkKit
import Derived.ProofKit
import Derived.OpenShut
import Derived.Carry
import Derived.ChangeSame
import Derived.Deep.Draws
import Derived.Deep.Slices
import Derived.ChangeSlices
import Derived.Maps.OwnSet
import Derived.Maps.AppendAt
import Derived.Shelf.Strings.Builder1
import Derived.Shelf.Strings.Builder2
import Derived.Shelf.Strings.Trim
import Derived.Shelf.Small.Utf8
import Derived.Shelf.Small.Strs
import Derived.Shelf.Small.Wraps
import Derived.Shelf.Strings.BuilderF
import Derived.Shelf.Strings.BuilderK
import Derived.Shelf.Utf8.RuneCount
import Derived.Shelf.Strconv.Itoa0
import Derived.Shelf.Strconv.Itoa1
import Derived.Shelf.LaysM
import Derived.Shelf.Strconv.Itoa2
import Derived.Shelf.Strconv.Itoa3
import Derived.Ground.MpProg
import Derived.Shelf.Pu.ParseUintPublic10
import Derived.Shelf.Strings.Search1
import Derived.Shelf.Strings.Search2
import Derived.Shelf.Strings.Search3
import Derived.Shelf.Strings.Cut
import Derived.Shelf.Strings.Count
import Derived.Shelf.Strings.Shaped
import Derived.Shelf.Strings.Prefix
import Derived.Shelf.Strings.Split
import Derived.Shelf.Strings.Replace
import Derived.Shelf.Strings.SplitShaped
import Derived.Shelf.Unicode.Decode
import Derived.Shelf.Strings.Runes
import Derived.Shelf.Strings.RuneCount
import Derived.Shelf.Strings.AsciiSet
import Derived.Shelf.Unicode.DecodeSlow
import Derived.Shelf.Unicode.DecodeAny
import Derived.Shelf.Unicode.DecodeLast
namespace Go.Proofs.YtfbkoieodflcpaaGreatDoor
open Go.RowKit

theorem may_no {x : Int} (h : x = -9223372036854775808) : decMay x = false := by subst h; decide
theorem may_yes {x : Int} (h : x ≠ -9223372036854775808) : decMay x = true := by simp [decMay, h]
end Go.Proofs.YtfbkoieodflcpaaGreatDoor
namespace Go.Proofs.YtfbkoieodflcpaaGreatDoor
open Go.RowKit

/-- the code of a name, nought of any other text -/
def codeOf (s : ByteArray) : Int :=
  if s = ⟨#[35, 67, 89, 67, 76, 69, 33]⟩ then 1 else
  if s = ⟨#[35, 78, 85, 77, 33]⟩ then 2 else
  if s = ⟨#[35, 68, 73, 86, 33]⟩ then 3 else
  if s = ⟨#[35, 84, 89, 80, 69, 33]⟩ then 4 else
  if s = ⟨#[35, 82, 65, 78, 71, 69, 33]⟩ then 5 else
  if s = ⟨#[35, 77, 73, 83, 83, 33]⟩ then 6 else
  if s = ⟨#[35, 76, 79, 78, 71, 33]⟩ then 7 else
  if s = ⟨#[35, 65, 82, 71, 33]⟩ then 8 else
  0
theorem codeOf_is1 {s : ByteArray} (h : codeOf s = 1) : ⟨#[35, 67, 89, 67, 76, 69, 33]⟩ = s := by
  unfold codeOf at h
  repeat' split at h
  all_goals first | (exact Eq.symm (by assumption)) | (exfalso; omega)
theorem codeOf_at1 : codeOf (⟨#[35, 67, 89, 67, 76, 69, 33]⟩) = 1 := by decide +kernel
theorem lit_ne1 : ((⟨#[35, 67, 89, 67, 76, 69, 33]⟩ : ByteArray) = ⟨#[]⟩) = False := eq_false (by decide +kernel)
theorem codeOf_is2 {s : ByteArray} (h : codeOf s = 2) : ⟨#[35, 78, 85, 77, 33]⟩ = s := by
  unfold codeOf at h
  repeat' split at h
  all_goals first | (exact Eq.symm (by assumption)) | (exfalso; omega)
theorem codeOf_at2 : codeOf (⟨#[35, 78, 85, 77, 33]⟩) = 2 := by decide +kernel
theorem lit_ne2 : ((⟨#[35, 78, 85, 77, 33]⟩ : ByteArray) = ⟨#[]⟩) = False := eq_false (by decide +kernel)
theorem codeOf_is3 {s : ByteArray} (h : codeOf s = 3) : ⟨#[35, 68, 73, 86, 33]⟩ = s := by
  unfold codeOf at h
  repeat' split at h
  all_goals first | (exact Eq.symm (by assumption)) | (exfalso; omega)
theorem codeOf_at3 : codeOf (⟨#[35, 68, 73, 86, 33]⟩) = 3 := by decide +kernel
theorem lit_ne3 : ((⟨#[35, 68, 73, 86, 33]⟩ : ByteArray) = ⟨#[]⟩) = False := eq_false (by decide +kernel)
theorem codeOf_is4 {s : ByteArray} (h : codeOf s = 4) : ⟨#[35, 84, 89, 80, 69, 33]⟩ = s := by
  unfold codeOf at h
  repeat' split at h
  all_goals first | (exact Eq.symm (by assumption)) | (exfalso; omega)
theorem codeOf_at4 : codeOf (⟨#[35, 84, 89, 80, 69, 33]⟩) = 4 := by decide +kernel
theorem lit_ne4 : ((⟨#[35, 84, 89, 80, 69, 33]⟩ : ByteArray) = ⟨#[]⟩) = False := eq_false (by decide +kernel)
theorem codeOf_is5 {s : ByteArray} (h : codeOf s = 5) : ⟨#[35, 82, 65, 78, 71, 69, 33]⟩ = s := by
  unfold codeOf at h
  repeat' split at h
  all_goals first | (exact Eq.symm (by assumption)) | (exfalso; omega)
theorem codeOf_at5 : codeOf (⟨#[35, 82, 65, 78, 71, 69, 33]⟩) = 5 := by decide +kernel
theorem lit_ne5 : ((⟨#[35, 82, 65, 78, 71, 69, 33]⟩ : ByteArray) = ⟨#[]⟩) = False := eq_false (by decide +kernel)
theorem codeOf_is6 {s : ByteArray} (h : codeOf s = 6) : ⟨#[35, 77, 73, 83, 83, 33]⟩ = s := by
  unfold codeOf at h
  repeat' split at h
  all_goals first | (exact Eq.symm (by assumption)) | (exfalso; omega)
theorem codeOf_at6 : codeOf (⟨#[35, 77, 73, 83, 83, 33]⟩) = 6 := by decide +kernel
theorem lit_ne6 : ((⟨#[35, 77, 73, 83, 83, 33]⟩ : ByteArray) = ⟨#[]⟩) = False := eq_false (by decide +kernel)
theorem codeOf_is7 {s : ByteArray} (h : codeOf s = 7) : ⟨#[35, 76, 79, 78, 71, 33]⟩ = s := by
  unfold codeOf at h
  repeat' split at h
  all_goals first | (exact Eq.symm (by assumption)) | (exfalso; omega)
theorem codeOf_at7 : codeOf (⟨#[35, 76, 79, 78, 71, 33]⟩) = 7 := by decide +kernel
theorem lit_ne7 : ((⟨#[35, 76, 79, 78, 71, 33]⟩ : ByteArray) = ⟨#[]⟩) = False := eq_false (by decide +kernel)
theorem codeOf_is8 {s : ByteArray} (h : codeOf s = 8) : ⟨#[35, 65, 82, 71, 33]⟩ = s := by
  unfold codeOf at h
  repeat' split at h
  all_goals first | (exact Eq.symm (by assumption)) | (exfalso; omega)
theorem codeOf_at8 : codeOf (⟨#[35, 65, 82, 71, 33]⟩) = 8 := by decide +kernel
theorem lit_ne8 : ((⟨#[35, 65, 82, 71, 33]⟩ : ByteArray) = ⟨#[]⟩) = False := eq_false (by decide +kernel)
theorem codeOf_at0 : codeOf (⟨#[]⟩) = 0 := by decide +kernel
theorem codeOf_le (s : ByteArray) : 0 ≤ codeOf s ∧ codeOf s ≤ 8 := by
  unfold codeOf
  repeat' split
  all_goals omega
set_option maxRecDepth 100000 in
set_option maxHeartbeats 4000000 in
theorem named_any (s : ByteArray) (w : World) :
    Calls Tryz.prog 92 #[.string s] w
      fun e w' => e = .returned (.tuple #[.int .i64 (codeOf s), .bool (!decide (codeOf s = 0))]) ∧ Below w.heap.size w w' := by
  go_enter Tryz.func92, Tryz.ntmps92
  go_wp2_with (go_at_call 109; refine (names_any _).mono ?_; rintro e w1 ⟨rfl, hb⟩; obtain ⟨hc, hf, hz⟩ := bkeep hb (w.heap.size) (by first | omega | (simp <;> omega)))
  go_loop [7] (fun i => ∃ k : Nat, k ≤ 9 ∧ i = .int .i64 k ∧ (codeOf s = 0 ∨ (k : Int) ≤ codeOf s)) (fun i => 9 - (intOf i).toNat)
  case atStart => exact ⟨0, by omega, rfl, by have := codeOf_le s; omega⟩
  case round =>
    obtain ⟨k, hk, rfl, hk2⟩ := hrel
    have hk5 : k = 0 ∨ k = 1 ∨ k = 2 ∨ k = 3 ∨ k = 4 ∨ k = 5 ∨ k = 6 ∨ k = 7 ∨ k = 8 ∨ k = 9 := by omega
    rcases hk5 with rfl | rfl | rfl | rfl | rfl | rfl | rfl | rfl | rfl | rfl
    · by_cases he : (⟨#[]⟩ : ByteArray) = s
      · subst he
        go_wp2
        exact ⟨⟨1, by omega, rfl, Or.inl codeOf_at0⟩, by simp [intOf]⟩
      · have hd : decide ((⟨#[]⟩ : ByteArray) = s) = false := by simp [he]
        go_wp2
        exact ⟨⟨1, by omega, rfl, by have := codeOf_le s; omega⟩, by simp [intOf]⟩
    · by_cases he : (⟨#[35, 67, 89, 67, 76, 69, 33]⟩ : ByteArray) = s
      · subst he
        have h1 := lit_ne1
        rw [codeOf_at1]
        clear hk2
        go_wp2
        refine bodyPost_ret (v := .tuple #[.int .i64 1, .bool true]) ?_ rfl ⟨rfl, by (repeat (first | (with_reducible exact Below.refl _ _) | (with_reducible refine Below.alloc ?_ (by first | omega | (dsimp only; omega) | (simp <;> omega)) _) | (with_reducible refine Below.setCell ?_ (by first | omega | (dsimp only; omega) | (simp <;> omega)) _) | (with_reducible refine Below.drew ?_) | (with_reducible refine below_drewN ?_ _) | (with_reducible refine Below.trans ?_ (Below.mono (by assumption) (by first | omega | (dsimp only; omega) | (simp <;> omega))))))⟩
        simp [results, Tryz.results92, go_sem, *]
      · have hd : decide ((⟨#[35, 67, 89, 67, 76, 69, 33]⟩ : ByteArray) = s) = false := by simp [he]
        go_wp2
        exact ⟨⟨2, by omega, rfl, by rcases hk2 with h | h; exact Or.inl h; right; rcases Int.lt_or_eq_of_le h with h | h; exact h; exact absurd (codeOf_is1 h.symm) he⟩, by simp [intOf]⟩
    · by_cases he : (⟨#[35, 78, 85, 77, 33]⟩ : ByteArray) = s
      · subst he
        have h1 := lit_ne2
        rw [codeOf_at2]
        clear hk2
        go_wp2
        refine bodyPost_ret (v := .tuple #[.int .i64 2, .bool true]) ?_ rfl ⟨rfl, by (repeat (first | (with_reducible exact Below.refl _ _) | (with_reducible refine Below.alloc ?_ (by first | omega | (dsimp only; omega) | (simp <;> omega)) _) | (with_reducible refine Below.setCell ?_ (by first | omega | (dsimp only; omega) | (simp <;> omega)) _) | (with_reducible refine Below.drew ?_) | (with_reducible refine below_drewN ?_ _) | (with_reducible refine Below.trans ?_ (Below.mono (by assumption) (by first | omega | (dsimp only; omega) | (simp <;> omega))))))⟩
        simp [results, Tryz.results92, go_sem, *]
      · have hd : decide ((⟨#[35, 78, 85, 77, 33]⟩ : ByteArray) = s) = false := by simp [he]
        go_wp2
        exact ⟨⟨3, by omega, rfl, by rcases hk2 with h | h; exact Or.inl h; right; rcases Int.lt_or_eq_of_le h with h | h; exact h; exact absurd (codeOf_is2 h.symm) he⟩, by simp [intOf]⟩
    · by_cases he : (⟨#[35, 68, 73, 86, 33]⟩ : ByteArray) = s
      · subst he
        have h1 := lit_ne3
        rw [codeOf_at3]
        clear hk2
        go_wp2
        refine bodyPost_ret (v := .tuple #[.int .i64 3, .bool true]) ?_ rfl ⟨rfl, by (repeat (first | (with_reducible exact Below.refl _ _) | (with_reducible refine Below.alloc ?_ (by first | omega | (dsimp only; omega) | (simp <;> omega)) _) | (with_reducible refine Below.setCell ?_ (by first | omega | (dsimp only; omega) | (simp <;> omega)) _) | (with_reducible refine Below.drew ?_) | (with_reducible refine below_drewN ?_ _) | (with_reducible refine Below.trans ?_ (Below.mono (by assumption) (by first | omega | (dsimp only; omega) | (simp <;> omega))))))⟩
        simp [results, Tryz.results92, go_sem, *]
      · have hd : decide ((⟨#[35, 68, 73, 86, 33]⟩ : ByteArray) = s) = false := by simp [he]
        go_wp2
        exact ⟨⟨4, by omega, rfl, by rcases hk2 with h | h; exact Or.inl h; right; rcases Int.lt_or_eq_of_le h with h | h; exact h; exact absurd (codeOf_is3 h.symm) he⟩, by simp [intOf]⟩
    · by_cases he : (⟨#[35, 84, 89, 80, 69, 33]⟩ : ByteArray) = s
      · subst he
        have h1 := lit_ne4
        rw [codeOf_at4]
        clear hk2
        go_wp2
        refine bodyPost_ret (v := .tuple #[.int .i64 4, .bool true]) ?_ rfl ⟨rfl, by (repeat (first | (with_reducible exact Below.refl _ _) | (with_reducible refine Below.alloc ?_ (by first | omega | (dsimp only; omega) | (simp <;> omega)) _) | (with_reducible refine Below.setCell ?_ (by first | omega | (dsimp only; omega) | (simp <;> omega)) _) | (with_reducible refine Below.drew ?_) | (with_reducible refine below_drewN ?_ _) | (with_reducible refine Below.trans ?_ (Below.mono (by assumption) (by first | omega | (dsimp only; omega) | (simp <;> omega))))))⟩
        simp [results, Tryz.results92, go_sem, *]
      · have hd : decide ((⟨#[35, 84, 89, 80, 69, 33]⟩ : ByteArray) = s) = false := by simp [he]
        go_wp2
        exact ⟨⟨5, by omega, rfl, by rcases hk2 with h | h; exact Or.inl h; right; rcases Int.lt_or_eq_of_le h with h | h; exact h; exact absurd (codeOf_is4 h.symm) he⟩, by simp [intOf]⟩
    · by_cases he : (⟨#[35, 82, 65, 78, 71, 69, 33]⟩ : ByteArray) = s
      · subst he
        have h1 := lit_ne5
        rw [codeOf_at5]
        clear hk2
        go_wp2
        refine bodyPost_ret (v := .tuple #[.int .i64 5, .bool true]) ?_ rfl ⟨rfl, by (repeat (first | (with_reducible exact Below.refl _ _) | (with_reducible refine Below.alloc ?_ (by first | omega | (dsimp only; omega) | (simp <;> omega)) _) | (with_reducible refine Below.setCell ?_ (by first | omega | (dsimp only; omega) | (simp <;> omega)) _) | (with_reducible refine Below.drew ?_) | (with_reducible refine below_drewN ?_ _) | (with_reducible refine Below.trans ?_ (Below.mono (by assumption) (by first | omega | (dsimp only; omega) | (simp <;> omega))))))⟩
        simp [results, Tryz.results92, go_sem, *]
      · have hd : decide ((⟨#[35, 82, 65, 78, 71, 69, 33]⟩ : ByteArray) = s) = false := by simp [he]
        go_wp2
        exact ⟨⟨6, by omega, rfl, by rcases hk2 with h | h; exact Or.inl h; right; rcases Int.lt_or_eq_of_le h with h | h; exact h; exact absurd (codeOf_is5 h.symm) he⟩, by simp [intOf]⟩
    · by_cases he : (⟨#[35, 77, 73, 83, 83, 33]⟩ : ByteArray) = s
      · subst he
        have h1 := lit_ne6
        rw [codeOf_at6]
        clear hk2
        go_wp2
        refine bodyPost_ret (v := .tuple #[.int .i64 6, .bool true]) ?_ rfl ⟨rfl, by (repeat (first | (with_reducible exact Below.refl _ _) | (with_reducible refine Below.alloc ?_ (by first | omega | (dsimp only; omega) | (simp <;> omega)) _) | (with_reducible refine Below.setCell ?_ (by first | omega | (dsimp only; omega) | (simp <;> omega)) _) | (with_reducible refine Below.drew ?_) | (with_reducible refine below_drewN ?_ _) | (with_reducible refine Below.trans ?_ (Below.mono (by assumption) (by first | omega | (dsimp only; omega) | (simp <;> omega))))))⟩
        simp [results, Tryz.results92, go_sem, *]
      · have hd : decide ((⟨#[35, 77, 73, 83, 83, 33]⟩ : ByteArray) = s) = false := by simp [he]
        go_wp2
        exact ⟨⟨7, by omega, rfl, by rcases hk2 with h | h; exact Or.inl h; right; rcases Int.lt_or_eq_of_le h with h | h; exact h; exact absurd (codeOf_is6 h.symm) he⟩, by simp [intOf]⟩
    · by_cases he : (⟨#[35, 76, 79, 78, 71, 33]⟩ : ByteArray) = s
      · subst he
        have h1 := lit_ne7
        rw [codeOf_at7]
        clear hk2
        go_wp2
        refine bodyPost_ret (v := .tuple #[.int .i64 7, .bool true]) ?_ rfl ⟨rfl, by (repeat (first | (with_reducible exact Below.refl _ _) | (with_reducible refine Below.alloc ?_ (by first | omega | (dsimp only; omega) | (simp <;> omega)) _) | (with_reducible refine Below.setCell ?_ (by first | omega | (dsimp only; omega) | (simp <;> omega)) _) | (with_reducible refine Below.drew ?_) | (with_reducible refine below_drewN ?_ _) | (with_reducible refine Below.trans ?_ (Below.mono (by assumption) (by first | omega | (dsimp only; omega) | (simp <;> omega))))))⟩
        simp [results, Tryz.results92, go_sem, *]
      · have hd : decide ((⟨#[35, 76, 79, 78, 71, 33]⟩ : ByteArray) = s) = false := by simp [he]
        go_wp2
        exact ⟨⟨8, by omega, rfl, by rcases hk2 with h | h; exact Or.inl h; right; rcases Int.lt_or_eq_of_le h with h | h; exact h; exact absurd (codeOf_is7 h.symm) he⟩, by simp [intOf]⟩
    · by_cases he : (⟨#[35, 65, 82, 71, 33]⟩ : ByteArray) = s
      · subst he
        have h1 := lit_ne8
        rw [codeOf_at8]
        clear hk2
        go_wp2
        refine bodyPost_ret (v := .tuple #[.int .i64 8, .bool true]) ?_ rfl ⟨rfl, by (repeat (first | (with_reducible exact Below.refl _ _) | (with_reducible refine Below.alloc ?_ (by first | omega | (dsimp only; omega) | (simp <;> omega)) _) | (with_reducible refine Below.setCell ?_ (by first | omega | (dsimp only; omega) | (simp <;> omega)) _) | (with_reducible refine Below.drew ?_) | (with_reducible refine below_drewN ?_ _) | (with_reducible refine Below.trans ?_ (Below.mono (by assumption) (by first | omega | (dsimp only; omega) | (simp <;> omega))))))⟩
        simp [results, Tryz.results92, go_sem, *]
      · have hd : decide ((⟨#[35, 65, 82, 71, 33]⟩ : ByteArray) = s) = false := by simp [he]
        go_wp2
        exact ⟨⟨9, by omega, rfl, by rcases hk2 with h | h; exact Or.inl h; right; rcases Int.lt_or_eq_of_le h with h | h; exact h; exact absurd (codeOf_is8 h.symm) he⟩, by simp [intOf]⟩
    · have h0 : codeOf s = 0 := by
        have := codeOf_le s
        omega
      have h0' := Lib.hid h0
      clear hk2 h0
      go_wp2
      refine bodyPost_ret (v := .tuple #[.int .i64 0, .bool false]) ?_ rfl ⟨by rw [h0'.out]; rfl, by (repeat (first | (with_reducible exact Below.refl _ _) | (with_reducible refine Below.alloc ?_ (by first | omega | (dsimp only; omega) | (simp <;> omega)) _) | (with_reducible refine Below.setCell ?_ (by first | omega | (dsimp only; omega) | (simp <;> omega)) _) | (with_reducible refine Below.drew ?_) | (with_reducible refine below_drewN ?_ _) | (with_reducible refine Below.trans ?_ (Below.mono (by assumption) (by first | omega | (dsimp only; omega) | (simp <;> omega))))))⟩
      simp [results, Tryz.results92, go_sem, *]
end Go.Proofs.YtfbkoieodflcpaaGreatDoor
namespace Go.Proofs.YtfbkoieodflcpaaGreatDoor
open Go.RowKit

/-- rows of cells, k a row -/
def RdS (w : World) (A : Option Addr) (k : Nat) (l : List (List Value)) : Prop :=
  ∀ i c, l[i]? = some c → ∃ b o, A = some ⟨b, o, none⟩ ∧ b < w.heap.size ∧ ∀ j u, c[j]? = some u → w.cell? ⟨b, o + i * k + j, none⟩ = some u
theorem RdS.below {w w' : World} {A : Option Addr} {k : Nat} {l : List (List Value)} (h : RdS w A k l) {B : Nat} (hb : Below B w w') (hB : w.heap.size ≤ B) : RdS w' A k l := fun i c hi => by
  obtain ⟨b, o, e, hlt, hc⟩ := h i c hi
  exact ⟨b, o, e, Nat.lt_of_lt_of_le hlt hb.size, fun j u hu => (hb.cell (p := ⟨b, _, none⟩) (Nat.lt_of_lt_of_le hlt hB)).trans (hc j u hu)⟩
/-- rows below a block number: kept while nothing below it is turned -/
def RdB (w : World) (B : Nat) (A : Option Addr) (k : Nat) (l : List (List Value)) : Prop :=
  ∀ i c, l[i]? = some c → ∃ b o, A = some ⟨b, o, none⟩ ∧ b < B ∧ ∀ j u, c[j]? = some u → w.cell? ⟨b, o + i * k + j, none⟩ = some u
theorem RdB.below {w w' : World} {B : Nat} {A : Option Addr} {k : Nat} {l : List (List Value)} (h : RdB w B A k l) (hb : Below B w w') : RdB w' B A k l := fun i c hi => by
  obtain ⟨b, o, e, hlt, hc⟩ := h i c hi
  exact ⟨b, o, e, hlt, fun j u hu => (hb.cell (p := ⟨b, _, none⟩) hlt).trans (hc j u hu)⟩
theorem RdB.mono {w : World} {B B' : Nat} {A : Option Addr} {k : Nat} {l : List (List Value)} (h : RdB w B A k l) (hB : B ≤ B') : RdB w B' A k l := fun i c hi => by
  obtain ⟨b, o, e, hlt, hc⟩ := h i c hi
  exact ⟨b, o, e, by omega, hc⟩
theorem ownsRow_below {w w' : World} {B size n : Nat} {e : TypeId} {v : Value} {xs : List Value} (h : w.ownsRow B e size v n xs) (hb : Below w.heap.size w w') : w'.ownsRow B e size v n xs := by
  obtain ⟨h1, h2⟩ := h
  rcases h2 with ⟨h2, h3⟩ | ⟨g, cap, cur, hv, hB, hh, hr⟩
  · exact ⟨h1, .inl ⟨h2, h3⟩⟩
  · exact ⟨h1, .inr ⟨g, cap, cur, hv, hB, by rw [hb.block g (by exact (Array.getElem?_eq_some_iff.1 hh).1)]; exact hh, hr⟩⟩
theorem ownsRow_base {w : World} {base base' size n : Nat} {e : TypeId} {v : Value} {xs : List Value} (h : w.ownsRow base e size v n xs) (hb : base' ≤ base) : w.ownsRow base' e size v n xs := by
  obtain ⟨h1, h2⟩ := h
  rcases h2 with h2 | ⟨g, cap, cur, hv, hB, hr⟩
  · exact ⟨h1, .inl h2⟩
  · exact ⟨h1, .inr ⟨g, cap, cur, hv, Nat.le_trans hb hB, hr⟩⟩
theorem flat_at {k : Nat} : ∀ (l : List (List Value)), (∀ c ∈ l, c.length = k) → ∀ (i : Nat) (c : List Value), l[i]? = some c → ∀ (j : Nat) (u : Value), c[j]? = some u → l.flatten[i * k + j]? = some u
  | [], _, i, c, h, _, _, _ => by simp at h
  | d :: l, hl, i, c, h, j, u, hu => by
    have hd := hl d (by simp)
    rw [List.flatten_cons]
    cases i with
    | zero =>
      simp at h; subst h
      have : j < d.length := (List.getElem?_eq_some_iff.1 hu).1
      rw [Nat.zero_mul, Nat.zero_add, List.getElem?_append_left this]; exact hu
    | succ i =>
      have h2 : l[i]? = some c := by simpa using h
      have := flat_at l (fun c hc => hl c (by simp [hc])) i c h2 j u hu
      rw [List.getElem?_append_right (by rw [hd, Nat.succ_mul]; omega), hd]
      rw [show (i + 1) * k + j - k = i * k + j by rw [Nat.succ_mul]; omega]
      exact this
theorem ownsRow_rdk {w : World} {B k : Nat} {e : TypeId} {v : Value} {n : Nat} {l : List (List Value)} (_hk : 0 < k) (hl : ∀ c ∈ l, c.length = k) (hn : l.length = n) (h : w.ownsRow B e k v n l.flatten) : ∃ A cap, v = .slice A n cap ∧ RdB w w.heap.size A k l := by
  obtain ⟨h1, h2⟩ := h
  rcases h2 with ⟨rfl, rfl⟩ | ⟨g, cap, cur, rfl, hB, hh, hnc, hm, hs, ht⟩
  · exact ⟨none, 0, rfl, fun i c hi => by
      have : i < l.length := (List.getElem?_eq_some_iff.1 hi).1
      omega⟩
  · refine ⟨_, cap, rfl, fun i c hi => ⟨g, 0, rfl, (Array.getElem?_eq_some_iff.1 hh).1, fun j u hu => ?_⟩⟩
    have hf := flat_at l hl i c hi j u hu
    have hlt : i * k + j < l.flatten.length := (List.getElem?_eq_some_iff.1 hf).1
    rw [cell_of_row w g _ cur _ (0, 0) hh, ← Array.getElem?_toList, Nat.zero_add]
    rw [← ht, List.getElem?_take] at hf
    rw [h1] at hlt
    rw [if_pos hlt] at hf
    exact hf
end Go.Proofs.YtfbkoieodflcpaaGreatDoor
namespace Go.Proofs.YtfbkoieodflcpaaGreatDoor
open Go.RowKit

open Go.Maps (Keyed)

/-- block R is a row of k cells that may be written -/
def ResAt (w : World) (R k : Nat) : Prop := ∃ cs t, w.heap[R]? = some (.cells cs t (0, 0)) ∧ cs.size = k
theorem ResAt.new (w : World) (cs : Array Value) (t : TypeId) : ResAt (w.alloc (.cells cs t)) w.heap.size cs.size := ⟨cs, t, heap_alloc_new w _, rfl⟩
theorem ResAt.lt {w : World} {R k : Nat} (h : ResAt w R k) : R < w.heap.size := by
  obtain ⟨cs, t, h, _⟩ := h
  exact (Array.getElem?_eq_some_iff.1 h).1
theorem ResAt.alloc {w : World} {R k : Nat} (h : ResAt w R k) (o : Obj) : ResAt (w.alloc o) R k := by
  obtain ⟨cs, t, h, hs⟩ := h
  exact ⟨cs, t, (Below.heap_alloc w o R (Array.getElem?_eq_some_iff.1 h).1).trans h, hs⟩
theorem ResAt.drew {w : World} {R k : Nat} (h : ResAt w R k) : ResAt w.drew R k := h
theorem ResAt.below {w w' : World} {B R k : Nat} (h : ResAt w R k) (hb : Below B w w') (hR : R < B) : ResAt w' R k := by
  obtain ⟨cs, t, h, hs⟩ := h
  exact ⟨cs, t, (hb.block R hR).trans h, hs⟩
theorem ResAt.grown {w w' : World} {r : Option Nat} {R k : Nat} (h : ResAt w R k) (hg : w.grownBy w' r) (hr : some R ≠ r) : ResAt w' R k := by
  obtain ⟨cs, t, h, hs⟩ := h
  exact ⟨cs, t, (hg.block R (Array.getElem?_eq_some_iff.1 h).1 hr).trans h, hs⟩
theorem ResAt.setCell {w : World} {R k : Nat} (h : ResAt w R k) (p : Addr) (v : Value) : ResAt (w.setCell p v) R k := by
  obtain ⟨cs, t, h, hs⟩ := h
  by_cases e : R = p.block
  · subst e
    by_cases hp : p.spot.isSome = true
    · exact ⟨cs, t, by simp [World.setCell, Array.getElem?_modify, h, hp], hs⟩
    · exact ⟨cs.setIfInBounds p.off v, t, by simp [World.setCell, Array.getElem?_modify, h, hp], by simpa using hs⟩
  · exact ⟨cs, t, (Below.heap_setCell w p v R e).trans h, hs⟩
theorem ResAt.of_setCell {w : World} {R k : Nat} {p : Addr} {v : Value} (h : ResAt (w.setCell p v) R k) : ResAt w R k := by
  obtain ⟨cs, t, h, hs⟩ := h
  by_cases e : R = p.block
  · subst e
    simp only [World.setCell, Array.getElem?_modify, if_true] at h
    cases hw : w.heap[p.block]? with
    | none => rw [hw] at h; simp at h
    | some o =>
      rw [hw] at h
      cases o with
      | cells c e f =>
        simp at h
        obtain ⟨rfl, rfl, rfl⟩ := h
        exact ⟨c, e, by rw [hw], by split at hs <;> simpa using hs⟩
      | _ => simp at h
  · exact ⟨cs, t, (Below.heap_setCell w p v R e).symm.trans h, hs⟩
@[go_sem] theorem resAt_setCell {w : World} {R k : Nat} (p : Addr) (v : Value) : ResAt (w.setCell p v) R k = ResAt w R k := propext ⟨ResAt.of_setCell, fun h => h.setCell p v⟩
@[go_sem high] theorem cell_res {w : World} {R j : Nat} {v : Value} (h : ResAt w R 5) (hj : j < 5) : (w.setCell ⟨R, j, none⟩ v).cell? ⟨R, j, none⟩ = some v := by
  obtain ⟨cs, t, hh, hs⟩ := h
  exact World.cell?_setCell_same' _ _ _ (by rw [cell_of_row w R j cs t (0, 0) hh, Array.getElem?_eq_getElem (by omega)]; rfl)
/-- what a cell holds, whatever it is -/
def cellOr (w : World) (p : Addr) : Value := (w.cell? p).getD undef
theorem cellOr_is {w : World} {p : Addr} (h : (w.cell? p).isSome = true) : w.cell? p = some (cellOr w p) := by
  unfold cellOr
  cases hc : w.cell? p
  · rw [hc] at h; cases h
  · rfl
@[go_sem low] theorem cell_or {w : World} {R j : Nat} (h : ResAt w R 5) (hj : j < 5) : w.cell? ⟨R, j, none⟩ = some (cellOr w ⟨R, j, none⟩) := by
  obtain ⟨cs, t, hh, hs⟩ := h
  exact cellOr_is (by rw [cell_of_row w R j cs t (0, 0) hh, Array.getElem?_eq_getElem (by omega)]; rfl)
@[go_sem low] theorem frozen_or {w : World} {R j : Nat} (h : ResAt w R 5) : w.frozen? ⟨R, j, none⟩ = false := by
  obtain ⟨cs, t, hh, hs⟩ := h
  simp [World.frozen?, hh]
theorem blk_cell {w : World} {b : Nat} {cs : Array Value} {t : TypeId} (h : w.heap[b]? = some (.cells cs t (0, 0))) (j : Nat) : w.cell? ⟨b, j, none⟩ = cs[j]? := cell_of_row w b j cs t (0, 0) h
end Go.Proofs.YtfbkoieodflcpaaGreatDoor
namespace Go.Proofs.YtfbkoieodflcpaaGreatDoor
open Go.RowKit

/-- a value's cells by name -/
structure VL where
  t : Int
  n : Int
  s : ByteArray
  b : Bool
  c : Int
def VL.cs (v : VL) : List Value := [.int .i64 v.t, .int .i64 v.n, .string v.s, .bool v.b, .int .i64 v.c]
def VL.ok (v : VL) : Prop := -9223372036854775808 ≤ v.n ∧ v.n ≤ 9223372036854775807
def VL.may (v : VL) : Bool := vMay v.t v.n v.s v.b v.c
/-- a place with its value -/
structure EL where
  r : Int
  c : Int
  v : VL
def EL.cs (e : EL) : List Value := [.int .i64 e.r, .int .i64 e.c, .int .i64 e.v.t, .int .i64 e.v.n, .string e.v.s, .bool e.v.b, .int .i64 e.v.c]
/-- an argument -/
structure AL where
  many : Bool
  v : VL
  t : Int
  l : Int
  b : Int
  r : Int
  A : Option Addr
  cap : Nat
  es : List EL
def AL.cs (x : AL) : List Value := [.bool x.many, .int .i64 x.v.t, .int .i64 x.v.n, .string x.v.s, .bool x.v.b, .int .i64 x.v.c, .int .i64 x.t, .int .i64 x.l, .int .i64 x.b, .int .i64 x.r, .slice x.A x.es.length x.cap]
def AL.In (w : World) (B : Nat) (x : AL) : Prop := x.v.ok ∧ RdB w B x.A 7 (x.es.map EL.cs) ∧ (∀ e ∈ x.es, e.v.ok) ∧ x.es.length ≤ 9223372036854775807
theorem AL.In.below {w w' : World} {B : Nat} {x : AL} (h : x.In w B) (hb : Below B w w') : x.In w' B := ⟨h.1, h.2.1.below hb, h.2.2⟩
theorem AL.In.mono {w : World} {B B' : Nat} {x : AL} (h : x.In w B) (hB : B ≤ B') : x.In w B' := ⟨h.1, h.2.1.mono hB, h.2.2⟩
def v0 : VL := ⟨0, 0, ⟨#[]⟩, false, 0⟩
theorem vmay_is (t n : Int) (s : ByteArray) (b : Bool) (c : Int) (hn : -9223372036854775808 ≤ n ∧ n ≤ 9223372036854775807) (z : Bool) (h : vMay t n s b c = z) (w : World) : Calls Tryz.prog 66 #[.agg #[.int .i64 t, .int .i64 n, .string s, .bool b, .int .i64 c]] w
      fun e w' => e = .returned (.bool z) ∧ Below w.heap.size w w' := by
  subst h; exact vmay_any t n s b c hn w
end Go.Proofs.YtfbkoieodflcpaaGreatDoor
namespace Go.Proofs.YtfbkoieodflcpaaGreatDoor
open Go.RowKit

def b2i (b : Bool) : Int := if b then 1 else 0
set_option maxHeartbeats 400000 in
theorem truth_int (b : Bool) (w : World) : Calls Tryz.prog 107 #[.bool b] w fun e w' => e = .returned (.int .i64 (b2i b)) ∧ w = w' := by
  cases b
  all_goals
    go_enter Tryz.func107, Tryz.ntmps107
    go_wp2
    go_ret
    exact ⟨rfl, rfl⟩
end Go.Proofs.YtfbkoieodflcpaaGreatDoor
namespace Go.Proofs.YtfbkoieodflcpaaGreatDoor
open Go.RowKit

theorem vmay_yes (t n : Int) (s : ByteArray) (b : Bool) (c : Int) (hn : -9223372036854775808 ≤ n ∧ n ≤ 9223372036854775807) (h : vMay t n s b c = true) (w : World) : Calls Tryz.prog 66 #[.agg #[.int .i64 t, .int .i64 n, .string s, .bool b, .int .i64 c]] w fun e w' => e = .returned (.bool true) ∧ Below w.heap.size w w' := by
  have := vmay_any t n s b c hn w
  rw [h] at this
  exact this
end Go.Proofs.YtfbkoieodflcpaaGreatDoor
namespace Go.Proofs.YtfbkoieodflcpaaGreatDoor
open Go.RowKit Go.ChangeShapes Go.WideShapes Go.Deep

theorem cellLt {w : World} {b j : Nat} {v : Value} (h : w.cell? ⟨b, j, none⟩ = some v) : b < w.heap.size := by
  rcases Nat.lt_or_ge b w.heap.size with h1 | h1
  · exact h1
  · unfold World.cell? at h
    rw [Array.getElem?_eq_none h1] at h
    cases h
section
variable {H : Type} {enc : TypeId × Value → H} {P : Program} {w : World}
end
end Go.Proofs.YtfbkoieodflcpaaGreatDoor
