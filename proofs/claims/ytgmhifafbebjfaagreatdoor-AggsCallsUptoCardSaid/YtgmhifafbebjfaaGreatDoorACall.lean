/-
 aggs: Known, Takes.
-/
import Derived.Test.YtgmhifafbebjfaaGreatDoorAFind
import Derived.Test.YtgmhifafbebjfaaGreatDoorMg8
set_option maxRecDepth 100000
set_option maxHeartbeats 32000000
namespace Go.Proofs.YtgmhifafbebjfaaGreatDoor
open Go.RowKit

def aLo (s : ByteArray) : Int :=
 if s = ⟨#[67, 79, 76, 83]⟩ then 1 else
 if s = ⟨#[82, 79, 87, 83]⟩ then 1 else
 if s = ⟨#[74, 79, 73, 78]⟩ then 2 else
 if s = ⟨#[76, 65, 82, 71, 69]⟩ then 2 else
 if s = ⟨#[73, 78, 68, 69, 88]⟩ then 3 else
 if s = ⟨#[76, 79, 79, 75, 85, 80]⟩ then 3 else
 if s = ⟨#[77, 65, 84, 67, 72]⟩ then 2 else
 if s = ⟨#[83, 85, 77, 73, 70]⟩ then 3 else
 if s = ⟨#[67, 79, 85, 78, 84, 73, 70]⟩ then 2 else
 if s = ⟨#[66, 76, 65, 78, 75, 83]⟩ then 1 else
 if s = ⟨#[67, 79, 85, 78, 84, 65]⟩ then 1 else
 if s = ⟨#[67, 79, 85, 78, 84]⟩ then 1 else
 if s = ⟨#[77, 69, 68, 73, 65, 78]⟩ then 1 else
 if s = ⟨#[65, 86, 71]⟩ then 1 else
 if s = ⟨#[77, 65, 88]⟩ then 1 else
 if s = ⟨#[77, 73, 78]⟩ then 1 else
 if s = ⟨#[80, 82, 79, 68]⟩ then 1 else
 if s = ⟨#[83, 85, 77]⟩ then 1 else
 0
def aHi (s : ByteArray) : Int :=
 if s = ⟨#[67, 79, 76, 83]⟩ then 1 else
 if s = ⟨#[82, 79, 87, 83]⟩ then 1 else
 if s = ⟨#[74, 79, 73, 78]⟩ then 16 else
 if s = ⟨#[76, 65, 82, 71, 69]⟩ then 2 else
 if s = ⟨#[73, 78, 68, 69, 88]⟩ then 3 else
 if s = ⟨#[76, 79, 79, 75, 85, 80]⟩ then 3 else
 if s = ⟨#[77, 65, 84, 67, 72]⟩ then 2 else
 if s = ⟨#[83, 85, 77, 73, 70]⟩ then 3 else
 if s = ⟨#[67, 79, 85, 78, 84, 73, 70]⟩ then 2 else
 if s = ⟨#[66, 76, 65, 78, 75, 83]⟩ then 1 else
 if s = ⟨#[67, 79, 85, 78, 84, 65]⟩ then 16 else
 if s = ⟨#[67, 79, 85, 78, 84]⟩ then 16 else
 if s = ⟨#[77, 69, 68, 73, 65, 78]⟩ then 16 else
 if s = ⟨#[65, 86, 71]⟩ then 16 else
 if s = ⟨#[77, 65, 88]⟩ then 16 else
 if s = ⟨#[77, 73, 78]⟩ then 16 else
 if s = ⟨#[80, 82, 79, 68]⟩ then 16 else
 if s = ⟨#[83, 85, 77]⟩ then 16 else
 0
def aKd (s : ByteArray) : ByteArray :=
 if s = ⟨#[67, 79, 76, 83]⟩ then ⟨#[114]⟩ else
 if s = ⟨#[82, 79, 87, 83]⟩ then ⟨#[114]⟩ else
 if s = ⟨#[74, 79, 73, 78]⟩ then ⟨#[118, 120]⟩ else
 if s = ⟨#[76, 65, 82, 71, 69]⟩ then ⟨#[114, 118]⟩ else
 if s = ⟨#[73, 78, 68, 69, 88]⟩ then ⟨#[114, 118, 118]⟩ else
 if s = ⟨#[76, 79, 79, 75, 85, 80]⟩ then ⟨#[118, 114, 114]⟩ else
 if s = ⟨#[77, 65, 84, 67, 72]⟩ then ⟨#[118, 114]⟩ else
 if s = ⟨#[83, 85, 77, 73, 70]⟩ then ⟨#[114, 118, 114]⟩ else
 if s = ⟨#[67, 79, 85, 78, 84, 73, 70]⟩ then ⟨#[114, 118]⟩ else
 if s = ⟨#[66, 76, 65, 78, 75, 83]⟩ then ⟨#[114]⟩ else
 if s = ⟨#[67, 79, 85, 78, 84, 65]⟩ then ⟨#[120]⟩ else
 if s = ⟨#[67, 79, 85, 78, 84]⟩ then ⟨#[120]⟩ else
 if s = ⟨#[77, 69, 68, 73, 65, 78]⟩ then ⟨#[120]⟩ else
 if s = ⟨#[65, 86, 71]⟩ then ⟨#[120]⟩ else
 if s = ⟨#[77, 65, 88]⟩ then ⟨#[120]⟩ else
 if s = ⟨#[77, 73, 78]⟩ then ⟨#[120]⟩ else
 if s = ⟨#[80, 82, 79, 68]⟩ then ⟨#[120]⟩ else
 if s = ⟨#[83, 85, 77]⟩ then ⟨#[120]⟩ else
 ⟨#[]⟩
def aKnown (s : ByteArray) : Bool := hasL (aTab []) s
theorem aKnown_is (bl : List Nat) (s : ByteArray) : hasL (aTab bl) s = aKnown s := rfl
theorem aLook (bl : List Nat) (s : ByteArray) {l h : Int} {kd : ByteArray} {d : Value} (hh : lookL aZero (aTab bl) s = .agg #[.string kd, .int .i64 l, .int .i64 h, d]) : kd = aKd s ∧ l = aLo s ∧ h = aHi s := by
 have : ∃ d', lookL aZero (aTab bl) s = .agg #[.string (aKd s), .int .i64 (aLo s), .int .i64 (aHi s), d'] := by
  unfold aTab aLo aKd aHi
  rw [lookL]
  by_cases h0 : s = ⟨#[67, 79, 76, 83]⟩
  ·repeat (rw [if_pos h0])
   exact ⟨_, rfl⟩
  repeat (rw [if_neg h0])
  rw [lookL]
  by_cases h1 : s = ⟨#[82, 79, 87, 83]⟩
  ·repeat (rw [if_pos h1])
   exact ⟨_, rfl⟩
  repeat (rw [if_neg h1])
  rw [lookL]
  by_cases h2 : s = ⟨#[74, 79, 73, 78]⟩
  ·repeat (rw [if_pos h2])
   exact ⟨_, rfl⟩
  repeat (rw [if_neg h2])
  rw [lookL]
  by_cases h3 : s = ⟨#[76, 65, 82, 71, 69]⟩
  ·repeat (rw [if_pos h3])
   exact ⟨_, rfl⟩
  repeat (rw [if_neg h3])
  rw [lookL]
  by_cases h4 : s = ⟨#[73, 78, 68, 69, 88]⟩
  ·repeat (rw [if_pos h4])
   exact ⟨_, rfl⟩
  repeat (rw [if_neg h4])
  rw [lookL]
  by_cases h5 : s = ⟨#[76, 79, 79, 75, 85, 80]⟩
  ·repeat (rw [if_pos h5])
   exact ⟨_, rfl⟩
  repeat (rw [if_neg h5])
  rw [lookL]
  by_cases h6 : s = ⟨#[77, 65, 84, 67, 72]⟩
  ·repeat (rw [if_pos h6])
   exact ⟨_, rfl⟩
  repeat (rw [if_neg h6])
  rw [lookL]
  by_cases h7 : s = ⟨#[83, 85, 77, 73, 70]⟩
  ·repeat (rw [if_pos h7])
   exact ⟨_, rfl⟩
  repeat (rw [if_neg h7])
  rw [lookL]
  by_cases h8 : s = ⟨#[67, 79, 85, 78, 84, 73, 70]⟩
  ·repeat (rw [if_pos h8])
   exact ⟨_, rfl⟩
  repeat (rw [if_neg h8])
  rw [lookL]
  by_cases h9 : s = ⟨#[66, 76, 65, 78, 75, 83]⟩
  ·repeat (rw [if_pos h9])
   exact ⟨_, rfl⟩
  repeat (rw [if_neg h9])
  rw [lookL]
  by_cases h10 : s = ⟨#[67, 79, 85, 78, 84, 65]⟩
  ·repeat (rw [if_pos h10])
   exact ⟨_, rfl⟩
  repeat (rw [if_neg h10])
  rw [lookL]
  by_cases h11 : s = ⟨#[67, 79, 85, 78, 84]⟩
  ·repeat (rw [if_pos h11])
   exact ⟨_, rfl⟩
  repeat (rw [if_neg h11])
  rw [lookL]
  by_cases h12 : s = ⟨#[77, 69, 68, 73, 65, 78]⟩
  ·repeat (rw [if_pos h12])
   exact ⟨_, rfl⟩
  repeat (rw [if_neg h12])
  rw [lookL]
  by_cases h13 : s = ⟨#[65, 86, 71]⟩
  ·repeat (rw [if_pos h13])
   exact ⟨_, rfl⟩
  repeat (rw [if_neg h13])
  rw [lookL]
  by_cases h14 : s = ⟨#[77, 65, 88]⟩
  ·repeat (rw [if_pos h14])
   exact ⟨_, rfl⟩
  repeat (rw [if_neg h14])
  rw [lookL]
  by_cases h15 : s = ⟨#[77, 73, 78]⟩
  ·repeat (rw [if_pos h15])
   exact ⟨_, rfl⟩
  repeat (rw [if_neg h15])
  rw [lookL]
  by_cases h16 : s = ⟨#[80, 82, 79, 68]⟩
  ·repeat (rw [if_pos h16])
   exact ⟨_, rfl⟩
  repeat (rw [if_neg h16])
  rw [lookL]
  by_cases h17 : s = ⟨#[83, 85, 77]⟩
  ·repeat (rw [if_pos h17])
   exact ⟨_, rfl⟩
  repeat (rw [if_neg h17])
  rw [lookL]
  exact ⟨_, rfl⟩
 obtain ⟨d', hd⟩ := this
 rw [hd] at hh
 injection hh with h
 injection h with h
 injection h with h1 h
 injection h with h2 h
 injection h with h3 _
 injection h1 with h1
 injection h2 with _ h2
 injection h3 with _ h3
 exact ⟨h1.symm, h2.symm, h3.symm⟩
theorem aForm {bl : List Nat} {s : ByteArray} {l h : Int} {kd : ByteArray} {d : Value} (hh : lookL aZero (aTab bl) s = .agg #[.string kd, .int .i64 l, .int .i64 h, d]) : d = .nilFunc ∨ ∃ g c, d = .func g #[] c := by
 obtain ⟨kd', l', h', d', h1, h2⟩ := aTab_form bl s
 rw [hh] at h1
 injection h1 with h1
 injection h1 with h1
 injection h1 with _ h1
 injection h1 with _ h1
 injection h1 with _ h1
 injection h1 with h1 _
 subst h1
 exact h2
theorem aKnown_cases (s : ByteArray) (h : aKnown s = true) : s = ⟨#[83, 85, 77]⟩ ∨ s = ⟨#[80, 82, 79, 68]⟩ ∨ s = ⟨#[77, 73, 78]⟩ ∨ s = ⟨#[77, 65, 88]⟩ ∨ s = ⟨#[65, 86, 71]⟩ ∨ s = ⟨#[77, 69, 68, 73, 65, 78]⟩ ∨ s = ⟨#[67, 79, 85, 78, 84]⟩ ∨ s = ⟨#[67, 79, 85, 78, 84, 65]⟩ ∨ s = ⟨#[66, 76, 65, 78, 75, 83]⟩ ∨ s = ⟨#[67, 79, 85, 78, 84, 73, 70]⟩ ∨ s = ⟨#[83, 85, 77, 73, 70]⟩ ∨ s = ⟨#[77, 65, 84, 67, 72]⟩ ∨ s = ⟨#[76, 79, 79, 75, 85, 80]⟩ ∨ s = ⟨#[73, 78, 68, 69, 88]⟩ ∨ s = ⟨#[76, 65, 82, 71, 69]⟩ ∨ s = ⟨#[74, 79, 73, 78]⟩ ∨ s = ⟨#[82, 79, 87, 83]⟩ ∨ s = ⟨#[67, 79, 76, 83]⟩ := by
 unfold aKnown aTab at h
 simp only [hasL] at h
 revert h
 by_cases h0 : s = ⟨#[83, 85, 77]⟩
 ·intro _; simp [*]
 by_cases h1 : s = ⟨#[80, 82, 79, 68]⟩
 ·intro _; simp [*]
 by_cases h2 : s = ⟨#[77, 73, 78]⟩
 ·intro _; simp [*]
 by_cases h3 : s = ⟨#[77, 65, 88]⟩
 ·intro _; simp [*]
 by_cases h4 : s = ⟨#[65, 86, 71]⟩
 ·intro _; simp [*]
 by_cases h5 : s = ⟨#[77, 69, 68, 73, 65, 78]⟩
 ·intro _; simp [*]
 by_cases h6 : s = ⟨#[67, 79, 85, 78, 84]⟩
 ·intro _; simp [*]
 by_cases h7 : s = ⟨#[67, 79, 85, 78, 84, 65]⟩
 ·intro _; simp [*]
 by_cases h8 : s = ⟨#[66, 76, 65, 78, 75, 83]⟩
 ·intro _; simp [*]
 by_cases h9 : s = ⟨#[67, 79, 85, 78, 84, 73, 70]⟩
 ·intro _; simp [*]
 by_cases h10 : s = ⟨#[83, 85, 77, 73, 70]⟩
 ·intro _; simp [*]
 by_cases h11 : s = ⟨#[77, 65, 84, 67, 72]⟩
 ·intro _; simp [*]
 by_cases h12 : s = ⟨#[76, 79, 79, 75, 85, 80]⟩
 ·intro _; simp [*]
 by_cases h13 : s = ⟨#[73, 78, 68, 69, 88]⟩
 ·intro _; simp [*]
 by_cases h14 : s = ⟨#[76, 65, 82, 71, 69]⟩
 ·intro _; simp [*]
 by_cases h15 : s = ⟨#[74, 79, 73, 78]⟩
 ·intro _; simp [*]
 by_cases h16 : s = ⟨#[82, 79, 87, 83]⟩
 ·intro _; simp [*]
 by_cases h17 : s = ⟨#[67, 79, 76, 83]⟩
 ·intro _; simp [*]
 intro h
 simp [h0, h1, h2, h3, h4, h5, h6, h7, h8, h9, h10, h11, h12, h13, h14, h15, h16, h17] at h
theorem aKd_of (s : ByteArray) (h : aKnown s = true) : 0 < (aKd s).size ∧ (aKd s).size ≤ 3 ∧ ∀ c ∈ (aKd s).data.toList, c = 120 ∨ c = 114 ∨ c = 118 := by
 rcases aKnown_cases s h with rfl | rfl | rfl | rfl | rfl | rfl | rfl | rfl | rfl | rfl | rfl | rfl | rfl | rfl | rfl | rfl | rfl | rfl <;> decide +kernel
theorem aHi_of (s : ByteArray) (h : aKnown s = true) : 0 < aHi s ∧ aHi s ≤ 16 ∧ 0 < aLo s := by
 rcases aKnown_cases s h with rfl | rfl | rfl | rfl | rfl | rfl | rfl | rfl | rfl | rfl | rfl | rfl | rfl | rfl | rfl | rfl | rfl | rfl <;> decide +kernel
theorem aOff (s : ByteArray) (h : aKnown s = false) : aLo s = 0 ∧ aHi s = 0 ∧ aKd s = ⟨#[]⟩ := by
 have hn : ∀ t, hasL (aTab []) t = true → t ≠ s := by
  rintro t ht rfl
  have : aKnown t = true := ht
  rw [h] at this; cases this
 have h0 : ¬ s = ⟨#[83, 85, 77]⟩ := fun e => hn _ (by decide +kernel) e.symm
 have h1 : ¬ s = ⟨#[80, 82, 79, 68]⟩ := fun e => hn _ (by decide +kernel) e.symm
 have h2 : ¬ s = ⟨#[77, 73, 78]⟩ := fun e => hn _ (by decide +kernel) e.symm
 have h3 : ¬ s = ⟨#[77, 65, 88]⟩ := fun e => hn _ (by decide +kernel) e.symm
 have h4 : ¬ s = ⟨#[65, 86, 71]⟩ := fun e => hn _ (by decide +kernel) e.symm
 have h5 : ¬ s = ⟨#[77, 69, 68, 73, 65, 78]⟩ := fun e => hn _ (by decide +kernel) e.symm
 have h6 : ¬ s = ⟨#[67, 79, 85, 78, 84]⟩ := fun e => hn _ (by decide +kernel) e.symm
 have h7 : ¬ s = ⟨#[67, 79, 85, 78, 84, 65]⟩ := fun e => hn _ (by decide +kernel) e.symm
 have h8 : ¬ s = ⟨#[66, 76, 65, 78, 75, 83]⟩ := fun e => hn _ (by decide +kernel) e.symm
 have h9 : ¬ s = ⟨#[67, 79, 85, 78, 84, 73, 70]⟩ := fun e => hn _ (by decide +kernel) e.symm
 have h10 : ¬ s = ⟨#[83, 85, 77, 73, 70]⟩ := fun e => hn _ (by decide +kernel) e.symm
 have h11 : ¬ s = ⟨#[77, 65, 84, 67, 72]⟩ := fun e => hn _ (by decide +kernel) e.symm
 have h12 : ¬ s = ⟨#[76, 79, 79, 75, 85, 80]⟩ := fun e => hn _ (by decide +kernel) e.symm
 have h13 : ¬ s = ⟨#[73, 78, 68, 69, 88]⟩ := fun e => hn _ (by decide +kernel) e.symm
 have h14 : ¬ s = ⟨#[76, 65, 82, 71, 69]⟩ := fun e => hn _ (by decide +kernel) e.symm
 have h15 : ¬ s = ⟨#[74, 79, 73, 78]⟩ := fun e => hn _ (by decide +kernel) e.symm
 have h16 : ¬ s = ⟨#[82, 79, 87, 83]⟩ := fun e => hn _ (by decide +kernel) e.symm
 have h17 : ¬ s = ⟨#[67, 79, 76, 83]⟩ := fun e => hn _ (by decide +kernel) e.symm
 refine ⟨?_, ?_, ?_⟩
 ·unfold aLo; simp only [if_neg h0, if_neg h1, if_neg h2, if_neg h3, if_neg h4, if_neg h5, if_neg h6, if_neg h7, if_neg h8, if_neg h9, if_neg h10, if_neg h11, if_neg h12, if_neg h13, if_neg h14, if_neg h15, if_neg h16, if_neg h17]
 ·unfold aHi; simp only [if_neg h0, if_neg h1, if_neg h2, if_neg h3, if_neg h4, if_neg h5, if_neg h6, if_neg h7, if_neg h8, if_neg h9, if_neg h10, if_neg h11, if_neg h12, if_neg h13, if_neg h14, if_neg h15, if_neg h16, if_neg h17]
 ·unfold aKd; simp only [if_neg h0, if_neg h1, if_neg h2, if_neg h3, if_neg h4, if_neg h5, if_neg h6, if_neg h7, if_neg h8, if_neg h9, if_neg h10, if_neg h11, if_neg h12, if_neg h13, if_neg h14, if_neg h15, if_neg h16, if_neg h17]
def kAt (kd : ByteArray) (i : Nat) : UInt8 := kd.data.toList.getD (min i (kd.size - 1)) 0
def okK (c : UInt8) (rect : Bool) : Bool := if c = 114 then rect else if c = 118 then !rect else true
def okL (kd : ByteArray) (l : List Bool) : Bool := (List.range l.length).all fun i => okK (kAt kd i) (l.getD i false)
def takesA (s : ByteArray) (l : List Bool) : Bool := aKnown s && decide (aLo s ≤ (l.length : Int)) && decide ((l.length : Int) ≤ aHi s) && okL (aKd s) l
theorem okL_no (kd : ByteArray) (l : List Bool) (k : Nat) (x : Bool) (hx : l[k]? = some x) (h : okK (kAt kd k) x = false) : okL kd l = false := by
 unfold okL
 rw [List.all_eq_false]
 exact ⟨k, List.mem_range.2 (List.getElem?_eq_some_iff.1 hx).1, by rw [List.getD_eq_getElem?_getD, hx]; simp [h]⟩
theorem okL_yes (kd : ByteArray) (l : List Bool) (h : ∀ k x, l[k]? = some x → okK (kAt kd k) x = true) : okL kd l = true := by
 unfold okL
 rw [List.all_eq_true]
 intro k hk
 have hk' := List.mem_range.1 hk
 have := h k l[k] (List.getElem?_eq_getElem hk')
 rwa [List.getD_eq_getElem?_getD, List.getElem?_eq_getElem hk']
theorem kAt_is (kd : ByteArray) (i j : Nat) (hj : min i (kd.size - 1) = j) (h : j < kd.size) : kAt kd i = kd[j] := by
 subst hj
 unfold kAt
 rw [List.getD_eq_getElem?_getD, List.getElem?_eq_getElem (by exact h)]
 rfl
theorem aknown_any (s : ByteArray) (hs : s.size ≤ 9223372036854775807) (w : World) : Calls Tryz.prog 57 #[.string s] w fun e w' => e = .returned (.bool (aKnown s)) ∧ Below w.heap.size w w' := by
 have C := Lib.hid (afind_any s hs w)
 go_enter Tryz.func57, Tryz.ntmps57
 go_wp2_with fail
 refine C.out.mono ?_
 clear C
 rintro e w1 ⟨bl, kd, lo, hi, d, rfl, hl, hb, hx⟩
 have hd := aForm hl
 rw [aKnown_is]
 clear hl hx
 obtain ⟨hc, hf, hz⟩ := bkeep hb (w.heap.size) (by omega)
 rcases hd with rfl | ⟨g, c, rfl⟩
 all_goals go_wp2
 all_goals go_ret
 all_goals exact ⟨rfl, belq⟩
theorem atakes_a (s : ByteArray) (hs : s.size ≤ 9223372036854775807) (l : List Bool) (_hlen : l.length ≤ 9223372036854775807) (w : World) (A : Option Addr) (cap : Nat) (hA : RdB w w.heap.size A 1 (l.map fun (x : Bool) => [Value.bool x])) (h0 : aKnown s = false) : Calls Tryz.prog 38 #[.string s, .slice A l.length cap] w fun e w' => e = .returned (.bool false) ∧ Below w.heap.size w w' := by
 have C := Lib.hid (afind_any s hs w)
 have hA' := Lib.hid hA
 clear hA
 go_enter Tryz.func38, Tryz.ntmps38
 go_wp2_with fail
 refine C.out.mono ?_
 clear C
 rintro e w1 ⟨bl, kd, lo, hi, d, rfl, hl, hb, hx⟩
 have hd := aForm hl
 obtain ⟨rfl, rfl, rfl⟩ := aLook _ _ hl
 rw [aKnown_is]
 clear hl hx
 obtain ⟨hc, hf, hz⟩ := bkeep hb (w.heap.size) (by omega)
 rcases hd with rfl | ⟨g, c, rfl⟩
 all_goals go_wp2
 all_goals go_ret
 all_goals exact ⟨ret_b rfl, belq⟩
theorem atakes_b (s : ByteArray) (hs : s.size ≤ 9223372036854775807) (l : List Bool) (_hlen : l.length ≤ 9223372036854775807) (w : World) (A : Option Addr) (cap : Nat) (hA : RdB w w.heap.size A 1 (l.map fun (x : Bool) => [Value.bool x])) (h0 : aKnown s = true) (h1 : ¬ aLo s ≤ (l.length : Int)) : Calls Tryz.prog 38 #[.string s, .slice A l.length cap] w fun e w' => e = .returned (.bool false) ∧ Below w.heap.size w w' := by
 have C := Lib.hid (afind_any s hs w)
 have hA' := Lib.hid hA
 clear hA
 go_enter Tryz.func38, Tryz.ntmps38
 go_wp2_with fail
 refine C.out.mono ?_
 clear C
 rintro e w1 ⟨bl, kd, lo, hi, d, rfl, hl, hb, hx⟩
 have hd := aForm hl
 obtain ⟨rfl, rfl, rfl⟩ := aLook _ _ hl
 rw [aKnown_is]
 clear hl hx
 obtain ⟨hc, hf, hz⟩ := bkeep hb (w.heap.size) (by omega)
 rcases hd with rfl | ⟨g, c, rfl⟩
 all_goals go_wp2
 all_goals go_ret
 all_goals exact ⟨ret_b rfl, belq⟩
theorem atakes_c (s : ByteArray) (hs : s.size ≤ 9223372036854775807) (l : List Bool) (_hlen : l.length ≤ 9223372036854775807) (w : World) (A : Option Addr) (cap : Nat) (hA : RdB w w.heap.size A 1 (l.map fun (x : Bool) => [Value.bool x])) (h0 : aKnown s = true) (h1 : aLo s ≤ (l.length : Int)) (h2 : ¬ (l.length : Int) ≤ aHi s) : Calls Tryz.prog 38 #[.string s, .slice A l.length cap] w fun e w' => e = .returned (.bool false) ∧ Below w.heap.size w w' := by
 have C := Lib.hid (afind_any s hs w)
 have hA' := Lib.hid hA
 clear hA
 go_enter Tryz.func38, Tryz.ntmps38
 go_wp2_with fail
 refine C.out.mono ?_
 clear C
 rintro e w1 ⟨bl, kd, lo, hi, d, rfl, hl, hb, hx⟩
 have hd := aForm hl
 obtain ⟨rfl, rfl, rfl⟩ := aLook _ _ hl
 rw [aKnown_is]
 clear hl hx
 obtain ⟨hc, hf, hz⟩ := bkeep hb (w.heap.size) (by omega)
 rcases hd with rfl | ⟨g, c, rfl⟩
 all_goals go_wp2
 all_goals go_ret
 all_goals exact ⟨ret_b rfl, belq⟩
theorem atakes_d (s : ByteArray) (hs : s.size ≤ 9223372036854775807) (l : List Bool) (_hlen : l.length ≤ 9223372036854775807) (w : World) (A : Option Addr) (cap : Nat) (hA : RdB w w.heap.size A 1 (l.map fun (x : Bool) => [Value.bool x])) (h0 : aKnown s = true) (h1 : aLo s ≤ (l.length : Int)) (h2 : (l.length : Int) ≤ aHi s) (z : Bool) (hok : okL (aKd s) l = z) : Calls Tryz.prog 38 #[.string s, .slice A l.length cap] w fun e w' => e = .returned (.bool z) ∧ Below w.heap.size w w' := by
 have C := Lib.hid (afind_any s hs w)
 have hA' := Lib.hid hA
 clear hA
 obtain ⟨kp, k3, hset⟩ := aKd_of s h0
 have hset := Lib.hid hset
 obtain ⟨g1, g2, _⟩ := aHi_of s h0
 go_enter Tryz.func38, Tryz.ntmps38
 go_wp2_with fail
 refine C.out.mono ?_
 clear C
 rintro e w1 ⟨bl, kd, lo, hi, d, rfl, hl, hb, hx⟩
 have hd := aForm hl
 obtain ⟨rfl, rfl, rfl⟩ := aLook _ _ hl
 rw [aKnown_is]
 clear hl hx
 obtain ⟨hc, hf, hz⟩ := bkeep hb (w.heap.size) (by omega)
 have hok' := Lib.hid hok
 clear hok
 generalize aKd s = kd at *
 rcases hd with rfl | ⟨g, c, rfl⟩
 ·go_wp2
  have hk0 : (w1.alloc (.cells #[.string kd, .int .i64 (aLo s), .int .i64 (aHi s), .nilFunc] 74)).cell? ⟨w1.heap.size, 0, none⟩ = some (.string kd) := by simp
  have hbb : Below w.heap.size w (w1.alloc (.cells #[.string kd, .int .i64 (aLo s), .int .i64 (aHi s), .nilFunc] 74)) := hb.alloc hb.size _
  have hlt0 : w1.heap.size < (w1.alloc (.cells #[.string kd, .int .i64 (aLo s), .int .i64 (aHi s), .nilFunc] 74)).heap.size := by simp
  clear hc hf hz hb
  generalize (w1.alloc (.cells #[.string kd, .int .i64 (aLo s), .int .i64 (aHi s), .nilFunc] 74)) = w2 at *
  go_loop [33] (fun i => ∃ k : Nat, k ≤ l.length ∧ i = .int .i64 (k : Int) ∧ Hid (∀ j x, j < k → l[j]? = some x → okK (kAt kd j) x = true)) (fun i => l.length - (intOf i).toNat)
  case atStart => exact ⟨0, Nat.zero_le _, rfl, Lib.hid (fun j x hj => absurd hj (Nat.not_lt_zero _))⟩
  case round =>
   obtain ⟨k, hk, rfl, hall⟩ := hrel
   by_cases hlt : k < l.length
   ·obtain ⟨x, hx⟩ : ∃ x, l[k]? = some x := ⟨_, List.getElem?_eq_getElem hlt⟩
    obtain ⟨eb, eo, hA2, hlo, hcc⟩ := hA'.out k [.bool x] (by rw [List.getElem?_map, hx]; rfl)
    subst hA2
    have hcell : w2.cell? ⟨eb, eo + k, none⟩ = some (.bool x) := (hbb.cell (p := ⟨eb, eo + k, none⟩) hlo).trans (by simpa using hcc 0 _ rfl)
    have hkl : (k : Int) < (l.length : Int) := by omega
    obtain ⟨j, hj⟩ : ∃ j, min k (kd.size - 1) = j := ⟨_, rfl⟩
    have hjs : j < kd.size := by omega
    have hji : (j : Int) < (kd.size : Int) := by omega
    have hmn : min (k : Int) ((kd.size : Int) - 1) = (j : Int) := by omega
    have hws : IntKind.i64.wrap ((kd.size : Int) - 1) = (kd.size : Int) - 1 := IntWalk.i64_in _ (by omega)
    have hkj := kAt_is kd k j hj hjs
    have hcs := hset.out kd[j] (by
     have : kd.data.toList[j]? = some kd[j] := by rw [List.getElem?_eq_getElem (by exact hjs)]; rfl
     exact List.mem_of_getElem? this)
    rw [← hkj] at hcs
    have hx' := Lib.hid hx
    have hall2 : okK (kAt kd k) x = true → Hid (∀ j x, j < k + 1 → l[j]? = some x → okK (kAt kd j) x = true) := fun h => Lib.hid (fun j y hj hy => by
     rcases Nat.lt_succ_iff_lt_or_eq.1 hj with h1 | rfl
     ·exact hall.out j y h1 hy
     ·rw [hx'.out] at hy; cases hy; exact h)
    have hno : okK (kAt kd k) x = false → Hid (okL kd l = false) := fun h => Lib.hid (okL_no kd l k x hx'.out h)
    have hkj' := Lib.hid hkj
    clear hx hj hkj hcc
    rcases hcs with h | h | h
    all_goals rw [h] at hall2 hno
    all_goals have hkv := congrArg (fun c : UInt8 => (c.toNat : Int)) (hkj'.out.symm.trans h)
    all_goals simp only [UInt8.reduceToNat] at hkv
    all_goals clear hkj' h
    all_goals cases x
    all_goals first
     | (
       have hg := hall2 (by decide)
       clear hall2 hno hall hx'
       go_wp2
       exact ⟨⟨k + 1, by omega, by go_num, hg⟩, by simp [intOf]; omega⟩)
     | (
       have hg := hno (by decide)
       have hzf : Hid (false = z) := Lib.hid (by rw [← hok'.out]; exact hg.out.symm)
       clear hall2 hno hall hx' hg
       go_wp2
       go_ret
       exact ⟨ret_b hzf.out, hbb⟩)
   ·obtain rfl : k = l.length := by omega
    have hyes := okL_yes kd l (fun j x hx => hall.out j x (List.getElem?_eq_some_iff.1 hx).1 hx)
    have hzt : z = true := by rw [← hok'.out]; exact hyes
    have hzt' := Lib.hid hzt
    clear hyes hzt
    go_wp2
    go_ret
    exact ⟨ret_b hzt'.out.symm, hbb⟩
 ·go_wp2
  have hk0 : (w1.alloc (.cells #[.string kd, .int .i64 (aLo s), .int .i64 (aHi s), .func g #[] c] 74)).cell? ⟨w1.heap.size, 0, none⟩ = some (.string kd) := by simp
  have hbb : Below w.heap.size w (w1.alloc (.cells #[.string kd, .int .i64 (aLo s), .int .i64 (aHi s), .func g #[] c] 74)) := hb.alloc hb.size _
  have hlt0 : w1.heap.size < (w1.alloc (.cells #[.string kd, .int .i64 (aLo s), .int .i64 (aHi s), .func g #[] c] 74)).heap.size := by simp
  clear hc hf hz hb
  generalize (w1.alloc (.cells #[.string kd, .int .i64 (aLo s), .int .i64 (aHi s), .func g #[] c] 74)) = w2 at *
  go_loop [33] (fun i => ∃ k : Nat, k ≤ l.length ∧ i = .int .i64 (k : Int) ∧ Hid (∀ j x, j < k → l[j]? = some x → okK (kAt kd j) x = true)) (fun i => l.length - (intOf i).toNat)
  case atStart => exact ⟨0, Nat.zero_le _, rfl, Lib.hid (fun j x hj => absurd hj (Nat.not_lt_zero _))⟩
  case round =>
   obtain ⟨k, hk, rfl, hall⟩ := hrel
   by_cases hlt : k < l.length
   ·obtain ⟨x, hx⟩ : ∃ x, l[k]? = some x := ⟨_, List.getElem?_eq_getElem hlt⟩
    obtain ⟨eb, eo, hA2, hlo, hcc⟩ := hA'.out k [.bool x] (by rw [List.getElem?_map, hx]; rfl)
    subst hA2
    have hcell : w2.cell? ⟨eb, eo + k, none⟩ = some (.bool x) := (hbb.cell (p := ⟨eb, eo + k, none⟩) hlo).trans (by simpa using hcc 0 _ rfl)
    have hkl : (k : Int) < (l.length : Int) := by omega
    obtain ⟨j, hj⟩ : ∃ j, min k (kd.size - 1) = j := ⟨_, rfl⟩
    have hjs : j < kd.size := by omega
    have hji : (j : Int) < (kd.size : Int) := by omega
    have hmn : min (k : Int) ((kd.size : Int) - 1) = (j : Int) := by omega
    have hws : IntKind.i64.wrap ((kd.size : Int) - 1) = (kd.size : Int) - 1 := IntWalk.i64_in _ (by omega)
    have hkj := kAt_is kd k j hj hjs
    have hcs := hset.out kd[j] (by
     have : kd.data.toList[j]? = some kd[j] := by rw [List.getElem?_eq_getElem (by exact hjs)]; rfl
     exact List.mem_of_getElem? this)
    rw [← hkj] at hcs
    have hx' := Lib.hid hx
    have hall2 : okK (kAt kd k) x = true → Hid (∀ j x, j < k + 1 → l[j]? = some x → okK (kAt kd j) x = true) := fun h => Lib.hid (fun j y hj hy => by
     rcases Nat.lt_succ_iff_lt_or_eq.1 hj with h1 | rfl
     ·exact hall.out j y h1 hy
     ·rw [hx'.out] at hy; cases hy; exact h)
    have hno : okK (kAt kd k) x = false → Hid (okL kd l = false) := fun h => Lib.hid (okL_no kd l k x hx'.out h)
    have hkj' := Lib.hid hkj
    clear hx hj hkj hcc
    rcases hcs with h | h | h
    all_goals rw [h] at hall2 hno
    all_goals have hkv := congrArg (fun c : UInt8 => (c.toNat : Int)) (hkj'.out.symm.trans h)
    all_goals simp only [UInt8.reduceToNat] at hkv
    all_goals clear hkj' h
    all_goals cases x
    all_goals first
     | (
       have hg := hall2 (by decide)
       clear hall2 hno hall hx'
       go_wp2
       exact ⟨⟨k + 1, by omega, by go_num, hg⟩, by simp [intOf]; omega⟩)
     | (
       have hg := hno (by decide)
       have hzf : Hid (false = z) := Lib.hid (by rw [← hok'.out]; exact hg.out.symm)
       clear hall2 hno hall hx' hg
       go_wp2
       go_ret
       exact ⟨ret_b hzf.out, hbb⟩)
   ·obtain rfl : k = l.length := by omega
    have hyes := okL_yes kd l (fun j x hx => hall.out j x (List.getElem?_eq_some_iff.1 hx).1 hx)
    have hzt : z = true := by rw [← hok'.out]; exact hyes
    have hzt' := Lib.hid hzt
    clear hyes hzt
    go_wp2
    go_ret
    exact ⟨ret_b hzt'.out.symm, hbb⟩
theorem atakes_any (s : ByteArray) (hs : s.size ≤ 9223372036854775807) (l : List Bool) (hlen : l.length ≤ 9223372036854775807) (z : Bool) (hz : takesA s l = z) (w : World) (A : Option Addr) (cap : Nat) (hA : RdB w w.heap.size A 1 (l.map fun (x : Bool) => [Value.bool x])) : Calls Tryz.prog 38 #[.string s, .slice A l.length cap] w fun e w' => e = .returned (.bool z) ∧ Below w.heap.size w w' := by
 subst hz
 unfold takesA
 cases h0 : aKnown s
 ·exact atakes_a s hs l hlen w A cap hA h0
 by_cases h1 : aLo s ≤ (l.length : Int)
 ·by_cases h2 : (l.length : Int) ≤ aHi s
  ·rw [decide_eq_true h1, decide_eq_true h2]; exact atakes_d s hs l hlen w A cap hA h0 h1 h2 _ rfl
  ·rw [decide_eq_true h1, decide_eq_false h2]; exact atakes_c s hs l hlen w A cap hA h0 h1 h2
 ·rw [decide_eq_false h1]; exact atakes_b s hs l hlen w A cap hA h0 h1
end Go.Proofs.YtgmhifafbebjfaaGreatDoor
