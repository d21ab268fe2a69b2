/-
  texts: Known, Takes.
-/
import Derived.Test.YtgmhifafbebjfaaGreatDoorTFind
import Derived.Test.YtgmhifafbebjfaaGreatDoorMg10
namespace Go.Proofs.YtgmhifafbebjfaaGreatDoor
open Go.RowKit

def tLo (s : ByteArray) : Int :=
  if s = ⟨#[78, 85, 77]⟩ then 1 else
  if s = ⟨#[82, 69, 86]⟩ then 1 else
  if s = ⟨#[69, 88, 65, 67, 84]⟩ then 2 else
  if s = ⟨#[67, 72, 65, 82]⟩ then 1 else
  if s = ⟨#[79, 82, 68]⟩ then 1 else
  if s = ⟨#[67, 79, 78, 67, 65, 84]⟩ then 1 else
  if s = ⟨#[83, 85, 66, 83, 84]⟩ then 3 else
  if s = ⟨#[70, 73, 78, 68]⟩ then 2 else
  if s = ⟨#[82, 69, 80, 84]⟩ then 2 else
  if s = ⟨#[84, 82, 73, 77]⟩ then 1 else
  if s = ⟨#[76, 79, 87, 69, 82]⟩ then 1 else
  if s = ⟨#[85, 80, 80, 69, 82]⟩ then 1 else
  if s = ⟨#[77, 73, 68]⟩ then 3 else
  if s = ⟨#[82, 73, 71, 72, 84]⟩ then 1 else
  if s = ⟨#[76, 69, 70, 84]⟩ then 1 else
  if s = ⟨#[76, 69, 78]⟩ then 1 else
  0
def tKd (s : ByteArray) : ByteArray :=
  if s = ⟨#[78, 85, 77]⟩ then ⟨#[115]⟩ else
  if s = ⟨#[82, 69, 86]⟩ then ⟨#[115]⟩ else
  if s = ⟨#[69, 88, 65, 67, 84]⟩ then ⟨#[115, 115]⟩ else
  if s = ⟨#[67, 72, 65, 82]⟩ then ⟨#[110]⟩ else
  if s = ⟨#[79, 82, 68]⟩ then ⟨#[115]⟩ else
  if s = ⟨#[67, 79, 78, 67, 65, 84]⟩ then ⟨(Lib.repeatL ((⟨#[115]⟩ : ByteArray).data.toList) 16).toArray⟩ else
  if s = ⟨#[83, 85, 66, 83, 84]⟩ then ⟨#[115, 115, 115]⟩ else
  if s = ⟨#[70, 73, 78, 68]⟩ then ⟨#[115, 115, 110]⟩ else
  if s = ⟨#[82, 69, 80, 84]⟩ then ⟨#[115, 110]⟩ else
  if s = ⟨#[84, 82, 73, 77]⟩ then ⟨#[115]⟩ else
  if s = ⟨#[76, 79, 87, 69, 82]⟩ then ⟨#[115]⟩ else
  if s = ⟨#[85, 80, 80, 69, 82]⟩ then ⟨#[115]⟩ else
  if s = ⟨#[77, 73, 68]⟩ then ⟨#[115, 110, 110]⟩ else
  if s = ⟨#[82, 73, 71, 72, 84]⟩ then ⟨#[115, 110]⟩ else
  if s = ⟨#[76, 69, 70, 84]⟩ then ⟨#[115, 110]⟩ else
  if s = ⟨#[76, 69, 78]⟩ then ⟨#[115]⟩ else
  ⟨#[]⟩
def tKnown (s : ByteArray) : Bool := hasL (tTab 0 0 0 0) s
theorem tKnown_is (b0 b1 b2 b3 : Nat) (s : ByteArray) : hasL (tTab b0 b1 b2 b3) s = tKnown s := rfl
set_option maxRecDepth 100000 in
theorem tLook (b0 b1 b2 b3 : Nat) (s : ByteArray) {l : Int} {kd : ByteArray} {d : Value} (h : lookL tZero (tTab b0 b1 b2 b3) s = .agg #[.string kd, .int .i64 l, d]) : kd = tKd s ∧ l = tLo s := by
  have : ∃ d', lookL tZero (tTab b0 b1 b2 b3) s = .agg #[.string (tKd s), .int .i64 (tLo s), d'] := by
    unfold tTab tLo tKd
    rw [lookL]
    by_cases h0 : s = ⟨#[78, 85, 77]⟩
    · repeat (rw [if_pos h0])
      exact ⟨_, rfl⟩
    repeat (rw [if_neg h0])
    rw [lookL]
    by_cases h1 : s = ⟨#[82, 69, 86]⟩
    · repeat (rw [if_pos h1])
      exact ⟨_, rfl⟩
    repeat (rw [if_neg h1])
    rw [lookL]
    by_cases h2 : s = ⟨#[69, 88, 65, 67, 84]⟩
    · repeat (rw [if_pos h2])
      exact ⟨_, rfl⟩
    repeat (rw [if_neg h2])
    rw [lookL]
    by_cases h3 : s = ⟨#[67, 72, 65, 82]⟩
    · repeat (rw [if_pos h3])
      exact ⟨_, rfl⟩
    repeat (rw [if_neg h3])
    rw [lookL]
    by_cases h4 : s = ⟨#[79, 82, 68]⟩
    · repeat (rw [if_pos h4])
      exact ⟨_, rfl⟩
    repeat (rw [if_neg h4])
    rw [lookL]
    by_cases h5 : s = ⟨#[67, 79, 78, 67, 65, 84]⟩
    · repeat (rw [if_pos h5])
      exact ⟨_, rfl⟩
    repeat (rw [if_neg h5])
    rw [lookL]
    by_cases h6 : s = ⟨#[83, 85, 66, 83, 84]⟩
    · repeat (rw [if_pos h6])
      exact ⟨_, rfl⟩
    repeat (rw [if_neg h6])
    rw [lookL]
    by_cases h7 : s = ⟨#[70, 73, 78, 68]⟩
    · repeat (rw [if_pos h7])
      exact ⟨_, rfl⟩
    repeat (rw [if_neg h7])
    rw [lookL]
    by_cases h8 : s = ⟨#[82, 69, 80, 84]⟩
    · repeat (rw [if_pos h8])
      exact ⟨_, rfl⟩
    repeat (rw [if_neg h8])
    rw [lookL]
    by_cases h9 : s = ⟨#[84, 82, 73, 77]⟩
    · repeat (rw [if_pos h9])
      exact ⟨_, rfl⟩
    repeat (rw [if_neg h9])
    rw [lookL]
    by_cases h10 : s = ⟨#[76, 79, 87, 69, 82]⟩
    · repeat (rw [if_pos h10])
      exact ⟨_, rfl⟩
    repeat (rw [if_neg h10])
    rw [lookL]
    by_cases h11 : s = ⟨#[85, 80, 80, 69, 82]⟩
    · repeat (rw [if_pos h11])
      exact ⟨_, rfl⟩
    repeat (rw [if_neg h11])
    rw [lookL]
    by_cases h12 : s = ⟨#[77, 73, 68]⟩
    · repeat (rw [if_pos h12])
      exact ⟨_, rfl⟩
    repeat (rw [if_neg h12])
    rw [lookL]
    by_cases h13 : s = ⟨#[82, 73, 71, 72, 84]⟩
    · repeat (rw [if_pos h13])
      exact ⟨_, rfl⟩
    repeat (rw [if_neg h13])
    rw [lookL]
    by_cases h14 : s = ⟨#[76, 69, 70, 84]⟩
    · repeat (rw [if_pos h14])
      exact ⟨_, rfl⟩
    repeat (rw [if_neg h14])
    rw [lookL]
    by_cases h15 : s = ⟨#[76, 69, 78]⟩
    · repeat (rw [if_pos h15])
      exact ⟨_, rfl⟩
    repeat (rw [if_neg h15])
    rw [lookL]
    exact ⟨_, rfl⟩
  obtain ⟨d', hd⟩ := this
  rw [hd] at h
  injection h with h
  injection h with h
  injection h with h1 h2
  injection h2 with h2 _
  injection h1 with h1
  injection h2 with _ h2
  exact ⟨h1.symm, h2.symm⟩
theorem tForm {b0 b1 b2 b3 : Nat} {s : ByteArray} {l : Int} {kd : ByteArray} {d : Value} (h : lookL tZero (tTab b0 b1 b2 b3) s = .agg #[.string kd, .int .i64 l, d]) : d = .nilFunc ∨ ∃ g c, d = .func g #[] c := by
  obtain ⟨kd', l', d', h1, h2⟩ := tTab_form b0 b1 b2 b3 s
  rw [h] at h1
  injection h1 with h1
  injection h1 with h1
  injection h1 with _ h1
  injection h1 with _ h1
  injection h1 with h1 _
  subst h1
  exact h2
theorem tKd_le (s : ByteArray) : (tKd s).size ≤ 16 := by
  unfold tKd
  by_cases h0 : s = ⟨#[78, 85, 77]⟩
  · rw [if_pos h0]; decide
  rw [if_neg h0]
  by_cases h1 : s = ⟨#[82, 69, 86]⟩
  · rw [if_pos h1]; decide
  rw [if_neg h1]
  by_cases h2 : s = ⟨#[69, 88, 65, 67, 84]⟩
  · rw [if_pos h2]; decide
  rw [if_neg h2]
  by_cases h3 : s = ⟨#[67, 72, 65, 82]⟩
  · rw [if_pos h3]; decide
  rw [if_neg h3]
  by_cases h4 : s = ⟨#[79, 82, 68]⟩
  · rw [if_pos h4]; decide
  rw [if_neg h4]
  by_cases h5 : s = ⟨#[67, 79, 78, 67, 65, 84]⟩
  · rw [if_pos h5]; decide
  rw [if_neg h5]
  by_cases h6 : s = ⟨#[83, 85, 66, 83, 84]⟩
  · rw [if_pos h6]; decide
  rw [if_neg h6]
  by_cases h7 : s = ⟨#[70, 73, 78, 68]⟩
  · rw [if_pos h7]; decide
  rw [if_neg h7]
  by_cases h8 : s = ⟨#[82, 69, 80, 84]⟩
  · rw [if_pos h8]; decide
  rw [if_neg h8]
  by_cases h9 : s = ⟨#[84, 82, 73, 77]⟩
  · rw [if_pos h9]; decide
  rw [if_neg h9]
  by_cases h10 : s = ⟨#[76, 79, 87, 69, 82]⟩
  · rw [if_pos h10]; decide
  rw [if_neg h10]
  by_cases h11 : s = ⟨#[85, 80, 80, 69, 82]⟩
  · rw [if_pos h11]; decide
  rw [if_neg h11]
  by_cases h12 : s = ⟨#[77, 73, 68]⟩
  · rw [if_pos h12]; decide
  rw [if_neg h12]
  by_cases h13 : s = ⟨#[82, 73, 71, 72, 84]⟩
  · rw [if_pos h13]; decide
  rw [if_neg h13]
  by_cases h14 : s = ⟨#[76, 69, 70, 84]⟩
  · rw [if_pos h14]; decide
  rw [if_neg h14]
  by_cases h15 : s = ⟨#[76, 69, 78]⟩
  · rw [if_pos h15]; decide
  rw [if_neg h15]
  decide
set_option maxHeartbeats 400000 in
theorem tknown_any (s : ByteArray) (hs : s.size ≤ 9223372036854775807) (w : World) : Calls Tryz.prog 36 #[.string s] w fun e w' => e = .returned (.bool (tKnown s)) ∧ Below w.heap.size w w' := by
  have C := Lib.hid (tfind_any s hs w)
  go_enter Tryz.func36, Tryz.ntmps36
  go_wp2_with fail
  refine C.out.mono ?_
  clear C
  rintro e w1 ⟨b0, b1, b2, b3, kd, lo, d, rfl, hl, hb, hc0, hc1, hc2, hc3⟩
  have hd := tForm hl
  rw [tKnown_is]
  clear hl hc0 hc1 hc2 hc3
  obtain ⟨hc, hf, hz⟩ := bkeep hb (w.heap.size) (by omega)
  rcases hd with rfl | ⟨g, c, rfl⟩
  all_goals go_wp2
  all_goals go_ret
  all_goals exact ⟨rfl, by (repeat (first | (with_reducible exact Below.refl _ _) | (with_reducible refine Below.alloc ?_ (by first | omega | (dsimp only; omega) | (simp <;> omega)) _) | (with_reducible refine Below.setCell ?_ (by first | omega | (dsimp only; omega) | (simp <;> omega)) _) | (with_reducible refine Below.drew ?_) | (with_reducible refine below_drewN ?_ _) | (with_reducible refine Below.trans ?_ (Below.mono (by assumption) (by first | omega | (dsimp only; omega) | (simp <;> omega))))))⟩
def takesT (s : ByteArray) (n : Nat) (many : Bool) : Bool := tKnown s && decide (tLo s ≤ (n : Int)) && decide (n ≤ (tKd s).size) && !many
set_option maxRecDepth 100000 in
set_option maxHeartbeats 1000000 in
theorem ttakes_a (s : ByteArray) (hs : s.size ≤ 9223372036854775807) (l : List Bool) (_hlen : l.length ≤ 9223372036854775807) (w : World) (A : Option Addr) (cap : Nat) (hA : RdB w w.heap.size A 1 (l.map fun (x : Bool) => [Value.bool x])) (h0 : tKnown s = false) : Calls Tryz.prog 13 #[.string s, .slice A l.length cap] w fun e w' => e = .returned (.bool false) ∧ Below w.heap.size w w' := by
  have C := Lib.hid (tfind_any s hs w)
  have hA' := Lib.hid hA
  have hk16 := tKd_le s
  clear hA
  go_enter Tryz.func13, Tryz.ntmps13
  go_wp2_with fail
  refine C.out.mono ?_
  clear C
  rintro e w1 ⟨b0, b1, b2, b3, kd, lo, d, rfl, hl, hb, hc0, hc1, hc2, hc3⟩
  have hd := tForm hl
  obtain ⟨rfl, rfl⟩ := tLook _ _ _ _ _ hl
  rw [tKnown_is]
  clear hl hc0 hc1 hc2 hc3
  obtain ⟨hc, hf, hz⟩ := bkeep hb (w.heap.size) (by omega)
  rcases hd with rfl | ⟨g, c, rfl⟩
  all_goals go_wp2
  all_goals go_ret
  all_goals exact ⟨ret_b rfl, by (repeat (first | (with_reducible exact Below.refl _ _) | (with_reducible refine Below.alloc ?_ (by first | omega | (dsimp only; omega) | (simp <;> omega)) _) | (with_reducible refine Below.setCell ?_ (by first | omega | (dsimp only; omega) | (simp <;> omega)) _) | (with_reducible refine Below.drew ?_) | (with_reducible refine below_drewN ?_ _) | (with_reducible refine Below.trans ?_ (Below.mono (by assumption) (by first | omega | (dsimp only; omega) | (simp <;> omega))))))⟩
set_option maxRecDepth 100000 in
set_option maxHeartbeats 1000000 in
theorem ttakes_b (s : ByteArray) (hs : s.size ≤ 9223372036854775807) (l : List Bool) (_hlen : l.length ≤ 9223372036854775807) (w : World) (A : Option Addr) (cap : Nat) (hA : RdB w w.heap.size A 1 (l.map fun (x : Bool) => [Value.bool x])) (h0 : tKnown s = true) (h1 : ¬ tLo s ≤ (l.length : Int)) : Calls Tryz.prog 13 #[.string s, .slice A l.length cap] w fun e w' => e = .returned (.bool false) ∧ Below w.heap.size w w' := by
  have C := Lib.hid (tfind_any s hs w)
  have hA' := Lib.hid hA
  have hk16 := tKd_le s
  clear hA
  go_enter Tryz.func13, Tryz.ntmps13
  go_wp2_with fail
  refine C.out.mono ?_
  clear C
  rintro e w1 ⟨b0, b1, b2, b3, kd, lo, d, rfl, hl, hb, hc0, hc1, hc2, hc3⟩
  have hd := tForm hl
  obtain ⟨rfl, rfl⟩ := tLook _ _ _ _ _ hl
  rw [tKnown_is]
  clear hl hc0 hc1 hc2 hc3
  obtain ⟨hc, hf, hz⟩ := bkeep hb (w.heap.size) (by omega)
  rcases hd with rfl | ⟨g, c, rfl⟩
  all_goals go_wp2
  all_goals go_ret
  all_goals exact ⟨ret_b rfl, by (repeat (first | (with_reducible exact Below.refl _ _) | (with_reducible refine Below.alloc ?_ (by first | omega | (dsimp only; omega) | (simp <;> omega)) _) | (with_reducible refine Below.setCell ?_ (by first | omega | (dsimp only; omega) | (simp <;> omega)) _) | (with_reducible refine Below.drew ?_) | (with_reducible refine below_drewN ?_ _) | (with_reducible refine Below.trans ?_ (Below.mono (by assumption) (by first | omega | (dsimp only; omega) | (simp <;> omega))))))⟩
set_option maxRecDepth 100000 in
set_option maxHeartbeats 1000000 in
theorem ttakes_c (s : ByteArray) (hs : s.size ≤ 9223372036854775807) (l : List Bool) (_hlen : l.length ≤ 9223372036854775807) (w : World) (A : Option Addr) (cap : Nat) (hA : RdB w w.heap.size A 1 (l.map fun (x : Bool) => [Value.bool x])) (h0 : tKnown s = true) (h1 : tLo s ≤ (l.length : Int)) (h2 : ¬ l.length ≤ (tKd s).size) : Calls Tryz.prog 13 #[.string s, .slice A l.length cap] w fun e w' => e = .returned (.bool false) ∧ Below w.heap.size w w' := by
  have C := Lib.hid (tfind_any s hs w)
  have hA' := Lib.hid hA
  have hk16 := tKd_le s
  clear hA
  go_enter Tryz.func13, Tryz.ntmps13
  go_wp2_with fail
  refine C.out.mono ?_
  clear C
  rintro e w1 ⟨b0, b1, b2, b3, kd, lo, d, rfl, hl, hb, hc0, hc1, hc2, hc3⟩
  have hd := tForm hl
  obtain ⟨rfl, rfl⟩ := tLook _ _ _ _ _ hl
  rw [tKnown_is]
  clear hl hc0 hc1 hc2 hc3
  obtain ⟨hc, hf, hz⟩ := bkeep hb (w.heap.size) (by omega)
  rcases hd with rfl | ⟨g, c, rfl⟩
  all_goals go_wp2
  all_goals go_ret
  all_goals exact ⟨ret_b rfl, by (repeat (first | (with_reducible exact Below.refl _ _) | (with_reducible refine Below.alloc ?_ (by first | omega | (dsimp only; omega) | (simp <;> omega)) _) | (with_reducible refine Below.setCell ?_ (by first | omega | (dsimp only; omega) | (simp <;> omega)) _) | (with_reducible refine Below.drew ?_) | (with_reducible refine below_drewN ?_ _) | (with_reducible refine Below.trans ?_ (Below.mono (by assumption) (by first | omega | (dsimp only; omega) | (simp <;> omega))))))⟩
set_option maxRecDepth 100000 in
set_option maxHeartbeats 1000000 in
theorem ttakes_d (s : ByteArray) (hs : s.size ≤ 9223372036854775807) (l : List Bool) (hlen : l.length ≤ 9223372036854775807) (w : World) (A : Option Addr) (cap : Nat) (hA : RdB w w.heap.size A 1 (l.map fun (x : Bool) => [Value.bool x])) (h0 : tKnown s = true) (h1 : tLo s ≤ (l.length : Int)) (h2 : l.length ≤ (tKd s).size) (z : Bool) (h3 : l.any (fun y => (true == y)) = z) : Calls Tryz.prog 13 #[.string s, .slice A l.length cap] w fun e w' => e = .returned (.bool (!z)) ∧ Below w.heap.size w w' := by
  have C := Lib.hid (tfind_any s hs w)
  have hA' := Lib.hid hA
  have hk16 := tKd_le s
  clear hA
  have h3' := Lib.hid h3
  clear h3
  go_enter Tryz.func13, Tryz.ntmps13
  go_wp2_with fail
  refine C.out.mono ?_
  clear C
  rintro e w1 ⟨b0, b1, b2, b3, kd, lo, d, rfl, hl, hb, hc0, hc1, hc2, hc3⟩
  have hd := tForm hl
  obtain ⟨rfl, rfl⟩ := tLook _ _ _ _ _ hl
  rw [tKnown_is]
  clear hl hc0 hc1 hc2 hc3
  obtain ⟨hc, hf, hz⟩ := bkeep hb (w.heap.size) (by omega)
  have CC : ∀ w2, Below w.heap.size w w2 → Hid (Calls Tryz.prog 63 #[.slice A l.length cap, .bool true] w2 fun e w' => e = .returned (.bool z) ∧ w2 = w') := fun w2 hb2 => Lib.hid (cb_has l true hlen z h3'.out w2 A cap ((hA'.out.below hb2).mono hb2.size))
  rcases hd with rfl | ⟨g, c, rfl⟩
  all_goals go_wp2_with (refine (CC _ (by (repeat (first | (with_reducible exact Below.refl _ _) | (with_reducible refine Below.alloc ?_ (by first | omega | (dsimp only; omega) | (simp <;> omega)) _) | (with_reducible refine Below.setCell ?_ (by first | omega | (dsimp only; omega) | (simp <;> omega)) _) | (with_reducible refine Below.drew ?_) | (with_reducible refine below_drewN ?_ _) | (with_reducible refine Below.trans ?_ (Below.mono (by assumption) (by first | omega | (dsimp only; omega) | (simp <;> omega)))))))).out.mono ?_; rintro e w' ⟨rfl, rfl⟩)
  all_goals go_ret
  all_goals exact ⟨rfl, by (repeat (first | (with_reducible exact Below.refl _ _) | (with_reducible refine Below.alloc ?_ (by first | omega | (dsimp only; omega) | (simp <;> omega)) _) | (with_reducible refine Below.setCell ?_ (by first | omega | (dsimp only; omega) | (simp <;> omega)) _) | (with_reducible refine Below.drew ?_) | (with_reducible refine below_drewN ?_ _) | (with_reducible refine Below.trans ?_ (Below.mono (by assumption) (by first | omega | (dsimp only; omega) | (simp <;> omega))))))⟩
theorem ttakes_any (s : ByteArray) (hs : s.size ≤ 9223372036854775807) (l : List Bool) (hlen : l.length ≤ 9223372036854775807) (z : Bool) (hz : takesT s l.length (l.any (fun y => (true == y))) = z) (w : World) (A : Option Addr) (cap : Nat) (hA : RdB w w.heap.size A 1 (l.map fun (x : Bool) => [Value.bool x])) : Calls Tryz.prog 13 #[.string s, .slice A l.length cap] w fun e w' => e = .returned (.bool z) ∧ Below w.heap.size w w' := by
  subst hz
  unfold takesT
  cases h0 : tKnown s
  · exact ttakes_a s hs l hlen w A cap hA h0
  by_cases h1 : tLo s ≤ (l.length : Int)
  · by_cases h2 : l.length ≤ (tKd s).size
    · rw [decide_eq_true h1, decide_eq_true h2]; exact ttakes_d s hs l hlen w A cap hA h0 h1 h2 _ rfl
    · rw [decide_eq_true h1, decide_eq_false h2]; exact ttakes_c s hs l hlen w A cap hA h0 h1 h2
  · rw [decide_eq_false h1]; exact ttakes_b s hs l hlen w A cap hA h0 h1
end Go.Proofs.YtgmhifafbebjfaaGreatDoor
