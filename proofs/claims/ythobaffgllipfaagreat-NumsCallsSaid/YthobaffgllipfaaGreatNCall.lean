/-
  nums: Known, Takes, Call.
-/
import Derived.Test.YthobaffgllipfaaGreatRows
import Derived.Test.YthobaffgllipfaaGreatBase
import Derived.Test.YthobaffgllipfaaGreatMapK
import Derived.Test.YthobaffgllipfaaGreatNFind
import Derived.Test.YthobaffgllipfaaGreatMg3
import Derived.Test.YthobaffgllipfaaGreatValA
import Derived.Test.YthobaffgllipfaaGreatValB
import Derived.Test.YthobaffgllipfaaGreatDecS
import Derived.Test.YthobaffgllipfaaGreatValC
import Derived.Test.YthobaffgllipfaaGreatAddrC
import Derived.Test.YthobaffgllipfaaGreatMg9
import Derived.Test.YthobaffgllipfaaGreatDMod
import Derived.Test.YthobaffgllipfaaGreatDFlo
import Derived.Test.YthobaffgllipfaaGreatProg
import Derived.Test.YthobaffgllipfaaGreatMg12
import Derived.Test.YthobaffgllipfaaGreatDRnd
import Derived.Test.YthobaffgllipfaaGreatMg14
import Derived.Test.YthobaffgllipfaaGreatKnuth
import Derived.Test.YthobaffgllipfaaGreatDDiv
import Derived.Test.YthobaffgllipfaaGreatMg17
import Derived.Test.YthobaffgllipfaaGreatNDoA
import Derived.Test.YthobaffgllipfaaGreatNDoB
import Derived.Test.YthobaffgllipfaaGreatNDoC
import Derived.Test.YthobaffgllipfaaGreatMg21
import Derived.WalkSpells
import Derived.WalkLawsBesides
import Derived.StillTactics
import Derived.Laws.Pointers
import Derived.Deep.RegionHeld3
import Derived.Deep.QuietTactic
import Derived.BigQuiet
import Derived.RowKit3
import Derived.Lib.Hide
import Derived.Lib.OthersKept
import Derived.OwnWalk
import Derived.Lib.IndexLaws
import Derived.Lib.ItoaMem
import Derived.WalkKit
import Derived.ProofKit
import Derived.OpenShut
import Derived.Carry
import Derived.ChangeSame
import Derived.Deep.Draws
import Derived.Maps.OwnSet
import Derived.Maps.AppendAt
import Derived.Laws.EntriesVeiled
import Derived.Laws.BitsAllLaws
import Derived.Shelf.Small.Bits
import Derived.Shelf.Strconv.Itoa0
import Derived.Shelf.Bits.Mul64
import Derived.Lib.TrimByte
import Derived.Lib.Bytealg
import Derived.Lib.SlTrimSet
import Derived.Lib.ParseIntB
import Derived.Shelf.Strings.SlTrimAscii
import Derived.Lib.SmallJoins
import Derived.Deep.RegionWith
namespace Go.Proofs.YthobaffgllipfaaGreat
open Go.RowKit

def nLo (s : ByteArray) : Int :=
  if s = ⟨#[79, 68, 68]⟩ then 1 else
  if s = ⟨#[67, 76, 65, 77, 80]⟩ then 3 else
  if s = ⟨#[70, 65, 67, 84]⟩ then 1 else
  if s = ⟨#[76, 67, 77]⟩ then 1 else
  if s = ⟨#[71, 67, 68]⟩ then 1 else
  if s = ⟨#[83, 81, 82, 84]⟩ then 1 else
  if s = ⟨#[80, 79, 87, 69, 82]⟩ then 2 else
  if s = ⟨#[81, 85, 79, 84]⟩ then 2 else
  if s = ⟨#[77, 79, 68]⟩ then 2 else
  if s = ⟨#[67, 69, 73, 76]⟩ then 2 else
  if s = ⟨#[70, 76, 79, 79, 82]⟩ then 2 else
  if s = ⟨#[82, 79, 85, 78, 68]⟩ then 1 else
  if s = ⟨#[84, 82, 85, 78, 67]⟩ then 1 else
  if s = ⟨#[73, 78, 84]⟩ then 1 else
  if s = ⟨#[83, 73, 71, 78]⟩ then 1 else
  if s = ⟨#[65, 66, 83]⟩ then 1 else
  0
def nMo (s : ByteArray) : Int :=
  if s = ⟨#[79, 68, 68]⟩ then 1 else
  if s = ⟨#[67, 76, 65, 77, 80]⟩ then 3 else
  if s = ⟨#[70, 65, 67, 84]⟩ then 1 else
  if s = ⟨#[76, 67, 77]⟩ then 16 else
  if s = ⟨#[71, 67, 68]⟩ then 16 else
  if s = ⟨#[83, 81, 82, 84]⟩ then 1 else
  if s = ⟨#[80, 79, 87, 69, 82]⟩ then 2 else
  if s = ⟨#[81, 85, 79, 84]⟩ then 2 else
  if s = ⟨#[77, 79, 68]⟩ then 2 else
  if s = ⟨#[67, 69, 73, 76]⟩ then 2 else
  if s = ⟨#[70, 76, 79, 79, 82]⟩ then 2 else
  if s = ⟨#[82, 79, 85, 78, 68]⟩ then 2 else
  if s = ⟨#[84, 82, 85, 78, 67]⟩ then 2 else
  if s = ⟨#[73, 78, 84]⟩ then 1 else
  if s = ⟨#[83, 73, 71, 78]⟩ then 1 else
  if s = ⟨#[65, 66, 83]⟩ then 1 else
  0
def nKnown (s : ByteArray) : Bool := hasL (nTab 0 0 0) s
theorem nKnown_is (b0 b1 b2 : Nat) (s : ByteArray) : hasL (nTab b0 b1 b2) s = nKnown s := rfl
set_option maxRecDepth 100000 in
theorem nLook (b0 b1 b2 : Nat) (s : ByteArray) {l m : Int} {d : Value} (h : lookL nZero (nTab b0 b1 b2) s = .agg #[.int .i64 l, .int .i64 m, d]) : l = nLo s ∧ m = nMo s := by
  have : ∃ d', lookL nZero (nTab b0 b1 b2) s = .agg #[.int .i64 (nLo s), .int .i64 (nMo s), d'] := by
    unfold nTab nLo nMo
    rw [lookL]
    by_cases h0 : s = ⟨#[79, 68, 68]⟩
    · repeat (rw [if_pos h0])
      exact ⟨_, rfl⟩
    repeat (rw [if_neg h0])
    rw [lookL]
    by_cases h1 : s = ⟨#[67, 76, 65, 77, 80]⟩
    · repeat (rw [if_pos h1])
      exact ⟨_, rfl⟩
    repeat (rw [if_neg h1])
    rw [lookL]
    by_cases h2 : s = ⟨#[70, 65, 67, 84]⟩
    · repeat (rw [if_pos h2])
      exact ⟨_, rfl⟩
    repeat (rw [if_neg h2])
    rw [lookL]
    by_cases h3 : s = ⟨#[76, 67, 77]⟩
    · repeat (rw [if_pos h3])
      exact ⟨_, rfl⟩
    repeat (rw [if_neg h3])
    rw [lookL]
    by_cases h4 : s = ⟨#[71, 67, 68]⟩
    · repeat (rw [if_pos h4])
      exact ⟨_, rfl⟩
    repeat (rw [if_neg h4])
    rw [lookL]
    by_cases h5 : s = ⟨#[83, 81, 82, 84]⟩
    · repeat (rw [if_pos h5])
      exact ⟨_, rfl⟩
    repeat (rw [if_neg h5])
    rw [lookL]
    by_cases h6 : s = ⟨#[80, 79, 87, 69, 82]⟩
    · repeat (rw [if_pos h6])
      exact ⟨_, rfl⟩
    repeat (rw [if_neg h6])
    rw [lookL]
    by_cases h7 : s = ⟨#[81, 85, 79, 84]⟩
    · repeat (rw [if_pos h7])
      exact ⟨_, rfl⟩
    repeat (rw [if_neg h7])
    rw [lookL]
    by_cases h8 : s = ⟨#[77, 79, 68]⟩
    · repeat (rw [if_pos h8])
      exact ⟨_, rfl⟩
    repeat (rw [if_neg h8])
    rw [lookL]
    by_cases h9 : s = ⟨#[67, 69, 73, 76]⟩
    · repeat (rw [if_pos h9])
      exact ⟨_, rfl⟩
    repeat (rw [if_neg h9])
    rw [lookL]
    by_cases h10 : s = ⟨#[70, 76, 79, 79, 82]⟩
    · repeat (rw [if_pos h10])
      exact ⟨_, rfl⟩
    repeat (rw [if_neg h10])
    rw [lookL]
    by_cases h11 : s = ⟨#[82, 79, 85, 78, 68]⟩
    · repeat (rw [if_pos h11])
      exact ⟨_, rfl⟩
    repeat (rw [if_neg h11])
    rw [lookL]
    by_cases h12 : s = ⟨#[84, 82, 85, 78, 67]⟩
    · repeat (rw [if_pos h12])
      exact ⟨_, rfl⟩
    repeat (rw [if_neg h12])
    rw [lookL]
    by_cases h13 : s = ⟨#[73, 78, 84]⟩
    · repeat (rw [if_pos h13])
      exact ⟨_, rfl⟩
    repeat (rw [if_neg h13])
    rw [lookL]
    by_cases h14 : s = ⟨#[83, 73, 71, 78]⟩
    · repeat (rw [if_pos h14])
      exact ⟨_, rfl⟩
    repeat (rw [if_neg h14])
    rw [lookL]
    by_cases h15 : s = ⟨#[65, 66, 83]⟩
    · repeat (rw [if_pos h15])
      exact ⟨_, rfl⟩
    repeat (rw [if_neg h15])
    rw [lookL]
    exact ⟨_, rfl⟩
  obtain ⟨d', hd⟩ := this
  rw [hd] at h
  injection h with h
  injection h with h
  injection h with h1 h2
  injection h2 with h2 _
  injection h1 with _ h1
  injection h2 with _ h2
  exact ⟨h1.symm, h2.symm⟩
theorem nForm {b0 b1 b2 : Nat} {s : ByteArray} {l m : Int} {d : Value} (h : lookL nZero (nTab b0 b1 b2) s = .agg #[.int .i64 l, .int .i64 m, d]) : d = .nilFunc ∨ ∃ g c, d = .func g #[] c := by
  obtain ⟨l', m', d', h1, h2⟩ := nTab_form b0 b1 b2 s
  rw [h] at h1
  injection h1 with h1
  injection h1 with h1
  injection h1 with _ h1
  injection h1 with _ h1
  injection h1 with h1 _
  subst h1
  exact h2
set_option maxHeartbeats 400000 in
theorem nknown_any (s : ByteArray) (hs : s.size ≤ 9223372036854775807) (w : World) : Calls Tryz.prog 23 #[.string s] w fun e w' => e = .returned (.bool (nKnown s)) ∧ Below w.heap.size w w' := by
  have C := Lib.hid (find_any s hs w)
  go_enter Tryz.func23, Tryz.ntmps23
  go_wp2_with fail
  refine C.out.mono ?_
  clear C
  rintro e w1 ⟨b0, b1, b2, l, m, d, rfl, hl, hb, hc0, hc1, hc2⟩
  have hd := nForm hl
  rw [nKnown_is]
  clear hl hc0 hc1 hc2
  obtain ⟨hc, hf, hz⟩ := bkeep hb (w.heap.size) (by omega)
  rcases hd with rfl | ⟨g, c, rfl⟩
  all_goals go_wp2
  all_goals go_ret
  all_goals exact ⟨rfl, by (repeat (first | (with_reducible exact Below.refl _ _) | (with_reducible refine Below.alloc ?_ (by first | omega | (dsimp only; omega) | (simp <;> omega)) _) | (with_reducible refine Below.setCell ?_ (by first | omega | (dsimp only; omega) | (simp <;> omega)) _) | (with_reducible refine Below.drew ?_) | (with_reducible refine below_drewN ?_ _) | (with_reducible refine Below.trans ?_ (Below.mono (by assumption) (by first | omega | (dsimp only; omega) | (simp <;> omega))))))⟩
def takesN (s : ByteArray) (n : Nat) (many : Bool) : Bool := nKnown s && decide (nLo s ≤ (n : Int)) && decide ((n : Int) ≤ nMo s) && !many
set_option maxRecDepth 100000 in
set_option maxHeartbeats 1000000 in
theorem takes_a (s : ByteArray) (hs : s.size ≤ 9223372036854775807) (l : List Bool) (_hlen : l.length ≤ 9223372036854775807) (w : World) (A : Option Addr) (cap : Nat) (hA : RdB w w.heap.size A 1 (l.map fun (x : Bool) => [Value.bool x])) (h0 : nKnown s = false) : Calls Tryz.prog 9 #[.string s, .slice A l.length cap] w fun e w' => e = .returned (.bool false) ∧ Below w.heap.size w w' := by
  have C := Lib.hid (find_any s hs w)
  have hA' := Lib.hid hA
  clear hA
  go_enter Tryz.func9, Tryz.ntmps9
  go_wp2_with fail
  refine C.out.mono ?_
  clear C
  rintro e w1 ⟨b0, b1, b2, lo, mo, d, rfl, hl, hb, hc0, hc1, hc2⟩
  have hd := nForm hl
  obtain ⟨rfl, rfl⟩ := nLook _ _ _ _ hl
  rw [nKnown_is]
  clear hl hc0 hc1 hc2
  obtain ⟨hc, hf, hz⟩ := bkeep hb (w.heap.size) (by omega)
  rcases hd with rfl | ⟨g, c, rfl⟩
  all_goals go_wp2
  all_goals go_ret
  all_goals exact ⟨ret_b rfl, by (repeat (first | (with_reducible exact Below.refl _ _) | (with_reducible refine Below.alloc ?_ (by first | omega | (dsimp only; omega) | (simp <;> omega)) _) | (with_reducible refine Below.setCell ?_ (by first | omega | (dsimp only; omega) | (simp <;> omega)) _) | (with_reducible refine Below.drew ?_) | (with_reducible refine below_drewN ?_ _) | (with_reducible refine Below.trans ?_ (Below.mono (by assumption) (by first | omega | (dsimp only; omega) | (simp <;> omega))))))⟩
set_option maxRecDepth 100000 in
set_option maxHeartbeats 1000000 in
theorem takes_b (s : ByteArray) (hs : s.size ≤ 9223372036854775807) (l : List Bool) (_hlen : l.length ≤ 9223372036854775807) (w : World) (A : Option Addr) (cap : Nat) (hA : RdB w w.heap.size A 1 (l.map fun (x : Bool) => [Value.bool x])) (h0 : nKnown s = true) (h1 : ¬ nLo s ≤ (l.length : Int)) : Calls Tryz.prog 9 #[.string s, .slice A l.length cap] w fun e w' => e = .returned (.bool false) ∧ Below w.heap.size w w' := by
  have C := Lib.hid (find_any s hs w)
  have hA' := Lib.hid hA
  clear hA
  go_enter Tryz.func9, Tryz.ntmps9
  go_wp2_with fail
  refine C.out.mono ?_
  clear C
  rintro e w1 ⟨b0, b1, b2, lo, mo, d, rfl, hl, hb, hc0, hc1, hc2⟩
  have hd := nForm hl
  obtain ⟨rfl, rfl⟩ := nLook _ _ _ _ hl
  rw [nKnown_is]
  clear hl hc0 hc1 hc2
  obtain ⟨hc, hf, hz⟩ := bkeep hb (w.heap.size) (by omega)
  rcases hd with rfl | ⟨g, c, rfl⟩
  all_goals go_wp2
  all_goals go_ret
  all_goals exact ⟨ret_b rfl, by (repeat (first | (with_reducible exact Below.refl _ _) | (with_reducible refine Below.alloc ?_ (by first | omega | (dsimp only; omega) | (simp <;> omega)) _) | (with_reducible refine Below.setCell ?_ (by first | omega | (dsimp only; omega) | (simp <;> omega)) _) | (with_reducible refine Below.drew ?_) | (with_reducible refine below_drewN ?_ _) | (with_reducible refine Below.trans ?_ (Below.mono (by assumption) (by first | omega | (dsimp only; omega) | (simp <;> omega))))))⟩
set_option maxRecDepth 100000 in
set_option maxHeartbeats 1000000 in
theorem takes_c (s : ByteArray) (hs : s.size ≤ 9223372036854775807) (l : List Bool) (_hlen : l.length ≤ 9223372036854775807) (w : World) (A : Option Addr) (cap : Nat) (hA : RdB w w.heap.size A 1 (l.map fun (x : Bool) => [Value.bool x])) (h0 : nKnown s = true) (h1 : nLo s ≤ (l.length : Int)) (h2 : ¬ (l.length : Int) ≤ nMo s) : Calls Tryz.prog 9 #[.string s, .slice A l.length cap] w fun e w' => e = .returned (.bool false) ∧ Below w.heap.size w w' := by
  have C := Lib.hid (find_any s hs w)
  have hA' := Lib.hid hA
  clear hA
  go_enter Tryz.func9, Tryz.ntmps9
  go_wp2_with fail
  refine C.out.mono ?_
  clear C
  rintro e w1 ⟨b0, b1, b2, lo, mo, d, rfl, hl, hb, hc0, hc1, hc2⟩
  have hd := nForm hl
  obtain ⟨rfl, rfl⟩ := nLook _ _ _ _ hl
  rw [nKnown_is]
  clear hl hc0 hc1 hc2
  obtain ⟨hc, hf, hz⟩ := bkeep hb (w.heap.size) (by omega)
  rcases hd with rfl | ⟨g, c, rfl⟩
  all_goals go_wp2
  all_goals go_ret
  all_goals exact ⟨ret_b rfl, by (repeat (first | (with_reducible exact Below.refl _ _) | (with_reducible refine Below.alloc ?_ (by first | omega | (dsimp only; omega) | (simp <;> omega)) _) | (with_reducible refine Below.setCell ?_ (by first | omega | (dsimp only; omega) | (simp <;> omega)) _) | (with_reducible refine Below.drew ?_) | (with_reducible refine below_drewN ?_ _) | (with_reducible refine Below.trans ?_ (Below.mono (by assumption) (by first | omega | (dsimp only; omega) | (simp <;> omega))))))⟩
set_option maxRecDepth 100000 in
set_option maxHeartbeats 1000000 in
theorem takes_d (s : ByteArray) (hs : s.size ≤ 9223372036854775807) (l : List Bool) (hlen : l.length ≤ 9223372036854775807) (w : World) (A : Option Addr) (cap : Nat) (hA : RdB w w.heap.size A 1 (l.map fun (x : Bool) => [Value.bool x])) (h0 : nKnown s = true) (h1 : nLo s ≤ (l.length : Int)) (h2 : (l.length : Int) ≤ nMo s) (z : Bool) (h3 : l.any (fun y => (true == y)) = z) : Calls Tryz.prog 9 #[.string s, .slice A l.length cap] w fun e w' => e = .returned (.bool (!z)) ∧ Below w.heap.size w w' := by
  have C := Lib.hid (find_any s hs w)
  have hA' := Lib.hid hA
  clear hA
  have h3' := Lib.hid h3
  clear h3
  go_enter Tryz.func9, Tryz.ntmps9
  go_wp2_with fail
  refine C.out.mono ?_
  clear C
  rintro e w1 ⟨b0, b1, b2, lo, mo, d, rfl, hl, hb, hc0, hc1, hc2⟩
  have hd := nForm hl
  obtain ⟨rfl, rfl⟩ := nLook _ _ _ _ hl
  rw [nKnown_is]
  clear hl hc0 hc1 hc2
  obtain ⟨hc, hf, hz⟩ := bkeep hb (w.heap.size) (by omega)
  have CC : ∀ w2, Below w.heap.size w w2 → Hid (Calls Tryz.prog 29 #[.slice A l.length cap, .bool true] w2 fun e w' => e = .returned (.bool z) ∧ w2 = w') := fun w2 hb2 => Lib.hid (cb_has l true hlen z h3'.out w2 A cap ((hA'.out.below hb2).mono hb2.size))
  rcases hd with rfl | ⟨g, c, rfl⟩
  all_goals go_wp2_with (refine (CC _ (by (repeat (first | (with_reducible exact Below.refl _ _) | (with_reducible refine Below.alloc ?_ (by first | omega | (dsimp only; omega) | (simp <;> omega)) _) | (with_reducible refine Below.setCell ?_ (by first | omega | (dsimp only; omega) | (simp <;> omega)) _) | (with_reducible refine Below.drew ?_) | (with_reducible refine below_drewN ?_ _) | (with_reducible refine Below.trans ?_ (Below.mono (by assumption) (by first | omega | (dsimp only; omega) | (simp <;> omega)))))))).out.mono ?_; rintro e w' ⟨rfl, rfl⟩)
  all_goals go_ret
  all_goals exact ⟨rfl, by (repeat (first | (with_reducible exact Below.refl _ _) | (with_reducible refine Below.alloc ?_ (by first | omega | (dsimp only; omega) | (simp <;> omega)) _) | (with_reducible refine Below.setCell ?_ (by first | omega | (dsimp only; omega) | (simp <;> omega)) _) | (with_reducible refine Below.drew ?_) | (with_reducible refine below_drewN ?_ _) | (with_reducible refine Below.trans ?_ (Below.mono (by assumption) (by first | omega | (dsimp only; omega) | (simp <;> omega))))))⟩
theorem takes_any (s : ByteArray) (hs : s.size ≤ 9223372036854775807) (l : List Bool) (hlen : l.length ≤ 9223372036854775807) (z : Bool) (hz : takesN s l.length (l.any (fun y => (true == y))) = z) (w : World) (A : Option Addr) (cap : Nat) (hA : RdB w w.heap.size A 1 (l.map fun (x : Bool) => [Value.bool x])) : Calls Tryz.prog 9 #[.string s, .slice A l.length cap] w fun e w' => e = .returned (.bool z) ∧ Below w.heap.size w w' := by
  subst hz
  unfold takesN
  cases h0 : nKnown s
  · exact takes_a s hs l hlen w A cap hA h0
  by_cases h1 : nLo s ≤ (l.length : Int)
  · by_cases h2 : (l.length : Int) ≤ nMo s
    · rw [decide_eq_true h1, decide_eq_true h2]; exact takes_d s hs l hlen w A cap hA h0 h1 h2 _ rfl
    · rw [decide_eq_true h1, decide_eq_false h2]; exact takes_c s hs l hlen w A cap hA h0 h1 h2
  · rw [decide_eq_false h1]; exact takes_b s hs l hlen w A cap hA h0 h1
end Go.Proofs.YthobaffgllipfaaGreat
