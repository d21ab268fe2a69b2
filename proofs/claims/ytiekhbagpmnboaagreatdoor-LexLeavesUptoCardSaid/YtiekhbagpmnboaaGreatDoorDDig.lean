/-
  Package dec: digits.
-/
import Derived.Test.YtiekhbagpmnboaaGreatDoorPrintL
import Derived.Test.YtiekhbagpmnboaaGreatDoorNumL
import Derived.Test.YtiekhbagpmnboaaGreatDoorProg
import Derived.Test.YtiekhbagpmnboaaGreatDoorShelf
import Derived.Test.YtiekhbagpmnboaaGreatDoorRows
import Derived.Test.YtiekhbagpmnboaaGreatDoorBase
import Derived.Test.YtiekhbagpmnboaaGreatDoorDecA
import Derived.Test.YtiekhbagpmnboaaGreatDoorValA
import Derived.Shelf.Strings.SlTrimAscii
import Derived.WalkSpells
import Derived.WalkLawsBesides
import Derived.StillTactics
import Derived.Laws.Pointers
import Derived.Deep.RegionHeld3
import Derived.Deep.QuietTactic
import Derived.BigQuiet
import Derived.RowKit3
import Derived.Lib.Hide
import Derived.Lib.OthersKept
import Derived.OwnWalk
import Derived.Lib.IndexLaws
import Derived.Lib.ItoaMem
import Derived.Lib.TrimByte
import Derived.Lib.SlTrimSet
import Derived.Lib.ParseIntB
import Derived.Shelf.Strings.Builder1
import Derived.Shelf.Strings.Trim
import Derived.Shelf.Small.Utf8
import Derived.Shelf.Small.Strs
import Derived.Shelf.Small.Wraps
import Derived.Shelf.Strings.BuilderF
import Derived.Shelf.Strings.BuilderK
import Derived.Shelf.Strconv.Itoa0
import Derived.Shelf.Strconv.Itoa1
import Derived.Shelf.LaysM
import Derived.Shelf.Strconv.Itoa2
import Derived.Shelf.Strconv.Itoa3
import Derived.Ground.MpProg
import Derived.Shelf.Pu.ParseUintPublic10
import Derived.Shelf.Strings.Search1
import Derived.Shelf.Strings.Search2
import Derived.Shelf.Strings.Cut
import Derived.Shelf.Strings.Shaped
import Derived.Shelf.Strings.Prefix
import Derived.Shelf.Strings.Runes
import Derived.Shelf.Strings.AsciiSet
import Derived.Shelf.Unicode.DecodeSlow
import Derived.WalkKit
import Derived.ProofKit
import Derived.OpenShut
import Derived.Carry
import Derived.ChangeSame
import Derived.Deep.Draws
namespace Go.Proofs.YtiekhbagpmnboaaGreatDoor
open Go.RowKit

theorem dtrim (l : List UInt8) (hm : l.length ≤ 9223372036854775807) (w : World) : Calls Tryz.prog 104 #[.string ⟨l.toArray⟩, .string ⟨#[48, 49, 50, 51, 52, 53, 54, 55, 56, 57]⟩] w fun e w' => e = .returned (.string ⟨(Lib.trimS l [48, 49, 50, 51, 52, 53, 54, 55, 56, 57]).toArray⟩) ∧ Below w.heap.size w w' := by
  have := Any.strings_Trim_laid Tryz.lays160 (by kernel_rfl) ⟨l.toArray⟩ ⟨#[48, 49, 50, 51, 52, 53, 54, 55, 56, 57]⟩ w (by simpa [ByteArray.size] using hm) (by decide) (ascii_of_all (by decide))
  exact this
theorem trim_yes {l : List UInt8} (h : l.all isDig = true) : Lib.trimS l [48, 49, 50, 51, 52, 53, 54, 55, 56, 57] = [] := by
  have := trim_digits l
  rw [h] at this
  simpa using this
theorem trim_no {l : List UInt8} (h : l.all isDig = false) : (Lib.trimS l [48, 49, 50, 51, 52, 53, 54, 55, 56, 57] = []) = False := by
  have := trim_digits l
  rw [h] at this
  exact eq_false (by simpa using this)
theorem bytes_nil (l : List UInt8) : ((⟨l.toArray⟩ : ByteArray) = ⟨#[]⟩) = (l = []) := by
  apply propext
  constructor
  · intro h
    have := congrArg (fun b : ByteArray => b.data.toList) h
    simpa using this
  · rintro rfl; rfl
set_option maxHeartbeats 400000 in
theorem digits_0 (l : List UInt8) (m : Nat) (_hm : l.length ≤ 9223372036854775807) (_hmm : m ≤ 100) (h : l.length = 0) (w : World) : Calls Tryz.prog 76 #[.string ⟨l.toArray⟩, .int .i64 m] w fun e w' => e = .returned (.bool false) ∧ Below w.heap.size w w' := by
  obtain rfl : l = [] := List.length_eq_zero_iff.1 h
  clear h
  go_enter Tryz.func76, Tryz.ntmps76
  go_wp2_with (go_at_call 104; refine (dtrim _ (by assumption) _).mono ?_; rintro e w1 ⟨rfl, hb⟩)
  go_ret
  exact ⟨rfl, by first | assumption | exact Below.refl _ _⟩
set_option maxHeartbeats 400000 in
theorem digits_1 (l : List UInt8) (m : Nat) (_hm : l.length ≤ 9223372036854775807) (_hmm : m ≤ 100) (h : 0 < l.length) (h1 : m < l.length) (w : World) : Calls Tryz.prog 76 #[.string ⟨l.toArray⟩, .int .i64 m] w fun e w' => e = .returned (.bool false) ∧ Below w.heap.size w w' := by
  go_enter Tryz.func76, Tryz.ntmps76
  go_wp2_with (go_at_call 104; refine (dtrim _ (by assumption) _).mono ?_; rintro e w1 ⟨rfl, hb⟩)
  go_ret
  exact ⟨rfl, by first | assumption | exact Below.refl _ _⟩
set_option maxHeartbeats 400000 in
theorem digits_2 (l : List UInt8) (m : Nat) (hm : l.length ≤ 9223372036854775807) (_hmm : m ≤ 100) (h : 0 < l.length) (h1 : l.length ≤ m) (h2 : l.all isDig = false) (w : World) : Calls Tryz.prog 76 #[.string ⟨l.toArray⟩, .int .i64 m] w fun e w' => e = .returned (.bool false) ∧ Below w.heap.size w w' := by
  have ht := trim_no h2
  have hb0 := bytes_nil (Lib.trimS l [48, 49, 50, 51, 52, 53, 54, 55, 56, 57])
  rw [ht] at hb0
  clear ht h2
  go_enter Tryz.func76, Tryz.ntmps76
  go_wp2_with (go_at_call 104; refine (dtrim _ (by assumption) _).mono ?_; rintro e w1 ⟨rfl, hb⟩)
  go_ret
  exact ⟨rfl, by first | assumption | exact Below.refl _ _⟩
set_option maxHeartbeats 400000 in
theorem digits_3 (l : List UInt8) (m : Nat) (hm : l.length ≤ 9223372036854775807) (_hmm : m ≤ 100) (h : 0 < l.length) (h1 : l.length ≤ m) (h2 : l.all isDig = true) (w : World) : Calls Tryz.prog 76 #[.string ⟨l.toArray⟩, .int .i64 m] w fun e w' => e = .returned (.bool true) ∧ Below w.heap.size w w' := by
  have ht := trim_yes h2
  clear h2
  go_enter Tryz.func76, Tryz.ntmps76
  go_wp2_with (go_at_call 104; refine (dtrim _ (by assumption) _).mono ?_; rintro e w1 ⟨rfl, hb⟩)
  go_ret
  exact ⟨rfl, by first | assumption | exact Below.refl _ _⟩
theorem digits_any (l : List UInt8) (m : Nat) (hm : l.length ≤ 9223372036854775807) (hmm : m ≤ 100) (w : World) : Calls Tryz.prog 76 #[.string ⟨l.toArray⟩, .int .i64 m] w fun e w' => e = .returned (.bool (digOk l m)) ∧ Below w.heap.size w w' := by
  by_cases h0 : l.length = 0
  · rw [show digOk l m = false from by simp [digOk, h0]]
    exact digits_0 l m hm hmm h0 w
  by_cases h1 : m < l.length
  · rw [show digOk l m = false from by simp [digOk]; intro _ h; omega]
    exact digits_1 l m hm hmm (by omega) h1 w
  cases h2 : l.all isDig
  · rw [show digOk l m = false from by simp [digOk, h2]]
    exact digits_2 l m hm hmm (by omega) (by omega) h2 w
  · rw [show digOk l m = true from by simp [digOk, h2]; omega]
    exact digits_3 l m hm hmm (by omega) (by omega) h2 w
theorem digits_as (l : List UInt8) (m : Nat) (hm : l.length ≤ 9223372036854775807) (hmm : m ≤ 100) (p : Bool) (h : digOk l m = p) (w : World) : Calls Tryz.prog 76 #[.string ⟨l.toArray⟩, .int .i64 m] w fun e w' => e = .returned (.bool p) ∧ Below w.heap.size w w' := by
  subst h
  exact digits_any l m hm hmm w
end Go.Proofs.YtiekhbagpmnboaaGreatDoor
