/-
  The document's digits; The document's Parse of a number, by cases: what the two share.
-/
import Derived.Test.YtiekhbagpmnboaaGreatDoorPrintL
import Derived.Test.YtiekhbagpmnboaaGreatDoorNumL
import Derived.Test.YtiekhbagpmnboaaGreatDoorMg30
import Derived.Test.YtiekhbagpmnboaaGreatDoorProg
import Derived.Test.YtiekhbagpmnboaaGreatDoorShelf
import Derived.Test.YtiekhbagpmnboaaGreatDoorRows
import Derived.Test.YtiekhbagpmnboaaGreatDoorBase
import Derived.Test.YtiekhbagpmnboaaGreatDoorDecA
import Derived.WalkSpells
import Derived.WalkLawsBesides
import Derived.StillTactics
import Derived.Laws.Pointers
import Derived.Deep.RegionHeld3
import Derived.Deep.QuietTactic
import Derived.BigQuiet
import Derived.RowKit3
import Derived.Lib.Hide
import Derived.Lib.OthersKept
import Derived.OwnWalk
import Derived.Lib.IndexLaws
import Derived.Lib.ItoaMem
import Derived.Lib.TrimByte
import Derived.Lib.SlTrimSet
import Derived.Lib.ParseIntB
import Derived.Shelf.Strings.Builder1
import Derived.Shelf.Strings.Trim
import Derived.Shelf.Small.Utf8
import Derived.Shelf.Small.Strs
import Derived.Shelf.Small.Wraps
import Derived.Shelf.Strings.BuilderF
import Derived.Shelf.Strings.BuilderK
import Derived.Shelf.Strconv.Itoa0
import Derived.Shelf.Strconv.Itoa1
import Derived.Shelf.LaysM
import Derived.Shelf.Strconv.Itoa2
import Derived.Shelf.Strconv.Itoa3
import Derived.Ground.MpProg
import Derived.Shelf.Pu.ParseUintPublic10
import Derived.Shelf.Strings.Search1
import Derived.Shelf.Strings.Search2
import Derived.Shelf.Strings.Cut
import Derived.Shelf.Strings.Shaped
import Derived.Shelf.Strings.Prefix
import Derived.Shelf.Strings.Runes
import Derived.Shelf.Strings.AsciiSet
import Derived.Shelf.Unicode.DecodeSlow
import Derived.WalkKit
import Derived.ProofKit
import Derived.OpenShut
import Derived.Carry
import Derived.ChangeSame
import Derived.Deep.Draws
namespace Go.Proofs.YtiekhbagpmnboaaGreatDoor
open Go.RowKit

set_option maxHeartbeats 400000 in
theorem risdig (b : UInt8) (w : World) : Calls Tryz.prog 120 #[.int .u8 (b.toNat : Int)] w fun e w' => e = .returned (.bool (isDig b)) ∧ w = w' := by
  have hb := b.toNat_lt
  by_cases h1 : 48 ≤ b.toNat
  · by_cases h2 : b.toNat ≤ 57
    · have e := Lib.hid (show isDig b = true by simp [isDig, h1, h2])
      go_enter Tryz.func120, Tryz.ntmps120
      go_wp2
      go_ret
      exact ⟨ret_b (by rw [e.out]; simp; omega), rfl⟩
    · have e := Lib.hid (show isDig b = false by simp [isDig, h2])
      go_enter Tryz.func120, Tryz.ntmps120
      go_wp2
      go_ret
      exact ⟨ret_b (by rw [e.out]; simp; omega), rfl⟩
  · have e := Lib.hid (show isDig b = false by simp [isDig, h1])
    go_enter Tryz.func120, Tryz.ntmps120
    go_wp2
    go_ret
    exact ⟨by rw [e.out]; rfl, rfl⟩
theorem risdig_as (b : UInt8) (p : Bool) (h : isDig b = p) (w : World) : Calls Tryz.prog 120 #[.int .u8 (b.toNat : Int)] w fun e w' => e = .returned (.bool p) ∧ w = w' := by
  subst h; exact risdig b w
theorem tw_len (t : List UInt8) : (t.takeWhile isDig).length ≤ t.length := by
  exact List.IsPrefix.length_le (List.takeWhile_prefix isDig)
theorem tw_in (t : List UInt8) (j : Nat) (h : j < (t.takeWhile isDig).length) (h2 : j < t.length) : isDig t[j] = true := by
  have e : t[j] = (t.takeWhile isDig)[j] := by
    have := List.takeWhile_append_dropWhile (p := isDig) (l := t)
    rw [List.getElem_of_eq this.symm h2, List.getElem_append_left h]
  rw [e]
  exact tw_all isDig t _ (List.getElem_mem h)
theorem tw_out (t : List UInt8) (h2 : (t.takeWhile isDig).length < t.length) : isDig t[(t.takeWhile isDig).length] = false := by
  have e := List.takeWhile_append_dropWhile (p := isDig) (l := t)
  have hd := List.head?_dropWhile_not isDig t
  cases hr : t.dropWhile isDig with
  | nil => rw [hr, List.append_nil] at e; rw [e] at h2; omega
  | cons c r =>
    rw [hr] at hd
    have : t[(t.takeWhile isDig).length] = c := by
      rw [List.getElem_of_eq e.symm h2, List.getElem_append_right (Nat.le_refl _)]
      simp [hr]
    rw [this]
    simpa using hd
set_option maxHeartbeats 1000000 in
theorem rdigits_t (l : List UInt8) (at' k : Nat) (hl : l.length ≤ 9223372036854775807) (ha : at' ≤ l.length) (hk : ((l.drop at').takeWhile isDig).length = k) (w : World) : Calls Tryz.prog 95 #[.string ⟨l.toArray⟩, .int .i64 (at' : Int)] w fun e w' => e = .returned (.int .i64 (k : Int)) ∧ w = w' := by
  have hkl : k ≤ l.length - at' := by
    have := tw_len (l.drop at')
    rw [hk] at this
    simpa using this
  have hin : ∀ j (h : j < k) (h2 : at' + j < l.length), isDig l[at' + j] = true := fun j h h2 => by
    have := tw_in (l.drop at') j (by omega) (by simp; omega)
    simpa using this
  have hout : ∀ (h2 : at' + k < l.length), isDig l[at' + k] = false := fun h2 => by
    have := tw_out (l.drop at') (by rw [hk]; simp; omega)
    simp only [hk] at this
    simpa using this
  have hin' := Lib.hid hin
  have hout' := Lib.hid hout
  clear hin hout hk
  go_enter Tryz.func95, Tryz.ntmps95
  go_wp2
  go_loop [5] (fun n => ∃ j : Nat, j ≤ k ∧ n = .int .i64 (j : Int)) (fun n => k - (intOf n).toNat)
  case atStart => exact ⟨0, by omega, rfl⟩
  case round =>
    obtain ⟨j, hj, rfl⟩ := hrel
    by_cases h1 : at' + j < l.length
    · have hb : at' + j < (⟨l.toArray⟩ : ByteArray).size := by show at' + j < l.toArray.size; simpa using h1
      have hc : ((at' : Int) + (j : Int)).toNat = at' + j := by omega
      by_cases h2 : j < k
      · have hd := Lib.hid (hin'.out j h2 h1)
        go_wp2_with (go_at_call 120; refine (risdig_as ((⟨l.toArray⟩ : ByteArray)[at' + j]'hb) true hd.out _).mono ?_; rintro e w1 ⟨rfl, rfl⟩)
        go_round
        case rel => exact ⟨j + 1, by omega, by go_num⟩
        case measure => simp [intOf]; omega
      · obtain rfl : j = k := by omega
        have hd := Lib.hid (hout'.out h1)
        go_wp2_with (go_at_call 120; refine (risdig_as ((⟨l.toArray⟩ : ByteArray)[at' + j]'hb) false hd.out _).mono ?_; rintro e w1 ⟨rfl, rfl⟩)
        go_ret
        exact ⟨rfl, rfl⟩
    · obtain rfl : j = k := by omega
      go_wp2
      go_ret
      exact ⟨rfl, rfl⟩
end Go.Proofs.YtiekhbagpmnboaaGreatDoor
namespace Go.Proofs.YtiekhbagpmnboaaGreatDoor
open Go.RowKit

theorem rdigits_as (l : List UInt8) (z : Int) (at' k : Nat) (hz : z = (at' : Int)) (hl : l.length ≤ 9223372036854775807) (ha : at' ≤ l.length) (hk : ((l.drop at').takeWhile isDig).length = k) (w : World) : Calls Tryz.prog 95 #[.string ⟨l.toArray⟩, .int .i64 z] w fun e w' => e = .returned (.int .i64 (k : Int)) ∧ w = w' := by
  subst hz
  exact rdigits_t l at' k hl ha hk w
end Go.Proofs.YtiekhbagpmnboaaGreatDoor
