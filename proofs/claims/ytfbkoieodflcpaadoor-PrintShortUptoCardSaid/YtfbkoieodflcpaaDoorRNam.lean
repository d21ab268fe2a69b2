/-
  orielref05: Named.
-/
import Derived.Test.YtfbkoieodflcpaaDoorMg4
import Derived.Test.YtfbkoieodflcpaaDoorRows
import Derived.Test.YtfbkoieodflcpaaDoorBase
import Derived.Test.YtfbkoieodflcpaaDoorProg
import Derived.Test.YtfbkoieodflcpaaDoorShelf
import Derived.Test.YtfbkoieodflcpaaDoorAddrC
import Derived.Test.YtfbkoieodflcpaaDoorNames
import Derived.Test.YtfbkoieodflcpaaDoorMg7
import Derived.Test.YtfbkoieodflcpaaDoorDecA
import Derived.Test.YtfbkoieodflcpaaDoorValA
import Derived.Test.YtfbkoieodflcpaaDoorValB
import Derived.Test.YtfbkoieodflcpaaDoorMg11
import Derived.Test.YtfbkoieodflcpaaDoorLexP
import Derived.Test.YtfbkoieodflcpaaDoorRowB
import Derived.Test.YtfbkoieodflcpaaDoorMapK
import Derived.Test.YtfbkoieodflcpaaDoorArgK
import Derived.Test.YtfbkoieodflcpaaDoorRefP
import Derived.Test.YtfbkoieodflcpaaDoorMg17
import Derived.Test.YtfbkoieodflcpaaDoorRefN
import Derived.Test.YtfbkoieodflcpaaDoorRefM
import Derived.WalkSpells
import Derived.WalkLawsBesides
import Derived.StillTactics
import Derived.Laws.Pointers
import Derived.Deep.RegionHeld3
import Derived.Deep.QuietTactic
import Derived.BigQuiet
import Derived.RowKit3
import Derived.Lib.Hide
import Derived.Lib.OthersKept
import Derived.OwnWalk
import Derived.Lib.IndexLaws
import Derived.Lib.ItoaMem
import Derived.Lib.TrimByte
import Derived.Lib.SlTrimSet
import Derived.Lib.ParseIntB
import Derived.WalkKit
import Derived.ProofKit
import Derived.OpenShut
import Derived.Carry
import Derived.ChangeSame
import Derived.Deep.Draws
import Derived.Shelf.Strings.Builder1
import Derived.Shelf.Strings.Builder2
import Derived.Shelf.Strings.Trim
import Derived.Shelf.Small.Utf8
import Derived.Shelf.Small.Strs
import Derived.Shelf.Strings.BuilderF
import Derived.Shelf.Strings.BuilderK
import Derived.Shelf.Strconv.Itoa0
import Derived.Shelf.Strconv.Itoa1
import Derived.Shelf.LaysM
import Derived.Shelf.Strconv.Itoa2
import Derived.Shelf.Strconv.Itoa3
import Derived.Shelf.Strings.Search1
import Derived.Shelf.Strings.Search2
import Derived.Shelf.Strings.Search3
import Derived.Shelf.Strings.Count
import Derived.Shelf.Strings.Shaped
import Derived.Shelf.Strings.Split
import Derived.Shelf.Strings.Replace
import Derived.Shelf.Strings.Runes
import Derived.Shelf.Strings.AsciiSet
import Derived.Shelf.Unicode.DecodeSlow
import Derived.Lib.ItoaNum
import Derived.Maps.OwnSet
import Derived.Maps.AppendAt
namespace Go.Proofs.YtfbkoieodflcpaaDoor
open Go.RowKit

theorem up_part {b : UInt8} (h : upB b = true) : partB b = true := by unfold partB; rw [h]; rfl
theorem snoc_dig (l : List UInt8) (j i : Nat) (hji : j ≤ i) (h : i < l.length) : ((l.drop j).take (i + 1 - j)).all isDig = (((l.drop j).take (i - j)).all isDig && isDig l[i]) := by
  rw [show i + 1 - j = (i - j) + 1 by omega, List.take_add_one, List.getElem?_drop, show j + (i - j) = i by omega, List.getElem?_eq_getElem h]
  simp
theorem up_drop (l : List UInt8) : l.dropWhile upB = l.drop (l.takeWhile upB).length := by
  have h : l.takeWhile upB ++ l.dropWhile upB = l := List.takeWhile_append_dropWhile
  have h2 : (l.takeWhile upB ++ l.dropWhile upB).drop (l.takeWhile upB).length = l.dropWhile upB := List.drop_left
  rw [h] at h2
  exact h2.symm
theorem up_all (l : List UInt8) (j : Nat) (h : j < l.length) (hj : j < (l.takeWhile upB).length) : upB l[j] = true := by
  have e : l.takeWhile upB ++ l.dropWhile upB = l := List.takeWhile_append_dropWhile
  have h1 : l[j]? = (l.takeWhile upB)[j]? := by
    conv => lhs; rw [← e]
    rw [List.getElem?_append_left hj]
  rw [List.getElem?_eq_getElem h, List.getElem?_eq_getElem hj] at h1
  rw [Option.some.inj h1]
  exact List.all_takeWhile (p := upB) (l := l) |> List.all_eq_true.1 |> fun k => k _ (List.getElem_mem hj)
theorem up_end (l : List UInt8) (h : (l.takeWhile upB).length < l.length) : upB l[(l.takeWhile upB).length] = false := by
  have h1 : l[(l.takeWhile upB).length]? = (l.dropWhile upB)[0]? := by rw [up_drop, List.getElem?_drop, Nat.add_zero]
  rw [List.getElem?_eq_getElem h] at h1
  cases hd : l.dropWhile upB with
  | nil => rw [hd] at h1; cases h1
  | cons b r =>
    rw [hd] at h1
    have h2 : l[(l.takeWhile upB).length] = b := Option.some.inj h1
    rw [h2]
    have h3 := List.head?_dropWhile_not upB l
    rw [hd] at h3
    simpa using h3
theorem named_bad (l : List UInt8) (j : Nat) (h : j < l.length) (hp : partB l[j] = false) : namedB l = false := by
  unfold namedB
  have : l.all partB = false := List.all_eq_false.2 ⟨_, List.getElem_mem h, by simp [hp]⟩
  rw [this]
  simp
theorem named_good (l : List UInt8) (hl : 1 ≤ l.length) (hl2 : l.length ≤ 16) (n1 : l ≠ [84, 82, 85, 69]) (n2 : l ≠ [70, 65, 76, 83, 69]) (hu : 0 < (l.takeWhile upB).length) (hp : ∀ j (h : j < l.length), partB l[j] = true) : namedB l = !(decide ((l.takeWhile upB).length < l.length) && (l.drop (l.takeWhile upB).length).all isDig) := by
  have h1 : l.all partB = true := List.all_eq_true.2 fun b hb => by
    obtain ⟨i, hi, rfl⟩ := List.getElem_of_mem hb
    exact hp i hi
  have h2 : l.head?.any upB = true := by
    cases l with
    | nil => simp at hl
    | cons b r => exact up_all (b :: r) 0 (by simp) hu
  have h3 : (!(l.drop (l.takeWhile upB).length).isEmpty) = decide ((l.takeWhile upB).length < l.length) := by
    rw [Bool.eq_iff_iff]
    simp [List.drop_eq_nil_iff]
  unfold namedB meantB
  rw [h1, up_drop, h3]
  have h4 : (decide (1 ≤ l.length) && decide (l.length ≤ 16) && !(decide (l = [84, 82, 85, 69]) || decide (l = [70, 65, 76, 83, 69]))) = true := by simp [hl, hl2, n1, n2]
  rw [h4, Bool.true_and]
  revert h2
  cases l with
  | nil => intro h2; cases h2
  | cons b r =>
    intro h2
    show ((upB b && true) && _) = _
    rw [show upB b = true from h2]
    simp
theorem named_zero (l : List UInt8) (hu : (l.takeWhile upB).length = 0) : namedB l = false := by
  cases l with
  | nil => rfl
  | cons b r =>
    have h := up_end (b :: r) (by rw [hu]; simp)
    have h2 : upB b = false := by simpa [hu] using h
    unfold namedB
    simp [h2]
set_option maxRecDepth 100000 in
set_option maxHeartbeats 4000000 in
theorem rnamed_mid (l : List UInt8) (hl : 1 ≤ l.length) (hl2 : l.length ≤ 16) (n1 : l ≠ [84, 82, 85, 69]) (n2 : l ≠ [70, 65, 76, 83, 69]) (r : Bool) (hr : namedB l = r) (w : World) : Calls Tryd.prog 50 #[.string ⟨l.toArray⟩] w fun e w' => e = .returned (.bool r) ∧ w = w' := by
  have m1 : ((⟨l.toArray⟩ : ByteArray) = ⟨#[84, 82, 85, 69]⟩) = False := by rw [show (⟨#[84, 82, 85, 69]⟩ : ByteArray) = ⟨([84, 82, 85, 69] : List UInt8).toArray⟩ from rfl, list_bytes]; exact eq_false n1
  have m2 : ((⟨l.toArray⟩ : ByteArray) = ⟨#[70, 65, 76, 83, 69]⟩) = False := by rw [show (⟨#[70, 65, 76, 83, 69]⟩ : ByteArray) = ⟨([70, 65, 76, 83, 69] : List UInt8).toArray⟩ from rfl, list_bytes]; exact eq_false n2
  obtain ⟨u, hu⟩ : ∃ u, (l.takeWhile upB).length = u := ⟨_, rfl⟩
  have hul : u ≤ l.length := by rw [← hu]; exact (List.takeWhile_sublist _).length_le
  have hA : Hid (∀ j (h : j < l.length), j < u → upB l[j] = true) := Lib.hid fun j h hj => up_all l j h (by rw [hu]; exact hj)
  have hD : Hid (∀ h : u < l.length, upB l[u] = false) := Lib.hid (by subst hu; exact up_end l)
  have hG : Hid (0 < u → (∀ j (h : j < l.length), partB l[j] = true) → r = !(decide (u < l.length) && (l.drop u).all isDig)) := Lib.hid (by subst hu; subst hr; exact named_good l hl hl2 n1 n2)
  have hB : Hid (∀ j (h : j < l.length), partB l[j] = false → r = false) := Lib.hid (by subst hr; exact named_bad l)
  have hZ : Hid (u = 0 → r = false) := Lib.hid (by subst hu; subst hr; exact named_zero l)
  clear n1 n2 hr hu
  go_enter Tryd.func50, Tryd.ntmps50
  go_wp2
  go_loop [3] (fun i => ∃ j : Nat, j ≤ u ∧ i = .int .i64 (j : Int)) (fun i => u - (intOf i).toNat)
  case atStart => exact ⟨0, by omega, rfl⟩
  case round =>
    obtain ⟨j, hj, rfl⟩ := hrel
    by_cases hju : j < u
    · have hlen : j < l.length := by omega
      have hb : j < (⟨l.toArray⟩ : ByteArray).size := by show j < l.toArray.size; simpa using hlen
      have hjl : (j : Int) < (l.length : Int) := by omega
      have hj0 : (0 : Int) ≤ (j : Int) := by omega
      have hup : upB ((⟨l.toArray⟩ : ByteArray)[j]'hb) = true := hA.out j hlen hju
      have c1 : 65 ≤ ((⟨l.toArray⟩ : ByteArray)[j]'hb).toNat := by have := hup; simp [upB] at this; exact this.1
      have c2 : ((⟨l.toArray⟩ : ByteArray)[j]'hb).toNat ≤ 90 := by have := hup; simp [upB] at this; exact this.2
      have hw : IntKind.i64.wrap ((j : Int) + 1) = (j : Int) + 1 := IntWalk.i64_in _ (by omega)
      clear hup
      go_wp2
      go_round
      case rel => exact ⟨j + 1, by omega, by go_num⟩
      case measure => simp [intOf]; omega
    · obtain rfl : j = u := by omega
      clear hju hj
      -- the letters' end
      have key : Hid (j = l.length ∨ ∃ h : j < l.length, upB l[j] = false) := Lib.hid (by
        by_cases h : j < l.length
        · exact Or.inr ⟨h, hD.out h⟩
        · exact Or.inl (by omega))
      by_cases hj0 : j = 0
      · subst hj0
        have hc : l.length = 0 ∨ ∃ hb : 0 < (⟨l.toArray⟩ : ByteArray).size, (((⟨l.toArray⟩ : ByteArray)[0]'hb).toNat < 65 ∨ 90 < ((⟨l.toArray⟩ : ByteArray)[0]'hb).toNat) := by
          rcases key.out with h | ⟨h, h2⟩
          · exact Or.inl h.symm
          · refine Or.inr ⟨by show 0 < l.toArray.size; simpa using h, ?_⟩
            have h3 : upB ((⟨l.toArray⟩ : ByteArray)[0]'(by show 0 < l.toArray.size; simpa using h)) = false := h2
            simp [upB] at h3
            omega
        rcases hc with h | ⟨hb, hc | hc⟩
        · omega
        · have hl0 : (0 : Int) < (l.length : Int) := by omega
          go_wp2
          go_ret
          exact ⟨by rw [hZ.out trivial]; rfl, rfl⟩
        · have hl0 : (0 : Int) < (l.length : Int) := by omega
          have hc65 : 65 ≤ ((⟨l.toArray⟩ : ByteArray)[0]'hb).toNat := by omega
          go_wp2
          go_ret
          exact ⟨by rw [hZ.out trivial]; rfl, rfl⟩
      have hjp : 0 < j := by omega
      have hje : ((j : Int) == 0) = false := by simp; omega
      rcases Nat.lt_or_ge j l.length with hlt | hge
      · have hb : j < (⟨l.toArray⟩ : ByteArray).size := by show j < l.toArray.size; simpa using hlt
        have hjl : (j : Int) < (l.length : Int) := by omega
        have hjz : (0 : Int) ≤ (j : Int) := by omega
        have hc : ((⟨l.toArray⟩ : ByteArray)[j]'hb).toNat < 65 ∨ 90 < ((⟨l.toArray⟩ : ByteArray)[j]'hb).toNat := by
          have h3 : upB ((⟨l.toArray⟩ : ByteArray)[j]'hb) = false := hD.out hlt
          simp [upB] at h3
          omega
        rcases hc with hc | hc
        · go_wp2
          clear hc
          go_loop [4, 5] (fun b iv => ∃ (i : Nat) (pb : Bool), j ≤ i ∧ i ≤ l.length ∧ iv = .int .i64 (i : Int) ∧ b = .bool pb ∧ Hid (∀ i2 (h : i2 < l.length), i2 < i → partB l[i2] = true) ∧ Hid (pb = (decide (j < l.length) && ((l.drop j).take (i - j)).all isDig))) (fun _ iv => l.length - (intOf iv).toNat)
          case atStart => exact ⟨j, true, by omega, by omega, rfl, rfl, Lib.hid (fun i2 h hi2 => up_part (hA.out i2 h hi2)), Lib.hid (by rw [Nat.sub_self]; simp; omega)⟩
          case round =>
            obtain ⟨i, pb, hji, hil, rfl, rfl, hP, hpb⟩ := hrel
            by_cases hlen : i < l.length
            · have hb : i < (⟨l.toArray⟩ : ByteArray).size := by show i < l.toArray.size; simpa using hlen
              have hjl : (i : Int) < (l.length : Int) := by omega
              have hj0 : (0 : Int) ≤ (i : Int) := by omega
              have hw : IntKind.i64.wrap ((i : Int) + 1) = (i : Int) + 1 := IntWalk.i64_in _ (by omega)
              have hcs : ((⟨l.toArray⟩ : ByteArray)[i]'hb).toNat < 48 ∨ (48 ≤ ((⟨l.toArray⟩ : ByteArray)[i]'hb).toNat ∧ ((⟨l.toArray⟩ : ByteArray)[i]'hb).toNat ≤ 57) ∨ (57 < ((⟨l.toArray⟩ : ByteArray)[i]'hb).toNat ∧ ((⟨l.toArray⟩ : ByteArray)[i]'hb).toNat < 65) ∨ (65 ≤ ((⟨l.toArray⟩ : ByteArray)[i]'hb).toNat ∧ ((⟨l.toArray⟩ : ByteArray)[i]'hb).toNat ≤ 90) ∨ ((⟨l.toArray⟩ : ByteArray)[i]'hb).toNat = 95 ∨ (90 < ((⟨l.toArray⟩ : ByteArray)[i]'hb).toNat ∧ ((⟨l.toArray⟩ : ByteArray)[i]'hb).toNat ≠ 95) := by omega
              rcases hcs with c1 | ⟨c1, c2⟩ | ⟨c1, c2⟩ | ⟨c1, c2⟩ | c1 | ⟨c1, c2⟩
              · have hnp : Hid (partB ((⟨l.toArray⟩ : ByteArray)[i]'hb) = false) := Lib.hid (by unfold partB upB isDig; simp; omega)
                have d1 : ((⟨l.toArray⟩ : ByteArray)[i]'hb).toNat < 65 := by omega
                have d2 : ((⟨l.toArray⟩ : ByteArray)[i]'hb).toNat ≠ 95 := by omega
                have g48 : decide ((48 : Int) ≤ ((((⟨l.toArray⟩ : ByteArray)[i]'hb).toNat : Nat) : Int)) = false := by simp; omega
                have g57 : decide (((((⟨l.toArray⟩ : ByteArray)[i]'hb).toNat : Nat) : Int) ≤ 57) = true := by simp; omega
                have g65 : decide ((65 : Int) ≤ ((((⟨l.toArray⟩ : ByteArray)[i]'hb).toNat : Nat) : Int)) = false := by simp; omega
                have g90 : decide (((((⟨l.toArray⟩ : ByteArray)[i]'hb).toNat : Nat) : Int) ≤ 90) = true := by simp; omega
                have g95 : (((((⟨l.toArray⟩ : ByteArray)[i]'hb).toNat : Nat) : Int) == 95) = false := by simp; omega
                go_wp2
                go_ret
                exact ⟨by rw [hB.out i hlen hnp.out]; rfl, rfl⟩
              · have hpt : Hid (partB ((⟨l.toArray⟩ : ByteArray)[i]'hb) = true) := Lib.hid (by unfold partB upB isDig; simp; omega)
                have hdg : Hid (isDig ((⟨l.toArray⟩ : ByteArray)[i]'hb) = true) := Lib.hid (by unfold isDig; simp; omega)
                have d1 : ((⟨l.toArray⟩ : ByteArray)[i]'hb).toNat < 65 := by omega
                have g48 : decide ((48 : Int) ≤ ((((⟨l.toArray⟩ : ByteArray)[i]'hb).toNat : Nat) : Int)) = true := by simp; omega
                have g57 : decide (((((⟨l.toArray⟩ : ByteArray)[i]'hb).toNat : Nat) : Int) ≤ 57) = true := by simp; omega
                have g65 : decide ((65 : Int) ≤ ((((⟨l.toArray⟩ : ByteArray)[i]'hb).toNat : Nat) : Int)) = false := by simp; omega
                have g90 : decide (((((⟨l.toArray⟩ : ByteArray)[i]'hb).toNat : Nat) : Int) ≤ 90) = true := by simp; omega
                have g95 : (((((⟨l.toArray⟩ : ByteArray)[i]'hb).toNat : Nat) : Int) == 95) = false := by simp; omega
                go_wp2
                go_round
                case rel => exact ⟨i + 1, pb, by omega, by omega, by go_num, rfl, Lib.hid (fun i2 h hi2 => by
                  rcases Nat.lt_or_ge i2 i with h9 | h9
                  · exact hP.out i2 h h9
                  · obtain rfl : i2 = i := by omega
                    exact hpt.out), Lib.hid (by rw [snoc_dig l j i hji hlen, show isDig l[i] = true from by have := hdg.out; exact this, Bool.and_true]; exact hpb.out)⟩
                case measure => simp [intOf]; omega
              · have hnp : Hid (partB ((⟨l.toArray⟩ : ByteArray)[i]'hb) = false) := Lib.hid (by unfold partB upB isDig; simp; omega)
                have d1 : 48 ≤ ((⟨l.toArray⟩ : ByteArray)[i]'hb).toNat := by omega
                have d2 : ((⟨l.toArray⟩ : ByteArray)[i]'hb).toNat ≠ 95 := by omega
                have g48 : decide ((48 : Int) ≤ ((((⟨l.toArray⟩ : ByteArray)[i]'hb).toNat : Nat) : Int)) = true := by simp; omega
                have g57 : decide (((((⟨l.toArray⟩ : ByteArray)[i]'hb).toNat : Nat) : Int) ≤ 57) = false := by simp; omega
                have g65 : decide ((65 : Int) ≤ ((((⟨l.toArray⟩ : ByteArray)[i]'hb).toNat : Nat) : Int)) = false := by simp; omega
                have g90 : decide (((((⟨l.toArray⟩ : ByteArray)[i]'hb).toNat : Nat) : Int) ≤ 90) = true := by simp; omega
                have g95 : (((((⟨l.toArray⟩ : ByteArray)[i]'hb).toNat : Nat) : Int) == 95) = false := by simp; omega
                go_wp2
                go_ret
                exact ⟨by rw [hB.out i hlen hnp.out]; rfl, rfl⟩
              · have hpt : Hid (partB ((⟨l.toArray⟩ : ByteArray)[i]'hb) = true) := Lib.hid (by unfold partB upB isDig; simp; omega)
                have hdg : Hid (isDig ((⟨l.toArray⟩ : ByteArray)[i]'hb) = false) := Lib.hid (by unfold isDig; simp; omega)
                have d1 : 48 ≤ ((⟨l.toArray⟩ : ByteArray)[i]'hb).toNat := by omega
                have d2 : 57 < ((⟨l.toArray⟩ : ByteArray)[i]'hb).toNat := by omega
                have g48 : decide ((48 : Int) ≤ ((((⟨l.toArray⟩ : ByteArray)[i]'hb).toNat : Nat) : Int)) = true := by simp; omega
                have g57 : decide (((((⟨l.toArray⟩ : ByteArray)[i]'hb).toNat : Nat) : Int) ≤ 57) = false := by simp; omega
                have g65 : decide ((65 : Int) ≤ ((((⟨l.toArray⟩ : ByteArray)[i]'hb).toNat : Nat) : Int)) = true := by simp; omega
                have g90 : decide (((((⟨l.toArray⟩ : ByteArray)[i]'hb).toNat : Nat) : Int) ≤ 90) = true := by simp; omega
                have g95 : (((((⟨l.toArray⟩ : ByteArray)[i]'hb).toNat : Nat) : Int) == 95) = false := by simp; omega
                go_wp2
                go_round
                case rel => exact ⟨i + 1, false, by omega, by omega, by go_num, rfl, Lib.hid (fun i2 h hi2 => by
                  rcases Nat.lt_or_ge i2 i with h9 | h9
                  · exact hP.out i2 h h9
                  · obtain rfl : i2 = i := by omega
                    exact hpt.out), Lib.hid (by rw [snoc_dig l j i hji hlen, show isDig l[i] = false from by have := hdg.out; exact this]; simp)⟩
                case measure => simp [intOf]; omega
              · have hpt : Hid (partB ((⟨l.toArray⟩ : ByteArray)[i]'hb) = true) := Lib.hid (by unfold partB upB isDig; simp; omega)
                have hdg : Hid (isDig ((⟨l.toArray⟩ : ByteArray)[i]'hb) = false) := Lib.hid (by unfold isDig; simp; omega)
                have d1 : 48 ≤ ((⟨l.toArray⟩ : ByteArray)[i]'hb).toNat := by omega
                have d2 : 57 < ((⟨l.toArray⟩ : ByteArray)[i]'hb).toNat := by omega
                have d3 : 65 ≤ ((⟨l.toArray⟩ : ByteArray)[i]'hb).toNat := by omega
                have d4 : 90 < ((⟨l.toArray⟩ : ByteArray)[i]'hb).toNat := by omega
                have g48 : decide ((48 : Int) ≤ ((((⟨l.toArray⟩ : ByteArray)[i]'hb).toNat : Nat) : Int)) = true := by simp; omega
                have g57 : decide (((((⟨l.toArray⟩ : ByteArray)[i]'hb).toNat : Nat) : Int) ≤ 57) = false := by simp; omega
                have g65 : decide ((65 : Int) ≤ ((((⟨l.toArray⟩ : ByteArray)[i]'hb).toNat : Nat) : Int)) = true := by simp; omega
                have g90 : decide (((((⟨l.toArray⟩ : ByteArray)[i]'hb).toNat : Nat) : Int) ≤ 90) = false := by simp; omega
                have g95 : (((((⟨l.toArray⟩ : ByteArray)[i]'hb).toNat : Nat) : Int) == 95) = true := by simp; omega
                go_wp2
                go_round
                case rel => exact ⟨i + 1, false, by omega, by omega, by go_num, rfl, Lib.hid (fun i2 h hi2 => by
                  rcases Nat.lt_or_ge i2 i with h9 | h9
                  · exact hP.out i2 h h9
                  · obtain rfl : i2 = i := by omega
                    exact hpt.out), Lib.hid (by rw [snoc_dig l j i hji hlen, show isDig l[i] = false from by have := hdg.out; exact this]; simp)⟩
                case measure => simp [intOf]; omega
              · have hnp : Hid (partB ((⟨l.toArray⟩ : ByteArray)[i]'hb) = false) := Lib.hid (by unfold partB upB isDig; simp; omega)
                have d1 : 48 ≤ ((⟨l.toArray⟩ : ByteArray)[i]'hb).toNat := by omega
                have d2 : 57 < ((⟨l.toArray⟩ : ByteArray)[i]'hb).toNat := by omega
                have d3 : 65 ≤ ((⟨l.toArray⟩ : ByteArray)[i]'hb).toNat := by omega
                have g48 : decide ((48 : Int) ≤ ((((⟨l.toArray⟩ : ByteArray)[i]'hb).toNat : Nat) : Int)) = true := by simp; omega
                have g57 : decide (((((⟨l.toArray⟩ : ByteArray)[i]'hb).toNat : Nat) : Int) ≤ 57) = false := by simp; omega
                have g65 : decide ((65 : Int) ≤ ((((⟨l.toArray⟩ : ByteArray)[i]'hb).toNat : Nat) : Int)) = true := by simp; omega
                have g90 : decide (((((⟨l.toArray⟩ : ByteArray)[i]'hb).toNat : Nat) : Int) ≤ 90) = false := by simp; omega
                have g95 : (((((⟨l.toArray⟩ : ByteArray)[i]'hb).toNat : Nat) : Int) == 95) = false := by simp; omega
                go_wp2
                go_ret
                exact ⟨by rw [hB.out i hlen hnp.out]; rfl, rfl⟩
            · obtain rfl : i = l.length := by omega
              have hres : Hid (r = !pb) := Lib.hid (by
                rw [hpb.out, hG.out (by omega) (fun i2 h => hP.out i2 h h), List.take_of_length_le (by rw [List.length_drop]; omega)])
              have hnn : ¬ ((l.length : Int) < (l.length : Int)) := by omega
              go_wp2
              go_ret
              exact ⟨by rw [hres.out]; rfl, rfl⟩
        · have hc65 : 65 ≤ ((⟨l.toArray⟩ : ByteArray)[j]'hb).toNat := by omega
          go_wp2
          clear hc hc65
          go_loop [4, 5] (fun b iv => ∃ (i : Nat) (pb : Bool), j ≤ i ∧ i ≤ l.length ∧ iv = .int .i64 (i : Int) ∧ b = .bool pb ∧ Hid (∀ i2 (h : i2 < l.length), i2 < i → partB l[i2] = true) ∧ Hid (pb = (decide (j < l.length) && ((l.drop j).take (i - j)).all isDig))) (fun _ iv => l.length - (intOf iv).toNat)
          case atStart => exact ⟨j, true, by omega, by omega, rfl, rfl, Lib.hid (fun i2 h hi2 => up_part (hA.out i2 h hi2)), Lib.hid (by rw [Nat.sub_self]; simp; omega)⟩
          case round =>
            obtain ⟨i, pb, hji, hil, rfl, rfl, hP, hpb⟩ := hrel
            by_cases hlen : i < l.length
            · have hb : i < (⟨l.toArray⟩ : ByteArray).size := by show i < l.toArray.size; simpa using hlen
              have hjl : (i : Int) < (l.length : Int) := by omega
              have hj0 : (0 : Int) ≤ (i : Int) := by omega
              have hw : IntKind.i64.wrap ((i : Int) + 1) = (i : Int) + 1 := IntWalk.i64_in _ (by omega)
              have hcs : ((⟨l.toArray⟩ : ByteArray)[i]'hb).toNat < 48 ∨ (48 ≤ ((⟨l.toArray⟩ : ByteArray)[i]'hb).toNat ∧ ((⟨l.toArray⟩ : ByteArray)[i]'hb).toNat ≤ 57) ∨ (57 < ((⟨l.toArray⟩ : ByteArray)[i]'hb).toNat ∧ ((⟨l.toArray⟩ : ByteArray)[i]'hb).toNat < 65) ∨ (65 ≤ ((⟨l.toArray⟩ : ByteArray)[i]'hb).toNat ∧ ((⟨l.toArray⟩ : ByteArray)[i]'hb).toNat ≤ 90) ∨ ((⟨l.toArray⟩ : ByteArray)[i]'hb).toNat = 95 ∨ (90 < ((⟨l.toArray⟩ : ByteArray)[i]'hb).toNat ∧ ((⟨l.toArray⟩ : ByteArray)[i]'hb).toNat ≠ 95) := by omega
              rcases hcs with c1 | ⟨c1, c2⟩ | ⟨c1, c2⟩ | ⟨c1, c2⟩ | c1 | ⟨c1, c2⟩
              · have hnp : Hid (partB ((⟨l.toArray⟩ : ByteArray)[i]'hb) = false) := Lib.hid (by unfold partB upB isDig; simp; omega)
                have d1 : ((⟨l.toArray⟩ : ByteArray)[i]'hb).toNat < 65 := by omega
                have d2 : ((⟨l.toArray⟩ : ByteArray)[i]'hb).toNat ≠ 95 := by omega
                have g48 : decide ((48 : Int) ≤ ((((⟨l.toArray⟩ : ByteArray)[i]'hb).toNat : Nat) : Int)) = false := by simp; omega
                have g57 : decide (((((⟨l.toArray⟩ : ByteArray)[i]'hb).toNat : Nat) : Int) ≤ 57) = true := by simp; omega
                have g65 : decide ((65 : Int) ≤ ((((⟨l.toArray⟩ : ByteArray)[i]'hb).toNat : Nat) : Int)) = false := by simp; omega
                have g90 : decide (((((⟨l.toArray⟩ : ByteArray)[i]'hb).toNat : Nat) : Int) ≤ 90) = true := by simp; omega
                have g95 : (((((⟨l.toArray⟩ : ByteArray)[i]'hb).toNat : Nat) : Int) == 95) = false := by simp; omega
                go_wp2
                go_ret
                exact ⟨by rw [hB.out i hlen hnp.out]; rfl, rfl⟩
              · have hpt : Hid (partB ((⟨l.toArray⟩ : ByteArray)[i]'hb) = true) := Lib.hid (by unfold partB upB isDig; simp; omega)
                have hdg : Hid (isDig ((⟨l.toArray⟩ : ByteArray)[i]'hb) = true) := Lib.hid (by unfold isDig; simp; omega)
                have d1 : ((⟨l.toArray⟩ : ByteArray)[i]'hb).toNat < 65 := by omega
                have g48 : decide ((48 : Int) ≤ ((((⟨l.toArray⟩ : ByteArray)[i]'hb).toNat : Nat) : Int)) = true := by simp; omega
                have g57 : decide (((((⟨l.toArray⟩ : ByteArray)[i]'hb).toNat : Nat) : Int) ≤ 57) = true := by simp; omega
                have g65 : decide ((65 : Int) ≤ ((((⟨l.toArray⟩ : ByteArray)[i]'hb).toNat : Nat) : Int)) = false := by simp; omega
                have g90 : decide (((((⟨l.toArray⟩ : ByteArray)[i]'hb).toNat : Nat) : Int) ≤ 90) = true := by simp; omega
                have g95 : (((((⟨l.toArray⟩ : ByteArray)[i]'hb).toNat : Nat) : Int) == 95) = false := by simp; omega
                go_wp2
                go_round
                case rel => exact ⟨i + 1, pb, by omega, by omega, by go_num, rfl, Lib.hid (fun i2 h hi2 => by
                  rcases Nat.lt_or_ge i2 i with h9 | h9
                  · exact hP.out i2 h h9
                  · obtain rfl : i2 = i := by omega
                    exact hpt.out), Lib.hid (by rw [snoc_dig l j i hji hlen, show isDig l[i] = true from by have := hdg.out; exact this, Bool.and_true]; exact hpb.out)⟩
                case measure => simp [intOf]; omega
              · have hnp : Hid (partB ((⟨l.toArray⟩ : ByteArray)[i]'hb) = false) := Lib.hid (by unfold partB upB isDig; simp; omega)
                have d1 : 48 ≤ ((⟨l.toArray⟩ : ByteArray)[i]'hb).toNat := by omega
                have d2 : ((⟨l.toArray⟩ : ByteArray)[i]'hb).toNat ≠ 95 := by omega
                have g48 : decide ((48 : Int) ≤ ((((⟨l.toArray⟩ : ByteArray)[i]'hb).toNat : Nat) : Int)) = true := by simp; omega
                have g57 : decide (((((⟨l.toArray⟩ : ByteArray)[i]'hb).toNat : Nat) : Int) ≤ 57) = false := by simp; omega
                have g65 : decide ((65 : Int) ≤ ((((⟨l.toArray⟩ : ByteArray)[i]'hb).toNat : Nat) : Int)) = false := by simp; omega
                have g90 : decide (((((⟨l.toArray⟩ : ByteArray)[i]'hb).toNat : Nat) : Int) ≤ 90) = true := by simp; omega
                have g95 : (((((⟨l.toArray⟩ : ByteArray)[i]'hb).toNat : Nat) : Int) == 95) = false := by simp; omega
                go_wp2
                go_ret
                exact ⟨by rw [hB.out i hlen hnp.out]; rfl, rfl⟩
              · have hpt : Hid (partB ((⟨l.toArray⟩ : ByteArray)[i]'hb) = true) := Lib.hid (by unfold partB upB isDig; simp; omega)
                have hdg : Hid (isDig ((⟨l.toArray⟩ : ByteArray)[i]'hb) = false) := Lib.hid (by unfold isDig; simp; omega)
                have d1 : 48 ≤ ((⟨l.toArray⟩ : ByteArray)[i]'hb).toNat := by omega
                have d2 : 57 < ((⟨l.toArray⟩ : ByteArray)[i]'hb).toNat := by omega
                have g48 : decide ((48 : Int) ≤ ((((⟨l.toArray⟩ : ByteArray)[i]'hb).toNat : Nat) : Int)) = true := by simp; omega
                have g57 : decide (((((⟨l.toArray⟩ : ByteArray)[i]'hb).toNat : Nat) : Int) ≤ 57) = false := by simp; omega
                have g65 : decide ((65 : Int) ≤ ((((⟨l.toArray⟩ : ByteArray)[i]'hb).toNat : Nat) : Int)) = true := by simp; omega
                have g90 : decide (((((⟨l.toArray⟩ : ByteArray)[i]'hb).toNat : Nat) : Int) ≤ 90) = true := by simp; omega
                have g95 : (((((⟨l.toArray⟩ : ByteArray)[i]'hb).toNat : Nat) : Int) == 95) = false := by simp; omega
                go_wp2
                go_round
                case rel => exact ⟨i + 1, false, by omega, by omega, by go_num, rfl, Lib.hid (fun i2 h hi2 => by
                  rcases Nat.lt_or_ge i2 i with h9 | h9
                  · exact hP.out i2 h h9
                  · obtain rfl : i2 = i := by omega
                    exact hpt.out), Lib.hid (by rw [snoc_dig l j i hji hlen, show isDig l[i] = false from by have := hdg.out; exact this]; simp)⟩
                case measure => simp [intOf]; omega
              · have hpt : Hid (partB ((⟨l.toArray⟩ : ByteArray)[i]'hb) = true) := Lib.hid (by unfold partB upB isDig; simp; omega)
                have hdg : Hid (isDig ((⟨l.toArray⟩ : ByteArray)[i]'hb) = false) := Lib.hid (by unfold isDig; simp; omega)
                have d1 : 48 ≤ ((⟨l.toArray⟩ : ByteArray)[i]'hb).toNat := by omega
                have d2 : 57 < ((⟨l.toArray⟩ : ByteArray)[i]'hb).toNat := by omega
                have d3 : 65 ≤ ((⟨l.toArray⟩ : ByteArray)[i]'hb).toNat := by omega
                have d4 : 90 < ((⟨l.toArray⟩ : ByteArray)[i]'hb).toNat := by omega
                have g48 : decide ((48 : Int) ≤ ((((⟨l.toArray⟩ : ByteArray)[i]'hb).toNat : Nat) : Int)) = true := by simp; omega
                have g57 : decide (((((⟨l.toArray⟩ : ByteArray)[i]'hb).toNat : Nat) : Int) ≤ 57) = false := by simp; omega
                have g65 : decide ((65 : Int) ≤ ((((⟨l.toArray⟩ : ByteArray)[i]'hb).toNat : Nat) : Int)) = true := by simp; omega
                have g90 : decide (((((⟨l.toArray⟩ : ByteArray)[i]'hb).toNat : Nat) : Int) ≤ 90) = false := by simp; omega
                have g95 : (((((⟨l.toArray⟩ : ByteArray)[i]'hb).toNat : Nat) : Int) == 95) = true := by simp; omega
                go_wp2
                go_round
                case rel => exact ⟨i + 1, false, by omega, by omega, by go_num, rfl, Lib.hid (fun i2 h hi2 => by
                  rcases Nat.lt_or_ge i2 i with h9 | h9
                  · exact hP.out i2 h h9
                  · obtain rfl : i2 = i := by omega
                    exact hpt.out), Lib.hid (by rw [snoc_dig l j i hji hlen, show isDig l[i] = false from by have := hdg.out; exact this]; simp)⟩
                case measure => simp [intOf]; omega
              · have hnp : Hid (partB ((⟨l.toArray⟩ : ByteArray)[i]'hb) = false) := Lib.hid (by unfold partB upB isDig; simp; omega)
                have d1 : 48 ≤ ((⟨l.toArray⟩ : ByteArray)[i]'hb).toNat := by omega
                have d2 : 57 < ((⟨l.toArray⟩ : ByteArray)[i]'hb).toNat := by omega
                have d3 : 65 ≤ ((⟨l.toArray⟩ : ByteArray)[i]'hb).toNat := by omega
                have g48 : decide ((48 : Int) ≤ ((((⟨l.toArray⟩ : ByteArray)[i]'hb).toNat : Nat) : Int)) = true := by simp; omega
                have g57 : decide (((((⟨l.toArray⟩ : ByteArray)[i]'hb).toNat : Nat) : Int) ≤ 57) = false := by simp; omega
                have g65 : decide ((65 : Int) ≤ ((((⟨l.toArray⟩ : ByteArray)[i]'hb).toNat : Nat) : Int)) = true := by simp; omega
                have g90 : decide (((((⟨l.toArray⟩ : ByteArray)[i]'hb).toNat : Nat) : Int) ≤ 90) = false := by simp; omega
                have g95 : (((((⟨l.toArray⟩ : ByteArray)[i]'hb).toNat : Nat) : Int) == 95) = false := by simp; omega
                go_wp2
                go_ret
                exact ⟨by rw [hB.out i hlen hnp.out]; rfl, rfl⟩
            · obtain rfl : i = l.length := by omega
              have hres : Hid (r = !pb) := Lib.hid (by
                rw [hpb.out, hG.out (by omega) (fun i2 h => hP.out i2 h h), List.take_of_length_le (by rw [List.length_drop]; omega)])
              have hnn : ¬ ((l.length : Int) < (l.length : Int)) := by omega
              go_wp2
              go_ret
              exact ⟨by rw [hres.out]; rfl, rfl⟩
      · obtain rfl : j = l.length := by omega
        have hnn : ¬ ((l.length : Int) < (l.length : Int)) := by omega
        go_wp2
        go_loop [4, 5] (fun b iv => iv = .int .i64 (l.length : Int) ∧ b = .bool false) (fun _ _ => 0)
        case atStart => exact ⟨rfl, rfl⟩
        case round =>
          obtain ⟨rfl, rfl⟩ := hrel
          have hres : Hid (r = !false) := Lib.hid (by
            rw [hG.out (by omega) (fun i2 h => up_part (hA.out i2 h h))]
            simp)
          go_wp2
          go_ret
          exact ⟨by rw [hres.out]; rfl, rfl⟩
end Go.Proofs.YtfbkoieodflcpaaDoor
