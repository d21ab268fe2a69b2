/-
  The plain law of numbers' texts, written: the four digits of a rest. No program in sight; The plain law of numbers' texts, read. No program in sight; Package dec and the document's own: May, size, signed; The plain law of numbers' texts: what is printed is read again as that number. No program in sight; The document's digits; The document's Parse of a number, by cases: what the two share; The plain law of numbers' texts, as the document's Parse goes along them: place by place. No program in sight.
-/
import Derived.Test.YtiekhbagpmnboaaGreatDoorRows
import Derived.Test.YtiekhbagpmnboaaGreatDoorMg0
import Derived.Test.YtiekhbagpmnboaaGreatDoorProg
import Derived.Lib.ItoaMem
import Derived.Lib.TrimByte
import Derived.Lib.IndexLaws
import Derived.Lib.SlTrimSet
import Derived.Lib.ParseIntB
import Derived.WalkSpells
import Derived.WalkLawsBesides
import Derived.StillTactics
import Derived.Laws.Pointers
import Derived.Deep.RegionHeld3
import Derived.Deep.QuietTactic
import Derived.BigQuiet
import Derived.RowKit3
import Derived.Lib.Hide
import Derived.Lib.OthersKept
import Derived.OwnWalk
import Derived.WalkKit
import Derived.ProofKit
import Derived.OpenShut
import Derived.Carry
import Derived.ChangeSame
import Derived.Deep.Draws
import Derived.Shelf.Strings.Builder1
import Derived.Shelf.Strings.Trim
import Derived.Shelf.Small.Utf8
import Derived.Shelf.Small.Strs
import Derived.Shelf.Small.Wraps
import Derived.Shelf.Strings.BuilderF
import Derived.Shelf.Strings.BuilderK
import Derived.Shelf.Strconv.Itoa0
import Derived.Shelf.Strconv.Itoa1
import Derived.Shelf.LaysM
import Derived.Shelf.Strconv.Itoa2
import Derived.Shelf.Strconv.Itoa3
import Derived.Ground.MpProg
import Derived.Shelf.Pu.ParseUintPublic10
import Derived.Shelf.Strings.Search1
import Derived.Shelf.Strings.Search2
import Derived.Shelf.Strings.Cut
import Derived.Shelf.Strings.Shaped
import Derived.Shelf.Strings.Prefix
import Derived.Shelf.Strings.Runes
import Derived.Shelf.Strings.AsciiSet
import Derived.Shelf.Unicode.DecodeSlow
namespace Go.Proofs.YtiekhbagpmnboaaGreatDoor
open Go

/-- four digits -/
def four (r : Nat) : List UInt8 := [UInt8.ofNat (48 + r / 1000), UInt8.ofNat (48 + r / 100 % 10), UInt8.ofNat (48 + r / 10 % 10), UInt8.ofNat (48 + r % 10)]
end Go.Proofs.YtiekhbagpmnboaaGreatDoor
namespace Go.Proofs.YtiekhbagpmnboaaGreatDoor
open Go

def isDig (b : UInt8) : Bool := decide (48 ≤ b.toNat) && decide (b.toNat ≤ 57)
/-- the number that digits stand for -/
def valF (v : Nat) (b : UInt8) : Nat := v * 10 + (b.toNat - 48)
def valL (l : List UInt8) : Nat := l.foldl valF 0
/-- digits, one to so many -/
def digOk (l : List UInt8) (m : Nat) : Bool := decide (0 < l.length) && decide (l.length ≤ m) && l.all isDig
/-- what may stand behind the whole part -/
def restOf : List UInt8 → Option (List UInt8)
  | [] => some []
  | b :: r => if b = 46 ∧ digOk r 4 = true then some r else .none
/-- a number of so many digits before and behind the point -/
def numOf (low : Bool) (D r : List UInt8) : Option Int :=
  if low = true ∧ valL (D ++ (r ++ List.replicate (4 - r.length) 48)) = 0 then .none
  else if valL (D ++ (r ++ List.replicate (4 - r.length) 48)) ≤ 9223372036854775807 then some (if low then -(valL (D ++ (r ++ List.replicate (4 - r.length) 48)) : Int) else (valL (D ++ (r ++ List.replicate (4 - r.length) 48)) : Int)) else .none
def wholeOk (D : List UInt8) : Bool := digOk D 15 && !(decide (1 < D.length) && D.head? == some 48)
def bodyOf (low : Bool) (t : List UInt8) : Option Int :=
  if wholeOk (t.takeWhile isDig) then
    match restOf (t.dropWhile isDig) with
    | some r => numOf low (t.takeWhile isDig) r
    | .none => .none
  else .none
def lowOf (l : List UInt8) : Bool := l.head? == some 45
def tailOf (l : List UInt8) : List UInt8 := if lowOf l then l.tail else l
/-- what Parse tells of a text -/
def numP (l : List UInt8) : Option Int := bodyOf (lowOf l) (tailOf l)
def numV (l : List UInt8) : Int := match numP l with | some x => x | .none => 0
def numOk (l : List UInt8) : Bool := (numP l).isSome

theorem all_take {t : List UInt8} (h : t.all isDig = true) : t.takeWhile isDig = t ∧ t.dropWhile isDig = [] := by
  induction t with
  | nil => simp
  | cons b t ih =>
    simp only [List.all_cons, Bool.and_eq_true] at h
    obtain ⟨h1, h2⟩ := ih h.2
    simp [h.1, h1, h2]
theorem all_take_dot {w r : List UInt8} {b : UInt8} (h : w.all isDig = true) (hb : isDig b = false) : (w ++ b :: r).takeWhile isDig = w ∧ (w ++ b :: r).dropWhile isDig = b :: r := by
  induction w with
  | nil => simp [hb]
  | cons c w ih =>
    simp only [List.all_cons, Bool.and_eq_true] at h
    obtain ⟨h1, h2⟩ := ih h.2
    simp [h.1, h1, h2]
theorem not_all {w r : List UInt8} (h : w.all isDig = false) (hd : ∀ b ∈ w, b ≠ 46) : ∃ b R, (w ++ r).dropWhile isDig = b :: R ∧ b ≠ 46 := by
  induction w with
  | nil => simp at h
  | cons c w ih =>
    cases hc : isDig c
    · exact ⟨c, w ++ r, by simp [hc], hd c (by simp)⟩
    · simp only [List.all_cons, hc, Bool.true_and] at h
      obtain ⟨b, R, e, hb⟩ := ih h (fun b hb => hd b (by simp [hb]))
      exact ⟨b, R, by simp [hc, e], hb⟩
theorem rest_other {b : UInt8} {R : List UInt8} (h : b ≠ 46) : restOf (b :: R) = .none := by simp [restOf, h]
theorem body_other {low : Bool} {t : List UInt8} (h : ∃ b R, t.dropWhile isDig = b :: R ∧ b ≠ 46) : bodyOf low t = .none := by
  obtain ⟨b, R, e, hb⟩ := h
  unfold bodyOf
  split
  · rw [e, rest_other hb]
  · rfl
/-- no point -/
theorem body_plain {low : Bool} {t : List UInt8} (h : Lib.indexByte t 46 = -1) : bodyOf low t = if wholeOk t then numOf low t [] else .none := by
  have hd : ∀ b ∈ t, b ≠ 46 := by
    intro b hb e
    subst e
    obtain ⟨i, hi, e⟩ := List.getElem_of_mem hb
    exact Lib.indexByte_none h i (by rw [List.getElem?_eq_getElem hi, e])
  cases ha : t.all isDig
  · rw [body_other (by have := not_all (r := []) ha hd; simpa using this)]
    simp [wholeOk, digOk, ha]
  · obtain ⟨h1, h2⟩ := all_take ha
    simp [bodyOf, h1, h2, restOf]
/-- a point at o -/
theorem body_point {low : Bool} {t : List UInt8} {o : Nat} (h : Lib.indexByte t 46 = o) (ho : o < t.length) {a b : List UInt8} (hA : a = t.take o) (hB : b = t.drop (o + 1)) :
    bodyOf low t = if wholeOk a && digOk b 4 then numOf low a b else .none := by
  obtain ⟨hg, hn⟩ := Lib.indexByte_some h
  have ht : t = a ++ 46 :: b := by
    have : t[o] = 46 := by rw [List.getElem?_eq_getElem ho] at hg; exact Option.some.inj hg
    rw [hA, hB, ← this, ← List.drop_eq_getElem_cons ho, List.take_append_drop]
  have hd : ∀ x ∈ a, x ≠ 46 := by
    intro x hx e
    subst e
    rw [hA] at hx
    obtain ⟨i, hi, e⟩ := List.getElem_of_mem hx
    have hio : i < o := by simp at hi; omega
    refine hn i hio ?_
    rw [List.getElem_take] at e
    rw [List.getElem?_eq_getElem (by omega), e]
  rw [ht]
  cases ha : a.all isDig
  · rw [body_other (not_all ha hd)]
    simp [wholeOk, digOk, ha]
  · obtain ⟨h1, h2⟩ := all_take_dot (r := b) (b := 46) ha (by decide)
    unfold bodyOf
    rw [h1, h2]
    cases hw : wholeOk a
    · simp
    · cases hk : digOk b 4
      · simp [restOf, hk]
      · simp [restOf, hk]

theorem val_snoc (l : List UInt8) (b : UInt8) : valL (l ++ [b]) = valL l * 10 + (b.toNat - 48) := by simp [valL, valF]
theorem valF_bound : ∀ (l : List UInt8) (v : Nat), l.all isDig = true → l.foldl valF v < (v + 1) * 10 ^ l.length
  | [], v, _ => by simp
  | b :: l, v, h => by
    simp only [List.all_cons, Bool.and_eq_true] at h
    have hb := h.1
    simp only [isDig, Bool.and_eq_true, decide_eq_true_eq] at hb
    have := valF_bound l (valF v b) h.2
    simp only [List.foldl_cons, List.length_cons, Nat.pow_succ]
    refine Nat.lt_of_lt_of_le this ?_
    rw [Nat.mul_comm (10 ^ l.length) 10, ← Nat.mul_assoc]
    refine Nat.mul_le_mul_right _ ?_
    unfold valF
    omega
theorem val_bound {l : List UInt8} (h : l.all isDig = true) : valL l < 10 ^ l.length := by
  have := valF_bound l 0 h
  simpa [valL] using this
theorem parse_ok : ∀ (l : List UInt8) (v : Nat), l.all isDig = true → (v + 1) * 10 ^ l.length ≤ 10000000000000000000 → Lib.parseUintM 18446744073709551615 v l = .ok (l.foldl valF v)
  | [], v, _, _ => by simp [Lib.parseUintM]
  | b :: l, v, h, hv => by
    simp only [List.all_cons, Bool.and_eq_true] at h
    have hb := h.1
    simp only [isDig, Bool.and_eq_true, decide_eq_true_eq] at hb
    have h10 : 1 ≤ 10 ^ l.length := Nat.one_le_pow _ _ (by omega)
    have hv2 : (v + 1) * 10 * 10 ^ l.length ≤ 10000000000000000000 := by
      rw [List.length_cons, Nat.pow_succ, Nat.mul_comm (10 ^ l.length) 10, ← Nat.mul_assoc] at hv
      exact hv
    have hv3 : (v + 1) * 10 ≤ 10000000000000000000 := Nat.le_trans (Nat.le_mul_of_pos_right _ h10) hv2
    have hv4 : (valF v b + 1) * 10 ^ l.length ≤ 10000000000000000000 := Nat.le_trans (Nat.mul_le_mul_right _ (by unfold valF; omega)) hv2
    simp only [Lib.parseUintM, List.foldl_cons]
    rw [if_pos hb, if_neg (by omega), if_neg (by omega)]
    exact parse_ok l _ h.2 hv4
theorem parse_ok64 {l : List UInt8} (h : l.all isDig = true) (h1 : 0 < l.length) (h2 : l.length ≤ 19) : Lib.parseUintB 64 l = .ok (valL l) := by
  unfold Lib.parseUintB
  rw [if_neg (by intro e; subst e; simp at h1)]
  refine parse_ok l 0 h ?_
  have : 10 ^ l.length ≤ 10 ^ 19 := Nat.pow_le_pow_right (by omega) h2
  omega
theorem dw_nil (p : UInt8 → Bool) : ∀ l : List UInt8, l.dropWhile p = [] ↔ ∀ b ∈ l, p b = true
  | [] => by simp
  | b :: l => by
    cases h : p b
    · simp [h]
    · simp [h, dw_nil p l]
theorem trim_digits (l : List UInt8) : (Lib.trimS l [48, 49, 50, 51, 52, 53, 54, 55, 56, 57] == []) = l.all isDig := by
  have hf : ∀ n : Fin 256, [48, 49, 50, 51, 52, 53, 54, 55, 56, 57].contains (UInt8.ofNat n.val) = isDig (UInt8.ofNat n.val) := by decide +kernel
  have hc : ∀ b : UInt8, [48, 49, 50, 51, 52, 53, 54, 55, 56, 57].contains b = isDig b := fun b => by
    have := hf ⟨b.toNat, b.toNat_lt⟩
    simpa using this
  unfold Lib.trimS Lib.trimLeftS Lib.trimRightS
  simp only [hc]
  rw [Bool.eq_iff_iff]
  simp only [beq_iff_eq, List.all_eq_true]
  constructor
  · intro h b hb
    rw [dw_nil] at h
    cases hd : isDig b with
    | true => rfl
    | false =>
      have hne : l.reverse.dropWhile isDig ≠ [] := by
        intro e
        rw [dw_nil] at e
        have := e b (by simpa using hb)
        rw [hd] at this; cases this
      cases hr : l.reverse.dropWhile isDig with
      | nil => exact absurd hr hne
      | cons c r =>
        have hcd : isDig c = false := by
          have := List.head?_dropWhile_not isDig l.reverse
          rw [hr] at this
          simpa using this
        have := h c (by rw [hr]; simp)
        rw [hcd] at this; cases this
  · intro h
    have e : l.reverse.dropWhile isDig = [] := by
      rw [dw_nil]
      intro b hb
      exact h b (by simpa using hb)
    rw [e]
    rfl
end Go.Proofs.YtiekhbagpmnboaaGreatDoor
namespace Go.Proofs.YtiekhbagpmnboaaGreatDoor
open Go.RowKit

/-- a number out of its exact value: too great ones have none -/
def exV (n : Int) : Int := if -9223372036854775807 ≤ n ∧ n ≤ 9223372036854775807 then n else 0
def exC (n : Int) : Int := if -9223372036854775807 ≤ n ∧ n ≤ 9223372036854775807 then 0 else 2
theorem ret_ii {a a' b b' : Int} (h : a = a') (k : b = b') : Ending.returned (.tuple #[.int .i64 a, .int .i64 b]) = Ending.returned (.tuple #[.int .i64 a', .int .i64 b']) := by rw [h, k]
theorem ret_ib {a a' : Int} {b b' : Bool} (h : a = a') (k : b = b') : Ending.returned (.tuple #[.int .i64 a, .bool b]) = Ending.returned (.tuple #[.int .i64 a', .bool b']) := by rw [h, k]
theorem ret_b {b b' : Bool} (k : b = b') : Ending.returned (.bool b) = Ending.returned (.bool b') := by rw [k]

set_option maxHeartbeats 400000 in
theorem signed_any (n : Int) (hn : 0 ≤ n ∧ n ≤ 18446744073709551615) (low : Bool) (w : World) : Calls Tryz.prog 78 #[.int .u64 n, .bool low] w fun e w' => e = .returned (.tuple #[.int .i64 (exV (if low then -n else n)), .int .i64 (exC (if low then -n else n))]) ∧ w = w' := by
  obtain ⟨n0, n1⟩ := hn
  cases low
  all_goals
    go_enter Tryz.func78, Tryz.ntmps78
    go_wp2
  all_goals go_ret2
  all_goals refine ⟨ret_ii ?_ ?_, rfl⟩
  all_goals simp [exV, exC]
  all_goals repeat' split
  all_goals omega
set_option maxHeartbeats 400000 in
theorem rsigned_any (n : Int) (hn : 0 ≤ n ∧ n ≤ 18446744073709551615) (low : Bool) (w : World) : Calls Tryz.prog 96 #[.int .u64 n, .bool low] w fun e w' => e = .returned (.tuple #[.int .i64 (exV (if low then -n else n)), .int .i64 (exC (if low then -n else n))]) ∧ w = w' := by
  obtain ⟨n0, n1⟩ := hn
  cases low
  all_goals
    go_enter Tryz.func96, Tryz.ntmps96
    go_wp2
  all_goals go_ret2
  all_goals refine ⟨ret_ii ?_ ?_, rfl⟩
  all_goals simp [exV, exC]
  all_goals repeat' split
  all_goals omega
end Go.Proofs.YtiekhbagpmnboaaGreatDoor
namespace Go.Proofs.YtiekhbagpmnboaaGreatDoor
open Go

theorem tw_all (p : UInt8 → Bool) : ∀ l : List UInt8, ∀ b ∈ l.takeWhile p, p b = true
  | [], b, h => by simp at h
  | a :: l, b, h => by
    cases ha : p a
    · simp [ha] at h
    · simp [ha] at h
      rcases h with rfl | h
      · exact ha
      · exact tw_all p l b h
end Go.Proofs.YtiekhbagpmnboaaGreatDoor
namespace Go.Proofs.YtiekhbagpmnboaaGreatDoor
open Go.RowKit

set_option maxHeartbeats 400000 in
theorem risdig (b : UInt8) (w : World) : Calls Tryz.prog 120 #[.int .u8 (b.toNat : Int)] w fun e w' => e = .returned (.bool (isDig b)) ∧ w = w' := by
  have hb := b.toNat_lt
  by_cases h1 : 48 ≤ b.toNat
  · by_cases h2 : b.toNat ≤ 57
    · have e := Lib.hid (show isDig b = true by simp [isDig, h1, h2])
      go_enter Tryz.func120, Tryz.ntmps120
      go_wp2
      go_ret
      exact ⟨ret_b (by rw [e.out]; simp; omega), rfl⟩
    · have e := Lib.hid (show isDig b = false by simp [isDig, h2])
      go_enter Tryz.func120, Tryz.ntmps120
      go_wp2
      go_ret
      exact ⟨ret_b (by rw [e.out]; simp; omega), rfl⟩
  · have e := Lib.hid (show isDig b = false by simp [isDig, h1])
    go_enter Tryz.func120, Tryz.ntmps120
    go_wp2
    go_ret
    exact ⟨by rw [e.out]; rfl, rfl⟩
theorem risdig_as (b : UInt8) (p : Bool) (h : isDig b = p) (w : World) : Calls Tryz.prog 120 #[.int .u8 (b.toNat : Int)] w fun e w' => e = .returned (.bool p) ∧ w = w' := by
  subst h; exact risdig b w
theorem tw_len (t : List UInt8) : (t.takeWhile isDig).length ≤ t.length := by
  exact List.IsPrefix.length_le (List.takeWhile_prefix isDig)
theorem tw_in (t : List UInt8) (j : Nat) (h : j < (t.takeWhile isDig).length) (h2 : j < t.length) : isDig t[j] = true := by
  have e : t[j] = (t.takeWhile isDig)[j] := by
    have := List.takeWhile_append_dropWhile (p := isDig) (l := t)
    rw [List.getElem_of_eq this.symm h2, List.getElem_append_left h]
  rw [e]
  exact tw_all isDig t _ (List.getElem_mem h)
theorem tw_out (t : List UInt8) (h2 : (t.takeWhile isDig).length < t.length) : isDig t[(t.takeWhile isDig).length] = false := by
  have e := List.takeWhile_append_dropWhile (p := isDig) (l := t)
  have hd := List.head?_dropWhile_not isDig t
  cases hr : t.dropWhile isDig with
  | nil => rw [hr, List.append_nil] at e; rw [e] at h2; omega
  | cons c r =>
    rw [hr] at hd
    have : t[(t.takeWhile isDig).length] = c := by
      rw [List.getElem_of_eq e.symm h2, List.getElem_append_right (Nat.le_refl _)]
      simp [hr]
    rw [this]
    simpa using hd
set_option maxHeartbeats 1000000 in
theorem rdigits_t (l : List UInt8) (at' k : Nat) (hl : l.length ≤ 9223372036854775807) (ha : at' ≤ l.length) (hk : ((l.drop at').takeWhile isDig).length = k) (w : World) : Calls Tryz.prog 95 #[.string ⟨l.toArray⟩, .int .i64 (at' : Int)] w fun e w' => e = .returned (.int .i64 (k : Int)) ∧ w = w' := by
  have hkl : k ≤ l.length - at' := by
    have := tw_len (l.drop at')
    rw [hk] at this
    simpa using this
  have hin : ∀ j (h : j < k) (h2 : at' + j < l.length), isDig l[at' + j] = true := fun j h h2 => by
    have := tw_in (l.drop at') j (by omega) (by simp; omega)
    simpa using this
  have hout : ∀ (h2 : at' + k < l.length), isDig l[at' + k] = false := fun h2 => by
    have := tw_out (l.drop at') (by rw [hk]; simp; omega)
    simp only [hk] at this
    simpa using this
  have hin' := Lib.hid hin
  have hout' := Lib.hid hout
  clear hin hout hk
  go_enter Tryz.func95, Tryz.ntmps95
  go_wp2
  go_loop [5] (fun n => ∃ j : Nat, j ≤ k ∧ n = .int .i64 (j : Int)) (fun n => k - (intOf n).toNat)
  case atStart => exact ⟨0, by omega, rfl⟩
  case round =>
    obtain ⟨j, hj, rfl⟩ := hrel
    by_cases h1 : at' + j < l.length
    · have hb : at' + j < (⟨l.toArray⟩ : ByteArray).size := by show at' + j < l.toArray.size; simpa using h1
      have hc : ((at' : Int) + (j : Int)).toNat = at' + j := by omega
      by_cases h2 : j < k
      · have hd := Lib.hid (hin'.out j h2 h1)
        go_wp2_with (go_at_call 120; refine (risdig_as ((⟨l.toArray⟩ : ByteArray)[at' + j]'hb) true hd.out _).mono ?_; rintro e w1 ⟨rfl, rfl⟩)
        go_round
        case rel => exact ⟨j + 1, by omega, by go_num⟩
        case measure => simp [intOf]; omega
      · obtain rfl : j = k := by omega
        have hd := Lib.hid (hout'.out h1)
        go_wp2_with (go_at_call 120; refine (risdig_as ((⟨l.toArray⟩ : ByteArray)[at' + j]'hb) false hd.out _).mono ?_; rintro e w1 ⟨rfl, rfl⟩)
        go_ret
        exact ⟨rfl, rfl⟩
    · obtain rfl : j = k := by omega
      go_wp2
      go_ret
      exact ⟨rfl, rfl⟩
end Go.Proofs.YtiekhbagpmnboaaGreatDoor
namespace Go.Proofs.YtiekhbagpmnboaaGreatDoor
open Go.RowKit

theorem rdigits_as (l : List UInt8) (z : Int) (at' k : Nat) (hz : z = (at' : Int)) (hl : l.length ≤ 9223372036854775807) (ha : at' ≤ l.length) (hk : ((l.drop at').takeWhile isDig).length = k) (w : World) : Calls Tryz.prog 95 #[.string ⟨l.toArray⟩, .int .i64 z] w fun e w' => e = .returned (.int .i64 (k : Int)) ∧ w = w' := by
  subst hz
  exact rdigits_t l at' k hl ha hk w
end Go.Proofs.YtiekhbagpmnboaaGreatDoor
namespace Go.Proofs.YtiekhbagpmnboaaGreatDoor
open Go

theorem rtw_len (t : List UInt8) : (t.takeWhile isDig).length ≤ t.length := List.IsPrefix.length_le (List.takeWhile_prefix isDig)
theorem rtw_take (t : List UInt8) : t.take (t.takeWhile isDig).length = t.takeWhile isDig := by
  have h : (t.takeWhile isDig ++ t.dropWhile isDig).take (t.takeWhile isDig).length = t.takeWhile isDig := List.take_left
  rwa [List.takeWhile_append_dropWhile] at h
theorem rtw_drop (t : List UInt8) : t.drop (t.takeWhile isDig).length = t.dropWhile isDig := by
  have h : (t.takeWhile isDig ++ t.dropWhile isDig).drop (t.takeWhile isDig).length = t.dropWhile isDig := List.drop_left
  rwa [List.takeWhile_append_dropWhile] at h
theorem rtw_all (t : List UInt8) : (t.takeWhile isDig).all isDig = true := by
  rw [List.all_eq_true]; exact tw_all isDig t
theorem rest_dig (R : List UInt8) (r : Nat) (h : (R.takeWhile isDig).length = r) : digOk R 4 = (decide (1 ≤ r) && decide (r ≤ 4) && decide (r = R.length)) := by
  have h1 := rtw_take R
  have h2 := rtw_all R
  rw [h] at h1
  by_cases hr : r = R.length
  · rw [hr, List.take_length] at h1
    rw [← h1] at h2
    simp only [digOk, h2, hr, decide_true, Bool.and_true]
    rw [Bool.eq_iff_iff]; simp; omega
  · have : R.all isDig = false := by
      cases ha : R.all isDig
      · rfl
      · have := (all_take ha).1
        rw [this] at h
        exact absurd h.symm hr
    simp [digOk, this, hr]
theorem whole_dig2 (t : List UInt8) (k : Nat) (h : (t.takeWhile isDig).length = k) : digOk (t.takeWhile isDig) 15 = (decide (1 ≤ k) && decide (k ≤ 15)) := by
  simp only [digOk, rtw_all, h, Bool.and_true]
  rw [Bool.eq_iff_iff]; simp; omega
theorem take_all {l : List UInt8} (h : l.all isDig = true) (j : Nat) : (l.take j).all isDig = true := by
  rw [List.all_eq_true] at *
  exact fun b hb => h b (List.mem_of_mem_take hb)
theorem val_take (l : List UInt8) (j : Nat) (hj : j < l.length) : valL (l.take (j + 1)) = valL (l.take j) * 10 + (l[j].toNat - 48) := by
  rw [List.take_succ_eq_append_getElem hj, val_snoc]
theorem val_small {l : List UInt8} (h : l.all isDig = true) (k : Nat) (hk : l.length ≤ k) : valL l < 10 ^ k :=
  Nat.lt_of_lt_of_le (val_bound h) (Nat.pow_le_pow_right (by omega) hk)
theorem dig_range {l : List UInt8} (h : l.all isDig = true) (j : Nat) (hj : j < l.length) : 48 ≤ l[j].toNat ∧ l[j].toNat ≤ 57 := by
  rw [List.all_eq_true] at h
  have := h l[j] (List.getElem_mem hj)
  simpa [isDig] using this
/-- the whole part, digit by digit -/
theorem loopV (D : List UInt8) (hD : D.all isDig = true) (h15 : D.length ≤ 15) (j : Nat) (hj : j < D.length) :
    48 ≤ D[j].toNat ∧ D[j].toNat ≤ 57 ∧ valL (D.take j) ≤ 1000000000000000 ∧ valL (D.take (j + 1)) = valL (D.take j) * 10 + (D[j].toNat - 48) := by
  obtain ⟨h1, h2⟩ := dig_range hD j hj
  refine ⟨h1, h2, ?_, val_take D j hj⟩
  have := val_small (take_all hD j) 15 (by simp; omega)
  omega
/-- the four digits behind -/
theorem loopU (D S : List UInt8) (hD : D.all isDig = true) (h15 : D.length ≤ 15) (hS : S.all isDig = true) (h4 : S.length = 4) (j : Nat) (hj : j < 4) :
    valL (D ++ S.take j) ≤ 1000000000000000000 ∧ valL (D ++ S.take (j + 1)) ≤ 18446744073709551615 ∧ valL (D ++ S.take (j + 1)) = valL (D ++ S.take j) * 10 + ((S[j]'(by omega)).toNat - 48) := by
  have a1 : (D ++ S.take j).all isDig = true := by rw [List.all_append, hD, take_all hS j]; rfl
  have a2 : (D ++ S.take (j + 1)).all isDig = true := by rw [List.all_append, hD, take_all hS (j + 1)]; rfl
  have b1 := val_small a1 18 (by simp; omega)
  have b2 := val_small a2 19 (by simp; omega)
  refine ⟨by omega, by omega, ?_⟩
  rw [List.take_succ_eq_append_getElem (by omega), ← List.append_assoc, val_snoc]
end Go.Proofs.YtiekhbagpmnboaaGreatDoor
