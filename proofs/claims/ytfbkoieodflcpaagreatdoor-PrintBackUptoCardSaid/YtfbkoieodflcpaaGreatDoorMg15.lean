/-
  print: how a leaf's text is told from what follows, plain; print: a node that may be is its own parts, plain; The plain law of numbers' texts: what is printed is read again as that number. No program in sight; print: leaves are told by their texts, plain; print: leaves, one against the other, plain; refs: may whole; print: two leaves with what follows, plain; print: a leaf and what follows, plain; print: the sign between two things, plain.
-/
import Derived.Test.YtfbkoieodflcpaaGreatDoorMg3
import Derived.Test.YtfbkoieodflcpaaGreatDoorRows
import Derived.Test.YtfbkoieodflcpaaGreatDoorMg0
import Derived.Test.YtfbkoieodflcpaaGreatDoorProg
import Derived.Test.YtfbkoieodflcpaaGreatDoorShelf
import Derived.Test.YtfbkoieodflcpaaGreatDoorMg4
import Derived.Test.YtfbkoieodflcpaaGreatDoorAddrC
import Derived.Test.YtfbkoieodflcpaaGreatDoorMg6
import Derived.Test.YtfbkoieodflcpaaGreatDoorValA
import Derived.Test.YtfbkoieodflcpaaGreatDoorValB
import Derived.Test.YtfbkoieodflcpaaGreatDoorMg9
import Derived.Test.YtfbkoieodflcpaaGreatDoorMg10
import Derived.Test.YtfbkoieodflcpaaGreatDoorMg11
import Derived.Test.YtfbkoieodflcpaaGreatDoorMg2
import Derived.Test.YtfbkoieodflcpaaGreatDoorMg12
import Derived.Test.YtfbkoieodflcpaaGreatDoorValL
import Derived.Test.YtfbkoieodflcpaaGreatDoorMg14
import Derived.Test.YtfbkoieodflcpaaGreatDoorLexS
import Derived.Test.YtfbkoieodflcpaaGreatDoorRefN
import Derived.Test.YtfbkoieodflcpaaGreatDoorRefM
import Derived.Test.YtfbkoieodflcpaaGreatDoorRefY
import Derived.Lib.ItoaMem
import Derived.Lib.TrimByte
import Derived.Lib.IndexLaws
import Derived.Lib.SlTrimSet
import Derived.Lib.ParseIntB
import Derived.WalkSpells
import Derived.WalkLawsBesides
import Derived.StillTactics
import Derived.Laws.Pointers
import Derived.Deep.RegionHeld3
import Derived.Deep.QuietTactic
import Derived.BigQuiet
import Derived.RowKit3
import Derived.Lib.Hide
import Derived.Lib.OthersKept
import Derived.OwnWalk
import Derived.WalkKit
import Derived.ProofKit
import Derived.OpenShut
import Derived.Carry
import Derived.ChangeSame
import Derived.Deep.Draws
import Derived.Shelf.Strings.Builder1
import Derived.Shelf.Strings.Builder2
import Derived.Shelf.Strings.Trim
import Derived.Shelf.Small.Utf8
import Derived.Shelf.Small.Strs
import Derived.Shelf.Small.Wraps
import Derived.Shelf.Strings.BuilderF
import Derived.Shelf.Strings.BuilderK
import Derived.Shelf.Utf8.RuneCount
import Derived.Shelf.Strconv.Itoa0
import Derived.Shelf.Strconv.Itoa1
import Derived.Shelf.LaysM
import Derived.Shelf.Strconv.Itoa2
import Derived.Shelf.Strconv.Itoa3
import Derived.Ground.MpProg
import Derived.Shelf.Pu.ParseUintPublic10
import Derived.Shelf.Strings.Search1
import Derived.Shelf.Strings.Search2
import Derived.Shelf.Strings.Search3
import Derived.Shelf.Strings.Cut
import Derived.Shelf.Strings.Count
import Derived.Shelf.Strings.Shaped
import Derived.Shelf.Strings.Prefix
import Derived.Shelf.Strings.Split
import Derived.Shelf.Strings.Replace
import Derived.Shelf.Strings.SplitShaped
import Derived.Shelf.Unicode.Decode
import Derived.Shelf.Strings.Runes
import Derived.Shelf.Strings.RuneCount
import Derived.Shelf.Strings.AsciiSet
import Derived.Shelf.Unicode.DecodeSlow
import Derived.Shelf.Unicode.DecodeAny
import Derived.Shelf.Unicode.DecodeLast
import Derived.Lib.ItoaNum
import Derived.Maps.OwnSet
import Derived.Maps.AppendAt
import Derived.Lib.Bytealg
import Derived.Lib.Replace
namespace Go.Proofs.YtfbkoieodflcpaaGreatDoor
open Go.RowKit

/-- a byte of a word: a number, a name, a fault's name -/
def wordB (b : UInt8) : Bool := (decide (48 ≤ b.toNat) && decide (b.toNat ≤ 58)) || (decide (65 ≤ b.toNat) && decide (b.toNat ≤ 90)) || decide (b.toNat = 95) || decide (b.toNat = 46) || decide (b.toNat = 35) || decide (b.toNat = 33)
/-- what follows begins with no byte of p -/
def NoHead (p : UInt8 → Bool) (r : List UInt8) : Prop := ∀ b t, r = b :: t → p b = false
theorem word_dig (n : Nat) : ∀ b ∈ Lib.decDigits n, wordB b = true := fun b hb => by
  have h := digits_nat n b hb
  unfold wordB
  simp; omega
theorem word_four {n : Nat} (h : n < 10000) : ∀ b ∈ four n, wordB b = true := fun b hb => by
  have e := dec_five h
  exact word_dig (10000 + n) b (by rw [e]; exact List.mem_cons_of_mem _ hb)
theorem word_frac {n : Nat} (h : n < 10000) : ∀ b ∈ frac n, wordB b = true := fun b hb => by
  unfold frac Lib.trimRightB at hb
  rw [List.mem_reverse] at hb
  exact word_four h b (List.mem_reverse.1 ((List.dropWhile_sublist _).mem hb))
theorem word_num {x : Int} (h : 0 ≤ x) : ∀ b ∈ printL x, wordB b = true := fun b hb => by
  unfold printL at hb
  rw [if_neg (by omega), show decide (x < 0) = false by simp; omega] at hb
  unfold textOf at hb
  simp only [Bool.false_eq_true, if_false, List.nil_append, List.mem_append] at hb
  rcases hb with hb | hb
  · exact word_dig _ b hb
  · split at hb
    · simp at hb
    · rcases List.mem_cons.1 hb with rfl | hb
      · decide
      · exact word_frac (Nat.mod_lt _ (by decide)) b hb
theorem word_ofNat {n : Nat} (h1 : 65 ≤ n) (h2 : n ≤ 90) : wordB (UInt8.ofNat n) = true := by
  unfold wordB
  rw [UInt8.toNat_ofNat_of_lt' (by show n < 256; omega)]
  simp; omega
theorem word_col {c : Nat} (h0 : 1 ≤ c) (h : c ≤ 256) : ∀ b ∈ colL c, wordB b = true := fun b hb => by
  unfold colL at hb
  split at hb
  · rcases List.mem_singleton.1 hb with rfl
    exact word_ofNat (by omega) (by omega)
  · rcases List.mem_cons.1 hb with rfl | hb
    · exact word_ofNat (by omega) (by omega)
    · rcases List.mem_singleton.1 hb with rfl
      exact word_ofNat (by omega) (by omega)
theorem word_name (r c : Int) : ∀ b ∈ nameZ r c, wordB b = true := fun b hb => by
  unfold nameZ at hb
  cases h : mayB r c
  · rw [h] at hb; simp at hb
  · rw [h, if_pos rfl] at hb
    obtain ⟨r', c', rfl, rfl, hm⟩ := mayB_ints h
    obtain ⟨m1, m2, m3, m4⟩ := mayN_of hm
    rcases List.mem_append.1 hb with hb | hb
    · exact word_col (by omega) (by omega) b hb
    · exact word_dig _ b hb
theorem word_rect (t l b r : Int) : ∀ x ∈ nameRectZ t l b r, wordB x = true := fun x hx => by
  unfold nameRectZ at hx
  split at hx
  · rcases List.mem_append.1 hx with hx | hx
    · exact word_name _ _ x hx
    · rcases List.mem_cons.1 hx with rfl | hx
      · decide
      · exact word_name _ _ x hx
  · simp at hx
theorem word_part {b : UInt8} (h : partB b = true) : wordB b = true := by
  unfold partB upB isDig at h
  unfold wordB
  simp only [Bool.or_eq_true, Bool.and_eq_true, decide_eq_true_eq] at h ⊢
  omega
theorem word_code {c : Int} (h1 : 1 ≤ c) (h2 : c ≤ 8) : ∀ b ∈ (codeName c).data.toList, wordB b = true := by
  have h3 : c = 1 ∨ c = 2 ∨ c = 3 ∨ c = 4 ∨ c = 5 ∨ c = 6 ∨ c = 7 ∨ c = 8 := by omega
  rcases h3 with rfl | rfl | rfl | rfl | rfl | rfl | rfl | rfl <;> decide
end Go.Proofs.YtfbkoieodflcpaaGreatDoor
namespace Go.Proofs.YtfbkoieodflcpaaGreatDoor
open Go.RowKit

theorem may_val {n : NL} (h : n.may = true) (k : n.kind = 1) : n = ⟨1, n.v, 0, 0, 0, 0, 0, 0, 0, ⟨#[]⟩, 0⟩ := by
  unfold NL.may at h
  rw [if_pos k] at h
  simp only [Bool.and_eq_true, decide_eq_true_eq, NL.noC, NL.noR, NL.noO, NL.noN] at h
  obtain ⟨kd, ⟨t, x, s, b, c⟩, r, q1, rt, rl, rb, rq, op, nm, ag⟩ := n
  simp_all
theorem may_cell {n : NL} (h : n.may = true) (k : n.kind = 2) : n = ⟨2, ⟨0, 0, ⟨#[]⟩, false, 0⟩, n.r, n.c, 0, 0, 0, 0, 0, ⟨#[]⟩, 0⟩ ∧ mayB n.r n.c = true := by
  unfold NL.may at h
  rw [if_neg (by omega), if_pos k] at h
  simp only [Bool.and_eq_true, decide_eq_true_eq, NL.noV, NL.noR, NL.noO, NL.noN, vEq] at h
  obtain ⟨kd, ⟨t, x, s, b, c⟩, r, q1, rt, rl, rb, rq, op, nm, ag⟩ := n
  simp_all
theorem may_rct {n : NL} (h : n.may = true) (k : n.kind = 3) : n = ⟨3, ⟨0, 0, ⟨#[]⟩, false, 0⟩, 0, 0, n.t, n.l, n.b, n.q, 0, ⟨#[]⟩, 0⟩ ∧ mayRectB n.t n.l n.b n.q = true := by
  unfold NL.may at h
  rw [if_neg (by omega), if_neg (by omega), if_pos k] at h
  simp only [Bool.and_eq_true, decide_eq_true_eq, NL.noV, NL.noC, NL.noO, NL.noN, vEq] at h
  obtain ⟨kd, ⟨t, x, s, b, c⟩, r, q1, rt, rl, rb, rq, op, nm, ag⟩ := n
  simp_all
theorem may_op {n : NL} (h : n.may = true) (k : n.kind = 4) : n = ⟨4, ⟨0, 0, ⟨#[]⟩, false, 0⟩, 0, 0, 0, 0, 0, 0, n.op, ⟨#[]⟩, 0⟩ := by
  unfold NL.may at h
  rw [if_neg (by omega), if_neg (by omega), if_neg (by omega), if_pos k] at h
  simp only [Bool.and_eq_true, decide_eq_true_eq, NL.noV, NL.noC, NL.noR, NL.noN, vEq] at h
  obtain ⟨kd, ⟨t, x, s, b, c⟩, r, q1, rt, rl, rb, rq, op, nm, ag⟩ := n
  simp_all
theorem may_call {n : NL} (h : n.may = true) (k : n.kind = 5) : n = ⟨5, ⟨0, 0, ⟨#[]⟩, false, 0⟩, 0, 0, 0, 0, 0, 0, 0, n.name, n.args⟩ := by
  unfold NL.may at h
  rw [if_neg (by omega), if_neg (by omega), if_neg (by omega), if_neg (by omega), if_pos k] at h
  simp only [Bool.and_eq_true, decide_eq_true_eq, NL.noV, NL.noC, NL.noR, NL.noO, vEq] at h
  obtain ⟨kd, ⟨t, x, s, b, c⟩, r, q1, rt, rl, rb, rq, op, nm, ag⟩ := n
  simp_all
end Go.Proofs.YtfbkoieodflcpaaGreatDoor
namespace Go.Proofs.YtfbkoieodflcpaaGreatDoor
open Go

theorem dig_nat {d : Nat} (h : d < 10) : (UInt8.ofNat (48 + d)).toNat = 48 + d := by simp; omega
theorem dig_is {d : Nat} (h : d < 10) : isDig (UInt8.ofNat (48 + d)) = true := by
  unfold isDig; rw [dig_nat h]; simp; omega
theorem dec_val : ∀ (k n : Nat), n ≤ k → valL (Lib.decDigits n) = n ∧ (Lib.decDigits n).all isDig = true ∧ 0 < (Lib.decDigits n).length
  | 0, n, h => by
    obtain rfl : n = 0 := by omega
    rw [Lib.decDigits_one (by omega)]
    decide
  | k + 1, n, h => by
    by_cases h10 : n < 10
    · rw [Lib.decDigits_one h10]
      refine ⟨?_, ?_, by simp⟩
      · simp only [valL, List.foldl_cons, List.foldl_nil, valF, dig_nat h10]; omega
      · simp only [List.all_cons, List.all_nil, dig_is h10, Bool.and_self]
    · obtain ⟨h1, h2, h3⟩ := dec_val k (n / 10) (by omega)
      rw [decSnoc (by omega)]
      refine ⟨?_, ?_, by simp⟩
      · rw [val_snoc, h1, dig_nat (by omega)]; omega
      · rw [List.all_append, h2]; simp only [List.all_cons, List.all_nil, dig_is (show n % 10 < 10 by omega), Bool.and_self]
theorem dec_short : ∀ (k n : Nat), n < 10 ^ (k + 1) → (Lib.decDigits n).length ≤ k + 1
  | 0, n, h => by rw [Lib.decDigits_one (by omega)]; simp
  | k + 1, n, h => by
    by_cases h10 : n < 10
    · rw [Lib.decDigits_one h10]; simp
    · rw [decSnoc (by omega)]
      have : n / 10 < 10 ^ (k + 1) := by rw [Nat.pow_succ] at h; omega
      have := dec_short k (n / 10) this
      simp; omega
theorem dec_head : ∀ (k n : Nat), n ≤ k → 0 < n → ∃ b, (Lib.decDigits n).head? = some b ∧ b ≠ 48
  | 0, n, h, h0 => by omega
  | k + 1, n, h, h0 => by
    by_cases h10 : n < 10
    · rw [Lib.decDigits_one h10]
      refine ⟨_, rfl, fun e => ?_⟩
      have := congrArg UInt8.toNat e
      rw [dig_nat h10] at this
      have e2 : (48 : UInt8).toNat = 48 := rfl
      omega
    · obtain ⟨b, h1, h2⟩ := dec_head k (n / 10) (by omega) (by omega)
      rw [decSnoc (by omega)]
      refine ⟨b, ?_, h2⟩
      rw [List.head?_append, h1]; rfl
theorem tw_all (p : UInt8 → Bool) : ∀ l : List UInt8, ∀ b ∈ l.takeWhile p, p b = true
  | [], b, h => by simp at h
  | a :: l, b, h => by
    cases ha : p a
    · simp [ha] at h
    · simp [ha] at h
      rcases h with rfl | h
      · exact ha
      · exact tw_all p l b h
theorem trim_pad (l : List UInt8) : Lib.trimRightB l 48 ++ List.replicate (l.length - (Lib.trimRightB l 48).length) 48 = l := by
  unfold Lib.trimRightB
  have h1 := List.takeWhile_append_dropWhile (p := fun b => b == (48 : UInt8)) (l := l.reverse)
  have h2 : l.reverse.takeWhile (fun b => b == (48 : UInt8)) = List.replicate (l.reverse.takeWhile (fun b => b == (48 : UInt8))).length 48 := by
    rw [List.eq_replicate_iff]
    refine ⟨rfl, fun b hb => ?_⟩
    have := tw_all _ _ b hb
    simpa using this
  have h3 : l = (l.reverse.dropWhile (fun b => b == (48 : UInt8))).reverse ++ (l.reverse.takeWhile (fun b => b == (48 : UInt8))).reverse := by
    rw [← List.reverse_append, h1, List.reverse_reverse]
  have h4 : l.length - (l.reverse.dropWhile (fun b => b == (48 : UInt8))).reverse.length = (l.reverse.takeWhile (fun b => b == (48 : UInt8))).length := by
    have := congrArg List.length h3
    simp at this ⊢
    omega
  rw [h4]
  conv => rhs; rw [h3]
  congr 1
  conv => rhs; rw [h2]
  rw [List.reverse_replicate]
theorem four_all {r : Nat} (h : r < 10000) : (four r).all isDig = true := by
  simp only [four, List.all_cons, List.all_nil, dig_is (show r / 1000 < 10 by omega), dig_is (show r / 100 % 10 < 10 by omega), dig_is (show r / 10 % 10 < 10 by omega), dig_is (show r % 10 < 10 by omega), Bool.and_self]
theorem frac_pad (r : Nat) : frac r ++ List.replicate (4 - (frac r).length) 48 = four r := trim_pad (four r)
theorem four_val (D : List UInt8) {r : Nat} (h : r < 10000) : valL (D ++ four r) = valL D * 10000 + r := by
  have e : D ++ four r = (((D ++ [UInt8.ofNat (48 + r / 1000)]) ++ [UInt8.ofNat (48 + r / 100 % 10)]) ++ [UInt8.ofNat (48 + r / 10 % 10)]) ++ [UInt8.ofNat (48 + r % 10)] := by simp [four]
  rw [e, val_snoc, val_snoc, val_snoc, val_snoc, dig_nat (by omega), dig_nat (by omega), dig_nat (by omega), dig_nat (by omega)]
  omega
theorem frac_ok {r : Nat} (h : r < 10000) (h0 : 0 < r) : digOk (frac r) 4 = true := by
  have hp := frac_pad r
  have hl := frac_len r
  have ha := four_all h
  rw [← hp, List.all_append, Bool.and_eq_true] at ha
  simp only [digOk, Bool.and_eq_true, decide_eq_true_eq]
  refine ⟨⟨?_, hl⟩, ha.1⟩
  rcases Nat.eq_zero_or_pos (frac r).length with hz | hz
  · exfalso
    have he : frac r = [] := List.length_eq_zero_iff.1 hz
    have hv := four_val [] h
    rw [← hp, he] at hv
    have : valL ([] ++ ([] ++ List.replicate (4 - ([] : List UInt8).length) 48)) = 0 := by decide
    rw [this] at hv
    simp [valL] at hv
    omega
  · exact hz
theorem text_read (low : Bool) (N : Nat) (hN : N ≤ 9223372036854775807) (h0 : low = true → 0 < N) : numP (textOf low N) = some (if low then -(N : Int) else (N : Int)) := by
  obtain ⟨v1, v2, v3⟩ := dec_val (N / 10000) (N / 10000) (Nat.le_refl _)
  have hs := dec_short 14 (N / 10000) (by omega)
  obtain ⟨D, hD⟩ : ∃ D, Lib.decDigits (N / 10000) = D := ⟨_, rfl⟩
  have hw : wholeOk D = true := by
    rw [← hD]
    unfold wholeOk
    have : digOk (Lib.decDigits (N / 10000)) 15 = true := by
      simp only [digOk, v2, Bool.and_true, Bool.and_eq_true, decide_eq_true_eq]; omega
    rw [this]
    by_cases hz : N / 10000 = 0
    · rw [hz, Lib.decDigits_one (by omega)]; rfl
    · obtain ⟨b, e1, e2⟩ := dec_head _ (N / 10000) (Nat.le_refl _) (by omega)
      rw [e1]
      simp [e2]
  rw [hD] at v1 v2 v3 hs
  have hlow : lowOf (textOf low N) = low ∧ tailOf (textOf low N) = D ++ (if N % 10000 = 0 then [] else 46 :: frac (N % 10000)) := by
    cases low
    · obtain ⟨b, q, e⟩ : ∃ b q, D = b :: q := by cases D with | nil => simp at v3 | cons b q => exact ⟨b, q, rfl⟩
      have hb : b ≠ 45 := by
        rintro rfl
        rw [e] at v2
        simp [isDig] at v2
      have hl : lowOf (textOf false N) = false := by
        simp [lowOf, textOf, hD, e, hb]
      refine ⟨hl, ?_⟩
      unfold tailOf
      rw [hl]
      simp [textOf, hD]
    · have hl : lowOf (textOf true N) = true := by simp [lowOf, textOf]
      refine ⟨hl, ?_⟩
      unfold tailOf
      rw [hl]
      simp [textOf, hD]
  unfold numP
  rw [hlow.1, hlow.2]
  by_cases hr : N % 10000 = 0
  · rw [if_pos hr, List.append_nil]
    obtain ⟨t1, t2⟩ := all_take v2
    unfold bodyOf
    rw [t1, t2, hw]
    have hval : valL (D ++ ([] ++ List.replicate (4 - ([] : List UInt8).length) 48)) = N := by
      have := four_val D (r := 0) (by omega)
      have e : four 0 = [] ++ List.replicate (4 - ([] : List UInt8).length) 48 := by decide
      rw [e] at this
      rw [this, v1]; omega
    simp only [if_true, restOf]
    unfold numOf
    rw [hval, if_neg (by rintro ⟨h1, h2⟩; have := h0 h1; omega), if_pos hN]
  · rw [if_neg hr]
    obtain ⟨t1, t2⟩ := all_take_dot (r := frac (N % 10000)) (b := 46) v2 (by decide)
    unfold bodyOf
    rw [t1, t2, hw]
    have hk := frac_ok (r := N % 10000) (by omega) (by omega)
    have hval : valL (D ++ (frac (N % 10000) ++ List.replicate (4 - (frac (N % 10000)).length) 48)) = N := by
      rw [frac_pad, four_val D (by omega), v1]; omega
    simp only [if_true, restOf, hk, and_self]
    unfold numOf
    rw [hval, if_neg (by rintro ⟨h1, h2⟩; have := h0 h1; omega), if_pos hN]
theorem print_read {x : Int} (hx : -9223372036854775808 ≤ x ∧ x ≤ 9223372036854775807) (h : x ≠ -9223372036854775808) : numV (printL x) = x ∧ numOk (printL x) = true := by
  have : numP (printL x) = some x := by
    unfold printL
    rw [if_neg h, text_read _ _ (by omega) (by intro h1; have : x < 0 := by simpa using h1
                                               omega)]
    by_cases hs : x < 0
    · simp [hs]; omega
    · simp [hs]; omega
  unfold numV numOk
  rw [this]
  exact ⟨rfl, rfl⟩
end Go.Proofs.YtfbkoieodflcpaaGreatDoor
namespace Go.Proofs.YtfbkoieodflcpaaGreatDoor
open Go.RowKit

theorem name_bytes {r c : Int} : ∀ b ∈ nameZ r c, (48 ≤ b.toNat ∧ b.toNat ≤ 57) ∨ (65 ≤ b.toNat ∧ b.toNat ≤ 90) := fun b hb => by
  unfold nameZ at hb
  cases h : mayB r c
  · rw [h] at hb; simp at hb
  · rw [h, if_pos rfl] at hb
    obtain ⟨r', c', rfl, rfl, hm⟩ := mayB_ints h
    obtain ⟨m1, m2, m3, m4⟩ := mayN_of hm
    rcases List.mem_append.1 hb with hb | hb
    · right
      unfold colL at hb
      split at hb
      · rcases List.mem_singleton.1 hb with rfl
        rw [UInt8.toNat_ofNat_of_lt' (by show _ < 256; omega)]; omega
      · rcases List.mem_cons.1 hb with rfl | hb
        · rw [UInt8.toNat_ofNat_of_lt' (by show _ < 256; omega)]; omega
        · rcases List.mem_singleton.1 hb with rfl
          rw [UInt8.toNat_ofNat_of_lt' (by show _ < 256; omega)]; omega
    · exact Or.inl (digits_nat _ b hb)
theorem name_no58 {r c : Int} : ∀ b ∈ nameZ r c, decide (b ≠ 58) = true := fun b hb => by
  have h := name_bytes b hb
  have : b ≠ 58 := fun e => by rw [e] at h; revert h; decide
  simpa using this
theorem rect_form {t l b q : Int} (h : mayRectB t l b q = true) : nameRectZ t l b q = nameZ t l ++ 58 :: nameZ b q := by
  unfold nameRectZ; rw [if_pos h]
end Go.Proofs.YtfbkoieodflcpaaGreatDoor
namespace Go.Proofs.YtfbkoieodflcpaaGreatDoor
open Go.RowKit

/-- what kind of leaf a text of word bytes is -/
def clsT (w : List UInt8) : Nat :=
  if w = [84, 82, 85, 69] then 2 else if w = [70, 65, 76, 83, 69] then 2
  else match w.head? with
    | some d => if isDig d then 1 else if d = 35 then 3 else if w.contains 58 then 5 else 4
    | none => 0
theorem cls_num {x : Int} (h : 0 ≤ x) : clsT (printL x) = 1 := by
  obtain ⟨d, t, e, hd⟩ : ∃ d t, printL x = d :: t ∧ isDig d = true := by
    unfold printL
    rw [if_neg (by omega), show decide (x < 0) = false by simp; omega]
    unfold textOf
    obtain ⟨_, h2, h3⟩ := dec_val (x.natAbs / 10000) (x.natAbs / 10000) (Nat.le_refl _)
    cases hD : Lib.decDigits (x.natAbs / 10000) with
    | nil => rw [hD] at h3; simp at h3
    | cons d t =>
      rw [hD] at h2
      refine ⟨d, _, rfl, ?_⟩
      simp at h2
      exact h2.1
  rw [e]
  unfold clsT
  have h1 : ¬ d :: t = [84, 82, 85, 69] := fun e => by injection e with e _; rw [e] at hd; revert hd; decide
  have h2 : ¬ d :: t = [70, 65, 76, 83, 69] := fun e => by injection e with e _; rw [e] at hd; revert hd; decide
  rw [if_neg h1, if_neg h2]
  simp [hd]
theorem cls_code {c : Int} (h1 : 1 ≤ c) (h2 : c ≤ 8) : clsT (codeName c).data.toList = 3 := by
  have h3 : c = 1 ∨ c = 2 ∨ c = 3 ∨ c = 4 ∨ c = 5 ∨ c = 6 ∨ c = 7 ∨ c = 8 := by omega
  rcases h3 with rfl | rfl | rfl | rfl | rfl | rfl | rfl | rfl <;> decide
theorem name_head {r c : Int} (h : mayB r c = true) : ∃ d t, nameZ r c = d :: t ∧ 65 ≤ d.toNat ∧ d.toNat ≤ 90 := by
  obtain ⟨r', c', rfl, rfl, hm⟩ := mayB_ints h
  obtain ⟨m1, m2, m3, m4⟩ := mayN_of hm
  rw [nameZ_nat hm]
  unfold nameL colL
  split
  · exact ⟨_, _, rfl, by rw [UInt8.toNat_ofNat_of_lt' (by show _ < 256; omega)]; omega⟩
  · exact ⟨_, _, rfl, by rw [UInt8.toNat_ofNat_of_lt' (by show _ < 256; omega)]; omega⟩
theorem nameZ_not {r c : Int} (h : mayB r c = true) : nameZ r c ≠ [84, 82, 85, 69] ∧ nameZ r c ≠ [70, 65, 76, 83, 69] := by
  obtain ⟨r', c', rfl, rfl, hm⟩ := mayB_ints h
  have hp := parse_name hm
  rw [nameZ_nat hm]
  refine ⟨fun e => ?_, fun e => ?_⟩
  · rw [e] at hp; revert hp; rw [show parse [84, 82, 85, 69] = none by decide]; intro hp; cases hp
  · rw [e] at hp; revert hp; rw [show parse [70, 65, 76, 83, 69] = none by decide]; intro hp; cases hp
theorem head_cls {w : List UInt8} {d : UInt8} {t : List UInt8} (e : w = d :: t) (h1 : 65 ≤ d.toNat) (h2 : d.toNat ≤ 90) (n1 : w ≠ [84, 82, 85, 69]) (n2 : w ≠ [70, 65, 76, 83, 69]) : clsT w = if w.contains 58 then 5 else 4 := by
  have hd : isDig d = false := by unfold isDig; simp; omega
  have h35 : ¬ d = 35 := fun e => by rw [e] at h1; revert h1; decide
  unfold clsT
  rw [if_neg n1, if_neg n2, e]
  simp [hd, h35]
theorem cls_name {r c : Int} (h : mayB r c = true) : clsT (nameZ r c) = 4 := by
  obtain ⟨d, t, e, h1, h2⟩ := name_head h
  obtain ⟨n1, n2⟩ := nameZ_not h
  rw [head_cls e h1 h2 n1 n2, if_neg]
  intro hc
  have hm : (58 : UInt8) ∈ nameZ r c := List.contains_iff_mem.1 hc
  have := name_no58 58 hm
  simp at this
theorem cls_rect {t l b q : Int} (h : mayRectB t l b q = true) (m1 : mayB t l = true) : clsT (nameRectZ t l b q) = 5 := by
  obtain ⟨d, u, e, h1, h2⟩ := name_head m1
  have hm : (58 : UInt8) ∈ nameRectZ t l b q := by rw [rect_form h]; simp
  have n1 : nameRectZ t l b q ≠ [84, 82, 85, 69] := fun e => by rw [e] at hm; revert hm; decide
  have n2 : nameRectZ t l b q ≠ [70, 65, 76, 83, 69] := fun e => by rw [e] at hm; revert hm; decide
  rw [head_cls (by rw [rect_form h, e]; rfl) h1 h2 n1 n2, if_pos (List.contains_iff_mem.2 hm)]
theorem rect_parts {t l b q : Int} (h : mayRectB t l b q = true) : mayB t l = true ∧ mayB b q = true := by
  unfold mayRectB at h
  simp only [Bool.and_eq_true] at h
  exact ⟨h.1.1.1, h.1.1.2⟩
end Go.Proofs.YtfbkoieodflcpaaGreatDoor
namespace Go.Proofs.YtfbkoieodflcpaaGreatDoor
open Go.RowKit

def NL.ok (n : NL) : Prop := n.v.ok ∧ n.name.size ≤ 9223372036854775807
set_option maxHeartbeats 1000000 in
theorem refmay (n : NL) (ho : n.ok) (z : Bool) (h : n.may = z) (w : World) : Calls Tryz.prog 57 #[.agg #[.int .i64 n.kind, .int .i64 n.v.t, .int .i64 n.v.n, .string n.v.s, .bool n.v.b, .int .i64 n.v.c, .int .i64 n.r, .int .i64 n.c, .int .i64 n.t, .int .i64 n.l, .int .i64 n.b, .int .i64 n.q, .int .i64 n.op, .string n.name, .int .i64 n.args]] w fun e w' => e = .returned (.bool z) ∧ Below w.heap.size w w' := by
  subst h
  obtain ⟨hn, hs⟩ := ho
  obtain ⟨kd, ⟨t, m, s, b, c⟩, r, k, rt, rl, rb, rr, op, nm, ag⟩ := n
  obtain ⟨l, rfl⟩ : ∃ l : List UInt8, nm = ⟨l.toArray⟩ := ⟨nm.data.toList, by cases nm; simp⟩
  have hl : l.length ≤ 9223372036854775807 := by simpa [ByteArray.size] using hs
  clear hs
  have key : ∀ (x y : Bool), x = y → ∀ ar W, Calls Tryz.prog 57 ar W (fun e w' => e = .returned (.bool x) ∧ Below W.heap.size W w') → Calls Tryz.prog 57 ar W (fun e w' => e = .returned (.bool y) ∧ Below W.heap.size W w') := fun x y e _ _ h => e ▸ h
  by_cases k1 : kd = 1
  · subst k1
    cases h1 : vMay t m s b c
    · exact key _ _ (by simp [NL.may, VL.may, h1]) _ _ (rmay_v0 t m s b c r k rt rl rb rr op l ag hn h1 w)
    · by_cases h2 : t = 0
      · exact key _ _ (by simp [NL.may, h2]) _ _ (rmay_v1a t m s b c r k rt rl rb rr op l ag hn h1 h2 w)
      · by_cases h3 : 0 ≤ m
        · by_cases h4 : c = 1
          · exact key _ _ (by simp [NL.may, h4]) _ _ (rmay_v1c t m s b c r k rt rl rb rr op l ag hn h1 h2 h3 h4 w)
          · exact key _ _ (by simp [NL.may, VL.may, NL.noC, NL.noR, NL.noO, NL.noN, h1, h2, h3, h4]) _ _ (rmay_v2 t m s b c r k rt rl rb rr op l ag hn h1 h2 h3 h4 w)
        · exact key _ _ (by simp [NL.may, h3]) _ _ (rmay_v1b t m s b c r k rt rl rb rr op l ag hn h1 h2 (by omega) w)
  by_cases k2 : kd = 2
  · subst k2
    cases h1 : mayB r k
    · exact key _ _ (by simp [NL.may, h1]) _ _ (rmay_c0 t m s b c r k rt rl rb rr op l ag h1 w)
    · exact key _ _ (by simp [NL.may, NL.noV, NL.noR, NL.noO, NL.noN, vEq, h1]) _ _ (rmay_c1 t m s b c r k rt rl rb rr op l ag h1 w)
  by_cases k3 : kd = 3
  · subst k3
    cases h1 : mayRectB rt rl rb rr
    · exact key _ _ (by simp [NL.may, h1]) _ _ (rmay_r0 t m s b c r k rt rl rb rr op l ag h1 w)
    · exact key _ _ (by simp [NL.may, NL.noV, NL.noC, NL.noO, NL.noN, vEq, h1]) _ _ (rmay_r1 t m s b c r k rt rl rb rr op l ag h1 w)
  by_cases k4 : kd = 4
  · subst k4
    by_cases h1 : op < 1
    · exact key _ _ (by have h2 : ¬ 1 ≤ op := by omega
                        simp [NL.may, h2]) _ _ (rmay_o0 t m s b c r k rt rl rb rr op l ag h1 w)
    · by_cases h2 : op > 13
      · exact key _ _ (by have h3 : ¬ op ≤ 13 := by omega
                          simp [NL.may, h3]) _ _ (rmay_o1 t m s b c r k rt rl rb rr op l ag h1 h2 w)
      · exact key _ _ (by have h3 : op ≤ 13 := by omega
                          have h4 : 1 ≤ op := by omega
                          simp [NL.may, NL.noV, NL.noC, NL.noR, NL.noN, vEq, h3, h4]) _ _ (rmay_o2 t m s b c r k rt rl rb rr op l ag h1 h2 w)
  by_cases k5 : kd = 5
  · subst k5
    cases h1 : namedB l
    · exact key _ _ (by simp [NL.may, h1]) _ _ (rmay_n0 t m s b c r k rt rl rb rr op l ag hl h1 w)
    · by_cases h2 : ag < 0
      · exact key _ _ (by have h4 : ¬ 0 ≤ ag := by omega
                          simp [NL.may, h4]) _ _ (rmay_n1 t m s b c r k rt rl rb rr op l ag hl h1 h2 w)
      · by_cases h3 : ag > 16
        · exact key _ _ (by have h4 : ¬ ag ≤ 16 := by omega
                            simp [NL.may, h4]) _ _ (rmay_n2 t m s b c r k rt rl rb rr op l ag hl h1 h2 h3 w)
        · exact key _ _ (by have h4 : ag ≤ 16 := by omega
                            have h5 : 0 ≤ ag := by omega
                            simp [NL.may, NL.noV, NL.noC, NL.noR, NL.noO, vEq, h1, h4, h5]) _ _ (rmay_n3 t m s b c r k rt rl rb rr op l ag hl h1 h2 h3 w)
  exact key _ _ (by simp [NL.may, k1, k2, k3, k4, k5]) _ _ (rmay_no t m s b c r k rt rl rb rr op l ag kd k1 k2 k3 k4 k5 w)
end Go.Proofs.YtfbkoieodflcpaaGreatDoor
namespace Go.Proofs.YtfbkoieodflcpaaGreatDoor
open Go.RowKit

/-- what a leaf is, and its text -/
inductive LeafV (n : NL) : Prop where
  | txt (s : ByteArray) (e : n = ⟨1, ⟨2, 0, s, false, 0⟩, 0, 0, 0, 0, 0, 0, 0, ⟨#[]⟩, 0⟩) (h : leafT n = 34 :: (quotesL s.data.toList ++ [34]))
  | num (x : Int) (h0 : 0 ≤ x) (h1 : x ≤ 9223372036854775807) (e : n = ⟨1, ⟨1, x, ⟨#[]⟩, false, 0⟩, 0, 0, 0, 0, 0, 0, 0, ⟨#[]⟩, 0⟩) (h : leafT n = printL x)
  | bool (b : Bool) (e : n = ⟨1, ⟨3, 0, ⟨#[]⟩, b, 0⟩, 0, 0, 0, 0, 0, 0, 0, ⟨#[]⟩, 0⟩) (h : leafT n = if b then [84, 82, 85, 69] else [70, 65, 76, 83, 69])
  | code (c : Int) (h0 : 1 ≤ c) (h1 : c ≤ 8) (e : n = ⟨1, ⟨4, 0, ⟨#[]⟩, false, c⟩, 0, 0, 0, 0, 0, 0, 0, ⟨#[]⟩, 0⟩) (h : leafT n = (codeName c).data.toList)
  | cell (r c : Int) (h0 : mayB r c = true) (e : n = ⟨2, ⟨0, 0, ⟨#[]⟩, false, 0⟩, r, c, 0, 0, 0, 0, 0, ⟨#[]⟩, 0⟩) (h : leafT n = nameZ r c)
  | rect (t l b q : Int) (h0 : mayRectB t l b q = true) (e : n = ⟨3, ⟨0, 0, ⟨#[]⟩, false, 0⟩, 0, 0, t, l, b, q, 0, ⟨#[]⟩, 0⟩) (h : leafT n = nameRectZ t l b q)
theorem leaf_view {n : NL} (hm : n.may = true) (hok : n.ok) (h4 : n.kind ≠ 4) (h5 : n.kind ≠ 5) : LeafV n := by
  rcases kind_of hm with hk | hk | hk | hk | hk
  · obtain ⟨e1, e2, e3⟩ := may_value hm hk
    have e := may_val hm hk
    have hL : leafT n = litT n.v := by unfold leafT; rw [if_pos hk]
    have hv := hok.1
    obtain ⟨kd, ⟨t, x, s, b, c⟩, r, q1, rt, rl, rb, rq, op, nm, ag⟩ := n
    simp only [NL.mk.injEq] at e
    obtain ⟨rfl, _, rfl, rfl, rfl, rfl, rfl, rfl, rfl, rfl, rfl⟩ := e
    rcases vmay_cases _ e1 e2 with ⟨a1, a2, a3, a4⟩ | ⟨a1, a2, a3, a4⟩ | ⟨a1, a2, a3, a4⟩ | ⟨a1, a2, a3, a4, a5, a6⟩
    · simp only at a1 a2 a3 a4; subst a1 a2 a3 a4
      exact .num x e3 hv.2 rfl (by rw [hL]; rfl)
    · simp only at a1 a2 a3 a4; subst a1 a2 a3 a4
      exact .txt s rfl (by rw [hL]; rfl)
    · simp only at a1 a2 a3 a4; subst a1 a2 a3 a4
      exact .bool b rfl (by rw [hL]; rfl)
    · simp only at a1 a2 a3 a4; subst a1 a2 a3 a4
      exact .code c a5 a6 rfl (by rw [hL]; rfl)
  · obtain ⟨e, hb⟩ := may_cell hm hk
    exact .cell n.r n.c hb e (by unfold leafT; rw [if_neg (by omega), if_pos hk])
  · obtain ⟨e, hb⟩ := may_rct hm hk
    exact .rect n.t n.l n.b n.q hb e (by unfold leafT; rw [if_neg (by omega), if_neg (by omega)])
  · exact absurd hk h4
  · exact absurd hk h5
def codeL (n : NL) : Nat := if n.kind = 1 then (if n.v.t = 1 then 1 else if n.v.t = 3 then 2 else if n.v.t = 4 then 3 else 0) else if n.kind = 2 then 4 else 5
theorem leaf_cls {n : NL} (h : LeafV n) (ht : ¬ (n.kind = 1 ∧ n.v.t = 2)) : clsT (leafT n) = codeL n ∧ (∀ b ∈ leafT n, wordB b = true) ∧ 1 ≤ codeL n := by
  cases h with
  | txt s e h => subst e; exact absurd ⟨rfl, rfl⟩ ht
  | num x h0 h1 e h => rw [h]; refine ⟨?_, word_num h0, ?_⟩ <;> subst e; exact cls_num h0; simp [codeL]
  | bool b e h => rw [h]; subst e; cases b <;> exact ⟨by decide, by decide, by decide⟩
  | code c h0 h1 e h => rw [h]; refine ⟨?_, word_code h0 h1, ?_⟩ <;> subst e; exact cls_code h0 h1; simp [codeL]
  | cell r c h0 e h => rw [h]; refine ⟨?_, word_name r c, ?_⟩ <;> subst e; exact cls_name h0; simp [codeL]
  | rect t l b q h0 e h => rw [h]; refine ⟨?_, word_rect t l b q, ?_⟩ <;> subst e; exact cls_rect h0 (rect_parts h0).1; simp [codeL]
end Go.Proofs.YtfbkoieodflcpaaGreatDoor
namespace Go.Proofs.YtfbkoieodflcpaaGreatDoor
open Go.RowKit

/-- what may follow a thing: no byte of a word, no quote, no open bracket -/
def Stop (r : List UInt8) : Prop := NoHead (fun b => wordB b || decide (b = 34) || decide (b = 40)) r
theorem Stop.word {r : List UInt8} (h : Stop r) : NoHead wordB r := fun b t e => by
  have := h b t e
  simp only [Bool.or_eq_false_iff] at this
  exact this.1.1
theorem Stop.quote {r : List UInt8} (h : Stop r) : NoHead (fun x => decide (x = 34)) r := fun b t e => by
  have := h b t e
  simp only [Bool.or_eq_false_iff] at this
  exact this.1.2
theorem cls_nil : clsT [] = 0 := by decide
end Go.Proofs.YtfbkoieodflcpaaGreatDoor
namespace Go.Proofs.YtfbkoieodflcpaaGreatDoor
open Go.RowKit

/-- neither '=' nor '>' begins it -/
def NoEq (r : List UInt8) : Prop := NoHead (fun b => decide (b = 61) || decide (b = 62)) r
theorem op_cases {a : Int} (h1 : 3 ≤ a) (h2 : a ≤ 13) : a = 3 ∨ a = 4 ∨ a = 5 ∨ a = 6 ∨ a = 7 ∨ a = 8 ∨ a = 9 ∨ a = 10 ∨ a = 11 ∨ a = 12 ∨ a = 13 := by omega
/-- a sign as its bytes: the first, and the second or none -/
def sgA (a : Int) : UInt8 := if a = 3 then 42 else if a = 4 then 47 else if a = 5 then 43 else if a = 6 then 45 else if a = 7 then 38 else if a = 8 then 61 else if a = 9 then 60 else if a = 10 then 60 else if a = 11 then 60 else 62
theorem op_one {a : Int} (h1 : 3 ≤ a) (h2 : a ≤ 13) (h3 : a ≠ 9) (h4 : a ≠ 11) (h5 : a ≠ 13) : opT a = [sgA a] := by
  rcases op_cases h1 h2 with rfl | rfl | rfl | rfl | rfl | rfl | rfl | rfl | rfl | rfl | rfl <;> first | rfl | (exact absurd rfl ‹_›)
end Go.Proofs.YtfbkoieodflcpaaGreatDoor
