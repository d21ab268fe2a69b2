/-
  Package value: the document's Same, Compare.
-/
import Derived.Test.YtjnjklcnccfgaaaDoorValI
import Derived.WalkSpells
import Derived.WalkLawsBesides
import Derived.StillTactics
import Derived.Laws.Pointers
import Derived.Deep.RegionHeld3
import Derived.Deep.QuietTactic
import Derived.BigQuiet
import Derived.RowKit3
import Derived.Lib.Hide
import Derived.Lib.OthersKept
import Derived.OwnWalk
import Derived.Lib.IndexLaws
import Derived.Lib.ItoaMem
namespace Go.Proofs.YtjnjklcnccfgaaaDoor
open Go.RowKit

theorem rvmay_yes (t n : Int) (s : ByteArray) (b : Bool) (c : Int) (hn : -9223372036854775808 ≤ n ∧ n ≤ 9223372036854775807) (h : vMay t n s b c = true) (w : World) : Calls Tryd.prog 19 #[.agg #[.int .i64 t, .int .i64 n, .string s, .bool b, .int .i64 c]] w fun e w' => e = .returned (.bool true) ∧ Below w.heap.size w w' := by
  have := rvmay_any t n s b c hn w
  rw [h] at this
  exact this
theorem rvmay_not (t n : Int) (s : ByteArray) (b : Bool) (c : Int) (hn : -9223372036854775808 ≤ n ∧ n ≤ 9223372036854775807) (h : vMay t n s b c = false) (w : World) : Calls Tryd.prog 19 #[.agg #[.int .i64 t, .int .i64 n, .string s, .bool b, .int .i64 c]] w fun e w' => e = .returned (.bool false) ∧ Below w.heap.size w w' := by
  have := rvmay_any t n s b c hn w
  rw [h] at this
  exact this
set_option maxHeartbeats 1000000 in
theorem rvsame_any (t n : Int) (s : ByteArray) (b : Bool) (c : Int) (t' n' : Int) (s' : ByteArray) (b' : Bool) (c' : Int) (w : World) :
    Calls Tryd.prog 22 #[.agg #[.int .i64 t, .int .i64 n, .string s, .bool b, .int .i64 c], .agg #[.int .i64 t', .int .i64 n', .string s', .bool b', .int .i64 c']] w
      fun e w' => e = .returned (.bool (vEq t n s b c t' n' s' b' c')) ∧ Below w.heap.size w w' := by
  go_enter Tryd.func22, Tryd.ntmps22
  go_wp2
  all_goals go_ret
  all_goals refine ⟨ret_b (Bool.eq_iff_iff.2 ?_), by (repeat (first | (with_reducible exact Below.refl _ _) | (with_reducible refine Below.alloc ?_ (by first | omega | (dsimp only; omega) | (simp <;> omega)) _) | (with_reducible refine Below.setCell ?_ (by first | omega | (dsimp only; omega) | (simp <;> omega)) _) | (with_reducible refine Below.drew ?_) | (with_reducible refine below_drewN ?_ _) | (with_reducible refine Below.trans ?_ (Below.mono (by assumption) (by first | omega | (dsimp only; omega) | (simp <;> omega))))))⟩
  all_goals rw [beq_val]
  all_goals simp [*]
  all_goals omega
theorem may_of_0 {n : Int} {s : ByteArray} {b : Bool} {c : Int} (h : vMay 0 n s b c = true) : n = 0 ∧ s = ⟨#[]⟩ ∧ b = false ∧ c = 0 := by
  rw [vMay_iff] at h; simp at h; exact ⟨h.1, h.2.1, h.2.2.1, h.2.2.2⟩
theorem may_of_1 {n : Int} {s : ByteArray} {b : Bool} {c : Int} (h : vMay 1 n s b c = true) : s = ⟨#[]⟩ ∧ b = false ∧ c = 0 := by
  rw [vMay_iff] at h; simp at h; exact ⟨h.1, h.2.1, h.2.2.1⟩
theorem may_of_2 {n : Int} {s : ByteArray} {b : Bool} {c : Int} (h : vMay 2 n s b c = true) : n = 0 ∧ b = false ∧ c = 0 := by
  rw [vMay_iff] at h; simp at h; exact ⟨h.1, h.2.1, h.2.2⟩
theorem may_of_3 {n : Int} {s : ByteArray} {b : Bool} {c : Int} (h : vMay 3 n s b c = true) : n = 0 ∧ s = ⟨#[]⟩ ∧ c = 0 := by
  rw [vMay_iff] at h; simp at h; exact ⟨h.1, h.2.1, h.2.2⟩
theorem cb_at {a b : List UInt8} (k : Nat) (ha : k < a.length) (hb : k < b.length) : Lib.compareBytes (a.drop k) (b.drop k) = if a[k] < b[k] then -1 else if b[k] < a[k] then 1 else Lib.compareBytes (a.drop (k + 1)) (b.drop (k + 1)) := by
  rw [List.drop_eq_getElem_cons ha, List.drop_eq_getElem_cons hb]
  rfl
theorem cb_end {a b : List UInt8} (h : a.length = 0 ∨ b.length = 0) : Lib.compareBytes a b = cmpI a.length b.length := by
  cases a <;> cases b <;> simp [Lib.compareBytes, cmpI] at *
  all_goals omega
theorem cb_take (a b : List UInt8) (k : Nat) (ha : k < a.length) (hb : k < b.length) (h : Lib.compareBytes a b = Lib.compareBytes (a.drop k) (b.drop k)) : (a[k].toNat < b[k].toNat → Lib.compareBytes a b = -1) ∧ (b[k].toNat < a[k].toNat → Lib.compareBytes a b = 1) ∧ (a[k].toNat = b[k].toNat → Lib.compareBytes a b = Lib.compareBytes (a.drop (k + 1)) (b.drop (k + 1))) := by
  rw [h, cb_at k ha hb]
  simp only [UInt8.lt_iff_toNat_lt]
  refine ⟨fun h => if_pos h, fun h => ?_, fun h => ?_⟩
  · rw [if_neg (by omega), if_pos h]
  · rw [if_neg (by omega), if_neg (by omega)]
set_option maxHeartbeats 1000000 in
theorem rtexts_l (l m : List UInt8) (hl : l.length ≤ 9223372036854775807) (hm : m.length ≤ 9223372036854775807) (w : World) : Calls Tryd.prog 81 #[.string ⟨l.toArray⟩, .string ⟨m.toArray⟩] w fun e w' => e = .returned (.int .i64 (Lib.compareBytes l m)) ∧ Below w.heap.size w w' := by
  go_enter Tryd.func81, Tryd.ntmps81
  go_wp2
  go_loopw [5] (fun i wr => ∃ k : Nat, k ≤ l.length ∧ k ≤ m.length ∧ i = .int .i64 k ∧ Hid (Lib.compareBytes l m = Lib.compareBytes (l.drop k) (m.drop k)) ∧ Below w.heap.size w wr) (fun i _ => l.length - (intOf i).toNat)
  case atStart => exact ⟨0, by omega, by omega, rfl, Lib.hid rfl, Below.refl _ _⟩
  case round =>
    obtain ⟨k, hk1, hk2, rfl, hd, hbl⟩ := hrel
    by_cases h1 : k < l.length
    · by_cases h2 : k < m.length
      · obtain ⟨c1, c2, c3⟩ := cb_take l m k h1 h2 hd.out
        have hb1 : k < (⟨l.toArray⟩ : ByteArray).size := by show k < l.toArray.size; simpa using h1
        have hb2 : k < (⟨m.toArray⟩ : ByteArray).size := by show k < m.toArray.size; simpa using h2
        by_cases a1 : ((⟨l.toArray⟩ : ByteArray)[k]'hb1).toNat < ((⟨m.toArray⟩ : ByteArray)[k]'hb2).toNat
        · have c := Lib.hid (c1 a1)
          clear c1 c2 c3
          go_wp2
          go_quiet (fail)
          go_wp2
          go_ret
          exact ⟨by first | (rw [c.out]; done) | (rw [c.out]; rfl), by (repeat (first | assumption | (refine below_drewN ?_ _)))⟩
        · by_cases a2 : ((⟨m.toArray⟩ : ByteArray)[k]'hb2).toNat < ((⟨l.toArray⟩ : ByteArray)[k]'hb1).toNat
          · have c := Lib.hid (c2 a2)
            clear c1 c2 c3
            go_wp2
            go_quiet (fail)
            go_wp2
            go_quiet (fail)
            go_wp2
            go_ret
            exact ⟨by first | (rw [c.out]; done) | (rw [c.out]; rfl), by (repeat (first | assumption | (refine below_drewN ?_ _)))⟩
          · have c := Lib.hid (c3 (by have e1 : ¬ l[k].toNat < m[k].toNat := a1; have e2 : ¬ m[k].toNat < l[k].toNat := a2; omega))
            clear c1 c2 c3
            go_wp2
            go_quiet (fail)
            go_wp2
            go_quiet (fail)
            go_wp2
            go_roundw
            case rel => exact ⟨k + 1, by omega, by omega, by go_num, c, by (repeat (first | assumption | (refine below_drewN ?_ _)))⟩
            case measure => simp [intOf]; omega
      · obtain rfl : k = m.length := by omega
        have n1 : ¬ l.length = m.length := by omega
        have n2 : ¬ l.length < m.length := by omega
        have c := Lib.hid (show Lib.compareBytes l m = cmpI (l.length - m.length : Nat) 0 by rw [hd.out, cb_end (.inr (by simp))]; simp)
        go_wp2
        go_ret
        exact ⟨by rw [c.out]; apply ret_i; unfold cmpI; rw [if_neg (by omega), if_pos (by omega)], hbl⟩
    · obtain rfl : k = l.length := by omega
      have c := Lib.hid (show Lib.compareBytes l m = cmpI 0 (m.length - l.length : Nat) by rw [hd.out, cb_end (.inl (by simp))]; simp)
      have e := Lib.hid hk2
      by_cases n1 : l.length = m.length
      · go_wp2
        go_ret
        exact ⟨by rw [c.out]; apply ret_i; unfold cmpI; rw [if_neg (by omega), if_neg (by omega)], hbl⟩
      · have n2 : l.length < m.length := by omega
        go_wp2
        go_ret
        exact ⟨by rw [c.out]; apply ret_i; unfold cmpI; rw [if_pos (by omega)], hbl⟩
theorem rtexts_any (s s' : ByteArray) (hs : s.size ≤ maxLen) (hs' : s'.size ≤ maxLen) (w : World) : Calls Tryd.prog 81 #[.string s, .string s'] w fun e w' => e = .returned (.int .i64 (Lib.compareBytes s.data.toList s'.data.toList)) ∧ Below w.heap.size w w' := by
  have := rtexts_l s.data.toList s'.data.toList (by unfold maxLen at hs; simpa using hs) (by unfold maxLen at hs'; simpa using hs') w
  simpa using this
set_option maxRecDepth 100000 in
set_option maxHeartbeats 4000000 in
theorem rcmp_no1 (t n : Int) (s : ByteArray) (b : Bool) (c : Int) (t' n' : Int) (s' : ByteArray) (b' : Bool) (c' : Int) (hn : -9223372036854775808 ≤ n ∧ n ≤ 9223372036854775807) (hn' : -9223372036854775808 ≤ n' ∧ n' ≤ 9223372036854775807) (m : vMay t n s b c = false) (w : World) :
    Calls Tryd.prog 24 #[.agg #[.int .i64 t, .int .i64 n, .string s, .bool b, .int .i64 c], .agg #[.int .i64 t', .int .i64 n', .string s', .bool b', .int .i64 c']] w
      fun e w' => e = .returned (.int .i64 0) ∧ Below w.heap.size w w' := by
  go_enter Tryd.func24, Tryd.ntmps24
  go_wp2_with fail
  go_wp2_with (go_at_call 19; refine (rvmay_not _ _ _ _ _ (by first | assumption | (constructor <;> omega)) (by assumption) _).mono ?_; rintro e w1 ⟨rfl, hb⟩; obtain ⟨hc, hf, hz⟩ := bkeep hb (w.heap.size + 2) (by first | omega | (simp <;> omega)))
  go_ret
  exact ⟨rfl, by first | assumption | (go_split_ands; first | assumption | ((repeat (first | (with_reducible exact Below.refl _ _) | (with_reducible refine Below.alloc ?_ (by first | omega | (dsimp only; omega) | (simp <;> omega)) _) | (with_reducible refine Below.setCell ?_ (by first | omega | (dsimp only; omega) | (simp <;> omega)) _) | (with_reducible refine Below.drew ?_) | (with_reducible refine below_drewN ?_ _) | (with_reducible refine Below.trans ?_ (Below.mono (by assumption) (by first | omega | (dsimp only; omega) | (simp <;> omega)))))); done)) | ((repeat (first | (with_reducible exact Below.refl _ _) | (with_reducible refine Below.alloc ?_ (by first | omega | (dsimp only; omega) | (simp <;> omega)) _) | (with_reducible refine Below.setCell ?_ (by first | omega | (dsimp only; omega) | (simp <;> omega)) _) | (with_reducible refine Below.drew ?_) | (with_reducible refine below_drewN ?_ _) | (with_reducible refine Below.trans ?_ (Below.mono (by assumption) (by first | omega | (dsimp only; omega) | (simp <;> omega)))))); done)⟩
set_option maxRecDepth 100000 in
set_option maxHeartbeats 4000000 in
theorem rcmp_no2 (t n : Int) (s : ByteArray) (b : Bool) (c : Int) (t' n' : Int) (s' : ByteArray) (b' : Bool) (c' : Int) (hn : -9223372036854775808 ≤ n ∧ n ≤ 9223372036854775807) (hn' : -9223372036854775808 ≤ n' ∧ n' ≤ 9223372036854775807) (m : vMay t n s b c = true) (m' : vMay t' n' s' b' c' = false) (w : World) :
    Calls Tryd.prog 24 #[.agg #[.int .i64 t, .int .i64 n, .string s, .bool b, .int .i64 c], .agg #[.int .i64 t', .int .i64 n', .string s', .bool b', .int .i64 c']] w
      fun e w' => e = .returned (.int .i64 0) ∧ Below w.heap.size w w' := by
  go_enter Tryd.func24, Tryd.ntmps24
  go_wp2_with fail
  go_wp2_with (first | (go_at_call 19; refine (rvmay_yes _ _ _ _ _ (by first | assumption | (constructor <;> omega)) (by assumption) _).mono ?_; rintro e w1 ⟨rfl, hb⟩; obtain ⟨hc, hf, hz⟩ := bkeep hb (w.heap.size + 2) (by first | omega | (simp <;> omega))) | (go_at_call 19; refine (rvmay_not _ _ _ _ _ (by first | assumption | (constructor <;> omega)) (by assumption) _).mono ?_; rintro e w1 ⟨rfl, hb⟩; obtain ⟨hc, hf, hz⟩ := bkeep hb (w.heap.size + 2) (by first | omega | (simp <;> omega))))
  go_ret
  exact ⟨rfl, by first | assumption | (go_split_ands; first | assumption | ((repeat (first | (with_reducible exact Below.refl _ _) | (with_reducible refine Below.alloc ?_ (by first | omega | (dsimp only; omega) | (simp <;> omega)) _) | (with_reducible refine Below.setCell ?_ (by first | omega | (dsimp only; omega) | (simp <;> omega)) _) | (with_reducible refine Below.drew ?_) | (with_reducible refine below_drewN ?_ _) | (with_reducible refine Below.trans ?_ (Below.mono (by assumption) (by first | omega | (dsimp only; omega) | (simp <;> omega)))))); done)) | ((repeat (first | (with_reducible exact Below.refl _ _) | (with_reducible refine Below.alloc ?_ (by first | omega | (dsimp only; omega) | (simp <;> omega)) _) | (with_reducible refine Below.setCell ?_ (by first | omega | (dsimp only; omega) | (simp <;> omega)) _) | (with_reducible refine Below.drew ?_) | (with_reducible refine below_drewN ?_ _) | (with_reducible refine Below.trans ?_ (Below.mono (by assumption) (by first | omega | (dsimp only; omega) | (simp <;> omega)))))); done)⟩
set_option maxRecDepth 100000 in
set_option maxHeartbeats 4000000 in
theorem rcmp_no3 (n : Int) (s : ByteArray) (b : Bool) (c : Int) (t' n' : Int) (s' : ByteArray) (b' : Bool) (c' : Int) (hn : -9223372036854775808 ≤ n ∧ n ≤ 9223372036854775807) (hn' : -9223372036854775808 ≤ n' ∧ n' ≤ 9223372036854775807) (m : vMay 4 n s b c = true) (m' : vMay t' n' s' b' c' = true) (w : World) :
    Calls Tryd.prog 24 #[.agg #[.int .i64 4, .int .i64 n, .string s, .bool b, .int .i64 c], .agg #[.int .i64 t', .int .i64 n', .string s', .bool b', .int .i64 c']] w
      fun e w' => e = .returned (.int .i64 0) ∧ Below w.heap.size w w' := by
  go_enter Tryd.func24, Tryd.ntmps24
  go_wp2_with fail
  go_wp2_with (go_at_call 19; refine (rvmay_yes _ _ _ _ _ (by first | assumption | (constructor <;> omega)) (by assumption) _).mono ?_; rintro e w1 ⟨rfl, hb⟩; obtain ⟨hc, hf, hz⟩ := bkeep hb (w.heap.size + 2) (by first | omega | (simp <;> omega)))
  go_ret
  exact ⟨rfl, by first | assumption | (go_split_ands; first | assumption | ((repeat (first | (with_reducible exact Below.refl _ _) | (with_reducible refine Below.alloc ?_ (by first | omega | (dsimp only; omega) | (simp <;> omega)) _) | (with_reducible refine Below.setCell ?_ (by first | omega | (dsimp only; omega) | (simp <;> omega)) _) | (with_reducible refine Below.drew ?_) | (with_reducible refine below_drewN ?_ _) | (with_reducible refine Below.trans ?_ (Below.mono (by assumption) (by first | omega | (dsimp only; omega) | (simp <;> omega)))))); done)) | ((repeat (first | (with_reducible exact Below.refl _ _) | (with_reducible refine Below.alloc ?_ (by first | omega | (dsimp only; omega) | (simp <;> omega)) _) | (with_reducible refine Below.setCell ?_ (by first | omega | (dsimp only; omega) | (simp <;> omega)) _) | (with_reducible refine Below.drew ?_) | (with_reducible refine below_drewN ?_ _) | (with_reducible refine Below.trans ?_ (Below.mono (by assumption) (by first | omega | (dsimp only; omega) | (simp <;> omega)))))); done)⟩
set_option maxRecDepth 100000 in
set_option maxHeartbeats 4000000 in
theorem rcmp_no4_0 (n : Int) (s : ByteArray) (b : Bool) (c : Int) (n' : Int) (s' : ByteArray) (b' : Bool) (c' : Int) (hn : -9223372036854775808 ≤ n ∧ n ≤ 9223372036854775807) (hn' : -9223372036854775808 ≤ n' ∧ n' ≤ 9223372036854775807) (m : vMay 0 n s b c = true) (m' : vMay 4 n' s' b' c' = true) (w : World) :
    Calls Tryd.prog 24 #[.agg #[.int .i64 0, .int .i64 n, .string s, .bool b, .int .i64 c], .agg #[.int .i64 4, .int .i64 n', .string s', .bool b', .int .i64 c']] w
      fun e w' => e = .returned (.int .i64 0) ∧ Below w.heap.size w w' := by
  go_enter Tryd.func24, Tryd.ntmps24
  go_wp2_with fail
  go_wp2_with (go_at_call 19; refine (rvmay_yes _ _ _ _ _ (by first | assumption | (constructor <;> omega)) (by assumption) _).mono ?_; rintro e w1 ⟨rfl, hb⟩; obtain ⟨hc, hf, hz⟩ := bkeep hb (w.heap.size + 2) (by first | omega | (simp <;> omega)))
  go_ret
  exact ⟨rfl, by first | assumption | (go_split_ands; first | assumption | ((repeat (first | (with_reducible exact Below.refl _ _) | (with_reducible refine Below.alloc ?_ (by first | omega | (dsimp only; omega) | (simp <;> omega)) _) | (with_reducible refine Below.setCell ?_ (by first | omega | (dsimp only; omega) | (simp <;> omega)) _) | (with_reducible refine Below.drew ?_) | (with_reducible refine below_drewN ?_ _) | (with_reducible refine Below.trans ?_ (Below.mono (by assumption) (by first | omega | (dsimp only; omega) | (simp <;> omega)))))); done)) | ((repeat (first | (with_reducible exact Below.refl _ _) | (with_reducible refine Below.alloc ?_ (by first | omega | (dsimp only; omega) | (simp <;> omega)) _) | (with_reducible refine Below.setCell ?_ (by first | omega | (dsimp only; omega) | (simp <;> omega)) _) | (with_reducible refine Below.drew ?_) | (with_reducible refine below_drewN ?_ _) | (with_reducible refine Below.trans ?_ (Below.mono (by assumption) (by first | omega | (dsimp only; omega) | (simp <;> omega)))))); done)⟩
set_option maxRecDepth 100000 in
set_option maxHeartbeats 4000000 in
theorem rcmp_no4_1 (n : Int) (s : ByteArray) (b : Bool) (c : Int) (n' : Int) (s' : ByteArray) (b' : Bool) (c' : Int) (hn : -9223372036854775808 ≤ n ∧ n ≤ 9223372036854775807) (hn' : -9223372036854775808 ≤ n' ∧ n' ≤ 9223372036854775807) (m : vMay 1 n s b c = true) (m' : vMay 4 n' s' b' c' = true) (w : World) :
    Calls Tryd.prog 24 #[.agg #[.int .i64 1, .int .i64 n, .string s, .bool b, .int .i64 c], .agg #[.int .i64 4, .int .i64 n', .string s', .bool b', .int .i64 c']] w
      fun e w' => e = .returned (.int .i64 0) ∧ Below w.heap.size w w' := by
  go_enter Tryd.func24, Tryd.ntmps24
  go_wp2_with fail
  go_wp2_with (go_at_call 19; refine (rvmay_yes _ _ _ _ _ (by first | assumption | (constructor <;> omega)) (by assumption) _).mono ?_; rintro e w1 ⟨rfl, hb⟩; obtain ⟨hc, hf, hz⟩ := bkeep hb (w.heap.size + 2) (by first | omega | (simp <;> omega)))
  go_ret
  exact ⟨rfl, by first | assumption | (go_split_ands; first | assumption | ((repeat (first | (with_reducible exact Below.refl _ _) | (with_reducible refine Below.alloc ?_ (by first | omega | (dsimp only; omega) | (simp <;> omega)) _) | (with_reducible refine Below.setCell ?_ (by first | omega | (dsimp only; omega) | (simp <;> omega)) _) | (with_reducible refine Below.drew ?_) | (with_reducible refine below_drewN ?_ _) | (with_reducible refine Below.trans ?_ (Below.mono (by assumption) (by first | omega | (dsimp only; omega) | (simp <;> omega)))))); done)) | ((repeat (first | (with_reducible exact Below.refl _ _) | (with_reducible refine Below.alloc ?_ (by first | omega | (dsimp only; omega) | (simp <;> omega)) _) | (with_reducible refine Below.setCell ?_ (by first | omega | (dsimp only; omega) | (simp <;> omega)) _) | (with_reducible refine Below.drew ?_) | (with_reducible refine below_drewN ?_ _) | (with_reducible refine Below.trans ?_ (Below.mono (by assumption) (by first | omega | (dsimp only; omega) | (simp <;> omega)))))); done)⟩
set_option maxRecDepth 100000 in
set_option maxHeartbeats 4000000 in
theorem rcmp_no4_2 (n : Int) (s : ByteArray) (b : Bool) (c : Int) (n' : Int) (s' : ByteArray) (b' : Bool) (c' : Int) (hn : -9223372036854775808 ≤ n ∧ n ≤ 9223372036854775807) (hn' : -9223372036854775808 ≤ n' ∧ n' ≤ 9223372036854775807) (m : vMay 2 n s b c = true) (m' : vMay 4 n' s' b' c' = true) (w : World) :
    Calls Tryd.prog 24 #[.agg #[.int .i64 2, .int .i64 n, .string s, .bool b, .int .i64 c], .agg #[.int .i64 4, .int .i64 n', .string s', .bool b', .int .i64 c']] w
      fun e w' => e = .returned (.int .i64 0) ∧ Below w.heap.size w w' := by
  go_enter Tryd.func24, Tryd.ntmps24
  go_wp2_with fail
  go_wp2_with (go_at_call 19; refine (rvmay_yes _ _ _ _ _ (by first | assumption | (constructor <;> omega)) (by assumption) _).mono ?_; rintro e w1 ⟨rfl, hb⟩; obtain ⟨hc, hf, hz⟩ := bkeep hb (w.heap.size + 2) (by first | omega | (simp <;> omega)))
  go_ret
  exact ⟨rfl, by first | assumption | (go_split_ands; first | assumption | ((repeat (first | (with_reducible exact Below.refl _ _) | (with_reducible refine Below.alloc ?_ (by first | omega | (dsimp only; omega) | (simp <;> omega)) _) | (with_reducible refine Below.setCell ?_ (by first | omega | (dsimp only; omega) | (simp <;> omega)) _) | (with_reducible refine Below.drew ?_) | (with_reducible refine below_drewN ?_ _) | (with_reducible refine Below.trans ?_ (Below.mono (by assumption) (by first | omega | (dsimp only; omega) | (simp <;> omega)))))); done)) | ((repeat (first | (with_reducible exact Below.refl _ _) | (with_reducible refine Below.alloc ?_ (by first | omega | (dsimp only; omega) | (simp <;> omega)) _) | (with_reducible refine Below.setCell ?_ (by first | omega | (dsimp only; omega) | (simp <;> omega)) _) | (with_reducible refine Below.drew ?_) | (with_reducible refine below_drewN ?_ _) | (with_reducible refine Below.trans ?_ (Below.mono (by assumption) (by first | omega | (dsimp only; omega) | (simp <;> omega)))))); done)⟩
set_option maxRecDepth 100000 in
set_option maxHeartbeats 4000000 in
theorem rcmp_no4_3 (n : Int) (s : ByteArray) (b : Bool) (c : Int) (n' : Int) (s' : ByteArray) (b' : Bool) (c' : Int) (hn : -9223372036854775808 ≤ n ∧ n ≤ 9223372036854775807) (hn' : -9223372036854775808 ≤ n' ∧ n' ≤ 9223372036854775807) (m : vMay 3 n s b c = true) (m' : vMay 4 n' s' b' c' = true) (w : World) :
    Calls Tryd.prog 24 #[.agg #[.int .i64 3, .int .i64 n, .string s, .bool b, .int .i64 c], .agg #[.int .i64 4, .int .i64 n', .string s', .bool b', .int .i64 c']] w
      fun e w' => e = .returned (.int .i64 0) ∧ Below w.heap.size w w' := by
  go_enter Tryd.func24, Tryd.ntmps24
  go_wp2_with fail
  go_wp2_with (go_at_call 19; refine (rvmay_yes _ _ _ _ _ (by first | assumption | (constructor <;> omega)) (by assumption) _).mono ?_; rintro e w1 ⟨rfl, hb⟩; obtain ⟨hc, hf, hz⟩ := bkeep hb (w.heap.size + 2) (by first | omega | (simp <;> omega)))
  go_ret
  exact ⟨rfl, by first | assumption | (go_split_ands; first | assumption | ((repeat (first | (with_reducible exact Below.refl _ _) | (with_reducible refine Below.alloc ?_ (by first | omega | (dsimp only; omega) | (simp <;> omega)) _) | (with_reducible refine Below.setCell ?_ (by first | omega | (dsimp only; omega) | (simp <;> omega)) _) | (with_reducible refine Below.drew ?_) | (with_reducible refine below_drewN ?_ _) | (with_reducible refine Below.trans ?_ (Below.mono (by assumption) (by first | omega | (dsimp only; omega) | (simp <;> omega)))))); done)) | ((repeat (first | (with_reducible exact Below.refl _ _) | (with_reducible refine Below.alloc ?_ (by first | omega | (dsimp only; omega) | (simp <;> omega)) _) | (with_reducible refine Below.setCell ?_ (by first | omega | (dsimp only; omega) | (simp <;> omega)) _) | (with_reducible refine Below.drew ?_) | (with_reducible refine below_drewN ?_ _) | (with_reducible refine Below.trans ?_ (Below.mono (by assumption) (by first | omega | (dsimp only; omega) | (simp <;> omega)))))); done)⟩
set_option maxRecDepth 100000 in
set_option maxHeartbeats 4000000 in
theorem rcmp_0_0 (n : Int) (s : ByteArray) (b : Bool) (c : Int) (n' : Int) (s' : ByteArray) (b' : Bool) (c' : Int) (hn : -9223372036854775808 ≤ n ∧ n ≤ 9223372036854775807) (hn' : -9223372036854775808 ≤ n' ∧ n' ≤ 9223372036854775807) (_hs : s.size ≤ maxLen) (_hs' : s'.size ≤ maxLen) (m : vMay 0 n s b c = true) (m' : vMay 0 n' s' b' c' = true) (w : World) :
    Calls Tryd.prog 24 #[.agg #[.int .i64 0, .int .i64 n, .string s, .bool b, .int .i64 c], .agg #[.int .i64 0, .int .i64 n', .string s', .bool b', .int .i64 c']] w
      fun e w' => e = .returned (.int .i64 (b2i b - b2i b')) ∧ Below w.heap.size w w' := by
  obtain ⟨rfl, rfl, rfl, rfl⟩ := may_of_0 m
  obtain ⟨rfl, rfl, rfl, rfl⟩ := may_of_0 m'
  all_goals
    go_enter Tryd.func24, Tryd.ntmps24
    go_wp2_with fail
    go_wp2_with (first | (go_at_call 19; refine (rvmay_yes _ _ _ _ _ (by first | assumption | (constructor <;> omega)) (by assumption) _).mono ?_; rintro e w1 ⟨rfl, hb⟩; obtain ⟨hc, hf, hz⟩ := bkeep hb (w.heap.size + 2) (by first | omega | (simp <;> omega))) | (go_at_call 81; refine (rtexts_any _ _ (by first | assumption | (constructor <;> omega)) (by first | assumption | (constructor <;> omega)) _).mono ?_; rintro e w1 ⟨rfl, hb⟩))
  all_goals go_ret
  all_goals refine ⟨ret_i ?_, by first | assumption | (go_split_ands; first | assumption | ((repeat (first | (with_reducible exact Below.refl _ _) | (with_reducible refine Below.alloc ?_ (by first | omega | (dsimp only; omega) | (simp <;> omega)) _) | (with_reducible refine Below.setCell ?_ (by first | omega | (dsimp only; omega) | (simp <;> omega)) _) | (with_reducible refine Below.drew ?_) | (with_reducible refine below_drewN ?_ _) | (with_reducible refine Below.trans ?_ (Below.mono (by assumption) (by first | omega | (dsimp only; omega) | (simp <;> omega)))))); done)) | ((repeat (first | (with_reducible exact Below.refl _ _) | (with_reducible refine Below.alloc ?_ (by first | omega | (dsimp only; omega) | (simp <;> omega)) _) | (with_reducible refine Below.setCell ?_ (by first | omega | (dsimp only; omega) | (simp <;> omega)) _) | (with_reducible refine Below.drew ?_) | (with_reducible refine below_drewN ?_ _) | (with_reducible refine Below.trans ?_ (Below.mono (by assumption) (by first | omega | (dsimp only; omega) | (simp <;> omega)))))); done)⟩
  all_goals first | done | rfl | decide | ((try unfold cmpI); (repeat' split) <;> omega)
set_option maxRecDepth 100000 in
set_option maxHeartbeats 4000000 in
theorem rcmp_0_1 (n : Int) (s : ByteArray) (b : Bool) (c : Int) (n' : Int) (s' : ByteArray) (b' : Bool) (c' : Int) (hn : -9223372036854775808 ≤ n ∧ n ≤ 9223372036854775807) (hn' : -9223372036854775808 ≤ n' ∧ n' ≤ 9223372036854775807) (_hs : s.size ≤ maxLen) (_hs' : s'.size ≤ maxLen) (m : vMay 0 n s b c = true) (m' : vMay 1 n' s' b' c' = true) (w : World) :
    Calls Tryd.prog 24 #[.agg #[.int .i64 0, .int .i64 n, .string s, .bool b, .int .i64 c], .agg #[.int .i64 1, .int .i64 n', .string s', .bool b', .int .i64 c']] w
      fun e w' => e = .returned (.int .i64 (cmpI n n')) ∧ Below w.heap.size w w' := by
  obtain ⟨rfl, rfl, rfl, rfl⟩ := may_of_0 m
  obtain ⟨rfl, rfl, rfl⟩ := may_of_1 m'
  all_goals
    go_enter Tryd.func24, Tryd.ntmps24
    go_wp2_with fail
    go_wp2_with (first | (go_at_call 19; refine (rvmay_yes _ _ _ _ _ (by first | assumption | (constructor <;> omega)) (by assumption) _).mono ?_; rintro e w1 ⟨rfl, hb⟩; obtain ⟨hc, hf, hz⟩ := bkeep hb (w.heap.size + 2) (by first | omega | (simp <;> omega))) | (go_at_call 81; refine (rtexts_any _ _ (by first | assumption | (constructor <;> omega)) (by first | assumption | (constructor <;> omega)) _).mono ?_; rintro e w1 ⟨rfl, hb⟩))
  all_goals go_ret
  all_goals refine ⟨ret_i ?_, by first | assumption | (go_split_ands; first | assumption | ((repeat (first | (with_reducible exact Below.refl _ _) | (with_reducible refine Below.alloc ?_ (by first | omega | (dsimp only; omega) | (simp <;> omega)) _) | (with_reducible refine Below.setCell ?_ (by first | omega | (dsimp only; omega) | (simp <;> omega)) _) | (with_reducible refine Below.drew ?_) | (with_reducible refine below_drewN ?_ _) | (with_reducible refine Below.trans ?_ (Below.mono (by assumption) (by first | omega | (dsimp only; omega) | (simp <;> omega)))))); done)) | ((repeat (first | (with_reducible exact Below.refl _ _) | (with_reducible refine Below.alloc ?_ (by first | omega | (dsimp only; omega) | (simp <;> omega)) _) | (with_reducible refine Below.setCell ?_ (by first | omega | (dsimp only; omega) | (simp <;> omega)) _) | (with_reducible refine Below.drew ?_) | (with_reducible refine below_drewN ?_ _) | (with_reducible refine Below.trans ?_ (Below.mono (by assumption) (by first | omega | (dsimp only; omega) | (simp <;> omega)))))); done)⟩
  all_goals first | done | rfl | decide | ((try unfold cmpI); (repeat' split) <;> omega)
set_option maxRecDepth 100000 in
set_option maxHeartbeats 4000000 in
theorem rcmp_0_2 (n : Int) (s : ByteArray) (b : Bool) (c : Int) (n' : Int) (s' : ByteArray) (b' : Bool) (c' : Int) (hn : -9223372036854775808 ≤ n ∧ n ≤ 9223372036854775807) (hn' : -9223372036854775808 ≤ n' ∧ n' ≤ 9223372036854775807) (_hs : s.size ≤ maxLen) (_hs' : s'.size ≤ maxLen) (m : vMay 0 n s b c = true) (m' : vMay 2 n' s' b' c' = true) (w : World) :
    Calls Tryd.prog 24 #[.agg #[.int .i64 0, .int .i64 n, .string s, .bool b, .int .i64 c], .agg #[.int .i64 2, .int .i64 n', .string s', .bool b', .int .i64 c']] w
      fun e w' => e = .returned (.int .i64 (Lib.compareBytes s.data.toList s'.data.toList)) ∧ Below w.heap.size w w' := by
  obtain ⟨rfl, rfl, rfl, rfl⟩ := may_of_0 m
  obtain ⟨rfl, rfl, rfl⟩ := may_of_2 m'
  all_goals
    go_enter Tryd.func24, Tryd.ntmps24
    go_wp2_with fail
    go_wp2_with (first | (go_at_call 19; refine (rvmay_yes _ _ _ _ _ (by first | assumption | (constructor <;> omega)) (by assumption) _).mono ?_; rintro e w1 ⟨rfl, hb⟩; obtain ⟨hc, hf, hz⟩ := bkeep hb (w.heap.size + 2) (by first | omega | (simp <;> omega))) | (go_at_call 81; refine (rtexts_any _ _ (by first | assumption | (constructor <;> omega)) (by first | assumption | (constructor <;> omega)) _).mono ?_; rintro e w1 ⟨rfl, hb⟩))
  all_goals go_ret
  all_goals refine ⟨ret_i ?_, by first | assumption | (go_split_ands; first | assumption | ((repeat (first | (with_reducible exact Below.refl _ _) | (with_reducible refine Below.alloc ?_ (by first | omega | (dsimp only; omega) | (simp <;> omega)) _) | (with_reducible refine Below.setCell ?_ (by first | omega | (dsimp only; omega) | (simp <;> omega)) _) | (with_reducible refine Below.drew ?_) | (with_reducible refine below_drewN ?_ _) | (with_reducible refine Below.trans ?_ (Below.mono (by assumption) (by first | omega | (dsimp only; omega) | (simp <;> omega)))))); done)) | ((repeat (first | (with_reducible exact Below.refl _ _) | (with_reducible refine Below.alloc ?_ (by first | omega | (dsimp only; omega) | (simp <;> omega)) _) | (with_reducible refine Below.setCell ?_ (by first | omega | (dsimp only; omega) | (simp <;> omega)) _) | (with_reducible refine Below.drew ?_) | (with_reducible refine below_drewN ?_ _) | (with_reducible refine Below.trans ?_ (Below.mono (by assumption) (by first | omega | (dsimp only; omega) | (simp <;> omega)))))); done)⟩
  all_goals first | done | rfl | decide | ((try unfold cmpI); (repeat' split) <;> omega)
set_option maxRecDepth 100000 in
set_option maxHeartbeats 4000000 in
theorem rcmp_0_3 (n : Int) (s : ByteArray) (b : Bool) (c : Int) (n' : Int) (s' : ByteArray) (b' : Bool) (c' : Int) (hn : -9223372036854775808 ≤ n ∧ n ≤ 9223372036854775807) (hn' : -9223372036854775808 ≤ n' ∧ n' ≤ 9223372036854775807) (_hs : s.size ≤ maxLen) (_hs' : s'.size ≤ maxLen) (m : vMay 0 n s b c = true) (m' : vMay 3 n' s' b' c' = true) (w : World) :
    Calls Tryd.prog 24 #[.agg #[.int .i64 0, .int .i64 n, .string s, .bool b, .int .i64 c], .agg #[.int .i64 3, .int .i64 n', .string s', .bool b', .int .i64 c']] w
      fun e w' => e = .returned (.int .i64 (b2i b - b2i b')) ∧ Below w.heap.size w w' := by
  obtain ⟨rfl, rfl, rfl, rfl⟩ := may_of_0 m
  obtain ⟨rfl, rfl, rfl⟩ := may_of_3 m'
  cases b'
  all_goals
    go_enter Tryd.func24, Tryd.ntmps24
    go_wp2_with fail
    go_wp2_with (first | (go_at_call 19; refine (rvmay_yes _ _ _ _ _ (by first | assumption | (constructor <;> omega)) (by assumption) _).mono ?_; rintro e w1 ⟨rfl, hb⟩; obtain ⟨hc, hf, hz⟩ := bkeep hb (w.heap.size + 2) (by first | omega | (simp <;> omega))) | (go_at_call 81; refine (rtexts_any _ _ (by first | assumption | (constructor <;> omega)) (by first | assumption | (constructor <;> omega)) _).mono ?_; rintro e w1 ⟨rfl, hb⟩))
  all_goals go_ret
  all_goals refine ⟨ret_i ?_, by first | assumption | (go_split_ands; first | assumption | ((repeat (first | (with_reducible exact Below.refl _ _) | (with_reducible refine Below.alloc ?_ (by first | omega | (dsimp only; omega) | (simp <;> omega)) _) | (with_reducible refine Below.setCell ?_ (by first | omega | (dsimp only; omega) | (simp <;> omega)) _) | (with_reducible refine Below.drew ?_) | (with_reducible refine below_drewN ?_ _) | (with_reducible refine Below.trans ?_ (Below.mono (by assumption) (by first | omega | (dsimp only; omega) | (simp <;> omega)))))); done)) | ((repeat (first | (with_reducible exact Below.refl _ _) | (with_reducible refine Below.alloc ?_ (by first | omega | (dsimp only; omega) | (simp <;> omega)) _) | (with_reducible refine Below.setCell ?_ (by first | omega | (dsimp only; omega) | (simp <;> omega)) _) | (with_reducible refine Below.drew ?_) | (with_reducible refine below_drewN ?_ _) | (with_reducible refine Below.trans ?_ (Below.mono (by assumption) (by first | omega | (dsimp only; omega) | (simp <;> omega)))))); done)⟩
  all_goals first | done | rfl | decide | ((try unfold cmpI); (repeat' split) <;> omega)
set_option maxRecDepth 100000 in
set_option maxHeartbeats 4000000 in
theorem rcmp_1_0 (n : Int) (s : ByteArray) (b : Bool) (c : Int) (n' : Int) (s' : ByteArray) (b' : Bool) (c' : Int) (hn : -9223372036854775808 ≤ n ∧ n ≤ 9223372036854775807) (hn' : -9223372036854775808 ≤ n' ∧ n' ≤ 9223372036854775807) (_hs : s.size ≤ maxLen) (_hs' : s'.size ≤ maxLen) (m : vMay 1 n s b c = true) (m' : vMay 0 n' s' b' c' = true) (w : World) :
    Calls Tryd.prog 24 #[.agg #[.int .i64 1, .int .i64 n, .string s, .bool b, .int .i64 c], .agg #[.int .i64 0, .int .i64 n', .string s', .bool b', .int .i64 c']] w
      fun e w' => e = .returned (.int .i64 (cmpI n n')) ∧ Below w.heap.size w w' := by
  obtain ⟨rfl, rfl, rfl⟩ := may_of_1 m
  obtain ⟨rfl, rfl, rfl, rfl⟩ := may_of_0 m'
  all_goals
    go_enter Tryd.func24, Tryd.ntmps24
    go_wp2_with fail
    go_wp2_with (first | (go_at_call 19; refine (rvmay_yes _ _ _ _ _ (by first | assumption | (constructor <;> omega)) (by assumption) _).mono ?_; rintro e w1 ⟨rfl, hb⟩; obtain ⟨hc, hf, hz⟩ := bkeep hb (w.heap.size + 2) (by first | omega | (simp <;> omega))) | (go_at_call 81; refine (rtexts_any _ _ (by first | assumption | (constructor <;> omega)) (by first | assumption | (constructor <;> omega)) _).mono ?_; rintro e w1 ⟨rfl, hb⟩))
  all_goals go_ret
  all_goals refine ⟨ret_i ?_, by first | assumption | (go_split_ands; first | assumption | ((repeat (first | (with_reducible exact Below.refl _ _) | (with_reducible refine Below.alloc ?_ (by first | omega | (dsimp only; omega) | (simp <;> omega)) _) | (with_reducible refine Below.setCell ?_ (by first | omega | (dsimp only; omega) | (simp <;> omega)) _) | (with_reducible refine Below.drew ?_) | (with_reducible refine below_drewN ?_ _) | (with_reducible refine Below.trans ?_ (Below.mono (by assumption) (by first | omega | (dsimp only; omega) | (simp <;> omega)))))); done)) | ((repeat (first | (with_reducible exact Below.refl _ _) | (with_reducible refine Below.alloc ?_ (by first | omega | (dsimp only; omega) | (simp <;> omega)) _) | (with_reducible refine Below.setCell ?_ (by first | omega | (dsimp only; omega) | (simp <;> omega)) _) | (with_reducible refine Below.drew ?_) | (with_reducible refine below_drewN ?_ _) | (with_reducible refine Below.trans ?_ (Below.mono (by assumption) (by first | omega | (dsimp only; omega) | (simp <;> omega)))))); done)⟩
  all_goals first | done | rfl | decide | ((try unfold cmpI); (repeat' split) <;> omega)
set_option maxRecDepth 100000 in
set_option maxHeartbeats 4000000 in
theorem rcmp_1_1 (n : Int) (s : ByteArray) (b : Bool) (c : Int) (n' : Int) (s' : ByteArray) (b' : Bool) (c' : Int) (hn : -9223372036854775808 ≤ n ∧ n ≤ 9223372036854775807) (hn' : -9223372036854775808 ≤ n' ∧ n' ≤ 9223372036854775807) (_hs : s.size ≤ maxLen) (_hs' : s'.size ≤ maxLen) (m : vMay 1 n s b c = true) (m' : vMay 1 n' s' b' c' = true) (w : World) :
    Calls Tryd.prog 24 #[.agg #[.int .i64 1, .int .i64 n, .string s, .bool b, .int .i64 c], .agg #[.int .i64 1, .int .i64 n', .string s', .bool b', .int .i64 c']] w
      fun e w' => e = .returned (.int .i64 (cmpI n n')) ∧ Below w.heap.size w w' := by
  obtain ⟨rfl, rfl, rfl⟩ := may_of_1 m
  obtain ⟨rfl, rfl, rfl⟩ := may_of_1 m'
  all_goals
    go_enter Tryd.func24, Tryd.ntmps24
    go_wp2_with fail
    go_wp2_with (first | (go_at_call 19; refine (rvmay_yes _ _ _ _ _ (by first | assumption | (constructor <;> omega)) (by assumption) _).mono ?_; rintro e w1 ⟨rfl, hb⟩; obtain ⟨hc, hf, hz⟩ := bkeep hb (w.heap.size + 2) (by first | omega | (simp <;> omega))) | (go_at_call 81; refine (rtexts_any _ _ (by first | assumption | (constructor <;> omega)) (by first | assumption | (constructor <;> omega)) _).mono ?_; rintro e w1 ⟨rfl, hb⟩))
  all_goals go_ret
  all_goals refine ⟨ret_i ?_, by first | assumption | (go_split_ands; first | assumption | ((repeat (first | (with_reducible exact Below.refl _ _) | (with_reducible refine Below.alloc ?_ (by first | omega | (dsimp only; omega) | (simp <;> omega)) _) | (with_reducible refine Below.setCell ?_ (by first | omega | (dsimp only; omega) | (simp <;> omega)) _) | (with_reducible refine Below.drew ?_) | (with_reducible refine below_drewN ?_ _) | (with_reducible refine Below.trans ?_ (Below.mono (by assumption) (by first | omega | (dsimp only; omega) | (simp <;> omega)))))); done)) | ((repeat (first | (with_reducible exact Below.refl _ _) | (with_reducible refine Below.alloc ?_ (by first | omega | (dsimp only; omega) | (simp <;> omega)) _) | (with_reducible refine Below.setCell ?_ (by first | omega | (dsimp only; omega) | (simp <;> omega)) _) | (with_reducible refine Below.drew ?_) | (with_reducible refine below_drewN ?_ _) | (with_reducible refine Below.trans ?_ (Below.mono (by assumption) (by first | omega | (dsimp only; omega) | (simp <;> omega)))))); done)⟩
  all_goals first | done | rfl | decide | ((try unfold cmpI); (repeat' split) <;> omega)
set_option maxRecDepth 100000 in
set_option maxHeartbeats 4000000 in
theorem rcmp_1_2 (n : Int) (s : ByteArray) (b : Bool) (c : Int) (n' : Int) (s' : ByteArray) (b' : Bool) (c' : Int) (hn : -9223372036854775808 ≤ n ∧ n ≤ 9223372036854775807) (hn' : -9223372036854775808 ≤ n' ∧ n' ≤ 9223372036854775807) (_hs : s.size ≤ maxLen) (_hs' : s'.size ≤ maxLen) (m : vMay 1 n s b c = true) (m' : vMay 2 n' s' b' c' = true) (w : World) :
    Calls Tryd.prog 24 #[.agg #[.int .i64 1, .int .i64 n, .string s, .bool b, .int .i64 c], .agg #[.int .i64 2, .int .i64 n', .string s', .bool b', .int .i64 c']] w
      fun e w' => e = .returned (.int .i64 (cmpI 1 2)) ∧ Below w.heap.size w w' := by
  obtain ⟨rfl, rfl, rfl⟩ := may_of_1 m
  obtain ⟨rfl, rfl, rfl⟩ := may_of_2 m'
  all_goals
    go_enter Tryd.func24, Tryd.ntmps24
    go_wp2_with fail
    go_wp2_with (first | (go_at_call 19; refine (rvmay_yes _ _ _ _ _ (by first | assumption | (constructor <;> omega)) (by assumption) _).mono ?_; rintro e w1 ⟨rfl, hb⟩; obtain ⟨hc, hf, hz⟩ := bkeep hb (w.heap.size + 2) (by first | omega | (simp <;> omega))) | (go_at_call 81; refine (rtexts_any _ _ (by first | assumption | (constructor <;> omega)) (by first | assumption | (constructor <;> omega)) _).mono ?_; rintro e w1 ⟨rfl, hb⟩))
  all_goals go_ret
  all_goals refine ⟨ret_i ?_, by first | assumption | (go_split_ands; first | assumption | ((repeat (first | (with_reducible exact Below.refl _ _) | (with_reducible refine Below.alloc ?_ (by first | omega | (dsimp only; omega) | (simp <;> omega)) _) | (with_reducible refine Below.setCell ?_ (by first | omega | (dsimp only; omega) | (simp <;> omega)) _) | (with_reducible refine Below.drew ?_) | (with_reducible refine below_drewN ?_ _) | (with_reducible refine Below.trans ?_ (Below.mono (by assumption) (by first | omega | (dsimp only; omega) | (simp <;> omega)))))); done)) | ((repeat (first | (with_reducible exact Below.refl _ _) | (with_reducible refine Below.alloc ?_ (by first | omega | (dsimp only; omega) | (simp <;> omega)) _) | (with_reducible refine Below.setCell ?_ (by first | omega | (dsimp only; omega) | (simp <;> omega)) _) | (with_reducible refine Below.drew ?_) | (with_reducible refine below_drewN ?_ _) | (with_reducible refine Below.trans ?_ (Below.mono (by assumption) (by first | omega | (dsimp only; omega) | (simp <;> omega)))))); done)⟩
  all_goals first | done | rfl | decide | ((try unfold cmpI); (repeat' split) <;> omega)
set_option maxRecDepth 100000 in
set_option maxHeartbeats 4000000 in
theorem rcmp_1_3 (n : Int) (s : ByteArray) (b : Bool) (c : Int) (n' : Int) (s' : ByteArray) (b' : Bool) (c' : Int) (hn : -9223372036854775808 ≤ n ∧ n ≤ 9223372036854775807) (hn' : -9223372036854775808 ≤ n' ∧ n' ≤ 9223372036854775807) (_hs : s.size ≤ maxLen) (_hs' : s'.size ≤ maxLen) (m : vMay 1 n s b c = true) (m' : vMay 3 n' s' b' c' = true) (w : World) :
    Calls Tryd.prog 24 #[.agg #[.int .i64 1, .int .i64 n, .string s, .bool b, .int .i64 c], .agg #[.int .i64 3, .int .i64 n', .string s', .bool b', .int .i64 c']] w
      fun e w' => e = .returned (.int .i64 (cmpI 1 3)) ∧ Below w.heap.size w w' := by
  obtain ⟨rfl, rfl, rfl⟩ := may_of_1 m
  obtain ⟨rfl, rfl, rfl⟩ := may_of_3 m'
  all_goals
    go_enter Tryd.func24, Tryd.ntmps24
    go_wp2_with fail
    go_wp2_with (first | (go_at_call 19; refine (rvmay_yes _ _ _ _ _ (by first | assumption | (constructor <;> omega)) (by assumption) _).mono ?_; rintro e w1 ⟨rfl, hb⟩; obtain ⟨hc, hf, hz⟩ := bkeep hb (w.heap.size + 2) (by first | omega | (simp <;> omega))) | (go_at_call 81; refine (rtexts_any _ _ (by first | assumption | (constructor <;> omega)) (by first | assumption | (constructor <;> omega)) _).mono ?_; rintro e w1 ⟨rfl, hb⟩))
  all_goals go_ret
  all_goals refine ⟨ret_i ?_, by first | assumption | (go_split_ands; first | assumption | ((repeat (first | (with_reducible exact Below.refl _ _) | (with_reducible refine Below.alloc ?_ (by first | omega | (dsimp only; omega) | (simp <;> omega)) _) | (with_reducible refine Below.setCell ?_ (by first | omega | (dsimp only; omega) | (simp <;> omega)) _) | (with_reducible refine Below.drew ?_) | (with_reducible refine below_drewN ?_ _) | (with_reducible refine Below.trans ?_ (Below.mono (by assumption) (by first | omega | (dsimp only; omega) | (simp <;> omega)))))); done)) | ((repeat (first | (with_reducible exact Below.refl _ _) | (with_reducible refine Below.alloc ?_ (by first | omega | (dsimp only; omega) | (simp <;> omega)) _) | (with_reducible refine Below.setCell ?_ (by first | omega | (dsimp only; omega) | (simp <;> omega)) _) | (with_reducible refine Below.drew ?_) | (with_reducible refine below_drewN ?_ _) | (with_reducible refine Below.trans ?_ (Below.mono (by assumption) (by first | omega | (dsimp only; omega) | (simp <;> omega)))))); done)⟩
  all_goals first | done | rfl | decide | ((try unfold cmpI); (repeat' split) <;> omega)
set_option maxRecDepth 100000 in
set_option maxHeartbeats 4000000 in
theorem rcmp_2_0 (n : Int) (s : ByteArray) (b : Bool) (c : Int) (n' : Int) (s' : ByteArray) (b' : Bool) (c' : Int) (hn : -9223372036854775808 ≤ n ∧ n ≤ 9223372036854775807) (hn' : -9223372036854775808 ≤ n' ∧ n' ≤ 9223372036854775807) (_hs : s.size ≤ maxLen) (_hs' : s'.size ≤ maxLen) (m : vMay 2 n s b c = true) (m' : vMay 0 n' s' b' c' = true) (w : World) :
    Calls Tryd.prog 24 #[.agg #[.int .i64 2, .int .i64 n, .string s, .bool b, .int .i64 c], .agg #[.int .i64 0, .int .i64 n', .string s', .bool b', .int .i64 c']] w
      fun e w' => e = .returned (.int .i64 (Lib.compareBytes s.data.toList s'.data.toList)) ∧ Below w.heap.size w w' := by
  obtain ⟨rfl, rfl, rfl⟩ := may_of_2 m
  obtain ⟨rfl, rfl, rfl, rfl⟩ := may_of_0 m'
  all_goals
    go_enter Tryd.func24, Tryd.ntmps24
    go_wp2_with fail
    go_wp2_with (first | (go_at_call 19; refine (rvmay_yes _ _ _ _ _ (by first | assumption | (constructor <;> omega)) (by assumption) _).mono ?_; rintro e w1 ⟨rfl, hb⟩; obtain ⟨hc, hf, hz⟩ := bkeep hb (w.heap.size + 2) (by first | omega | (simp <;> omega))) | (go_at_call 81; refine (rtexts_any _ _ (by first | assumption | (constructor <;> omega)) (by first | assumption | (constructor <;> omega)) _).mono ?_; rintro e w1 ⟨rfl, hb⟩))
  all_goals go_ret
  all_goals refine ⟨ret_i ?_, by first | assumption | (go_split_ands; first | assumption | ((repeat (first | (with_reducible exact Below.refl _ _) | (with_reducible refine Below.alloc ?_ (by first | omega | (dsimp only; omega) | (simp <;> omega)) _) | (with_reducible refine Below.setCell ?_ (by first | omega | (dsimp only; omega) | (simp <;> omega)) _) | (with_reducible refine Below.drew ?_) | (with_reducible refine below_drewN ?_ _) | (with_reducible refine Below.trans ?_ (Below.mono (by assumption) (by first | omega | (dsimp only; omega) | (simp <;> omega)))))); done)) | ((repeat (first | (with_reducible exact Below.refl _ _) | (with_reducible refine Below.alloc ?_ (by first | omega | (dsimp only; omega) | (simp <;> omega)) _) | (with_reducible refine Below.setCell ?_ (by first | omega | (dsimp only; omega) | (simp <;> omega)) _) | (with_reducible refine Below.drew ?_) | (with_reducible refine below_drewN ?_ _) | (with_reducible refine Below.trans ?_ (Below.mono (by assumption) (by first | omega | (dsimp only; omega) | (simp <;> omega)))))); done)⟩
  all_goals first | done | rfl | decide | ((try unfold cmpI); (repeat' split) <;> omega)
set_option maxRecDepth 100000 in
set_option maxHeartbeats 4000000 in
theorem rcmp_2_1 (n : Int) (s : ByteArray) (b : Bool) (c : Int) (n' : Int) (s' : ByteArray) (b' : Bool) (c' : Int) (hn : -9223372036854775808 ≤ n ∧ n ≤ 9223372036854775807) (hn' : -9223372036854775808 ≤ n' ∧ n' ≤ 9223372036854775807) (_hs : s.size ≤ maxLen) (_hs' : s'.size ≤ maxLen) (m : vMay 2 n s b c = true) (m' : vMay 1 n' s' b' c' = true) (w : World) :
    Calls Tryd.prog 24 #[.agg #[.int .i64 2, .int .i64 n, .string s, .bool b, .int .i64 c], .agg #[.int .i64 1, .int .i64 n', .string s', .bool b', .int .i64 c']] w
      fun e w' => e = .returned (.int .i64 (cmpI 2 1)) ∧ Below w.heap.size w w' := by
  obtain ⟨rfl, rfl, rfl⟩ := may_of_2 m
  obtain ⟨rfl, rfl, rfl⟩ := may_of_1 m'
  all_goals
    go_enter Tryd.func24, Tryd.ntmps24
    go_wp2_with fail
    go_wp2_with (first | (go_at_call 19; refine (rvmay_yes _ _ _ _ _ (by first | assumption | (constructor <;> omega)) (by assumption) _).mono ?_; rintro e w1 ⟨rfl, hb⟩; obtain ⟨hc, hf, hz⟩ := bkeep hb (w.heap.size + 2) (by first | omega | (simp <;> omega))) | (go_at_call 81; refine (rtexts_any _ _ (by first | assumption | (constructor <;> omega)) (by first | assumption | (constructor <;> omega)) _).mono ?_; rintro e w1 ⟨rfl, hb⟩))
  all_goals go_ret
  all_goals refine ⟨ret_i ?_, by first | assumption | (go_split_ands; first | assumption | ((repeat (first | (with_reducible exact Below.refl _ _) | (with_reducible refine Below.alloc ?_ (by first | omega | (dsimp only; omega) | (simp <;> omega)) _) | (with_reducible refine Below.setCell ?_ (by first | omega | (dsimp only; omega) | (simp <;> omega)) _) | (with_reducible refine Below.drew ?_) | (with_reducible refine below_drewN ?_ _) | (with_reducible refine Below.trans ?_ (Below.mono (by assumption) (by first | omega | (dsimp only; omega) | (simp <;> omega)))))); done)) | ((repeat (first | (with_reducible exact Below.refl _ _) | (with_reducible refine Below.alloc ?_ (by first | omega | (dsimp only; omega) | (simp <;> omega)) _) | (with_reducible refine Below.setCell ?_ (by first | omega | (dsimp only; omega) | (simp <;> omega)) _) | (with_reducible refine Below.drew ?_) | (with_reducible refine below_drewN ?_ _) | (with_reducible refine Below.trans ?_ (Below.mono (by assumption) (by first | omega | (dsimp only; omega) | (simp <;> omega)))))); done)⟩
  all_goals first | done | rfl | decide | ((try unfold cmpI); (repeat' split) <;> omega)
set_option maxRecDepth 100000 in
set_option maxHeartbeats 4000000 in
theorem rcmp_2_2 (n : Int) (s : ByteArray) (b : Bool) (c : Int) (n' : Int) (s' : ByteArray) (b' : Bool) (c' : Int) (hn : -9223372036854775808 ≤ n ∧ n ≤ 9223372036854775807) (hn' : -9223372036854775808 ≤ n' ∧ n' ≤ 9223372036854775807) (_hs : s.size ≤ maxLen) (_hs' : s'.size ≤ maxLen) (m : vMay 2 n s b c = true) (m' : vMay 2 n' s' b' c' = true) (w : World) :
    Calls Tryd.prog 24 #[.agg #[.int .i64 2, .int .i64 n, .string s, .bool b, .int .i64 c], .agg #[.int .i64 2, .int .i64 n', .string s', .bool b', .int .i64 c']] w
      fun e w' => e = .returned (.int .i64 (Lib.compareBytes s.data.toList s'.data.toList)) ∧ Below w.heap.size w w' := by
  obtain ⟨rfl, rfl, rfl⟩ := may_of_2 m
  obtain ⟨rfl, rfl, rfl⟩ := may_of_2 m'
  all_goals
    go_enter Tryd.func24, Tryd.ntmps24
    go_wp2_with fail
    go_wp2_with (first | (go_at_call 19; refine (rvmay_yes _ _ _ _ _ (by first | assumption | (constructor <;> omega)) (by assumption) _).mono ?_; rintro e w1 ⟨rfl, hb⟩; obtain ⟨hc, hf, hz⟩ := bkeep hb (w.heap.size + 2) (by first | omega | (simp <;> omega))) | (go_at_call 81; refine (rtexts_any _ _ (by first | assumption | (constructor <;> omega)) (by first | assumption | (constructor <;> omega)) _).mono ?_; rintro e w1 ⟨rfl, hb⟩))
  all_goals go_ret
  all_goals refine ⟨ret_i ?_, by first | assumption | (go_split_ands; first | assumption | ((repeat (first | (with_reducible exact Below.refl _ _) | (with_reducible refine Below.alloc ?_ (by first | omega | (dsimp only; omega) | (simp <;> omega)) _) | (with_reducible refine Below.setCell ?_ (by first | omega | (dsimp only; omega) | (simp <;> omega)) _) | (with_reducible refine Below.drew ?_) | (with_reducible refine below_drewN ?_ _) | (with_reducible refine Below.trans ?_ (Below.mono (by assumption) (by first | omega | (dsimp only; omega) | (simp <;> omega)))))); done)) | ((repeat (first | (with_reducible exact Below.refl _ _) | (with_reducible refine Below.alloc ?_ (by first | omega | (dsimp only; omega) | (simp <;> omega)) _) | (with_reducible refine Below.setCell ?_ (by first | omega | (dsimp only; omega) | (simp <;> omega)) _) | (with_reducible refine Below.drew ?_) | (with_reducible refine below_drewN ?_ _) | (with_reducible refine Below.trans ?_ (Below.mono (by assumption) (by first | omega | (dsimp only; omega) | (simp <;> omega)))))); done)⟩
  all_goals first | done | rfl | decide | ((try unfold cmpI); (repeat' split) <;> omega)
set_option maxRecDepth 100000 in
set_option maxHeartbeats 4000000 in
theorem rcmp_2_3 (n : Int) (s : ByteArray) (b : Bool) (c : Int) (n' : Int) (s' : ByteArray) (b' : Bool) (c' : Int) (hn : -9223372036854775808 ≤ n ∧ n ≤ 9223372036854775807) (hn' : -9223372036854775808 ≤ n' ∧ n' ≤ 9223372036854775807) (_hs : s.size ≤ maxLen) (_hs' : s'.size ≤ maxLen) (m : vMay 2 n s b c = true) (m' : vMay 3 n' s' b' c' = true) (w : World) :
    Calls Tryd.prog 24 #[.agg #[.int .i64 2, .int .i64 n, .string s, .bool b, .int .i64 c], .agg #[.int .i64 3, .int .i64 n', .string s', .bool b', .int .i64 c']] w
      fun e w' => e = .returned (.int .i64 (cmpI 2 3)) ∧ Below w.heap.size w w' := by
  obtain ⟨rfl, rfl, rfl⟩ := may_of_2 m
  obtain ⟨rfl, rfl, rfl⟩ := may_of_3 m'
  all_goals
    go_enter Tryd.func24, Tryd.ntmps24
    go_wp2_with fail
    go_wp2_with (first | (go_at_call 19; refine (rvmay_yes _ _ _ _ _ (by first | assumption | (constructor <;> omega)) (by assumption) _).mono ?_; rintro e w1 ⟨rfl, hb⟩; obtain ⟨hc, hf, hz⟩ := bkeep hb (w.heap.size + 2) (by first | omega | (simp <;> omega))) | (go_at_call 81; refine (rtexts_any _ _ (by first | assumption | (constructor <;> omega)) (by first | assumption | (constructor <;> omega)) _).mono ?_; rintro e w1 ⟨rfl, hb⟩))
  all_goals go_ret
  all_goals refine ⟨ret_i ?_, by first | assumption | (go_split_ands; first | assumption | ((repeat (first | (with_reducible exact Below.refl _ _) | (with_reducible refine Below.alloc ?_ (by first | omega | (dsimp only; omega) | (simp <;> omega)) _) | (with_reducible refine Below.setCell ?_ (by first | omega | (dsimp only; omega) | (simp <;> omega)) _) | (with_reducible refine Below.drew ?_) | (with_reducible refine below_drewN ?_ _) | (with_reducible refine Below.trans ?_ (Below.mono (by assumption) (by first | omega | (dsimp only; omega) | (simp <;> omega)))))); done)) | ((repeat (first | (with_reducible exact Below.refl _ _) | (with_reducible refine Below.alloc ?_ (by first | omega | (dsimp only; omega) | (simp <;> omega)) _) | (with_reducible refine Below.setCell ?_ (by first | omega | (dsimp only; omega) | (simp <;> omega)) _) | (with_reducible refine Below.drew ?_) | (with_reducible refine below_drewN ?_ _) | (with_reducible refine Below.trans ?_ (Below.mono (by assumption) (by first | omega | (dsimp only; omega) | (simp <;> omega)))))); done)⟩
  all_goals first | done | rfl | decide | ((try unfold cmpI); (repeat' split) <;> omega)
set_option maxRecDepth 100000 in
set_option maxHeartbeats 4000000 in
theorem rcmp_3_0 (n : Int) (s : ByteArray) (b : Bool) (c : Int) (n' : Int) (s' : ByteArray) (b' : Bool) (c' : Int) (hn : -9223372036854775808 ≤ n ∧ n ≤ 9223372036854775807) (hn' : -9223372036854775808 ≤ n' ∧ n' ≤ 9223372036854775807) (_hs : s.size ≤ maxLen) (_hs' : s'.size ≤ maxLen) (m : vMay 3 n s b c = true) (m' : vMay 0 n' s' b' c' = true) (w : World) :
    Calls Tryd.prog 24 #[.agg #[.int .i64 3, .int .i64 n, .string s, .bool b, .int .i64 c], .agg #[.int .i64 0, .int .i64 n', .string s', .bool b', .int .i64 c']] w
      fun e w' => e = .returned (.int .i64 (b2i b - b2i b')) ∧ Below w.heap.size w w' := by
  obtain ⟨rfl, rfl, rfl⟩ := may_of_3 m
  obtain ⟨rfl, rfl, rfl, rfl⟩ := may_of_0 m'
  cases b
  all_goals
    go_enter Tryd.func24, Tryd.ntmps24
    go_wp2_with fail
    go_wp2_with (first | (go_at_call 19; refine (rvmay_yes _ _ _ _ _ (by first | assumption | (constructor <;> omega)) (by assumption) _).mono ?_; rintro e w1 ⟨rfl, hb⟩; obtain ⟨hc, hf, hz⟩ := bkeep hb (w.heap.size + 2) (by first | omega | (simp <;> omega))) | (go_at_call 81; refine (rtexts_any _ _ (by first | assumption | (constructor <;> omega)) (by first | assumption | (constructor <;> omega)) _).mono ?_; rintro e w1 ⟨rfl, hb⟩))
  all_goals go_ret
  all_goals refine ⟨ret_i ?_, by first | assumption | (go_split_ands; first | assumption | ((repeat (first | (with_reducible exact Below.refl _ _) | (with_reducible refine Below.alloc ?_ (by first | omega | (dsimp only; omega) | (simp <;> omega)) _) | (with_reducible refine Below.setCell ?_ (by first | omega | (dsimp only; omega) | (simp <;> omega)) _) | (with_reducible refine Below.drew ?_) | (with_reducible refine below_drewN ?_ _) | (with_reducible refine Below.trans ?_ (Below.mono (by assumption) (by first | omega | (dsimp only; omega) | (simp <;> omega)))))); done)) | ((repeat (first | (with_reducible exact Below.refl _ _) | (with_reducible refine Below.alloc ?_ (by first | omega | (dsimp only; omega) | (simp <;> omega)) _) | (with_reducible refine Below.setCell ?_ (by first | omega | (dsimp only; omega) | (simp <;> omega)) _) | (with_reducible refine Below.drew ?_) | (with_reducible refine below_drewN ?_ _) | (with_reducible refine Below.trans ?_ (Below.mono (by assumption) (by first | omega | (dsimp only; omega) | (simp <;> omega)))))); done)⟩
  all_goals first | done | rfl | decide | ((try unfold cmpI); (repeat' split) <;> omega)
set_option maxRecDepth 100000 in
set_option maxHeartbeats 4000000 in
theorem rcmp_3_1 (n : Int) (s : ByteArray) (b : Bool) (c : Int) (n' : Int) (s' : ByteArray) (b' : Bool) (c' : Int) (hn : -9223372036854775808 ≤ n ∧ n ≤ 9223372036854775807) (hn' : -9223372036854775808 ≤ n' ∧ n' ≤ 9223372036854775807) (_hs : s.size ≤ maxLen) (_hs' : s'.size ≤ maxLen) (m : vMay 3 n s b c = true) (m' : vMay 1 n' s' b' c' = true) (w : World) :
    Calls Tryd.prog 24 #[.agg #[.int .i64 3, .int .i64 n, .string s, .bool b, .int .i64 c], .agg #[.int .i64 1, .int .i64 n', .string s', .bool b', .int .i64 c']] w
      fun e w' => e = .returned (.int .i64 (cmpI 3 1)) ∧ Below w.heap.size w w' := by
  obtain ⟨rfl, rfl, rfl⟩ := may_of_3 m
  obtain ⟨rfl, rfl, rfl⟩ := may_of_1 m'
  all_goals
    go_enter Tryd.func24, Tryd.ntmps24
    go_wp2_with fail
    go_wp2_with (first | (go_at_call 19; refine (rvmay_yes _ _ _ _ _ (by first | assumption | (constructor <;> omega)) (by assumption) _).mono ?_; rintro e w1 ⟨rfl, hb⟩; obtain ⟨hc, hf, hz⟩ := bkeep hb (w.heap.size + 2) (by first | omega | (simp <;> omega))) | (go_at_call 81; refine (rtexts_any _ _ (by first | assumption | (constructor <;> omega)) (by first | assumption | (constructor <;> omega)) _).mono ?_; rintro e w1 ⟨rfl, hb⟩))
  all_goals go_ret
  all_goals refine ⟨ret_i ?_, by first | assumption | (go_split_ands; first | assumption | ((repeat (first | (with_reducible exact Below.refl _ _) | (with_reducible refine Below.alloc ?_ (by first | omega | (dsimp only; omega) | (simp <;> omega)) _) | (with_reducible refine Below.setCell ?_ (by first | omega | (dsimp only; omega) | (simp <;> omega)) _) | (with_reducible refine Below.drew ?_) | (with_reducible refine below_drewN ?_ _) | (with_reducible refine Below.trans ?_ (Below.mono (by assumption) (by first | omega | (dsimp only; omega) | (simp <;> omega)))))); done)) | ((repeat (first | (with_reducible exact Below.refl _ _) | (with_reducible refine Below.alloc ?_ (by first | omega | (dsimp only; omega) | (simp <;> omega)) _) | (with_reducible refine Below.setCell ?_ (by first | omega | (dsimp only; omega) | (simp <;> omega)) _) | (with_reducible refine Below.drew ?_) | (with_reducible refine below_drewN ?_ _) | (with_reducible refine Below.trans ?_ (Below.mono (by assumption) (by first | omega | (dsimp only; omega) | (simp <;> omega)))))); done)⟩
  all_goals first | done | rfl | decide | ((try unfold cmpI); (repeat' split) <;> omega)
set_option maxRecDepth 100000 in
set_option maxHeartbeats 4000000 in
theorem rcmp_3_2 (n : Int) (s : ByteArray) (b : Bool) (c : Int) (n' : Int) (s' : ByteArray) (b' : Bool) (c' : Int) (hn : -9223372036854775808 ≤ n ∧ n ≤ 9223372036854775807) (hn' : -9223372036854775808 ≤ n' ∧ n' ≤ 9223372036854775807) (_hs : s.size ≤ maxLen) (_hs' : s'.size ≤ maxLen) (m : vMay 3 n s b c = true) (m' : vMay 2 n' s' b' c' = true) (w : World) :
    Calls Tryd.prog 24 #[.agg #[.int .i64 3, .int .i64 n, .string s, .bool b, .int .i64 c], .agg #[.int .i64 2, .int .i64 n', .string s', .bool b', .int .i64 c']] w
      fun e w' => e = .returned (.int .i64 (cmpI 3 2)) ∧ Below w.heap.size w w' := by
  obtain ⟨rfl, rfl, rfl⟩ := may_of_3 m
  obtain ⟨rfl, rfl, rfl⟩ := may_of_2 m'
  all_goals
    go_enter Tryd.func24, Tryd.ntmps24
    go_wp2_with fail
    go_wp2_with (first | (go_at_call 19; refine (rvmay_yes _ _ _ _ _ (by first | assumption | (constructor <;> omega)) (by assumption) _).mono ?_; rintro e w1 ⟨rfl, hb⟩; obtain ⟨hc, hf, hz⟩ := bkeep hb (w.heap.size + 2) (by first | omega | (simp <;> omega))) | (go_at_call 81; refine (rtexts_any _ _ (by first | assumption | (constructor <;> omega)) (by first | assumption | (constructor <;> omega)) _).mono ?_; rintro e w1 ⟨rfl, hb⟩))
  all_goals go_ret
  all_goals refine ⟨ret_i ?_, by first | assumption | (go_split_ands; first | assumption | ((repeat (first | (with_reducible exact Below.refl _ _) | (with_reducible refine Below.alloc ?_ (by first | omega | (dsimp only; omega) | (simp <;> omega)) _) | (with_reducible refine Below.setCell ?_ (by first | omega | (dsimp only; omega) | (simp <;> omega)) _) | (with_reducible refine Below.drew ?_) | (with_reducible refine below_drewN ?_ _) | (with_reducible refine Below.trans ?_ (Below.mono (by assumption) (by first | omega | (dsimp only; omega) | (simp <;> omega)))))); done)) | ((repeat (first | (with_reducible exact Below.refl _ _) | (with_reducible refine Below.alloc ?_ (by first | omega | (dsimp only; omega) | (simp <;> omega)) _) | (with_reducible refine Below.setCell ?_ (by first | omega | (dsimp only; omega) | (simp <;> omega)) _) | (with_reducible refine Below.drew ?_) | (with_reducible refine below_drewN ?_ _) | (with_reducible refine Below.trans ?_ (Below.mono (by assumption) (by first | omega | (dsimp only; omega) | (simp <;> omega)))))); done)⟩
  all_goals first | done | rfl | decide | ((try unfold cmpI); (repeat' split) <;> omega)
set_option maxRecDepth 100000 in
set_option maxHeartbeats 4000000 in
theorem rcmp_3_3 (n : Int) (s : ByteArray) (b : Bool) (c : Int) (n' : Int) (s' : ByteArray) (b' : Bool) (c' : Int) (hn : -9223372036854775808 ≤ n ∧ n ≤ 9223372036854775807) (hn' : -9223372036854775808 ≤ n' ∧ n' ≤ 9223372036854775807) (_hs : s.size ≤ maxLen) (_hs' : s'.size ≤ maxLen) (m : vMay 3 n s b c = true) (m' : vMay 3 n' s' b' c' = true) (w : World) :
    Calls Tryd.prog 24 #[.agg #[.int .i64 3, .int .i64 n, .string s, .bool b, .int .i64 c], .agg #[.int .i64 3, .int .i64 n', .string s', .bool b', .int .i64 c']] w
      fun e w' => e = .returned (.int .i64 (b2i b - b2i b')) ∧ Below w.heap.size w w' := by
  obtain ⟨rfl, rfl, rfl⟩ := may_of_3 m
  obtain ⟨rfl, rfl, rfl⟩ := may_of_3 m'
  cases b
  all_goals cases b'
  all_goals
    go_enter Tryd.func24, Tryd.ntmps24
    go_wp2_with fail
    go_wp2_with (first | (go_at_call 19; refine (rvmay_yes _ _ _ _ _ (by first | assumption | (constructor <;> omega)) (by assumption) _).mono ?_; rintro e w1 ⟨rfl, hb⟩; obtain ⟨hc, hf, hz⟩ := bkeep hb (w.heap.size + 2) (by first | omega | (simp <;> omega))) | (go_at_call 81; refine (rtexts_any _ _ (by first | assumption | (constructor <;> omega)) (by first | assumption | (constructor <;> omega)) _).mono ?_; rintro e w1 ⟨rfl, hb⟩))
  all_goals go_ret
  all_goals refine ⟨ret_i ?_, by first | assumption | (go_split_ands; first | assumption | ((repeat (first | (with_reducible exact Below.refl _ _) | (with_reducible refine Below.alloc ?_ (by first | omega | (dsimp only; omega) | (simp <;> omega)) _) | (with_reducible refine Below.setCell ?_ (by first | omega | (dsimp only; omega) | (simp <;> omega)) _) | (with_reducible refine Below.drew ?_) | (with_reducible refine below_drewN ?_ _) | (with_reducible refine Below.trans ?_ (Below.mono (by assumption) (by first | omega | (dsimp only; omega) | (simp <;> omega)))))); done)) | ((repeat (first | (with_reducible exact Below.refl _ _) | (with_reducible refine Below.alloc ?_ (by first | omega | (dsimp only; omega) | (simp <;> omega)) _) | (with_reducible refine Below.setCell ?_ (by first | omega | (dsimp only; omega) | (simp <;> omega)) _) | (with_reducible refine Below.drew ?_) | (with_reducible refine below_drewN ?_ _) | (with_reducible refine Below.trans ?_ (Below.mono (by assumption) (by first | omega | (dsimp only; omega) | (simp <;> omega)))))); done)⟩
  all_goals first | done | rfl | decide | ((try unfold cmpI); (repeat' split) <;> omega)
theorem rcmpv_any (t n : Int) (s : ByteArray) (b : Bool) (c : Int) (t' n' : Int) (s' : ByteArray) (b' : Bool) (c' : Int) (hn : -9223372036854775808 ≤ n ∧ n ≤ 9223372036854775807) (hn' : -9223372036854775808 ≤ n' ∧ n' ≤ 9223372036854775807) (hs : s.size ≤ maxLen) (hs' : s'.size ≤ maxLen) (w : World) : Calls Tryd.prog 24 #[.agg #[.int .i64 t, .int .i64 n, .string s, .bool b, .int .i64 c], .agg #[.int .i64 t', .int .i64 n', .string s', .bool b', .int .i64 c']] w fun e w' => e = .returned (.int .i64 (cmpV t n s b c t' n' s' b' c')) ∧ Below w.heap.size w w' := by
  by_cases m : vMay t n s b c = true
  · by_cases m' : vMay t' n' s' b' c' = true
    · by_cases h4 : t = 4
      · subst h4
        rw [show cmpV 4 n s b c t' n' s' b' c' = 0 from by simp [cmpV]]
        exact rcmp_no3 n s b c t' n' s' b' c' hn hn' m m' w
      · obtain ⟨r1, r2, -⟩ := (vMay_iff _ _ _ _ _).1 m
        obtain ⟨r3, r4, -⟩ := (vMay_iff _ _ _ _ _).1 m'
        have ht : t = 0 ∨ t = 1 ∨ t = 2 ∨ t = 3 := by omega
        by_cases h5 : t' = 4
        · subst h5
          rw [show cmpV t n s b c 4 n' s' b' c' = 0 from by simp [cmpV]]
          clear r1 r2 r3 r4
          rcases ht with rfl | rfl | rfl | rfl
          · exact rcmp_no4_0 n s b c n' s' b' c' hn hn' m m' w
          · exact rcmp_no4_1 n s b c n' s' b' c' hn hn' m m' w
          · exact rcmp_no4_2 n s b c n' s' b' c' hn hn' m m' w
          · exact rcmp_no4_3 n s b c n' s' b' c' hn hn' m m' w
        · have hu : t' = 0 ∨ t' = 1 ∨ t' = 2 ∨ t' = 3 := by omega
          clear r1 r2 r3 r4
          rcases ht with rfl | rfl | rfl | rfl <;> rcases hu with rfl | rfl | rfl | rfl
          · rw [show cmpV 0 n s b c 0 n' s' b' c' = b2i b - b2i b' from by simp [cmpV, cmpT, m, m']]
            exact rcmp_0_0 n s b c n' s' b' c' hn hn' hs hs' m m' w
          · rw [show cmpV 0 n s b c 1 n' s' b' c' = cmpI n n' from by simp [cmpV, cmpT, m, m']]
            exact rcmp_0_1 n s b c n' s' b' c' hn hn' hs hs' m m' w
          · rw [show cmpV 0 n s b c 2 n' s' b' c' = Lib.compareBytes s.data.toList s'.data.toList from by simp [cmpV, cmpT, m, m']]
            exact rcmp_0_2 n s b c n' s' b' c' hn hn' hs hs' m m' w
          · rw [show cmpV 0 n s b c 3 n' s' b' c' = b2i b - b2i b' from by simp [cmpV, cmpT, m, m']]
            exact rcmp_0_3 n s b c n' s' b' c' hn hn' hs hs' m m' w
          · rw [show cmpV 1 n s b c 0 n' s' b' c' = cmpI n n' from by simp [cmpV, cmpT, m, m']]
            exact rcmp_1_0 n s b c n' s' b' c' hn hn' hs hs' m m' w
          · rw [show cmpV 1 n s b c 1 n' s' b' c' = cmpI n n' from by simp [cmpV, cmpT, m, m']]
            exact rcmp_1_1 n s b c n' s' b' c' hn hn' hs hs' m m' w
          · rw [show cmpV 1 n s b c 2 n' s' b' c' = cmpI 1 2 from by simp [cmpV, cmpT, m, m']]
            exact rcmp_1_2 n s b c n' s' b' c' hn hn' hs hs' m m' w
          · rw [show cmpV 1 n s b c 3 n' s' b' c' = cmpI 1 3 from by simp [cmpV, cmpT, m, m']]
            exact rcmp_1_3 n s b c n' s' b' c' hn hn' hs hs' m m' w
          · rw [show cmpV 2 n s b c 0 n' s' b' c' = Lib.compareBytes s.data.toList s'.data.toList from by simp [cmpV, cmpT, m, m']]
            exact rcmp_2_0 n s b c n' s' b' c' hn hn' hs hs' m m' w
          · rw [show cmpV 2 n s b c 1 n' s' b' c' = cmpI 2 1 from by simp [cmpV, cmpT, m, m']]
            exact rcmp_2_1 n s b c n' s' b' c' hn hn' hs hs' m m' w
          · rw [show cmpV 2 n s b c 2 n' s' b' c' = Lib.compareBytes s.data.toList s'.data.toList from by simp [cmpV, cmpT, m, m']]
            exact rcmp_2_2 n s b c n' s' b' c' hn hn' hs hs' m m' w
          · rw [show cmpV 2 n s b c 3 n' s' b' c' = cmpI 2 3 from by simp [cmpV, cmpT, m, m']]
            exact rcmp_2_3 n s b c n' s' b' c' hn hn' hs hs' m m' w
          · rw [show cmpV 3 n s b c 0 n' s' b' c' = b2i b - b2i b' from by simp [cmpV, cmpT, m, m']]
            exact rcmp_3_0 n s b c n' s' b' c' hn hn' hs hs' m m' w
          · rw [show cmpV 3 n s b c 1 n' s' b' c' = cmpI 3 1 from by simp [cmpV, cmpT, m, m']]
            exact rcmp_3_1 n s b c n' s' b' c' hn hn' hs hs' m m' w
          · rw [show cmpV 3 n s b c 2 n' s' b' c' = cmpI 3 2 from by simp [cmpV, cmpT, m, m']]
            exact rcmp_3_2 n s b c n' s' b' c' hn hn' hs hs' m m' w
          · rw [show cmpV 3 n s b c 3 n' s' b' c' = b2i b - b2i b' from by simp [cmpV, cmpT, m, m']]
            exact rcmp_3_3 n s b c n' s' b' c' hn hn' hs hs' m m' w
    · have m' : vMay t' n' s' b' c' = false := by simpa using m'
      rw [show cmpV t n s b c t' n' s' b' c' = 0 from by simp [cmpV, m']]
      exact rcmp_no2 t n s b c t' n' s' b' c' hn hn' m m' w
  · have m : vMay t n s b c = false := by simpa using m
    rw [show cmpV t n s b c t' n' s' b' c' = 0 from by simp [cmpV, m]]
    exact rcmp_no1 t n s b c t' n' s' b' c' hn hn' m w
end Go.Proofs.YtjnjklcnccfgaaaDoor
