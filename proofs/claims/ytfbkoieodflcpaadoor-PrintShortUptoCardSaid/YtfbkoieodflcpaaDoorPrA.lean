/-
  print: sign, at, literal.
-/
import Derived.Test.YtfbkoieodflcpaaDoorMg4
import Derived.Test.YtfbkoieodflcpaaDoorRows
import Derived.Test.YtfbkoieodflcpaaDoorBase
import Derived.Test.YtfbkoieodflcpaaDoorProg
import Derived.Test.YtfbkoieodflcpaaDoorShelf
import Derived.Test.YtfbkoieodflcpaaDoorAddrC
import Derived.Test.YtfbkoieodflcpaaDoorNames
import Derived.Test.YtfbkoieodflcpaaDoorMg7
import Derived.Test.YtfbkoieodflcpaaDoorDecA
import Derived.Test.YtfbkoieodflcpaaDoorValA
import Derived.Test.YtfbkoieodflcpaaDoorValB
import Derived.Test.YtfbkoieodflcpaaDoorMg11
import Derived.Test.YtfbkoieodflcpaaDoorLexP
import Derived.Test.YtfbkoieodflcpaaDoorRowB
import Derived.Test.YtfbkoieodflcpaaDoorMapK
import Derived.Test.YtfbkoieodflcpaaDoorArgK
import Derived.Test.YtfbkoieodflcpaaDoorRefP
import Derived.Test.YtfbkoieodflcpaaDoorRefQ
import Derived.Test.YtfbkoieodflcpaaDoorShelfC
import Derived.Test.YtfbkoieodflcpaaDoorFmtU
import Derived.Test.YtfbkoieodflcpaaDoorNameX
import Derived.Test.YtfbkoieodflcpaaDoorNameY
import Derived.Test.YtfbkoieodflcpaaDoorDPrint
import Derived.Test.YtfbkoieodflcpaaDoorValL
import Derived.Test.YtfbkoieodflcpaaDoorPrP
import Derived.WalkSpells
import Derived.WalkLawsBesides
import Derived.StillTactics
import Derived.Laws.Pointers
import Derived.Deep.RegionHeld3
import Derived.Deep.QuietTactic
import Derived.BigQuiet
import Derived.RowKit3
import Derived.Lib.Hide
import Derived.Lib.OthersKept
import Derived.OwnWalk
import Derived.Lib.IndexLaws
import Derived.Lib.ItoaMem
import Derived.Lib.TrimByte
import Derived.Lib.SlTrimSet
import Derived.Lib.ParseIntB
import Derived.WalkKit
import Derived.ProofKit
import Derived.OpenShut
import Derived.Carry
import Derived.ChangeSame
import Derived.Deep.Draws
import Derived.Shelf.Strings.Builder1
import Derived.Shelf.Strings.Builder2
import Derived.Shelf.Strings.Trim
import Derived.Shelf.Small.Utf8
import Derived.Shelf.Small.Strs
import Derived.Shelf.Strings.BuilderF
import Derived.Shelf.Strings.BuilderK
import Derived.Shelf.Strconv.Itoa0
import Derived.Shelf.Strconv.Itoa1
import Derived.Shelf.LaysM
import Derived.Shelf.Strconv.Itoa2
import Derived.Shelf.Strconv.Itoa3
import Derived.Shelf.Strings.Search1
import Derived.Shelf.Strings.Search2
import Derived.Shelf.Strings.Search3
import Derived.Shelf.Strings.Count
import Derived.Shelf.Strings.Shaped
import Derived.Shelf.Strings.Split
import Derived.Shelf.Strings.Replace
import Derived.Shelf.Strings.Runes
import Derived.Shelf.Strings.AsciiSet
import Derived.Shelf.Unicode.DecodeSlow
import Derived.Lib.ItoaNum
import Derived.Maps.OwnSet
import Derived.Maps.AppendAt
import Derived.Lib.Bytealg
import Derived.Lib.Replace
namespace Go.Proofs.YtfbkoieodflcpaaDoor
open Go.RowKit

set_option maxHeartbeats 1000000 in
theorem prsign (op : Int) (h1 : 1 ≤ op) (h2 : op ≤ 13) (w : World) : Calls Tryd.prog 14 #[.int .i64 op] w fun e w' => e = .returned (.tuple #[.string ⟨(opT op).toArray⟩, .int .i64 (levelI op)]) ∧ w = w' := by
  have h3 : op = 1 ∨ op = 2 ∨ op = 3 ∨ op = 4 ∨ op = 5 ∨ op = 6 ∨ op = 7 ∨ op = 8 ∨ op = 9 ∨ op = 10 ∨ op = 11 ∨ op = 12 ∨ op = 13 := by omega
  clear h1 h2
  rcases h3 with rfl | rfl | rfl | rfl | rfl | rfl | rfl | rfl | rfl | rfl | rfl | rfl | rfl
  all_goals
    go_enter Tryd.func14, Tryd.ntmps14
    go_wp2
    go_ret2
    exact ⟨rfl, rfl⟩
theorem brack_eq (l : List UInt8) : (⟨#[40]⟩ : ByteArray) ++ ⟨l.toArray⟩ ++ ⟨#[41]⟩ = ⟨(40 :: (l ++ [41])).toArray⟩ := by
  apply ByteArray.ext
  simp
set_option maxHeartbeats 1000000 in
theorem prat (x : TL) (k : Int) (hl : x.text.length ≤ 100000000000000) (r : List UInt8) (h : x.at' k = r) (w : World) : Calls Tryd.prog 15 #[.agg #[.string ⟨x.text.toArray⟩, .int .i64 x.binds], .int .i64 k] w fun e w' => e = .returned (.string ⟨r.toArray⟩) ∧ Below w.heap.size w w' := by
  subst h
  obtain ⟨l, b⟩ := x
  show Calls Tryd.prog 15 #[.agg #[.string ⟨l.toArray⟩, .int .i64 b], .int .i64 k] w _
  change l.length ≤ 100000000000000 at hl
  by_cases hb : b < k
  · have e : TL.at' ⟨l, b⟩ k = 40 :: (l ++ [41]) := by unfold TL.at'; rw [if_pos hb]
    rw [e]
    clear e
    go_enter Tryd.func15, Tryd.ntmps15
    go_wp2
    go_ret
    exact ⟨by rw [← brack_eq]; rfl, by (repeat (first | (with_reducible exact Below.refl _ _) | (with_reducible refine Below.alloc ?_ (by first | omega | (dsimp only; omega) | (simp <;> omega)) _) | (with_reducible refine Below.setCell ?_ (by first | omega | (dsimp only; omega) | (simp <;> omega)) _) | (with_reducible refine Below.drew ?_) | (with_reducible refine below_drewN ?_ _) | (with_reducible refine Below.trans ?_ (Below.mono (by assumption) (by first | omega | (dsimp only; omega) | (simp <;> omega))))))⟩
  · have e : TL.at' ⟨l, b⟩ k = l := by unfold TL.at'; rw [if_neg hb]
    rw [e]
    clear e
    go_enter Tryd.func15, Tryd.ntmps15
    go_wp2
    go_ret
    exact ⟨rfl, by (repeat (first | (with_reducible exact Below.refl _ _) | (with_reducible refine Below.alloc ?_ (by first | omega | (dsimp only; omega) | (simp <;> omega)) _) | (with_reducible refine Below.setCell ?_ (by first | omega | (dsimp only; omega) | (simp <;> omega)) _) | (with_reducible refine Below.drew ?_) | (with_reducible refine below_drewN ?_ _) | (with_reducible refine Below.trans ?_ (Below.mono (by assumption) (by first | omega | (dsimp only; omega) | (simp <;> omega))))))⟩
theorem vmay_cases (v : VL) (h : v.may = true) (h0 : v.t ≠ 0) : (v.t = 1 ∧ v.s = ⟨#[]⟩ ∧ v.b = false ∧ v.c = 0) ∨ (v.t = 2 ∧ v.n = 0 ∧ v.b = false ∧ v.c = 0) ∨ (v.t = 3 ∧ v.n = 0 ∧ v.s = ⟨#[]⟩ ∧ v.c = 0) ∨ (v.t = 4 ∧ v.n = 0 ∧ v.s = ⟨#[]⟩ ∧ v.b = false ∧ 1 ≤ v.c ∧ v.c ≤ 8) := by
  obtain ⟨t, n, s, b, c⟩ := v
  simp only [VL.may, vMay, Bool.and_eq_true, decide_eq_true_eq, Bool.or_eq_true, Bool.not_eq_true'] at h
  obtain ⟨⟨⟨⟨⟨⟨⟨h1, h2⟩, h3⟩, h4⟩, h5⟩, h6⟩, h7⟩, h8⟩ := h
  change t ≠ 0 at h0
  show (t = 1 ∧ s = ⟨#[]⟩ ∧ b = false ∧ c = 0) ∨ (t = 2 ∧ n = 0 ∧ b = false ∧ c = 0) ∨ (t = 3 ∧ n = 0 ∧ s = ⟨#[]⟩ ∧ c = 0) ∨ (t = 4 ∧ n = 0 ∧ s = ⟨#[]⟩ ∧ b = false ∧ 1 ≤ c ∧ c ≤ 8)
  have ht : t = 1 ∨ t = 2 ∨ t = 3 ∨ t = 4 := by omega
  rcases ht with rfl | rfl | rfl | rfl
  · simp at h4 h5 h6; exact Or.inl ⟨rfl, h4, h5, h6⟩
  · simp at h3 h5 h6; exact Or.inr (Or.inl ⟨rfl, h3, h5, h6⟩)
  · simp at h3 h4 h6; exact Or.inr (Or.inr (Or.inl ⟨rfl, h3, h4, h6⟩))
  · simp at h3 h4 h5 h8; exact Or.inr (Or.inr (Or.inr ⟨rfl, h3, h4, h5, h8⟩))
theorem quot_eq (l : List UInt8) : (⟨#[34]⟩ : ByteArray) ++ ⟨l.toArray⟩ ++ ⟨#[34]⟩ = ⟨(34 :: (l ++ [34])).toArray⟩ := by
  apply ByteArray.ext
  simp
set_option maxHeartbeats 1000000 in
theorem prlit (v : VL) (hv : v.ok) (hm : v.may = true) (h0 : v.t ≠ 0) (hs : v.s.size < 4294967281) (w : World) (ht : Tab w) : Calls Tryd.prog 11 #[.agg #[.int .i64 v.t, .int .i64 v.n, .string v.s, .bool v.b, .int .i64 v.c]] w fun e w' => e = .returned (.string ⟨(litT v).toArray⟩) ∧ Below w.heap.size w w' := by
  have hc := vmay_cases v hm h0
  clear hm h0
  obtain ⟨t, n, s, b, c⟩ := v
  change -9223372036854775808 ≤ n ∧ n ≤ 9223372036854775807 at hv
  change s.size < 4294967281 at hs
  show Calls Tryd.prog 11 #[.agg #[.int .i64 t, .int .i64 n, .string s, .bool b, .int .i64 c]] w _
  rcases hc with ⟨e, e2, e3, e4⟩ | ⟨e, e2, e3, e4⟩ | ⟨e, e2, e3, e4⟩ | ⟨e, e2, e3, e4, e5⟩
  · change t = 1 at e; change s = ⟨#[]⟩ at e2; change b = false at e3; change c = 0 at e4
    subst e e2 e3 e4
    have e : litT ⟨1, n, ⟨#[]⟩, false, 0⟩ = printL n := rfl
    rw [e]
    clear e
    go_enter Tryd.func11, Tryd.ntmps11
    go_wp2_with (go_at_call 21; refine (dprint_any n hv _ (Tab.below ht (by (repeat (first | (with_reducible exact Below.refl _ _) | (with_reducible refine Below.alloc ?_ (by first | omega | (dsimp only; omega) | (simp <;> omega)) _) | (with_reducible refine Below.setCell ?_ (by first | omega | (dsimp only; omega) | (simp <;> omega)) _) | (with_reducible refine Below.drew ?_) | (with_reducible refine below_drewN ?_ _) | (with_reducible refine Below.trans ?_ (Below.mono (by assumption) (by first | omega | (dsimp only; omega) | (simp <;> omega))))))))).mono ?_; rintro e w1 ⟨rfl, hb⟩)
    go_ret
    exact ⟨rfl, by (repeat (first | (with_reducible exact Below.refl _ _) | (with_reducible refine Below.alloc ?_ (by first | omega | (dsimp only; omega) | (simp <;> omega)) _) | (with_reducible refine Below.setCell ?_ (by first | omega | (dsimp only; omega) | (simp <;> omega)) _) | (with_reducible refine Below.drew ?_) | (with_reducible refine below_drewN ?_ _) | (with_reducible refine Below.trans ?_ (Below.mono (by assumption) (by first | omega | (dsimp only; omega) | (simp <;> omega))))))⟩
  · change t = 2 at e; change n = 0 at e2; change b = false at e3; change c = 0 at e4
    subst e e2 e3 e4
    obtain ⟨l, rfl⟩ : ∃ l : List UInt8, s = ⟨l.toArray⟩ := ⟨s.data.toList, by cases s; simp⟩
    have hl : l.length < 4294967281 := by simpa [ByteArray.size] using hs
    have e : litT ⟨2, 0, ⟨l.toArray⟩, false, 0⟩ = 34 :: (Lib.replaceAll l [34] [34, 34] ++ [34]) := by rw [quotes_eq]; unfold litT; rw [if_neg (by show ¬ (2 : Int) = 1; decide), if_pos rfl]
    rw [e]
    clear e
    have hcnt := Lib.count_le l [34]
    have hq : (Lib.replaceAll l [34] [34, 34]).length ≤ 8589934562 := by
      rw [quotes_eq]
      have := quotes_len l
      omega
    have hmx' := Lib.hid (fun o => (Tab.below ht ((Below.refl _ w).alloc (Nat.le_refl _) o)).2)
    go_enter Tryd.func11, Tryd.ntmps11
    go_wp2_with fail
    go_at_call 22
    refine (Tryd.strings_ReplaceAll ⟨l.toArray⟩ ⟨#[34]⟩ ⟨#[34, 34]⟩ _ _ hs (hmx'.out _).choose_spec (by decide) (by show l.toArray.size + Lib.count l [34] * 2 ≤ _; simp; omega)).mono ?_
    rintro e w1 ⟨rfl, hb⟩
    go_wp2
    go_ret
    exact ⟨by rw [← quot_eq]; rfl, by (repeat (first | (with_reducible exact Below.refl _ _) | (with_reducible refine Below.alloc ?_ (by first | omega | (dsimp only; omega) | (simp <;> omega)) _) | (with_reducible refine Below.setCell ?_ (by first | omega | (dsimp only; omega) | (simp <;> omega)) _) | (with_reducible refine Below.drew ?_) | (with_reducible refine below_drewN ?_ _) | (with_reducible refine Below.trans ?_ (Below.mono (by assumption) (by first | omega | (dsimp only; omega) | (simp <;> omega))))))⟩
  · change t = 3 at e; change n = 0 at e2; change s = ⟨#[]⟩ at e3; change c = 0 at e4
    subst e e2 e3 e4
    cases b
    · have e : litT ⟨3, 0, ⟨#[]⟩, false, 0⟩ = [70, 65, 76, 83, 69] := rfl
      rw [e]
      clear e
      go_enter Tryd.func11, Tryd.ntmps11
      go_wp2_with (go_at_call 23; refine (show_f _).mono ?_; rintro e w1 ⟨rfl, hb⟩)
      go_ret
      exact ⟨rfl, by (repeat (first | (with_reducible exact Below.refl _ _) | (with_reducible refine Below.alloc ?_ (by first | omega | (dsimp only; omega) | (simp <;> omega)) _) | (with_reducible refine Below.setCell ?_ (by first | omega | (dsimp only; omega) | (simp <;> omega)) _) | (with_reducible refine Below.drew ?_) | (with_reducible refine below_drewN ?_ _) | (with_reducible refine Below.trans ?_ (Below.mono (by assumption) (by first | omega | (dsimp only; omega) | (simp <;> omega))))))⟩
    · have e : litT ⟨3, 0, ⟨#[]⟩, true, 0⟩ = [84, 82, 85, 69] := rfl
      rw [e]
      clear e
      go_enter Tryd.func11, Tryd.ntmps11
      go_wp2_with (go_at_call 23; refine (show_t _).mono ?_; rintro e w1 ⟨rfl, hb⟩)
      go_ret
      exact ⟨rfl, by (repeat (first | (with_reducible exact Below.refl _ _) | (with_reducible refine Below.alloc ?_ (by first | omega | (dsimp only; omega) | (simp <;> omega)) _) | (with_reducible refine Below.setCell ?_ (by first | omega | (dsimp only; omega) | (simp <;> omega)) _) | (with_reducible refine Below.drew ?_) | (with_reducible refine below_drewN ?_ _) | (with_reducible refine Below.trans ?_ (Below.mono (by assumption) (by first | omega | (dsimp only; omega) | (simp <;> omega))))))⟩
  · change t = 4 at e; change n = 0 at e2; change s = ⟨#[]⟩ at e3; change b = false at e4; change 1 ≤ c ∧ c ≤ 8 at e5
    subst e e2 e3 e4
    have e : litT ⟨4, 0, ⟨#[]⟩, false, c⟩ = (codeName c).data.toList := rfl
    rw [e]
    clear e
    go_enter Tryd.func11, Tryd.ntmps11
    go_wp2_with (go_at_call 23; refine (show_4 c e5 _).mono ?_; rintro e w1 ⟨rfl, hb⟩)
    go_ret
    exact ⟨by cases codeName c; first | rfl | simp, by (repeat (first | (with_reducible exact Below.refl _ _) | (with_reducible refine Below.alloc ?_ (by first | omega | (dsimp only; omega) | (simp <;> omega)) _) | (with_reducible refine Below.setCell ?_ (by first | omega | (dsimp only; omega) | (simp <;> omega)) _) | (with_reducible refine Below.drew ?_) | (with_reducible refine below_drewN ?_ _) | (with_reducible refine Below.trans ?_ (Below.mono (by assumption) (by first | omega | (dsimp only; omega) | (simp <;> omega))))))⟩
end Go.Proofs.YtfbkoieodflcpaaDoor
