/-
  orielref05: a step by its part.
-/
import Derived.Test.YtfbkoieodflcpaaDoorMg4
import Derived.Test.YtfbkoieodflcpaaDoorRows
import Derived.Test.YtfbkoieodflcpaaDoorBase
import Derived.Test.YtfbkoieodflcpaaDoorProg
import Derived.Test.YtfbkoieodflcpaaDoorShelf
import Derived.Test.YtfbkoieodflcpaaDoorAddrC
import Derived.Test.YtfbkoieodflcpaaDoorNames
import Derived.Test.YtfbkoieodflcpaaDoorMg7
import Derived.Test.YtfbkoieodflcpaaDoorDecA
import Derived.Test.YtfbkoieodflcpaaDoorValA
import Derived.Test.YtfbkoieodflcpaaDoorValB
import Derived.Test.YtfbkoieodflcpaaDoorMg11
import Derived.Test.YtfbkoieodflcpaaDoorLexP
import Derived.Test.YtfbkoieodflcpaaDoorRowB
import Derived.Test.YtfbkoieodflcpaaDoorMapK
import Derived.Test.YtfbkoieodflcpaaDoorArgK
import Derived.Test.YtfbkoieodflcpaaDoorRefP
import Derived.Test.YtfbkoieodflcpaaDoorMg17
import Derived.Test.YtfbkoieodflcpaaDoorRefN
import Derived.Test.YtfbkoieodflcpaaDoorRefM
import Derived.Test.YtfbkoieodflcpaaDoorRNam
import Derived.Test.YtfbkoieodflcpaaDoorRNod
import Derived.Test.YtfbkoieodflcpaaDoorRefY
import Derived.Test.YtfbkoieodflcpaaDoorRefQ
import Derived.Test.YtfbkoieodflcpaaDoorRefZ
import Derived.Test.YtfbkoieodflcpaaDoorRLev
import Derived.Test.YtfbkoieodflcpaaDoorRNodB
import Derived.Test.YtfbkoieodflcpaaDoorRPt
import Derived.WalkSpells
import Derived.WalkLawsBesides
import Derived.StillTactics
import Derived.Laws.Pointers
import Derived.Deep.RegionHeld3
import Derived.Deep.QuietTactic
import Derived.BigQuiet
import Derived.RowKit3
import Derived.Lib.Hide
import Derived.Lib.OthersKept
import Derived.OwnWalk
import Derived.Lib.IndexLaws
import Derived.Lib.ItoaMem
import Derived.Lib.TrimByte
import Derived.Lib.SlTrimSet
import Derived.Lib.ParseIntB
import Derived.WalkKit
import Derived.ProofKit
import Derived.OpenShut
import Derived.Carry
import Derived.ChangeSame
import Derived.Deep.Draws
import Derived.Shelf.Strings.Builder1
import Derived.Shelf.Strings.Builder2
import Derived.Shelf.Strings.Trim
import Derived.Shelf.Small.Utf8
import Derived.Shelf.Small.Strs
import Derived.Shelf.Strings.BuilderF
import Derived.Shelf.Strings.BuilderK
import Derived.Shelf.Strconv.Itoa0
import Derived.Shelf.Strconv.Itoa1
import Derived.Shelf.LaysM
import Derived.Shelf.Strconv.Itoa2
import Derived.Shelf.Strconv.Itoa3
import Derived.Shelf.Strings.Search1
import Derived.Shelf.Strings.Search2
import Derived.Shelf.Strings.Search3
import Derived.Shelf.Strings.Count
import Derived.Shelf.Strings.Shaped
import Derived.Shelf.Strings.Split
import Derived.Shelf.Strings.Replace
import Derived.Shelf.Strings.Runes
import Derived.Shelf.Strings.AsciiSet
import Derived.Shelf.Unicode.DecodeSlow
import Derived.Lib.ItoaNum
import Derived.Maps.OwnSet
import Derived.Maps.AppendAt
namespace Go.Proofs.YtfbkoieodflcpaaDoor
open Go.RowKit

theorem rpart_info : (Tryd.prog.info? 66).map (fun i => (i.zero, i.size, i.bytes)) = some (some (.agg #[.int .i64 0, .int .i64 0, .bool false]), 3, 24) := by kernel_rfl
theorem takes_le {n : NL} (hm : n.may = true) : 0 ≤ takesI n ∧ takesI n ≤ 16 := by
  unfold takesI
  by_cases h5 : n.kind = 5
  · rw [if_pos h5]; obtain ⟨a, b, _⟩ := args_of hm h5; omega
  · rw [if_neg h5]; split
    · omega
    · split <;> omega
theorem takes_no {n : NL} {st : List PL} (hm : n.may = true) (h : (st.length : Int) < takesI n) : stepP st n = none := by
  unfold takesI at h
  by_cases h5 : n.kind = 5
  · rw [if_pos h5] at h; exact step_call_no hm h5 (by omega)
  rw [if_neg h5] at h
  by_cases h4 : n.kind = 4
  · by_cases ho : n.op = 1 ∨ n.op = 2
    · rw [if_pos ⟨h4, ho⟩] at h
      obtain rfl : st = [] := List.eq_nil_of_length_eq_zero (by omega)
      exact step_one_no hm h4
    · rw [if_neg (fun e => ho e.2), if_pos h4] at h
      rcases two_last st with rfl | ⟨a, rfl⟩ | ⟨s, a, b, rfl⟩
      · exact step_two_no0 hm h4 ho
      · exact step_two_no hm h4 ho
      · exfalso; rw [List.length_append] at h; simp at h; omega
  · rw [if_neg (fun e => h4 e.1), if_neg h4] at h; omega
def OwnR (w : World) (B : Nat) (v : Value) (l : List PL) : Prop := w.ownsRow B 66 3 v l.length (plRow l)
theorem OwnR.form {w : World} {B n : Nat} {v : Value} {st : List PL} (h : OwnR w B v st) (hn : st.length = n) : (n = 0 ∧ v = .slice none 0 0) ∨ ∃ g cap, v = .slice (some ⟨g, 0, none⟩) n cap ∧ B ≤ g ∧ g < w.heap.size ∧ n ≤ cap ∧ ∀ j, j < n * 3 → w.cell? ⟨g, j, none⟩ = (plRow st)[j]? := by
  subst hn
  have h0 := h
  obtain ⟨h1, h2⟩ := h
  rcases h2 with ⟨hv, hn⟩ | ⟨g, cap, cur, rfl, hg, hh, hle, hmx, hsz, htk⟩
  · exact Or.inl ⟨hn, hv⟩
  · exact Or.inr ⟨g, cap, rfl, hg, (Array.getElem?_eq_some_iff.1 hh).1, hle, fun j hj => World.ownsRow.cellAt h0 j hj⟩
theorem plRow_at' (s t : List PL) (p q : Nat) (hp : s.length = p) (x : PL) (hx : t[q]? = some x) (i : Nat) (u : Value) (hu : x.cs[i]? = some u) : (plRow (s ++ t))[p * 3 + q * 3 + i]? = some u := by
  rw [plRow_app, List.getElem?_append_right (by rw [plRow_len]; omega), plRow_len, hp, show p * 3 + q * 3 + i - p * 3 = q * 3 + i by omega]
  exact flat_at (t.map PL.cs) (fun c hc => by obtain ⟨y, _, rfl⟩ := List.mem_map.1 hc; rfl) q x.cs (by rw [List.getElem?_map, hx]; rfl) i u hu
def PartAt (n : NL) (t : List PL) (r : PL) (ok : Bool) : Prop := ∀ (w : World) (A : Option Addr) (cap : Nat), RdB w w.heap.size A 3 (t.map PL.cs) → Calls Tryd.prog 33 #[.agg #[.int .i64 n.kind, .int .i64 n.v.t, .int .i64 n.v.n, .string n.v.s, .bool n.v.b, .int .i64 n.v.c, .int .i64 n.r, .int .i64 n.c, .int .i64 n.t, .int .i64 n.l, .int .i64 n.b, .int .i64 n.q, .int .i64 n.op, .string n.name, .int .i64 n.args], .slice A t.length cap] w fun e w' => e = .returned (.tuple #[.agg #[.int .i64 r.depth, .int .i64 r.binds, .bool r.many], .bool ok]) ∧ Below w.heap.size w w'
theorem wdeep1 (lv : Int) (b : PL) (hb : 0 ≤ b.depth) : wdeep lv [b] = b.inside lv := by
  have h := wdeep_snoc lv [] b
  have h2 := inside_le (k := b.depth) ⟨hb, Int.le_refl _⟩ lv
  rw [List.nil_append] at h
  rw [h, show wdeep lv [] = 0 from rfl, show lv + (([] : List PL).length : Int) = lv by simp]
  omega
theorem wdeep2 (lv : Int) (a b : PL) (ha : 0 ≤ a.depth) : wdeep lv [a, b] = max (a.inside lv) (b.inside (lv + 1)) := by
  have h := wdeep_snoc lv [a] b
  rw [show [a] ++ [b] = [a, b] from rfl, wdeep1 lv a ha] at h
  rw [h]; rfl
theorem rpart_step (n : NL) (hm : n.may = true) (s t : List PL) (k : Int) (hk0 : 0 ≤ k) (hk : k ≤ 2000) (ht : (t.length : Int) = takesI n) (hd : PDeep k (s ++ t)) : ∃ r ok, stepP (s ++ t) n = (if ok then some (s ++ [r]) else none) ∧ (0 ≤ r.depth ∧ r.depth ≤ k + 1) ∧ PartAt n t r ok := by
  have hdt := hd.right
  by_cases h3 : n.kind = 3
  · have : t = [] := List.eq_nil_of_length_eq_zero (by unfold takesI at ht; rw [if_neg (by omega), if_neg (by omega), if_neg (by omega)] at ht; omega)
    subst this
    exact ⟨⟨0, 7, true⟩, true, by rw [List.append_nil, step_rect hm h3]; rfl, by show (0 : Int) ≤ 0 ∧ (0 : Int) ≤ k + 1; omega, fun w A cap _ => rpart_rect n h3 _ w⟩
  by_cases h5 : n.kind = 5
  · obtain ⟨a0, a1, _⟩ := args_of hm h5
    have ht' : (t.length : Int) = n.args := by unfold takesI at ht; rwa [if_pos h5] at ht
    have hb := deep_le hdt hk0
    exact ⟨⟨deepL t + 1, 7, false⟩, true, by rw [step_call hm h5 (by omega)]; rfl, by show 0 ≤ deepL t + 1 ∧ deepL t + 1 ≤ k + 1; omega, fun w A cap hR => rpart_call n h5 t (by omega) (fun p hp => ⟨(hdt p hp).1, by have := (hdt p hp).2; omega⟩) w A cap hR⟩
  by_cases h4 : n.kind = 4
  · obtain ⟨o1, o2⟩ := op_of hm h4
    have hbd : ∀ p ∈ t, 0 ≤ p.depth ∧ p.depth ≤ 90000 := fun p hp => ⟨(hdt p hp).1, by have := (hdt p hp).2; omega⟩
    by_cases ho : n.op = 1 ∨ n.op = 2
    · have htl : t.length = 1 := by unfold takesI at ht; rw [if_neg h5, if_pos ⟨h4, ho⟩] at ht; omega
      match t, htl with
      | [b], _ =>
        have hb := hdt b (by simp)
        have hi := inside_le hb (levelI n.op)
        cases hmb : b.many
        · exact ⟨⟨b.inside (levelI n.op), levelI n.op, false⟩, true, by rw [step_one hm h4 ho, hmb]; rfl, hi, fun w A cap hR => rpart_op n h4 o1 o2 [b] (by simp) hbd _ true (Or.inr ⟨by simp [hmb], rfl, by rw [wdeep1 _ _ hb.1]⟩) w A cap hR⟩
        · exact ⟨⟨0, 0, false⟩, false, by rw [step_one hm h4 ho, hmb]; rfl, by show (0 : Int) ≤ 0 ∧ (0 : Int) ≤ k + 1; omega, fun w A cap hR => rpart_op n h4 o1 o2 [b] (by simp) hbd _ false (Or.inl ⟨by simp [hmb], rfl, rfl⟩) w A cap hR⟩
    · have htl : t.length = 2 := by unfold takesI at ht; rw [if_neg h5, if_neg (fun e => ho e.2), if_pos h4] at ht; omega
      match t, htl with
      | [a, b], _ =>
        have ha := hdt a (by simp)
        have hb := hdt b (by simp)
        have hi := inside_le ha (levelI n.op)
        have hj := inside_le hb (levelI n.op + 1)
        cases hmm : (a.many || b.many)
        · exact ⟨⟨max (a.inside (levelI n.op)) (b.inside (levelI n.op + 1)), levelI n.op, false⟩, true, by rw [step_two hm h4 ho, hmm]; rfl, by show 0 ≤ max (a.inside (levelI n.op)) (b.inside (levelI n.op + 1)) ∧ max (a.inside (levelI n.op)) (b.inside (levelI n.op + 1)) ≤ k + 1; omega, fun w A cap hR => rpart_op n h4 o1 o2 [a, b] (by simp) hbd _ true (Or.inr ⟨by simpa using hmm, rfl, by rw [wdeep2 _ _ _ ha.1]⟩) w A cap hR⟩
        · exact ⟨⟨0, 0, false⟩, false, by rw [step_two hm h4 ho, hmm]; rfl, by show (0 : Int) ≤ 0 ∧ (0 : Int) ≤ k + 1; omega, fun w A cap hR => rpart_op n h4 o1 o2 [a, b] (by simp) hbd _ false (Or.inl ⟨by simpa using hmm, rfl, rfl⟩) w A cap hR⟩
  · have : t = [] := List.eq_nil_of_length_eq_zero (by unfold takesI at ht; rw [if_neg h5, if_neg (fun e => h4 e.1), if_neg h4] at ht; omega)
    subst this
    exact ⟨⟨0, 7, false⟩, true, by rw [List.append_nil, step_leaf hm h3 h4 h5]; rfl, by show (0 : Int) ≤ 0 ∧ (0 : Int) ≤ k + 1; omega, fun w A cap _ => rpart_leaf n h3 h4 h5 _ w⟩
end Go.Proofs.YtfbkoieodflcpaaDoor
