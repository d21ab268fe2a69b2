/-
  print: how brackets stand in a formula's text, plain.
-/
import Derived.Test.YtfbkoieodflcpaaDoorMg4
import Derived.Test.YtfbkoieodflcpaaDoorRows
import Derived.Test.YtfbkoieodflcpaaDoorBase
import Derived.Test.YtfbkoieodflcpaaDoorProg
import Derived.Test.YtfbkoieodflcpaaDoorShelf
import Derived.Test.YtfbkoieodflcpaaDoorAddrC
import Derived.Test.YtfbkoieodflcpaaDoorNames
import Derived.Test.YtfbkoieodflcpaaDoorMg7
import Derived.Test.YtfbkoieodflcpaaDoorDecA
import Derived.Test.YtfbkoieodflcpaaDoorValA
import Derived.Test.YtfbkoieodflcpaaDoorValB
import Derived.Test.YtfbkoieodflcpaaDoorMg11
import Derived.Test.YtfbkoieodflcpaaDoorLexP
import Derived.Test.YtfbkoieodflcpaaDoorRowB
import Derived.Test.YtfbkoieodflcpaaDoorMapK
import Derived.Test.YtfbkoieodflcpaaDoorArgK
import Derived.Test.YtfbkoieodflcpaaDoorRefP
import Derived.Test.YtfbkoieodflcpaaDoorRefQ
import Derived.Test.YtfbkoieodflcpaaDoorShelfC
import Derived.Test.YtfbkoieodflcpaaDoorFmtU
import Derived.Test.YtfbkoieodflcpaaDoorNameX
import Derived.Test.YtfbkoieodflcpaaDoorNameY
import Derived.Test.YtfbkoieodflcpaaDoorDPrint
import Derived.Test.YtfbkoieodflcpaaDoorValL
import Derived.Test.YtfbkoieodflcpaaDoorPrP
import Derived.Test.YtfbkoieodflcpaaDoorPrA
import Derived.WalkSpells
import Derived.WalkLawsBesides
import Derived.StillTactics
import Derived.Laws.Pointers
import Derived.Deep.RegionHeld3
import Derived.Deep.QuietTactic
import Derived.BigQuiet
import Derived.RowKit3
import Derived.Lib.Hide
import Derived.Lib.OthersKept
import Derived.OwnWalk
import Derived.Lib.IndexLaws
import Derived.Lib.ItoaMem
import Derived.Lib.TrimByte
import Derived.Lib.SlTrimSet
import Derived.Lib.ParseIntB
import Derived.WalkKit
import Derived.ProofKit
import Derived.OpenShut
import Derived.Carry
import Derived.ChangeSame
import Derived.Deep.Draws
import Derived.Shelf.Strings.Builder1
import Derived.Shelf.Strings.Builder2
import Derived.Shelf.Strings.Trim
import Derived.Shelf.Small.Utf8
import Derived.Shelf.Small.Strs
import Derived.Shelf.Strings.BuilderF
import Derived.Shelf.Strings.BuilderK
import Derived.Shelf.Strconv.Itoa0
import Derived.Shelf.Strconv.Itoa1
import Derived.Shelf.LaysM
import Derived.Shelf.Strconv.Itoa2
import Derived.Shelf.Strconv.Itoa3
import Derived.Shelf.Strings.Search1
import Derived.Shelf.Strings.Search2
import Derived.Shelf.Strings.Search3
import Derived.Shelf.Strings.Count
import Derived.Shelf.Strings.Shaped
import Derived.Shelf.Strings.Split
import Derived.Shelf.Strings.Replace
import Derived.Shelf.Strings.Runes
import Derived.Shelf.Strings.AsciiSet
import Derived.Shelf.Unicode.DecodeSlow
import Derived.Lib.ItoaNum
import Derived.Maps.OwnSet
import Derived.Maps.AppendAt
import Derived.Lib.Bytealg
import Derived.Lib.Replace
namespace Go.Proofs.YtfbkoieodflcpaaDoor
open Go.RowKit

/-- what a scan of a text holds: how many are open, the most that were, in quotes -/
def scanB (st : Option (Int × Int × Bool)) (b : UInt8) : Option (Int × Int × Bool) :=
  st.bind fun x =>
    if b = 34 then some (x.1, x.2.1, !x.2.2)
    else if x.2.2 = true then some x
    else if b = 32 then none
    else if b = 40 then some (x.1 + 1, max x.2.1 (x.1 + 1), false)
    else if b = 41 then (if x.1 - 1 < 0 then none else some (x.1 - 1, x.2.1, false))
    else some x
def scanL (st : Option (Int × Int × Bool)) (l : List UInt8) : Option (Int × Int × Bool) := l.foldl scanB st
theorem scan_app (st : Option (Int × Int × Bool)) (a b : List UInt8) : scanL st (a ++ b) = scanL (scanL st a) b := List.foldl_append
theorem scan_none : ∀ l : List UInt8, scanL none l = none
  | [] => rfl
  | _ :: l => scan_none l
/-- a text whose brackets are closed as often as opened, with d open at most -/
def Bal (l : List UInt8) (d : Int) : Prop := ∀ o m : Int, 0 ≤ o → o ≤ m → scanL (some (o, m, false)) l = some (o, max m (o + d), false)
theorem Bal.nil : Bal [] 0 := fun o m _ h => by
  rw [show max m (o + 0) = m by omega]; rfl
theorem Bal.app {a b : List UInt8} {x y : Int} (ha : Bal a x) (hb : Bal b y) : Bal (a ++ b) (max x y) := fun o m h0 h => by
  rw [scan_app, ha o m h0 h, hb o _ h0 (by omega), show max (max m (o + x)) (o + y) = max m (o + max x y) by omega]
def quietB (b : UInt8) : Prop := b ≠ 34 ∧ b ≠ 32 ∧ b ≠ 40 ∧ b ≠ 41
theorem Bal.one {b : UInt8} (h : quietB b) : Bal [b] 0 := fun o m _ hm => by
  obtain ⟨h1, h2, h3, h4⟩ := h
  show scanB (some (o, m, false)) b = _
  unfold scanB
  rw [show max m (o + 0) = m by omega]
  simp [h1, h2, h3, h4]
theorem Bal.all : ∀ {l : List UInt8}, (∀ b ∈ l, quietB b) → Bal l 0
  | [], _ => Bal.nil
  | b :: l, h => by
    have := (Bal.one (h b (by simp))).app (Bal.all (l := l) fun c hc => h c (by simp [hc]))
    exact this
theorem Bal.cast {l : List UInt8} {x y : Int} (h : Bal l x) (e : x = y) : Bal l y := e ▸ h
theorem Bal.brack {a : List UInt8} {d : Int} (h : Bal a d) (hd : 0 ≤ d) : Bal (40 :: (a ++ [41])) (d + 1) := fun o m h0 hm => by
  show scanL (scanB (some (o, m, false)) 40) (a ++ [41]) = _
  have e : scanB (some (o, m, false)) 40 = some (o + 1, max m (o + 1), false) := by unfold scanB; simp
  rw [e, scan_app, h (o + 1) _ (by omega) (by omega)]
  show scanB (some (o + 1, max (max m (o + 1)) (o + 1 + d), false)) 41 = _
  unfold scanB
  have h1 : ¬ (o + 1 - 1 < 0) := by omega
  simp only [Option.bind_some, if_neg h1]
  rw [show max (max m (o + 1)) (o + 1 + d) = max m (o + (d + 1)) by omega, show o + 1 - 1 = o by omega]
  rfl
theorem scan_quotes (o m : Int) : ∀ l : List UInt8, scanL (some (o, m, true)) (quotesL l) = some (o, m, true)
  | [] => rfl
  | b :: l => by
    have ih := scan_quotes o m l
    rw [show quotesL (b :: l) = (if b = 34 then [34, 34] else [b]) ++ quotesL l from by unfold quotesL; rw [List.flatMap_cons], scan_app]
    by_cases hb : b = 34
    · rw [if_pos hb, show scanL (some (o, m, true)) [34, 34] = some (o, m, true) from rfl, ih]
    · rw [if_neg hb, show scanL (some (o, m, true)) [b] = some (o, m, true) from by show scanB (some (o, m, true)) b = some (o, m, true); unfold scanB; simp [hb], ih]
theorem Bal.quote (l : List UInt8) : Bal (34 :: (quotesL l ++ [34])) 0 := fun o m _ hm => by
  show scanL (scanB (some (o, m, false)) 34) (quotesL l ++ [34]) = _
  rw [show scanB (some (o, m, false)) 34 = some (o, m, true) from rfl, scan_app, scan_quotes, show max m (o + 0) = m by omega]
  rfl
-- what the leaves are
theorem quiet_of {b : UInt8} (h : 42 ≤ b.toNat ∨ b.toNat = 35 ∨ b.toNat = 33 ∨ b.toNat = 37 ∨ b.toNat = 38) : quietB b := by
  refine ⟨?_, ?_, ?_, ?_⟩ <;> (rintro rfl; revert h; decide)
theorem digits_nat (n : Nat) (b : UInt8) (hb : b ∈ Lib.decDigits n) : 48 ≤ b.toNat ∧ b.toNat ≤ 57 := by
  by_cases h : n < 10
  · rw [Lib.decDigits_one h] at hb
    rcases List.mem_singleton.1 hb with rfl
    rw [UInt8.toNat_ofNat_of_lt' (by show _ < 256; omega)]; omega
  · rw [decSnoc (by omega)] at hb
    rcases List.mem_append.1 hb with hb | hb
    · exact digits_nat (n / 10) b hb
    · rcases List.mem_singleton.1 hb with rfl
      rw [UInt8.toNat_ofNat_of_lt' (by show _ < 256; omega)]; omega
termination_by n
decreasing_by omega
theorem dig_quiet (n : Nat) : ∀ b ∈ Lib.decDigits n, quietB b := fun b hb => by
  have := digits_nat n b hb
  exact quiet_of (Or.inl (by omega))
theorem four_quiet {n : Nat} (h : n < 10000) : ∀ b ∈ four n, quietB b := fun b hb => by
  have e := dec_five h
  exact dig_quiet (10000 + n) b (by rw [e]; exact List.mem_cons_of_mem _ hb)
theorem frac_quiet {n : Nat} (h : n < 10000) : ∀ b ∈ frac n, quietB b := fun b hb => by
  unfold frac Lib.trimRightB at hb
  rw [List.mem_reverse] at hb
  exact four_quiet h b (List.mem_reverse.1 ((List.dropWhile_sublist _).mem hb))
theorem printL_quiet {x : Int} (h : 0 ≤ x) : ∀ b ∈ printL x, quietB b := fun b hb => by
  unfold printL at hb
  rw [if_neg (by omega), show decide (x < 0) = false by simp; omega] at hb
  unfold textOf at hb
  simp only [Bool.false_eq_true, if_false, List.nil_append, List.mem_append] at hb
  rcases hb with hb | hb
  · exact dig_quiet _ b hb
  · split at hb
    · simp at hb
    · rcases List.mem_cons.1 hb with rfl | hb
      · exact quiet_of (Or.inl (by decide))
      · exact frac_quiet (Nat.mod_lt _ (by decide)) b hb
theorem ofNat_quiet {n : Nat} (h1 : 42 ≤ n) (h2 : n < 256) : quietB (UInt8.ofNat n) := quiet_of (Or.inl (by rw [UInt8.toNat_ofNat_of_lt' h2]; exact h1))
theorem col_quiet {c : Nat} (h : c ≤ 256) : ∀ b ∈ colL c, quietB b := fun b hb => by
  unfold colL at hb
  split at hb
  · rcases List.mem_singleton.1 hb with rfl
    exact ofNat_quiet (by omega) (by omega)
  · rcases List.mem_cons.1 hb with rfl | hb
    · exact ofNat_quiet (by omega) (by omega)
    · rcases List.mem_singleton.1 hb with rfl
      exact ofNat_quiet (by omega) (by omega)
theorem nameZ_quiet (r c : Int) : ∀ b ∈ nameZ r c, quietB b := fun b hb => by
  unfold nameZ at hb
  cases h : mayB r c
  · rw [h] at hb; simp at hb
  · rw [h, if_pos rfl] at hb
    obtain ⟨r', c', rfl, rfl, hm⟩ := mayB_ints h
    obtain ⟨m1, m2, m3, m4⟩ := mayN_of hm
    rcases List.mem_append.1 hb with hb | hb
    · exact col_quiet (by omega) b hb
    · exact dig_quiet _ b hb
theorem rect_quiet (t l b r : Int) : ∀ x ∈ nameRectZ t l b r, quietB x := fun x hx => by
  unfold nameRectZ at hx
  split at hx
  · rcases List.mem_append.1 hx with hx | hx
    · exact nameZ_quiet _ _ x hx
    · rcases List.mem_cons.1 hx with rfl | hx
      · exact quiet_of (Or.inl (by decide))
      · exact nameZ_quiet _ _ x hx
  · simp at hx
theorem part_quiet {b : UInt8} (h : partB b = true) : quietB b := by
  refine quiet_of (Or.inl ?_)
  unfold partB upB isDig at h
  simp only [Bool.or_eq_true, Bool.and_eq_true, decide_eq_true_eq] at h
  omega
theorem code_quiet {c : Int} (h1 : 1 ≤ c) (h2 : c ≤ 8) : ∀ b ∈ (codeName c).data.toList, quietB b := by
  have h3 : c = 1 ∨ c = 2 ∨ c = 3 ∨ c = 4 ∨ c = 5 ∨ c = 6 ∨ c = 7 ∨ c = 8 := by omega
  have key : ∀ b : UInt8, (42 ≤ b.toNat ∨ b.toNat = 35 ∨ b.toNat = 33 ∨ b.toNat = 37 ∨ b.toNat = 38) → quietB b := fun _ h => quiet_of h
  rcases h3 with rfl | rfl | rfl | rfl | rfl | rfl | rfl | rfl <;> exact fun b hb => key b ((by decide : ∀ b ∈ (codeName _).data.toList, 42 ≤ b.toNat ∨ b.toNat = 35 ∨ b.toNat = 33 ∨ b.toNat = 37 ∨ b.toNat = 38) b hb)
theorem sign_quiet (op : Int) : ∀ b ∈ opT op, quietB b := fun b hb => by
  have h1 : opT op ∈ ([[45], [37], [42], [47], [43], [38], [61], [60, 62], [60], [60, 61], [62], [62, 61]] : List (List UInt8)) := by
    unfold opT
    by_cases h1 : op = 1
    · rw [if_pos h1]; decide
    rw [if_neg h1]
    by_cases h2 : op = 2
    · rw [if_pos h2]; decide
    rw [if_neg h2]
    by_cases h3 : op = 3
    · rw [if_pos h3]; decide
    rw [if_neg h3]
    by_cases h4 : op = 4
    · rw [if_pos h4]; decide
    rw [if_neg h4]
    by_cases h5 : op = 5
    · rw [if_pos h5]; decide
    rw [if_neg h5]
    by_cases h6 : op = 6
    · rw [if_pos h6]; decide
    rw [if_neg h6]
    by_cases h7 : op = 7
    · rw [if_pos h7]; decide
    rw [if_neg h7]
    by_cases h8 : op = 8
    · rw [if_pos h8]; decide
    rw [if_neg h8]
    by_cases h9 : op = 9
    · rw [if_pos h9]; decide
    rw [if_neg h9]
    by_cases h10 : op = 10
    · rw [if_pos h10]; decide
    rw [if_neg h10]
    by_cases h11 : op = 11
    · rw [if_pos h11]; decide
    rw [if_neg h11]
    by_cases h12 : op = 12
    · rw [if_pos h12]; decide
    rw [if_neg h12]
    decide
  have h2 : ∀ l ∈ ([[45], [37], [42], [47], [43], [38], [61], [60, 62], [60], [60, 61], [62], [62, 61]] : List (List UInt8)), ∀ b ∈ l, 42 ≤ b.toNat ∨ b.toNat = 35 ∨ b.toNat = 33 ∨ b.toNat = 37 ∨ b.toNat = 38 := by decide
  exact quiet_of (h2 _ h1 b hb)
/-- a part's text stands for it -/
structure Told (p : PL) (x : TL) : Prop where
  bal : Bal x.text p.depth
  pos : 0 ≤ p.depth
  binds : x.binds = p.binds
def TRel : List PL → List TL → Prop
  | [], [] => True
  | p :: s, x :: t => Told p x ∧ TRel s t
  | _, _ => False
theorem TRel.app : ∀ {a b : List PL} {x y : List TL}, TRel a x → TRel b y → TRel (a ++ b) (x ++ y)
  | [], _, [], _, _, h => h
  | _ :: _, _, _ :: _, _, h, h2 => ⟨h.1, TRel.app h.2 h2⟩
theorem TRel.split : ∀ {a b : List PL} {z : List TL}, TRel (a ++ b) z → ∃ x y, z = x ++ y ∧ TRel a x ∧ TRel b y
  | [], _, z, h => ⟨[], z, rfl, trivial, h⟩
  | p :: a, b, q :: z, h => by
    obtain ⟨x, y, rfl, h1, h2⟩ := TRel.split (a := a) h.2
    exact ⟨q :: x, y, rfl, ⟨h.1, h1⟩, h2⟩
theorem TRel.len : ∀ {a : List PL} {x : List TL}, TRel a x → x.length = a.length
  | [], [], _ => rfl
  | _ :: a, _ :: x, h => by rw [List.length_cons, List.length_cons, TRel.len h.2]
theorem TRel.one {p : PL} {x : TL} (h : Told p x) : TRel [p] [x] := ⟨h, trivial⟩
theorem TRel.last {s : List PL} {b : PL} {z : List TL} (h : TRel (s ++ [b]) z) : ∃ x y, z = x ++ [y] ∧ TRel s x ∧ Told b y := by
  obtain ⟨x, y, rfl, h1, h2⟩ := h.split
  match y, h2 with
  | [y], h2 => exact ⟨x, y, rfl, h1, h2.1⟩
theorem TRel.last2 {s : List PL} {a b : PL} {z : List TL} (h : TRel (s ++ [a, b]) z) : ∃ x u v, z = x ++ [u, v] ∧ TRel s x ∧ Told a u ∧ Told b v := by
  obtain ⟨x, y, rfl, h1, h2⟩ := h.split
  match y, h2 with
  | [u, v], h2 => exact ⟨x, u, v, rfl, h1, h2.1, h2.2.1⟩
theorem Told.at {p : PL} {x : TL} (h : Told p x) (k : Int) : Bal (x.at' k) (p.inside k) ∧ 0 ≤ p.inside k := by
  have := h.pos
  unfold TL.at' PL.inside
  rw [h.binds]
  split
  · exact ⟨h.bal.brack h.pos, by omega⟩
  · exact ⟨h.bal, h.pos⟩
theorem TRel.join : ∀ (k : Nat) {t : List PL} {T : List TL}, t.length = k → TRel t T → Bal (joinT T) (deepL t) ∧ 0 ≤ deepL t
  | 0, [], [], _, _ => ⟨Bal.nil, Int.le_refl _⟩
  | k + 1, t, T, hk, h => by
    rcases t.eq_nil_or_concat with rfl | ⟨s, p, rfl⟩
    · simp at hk
    rw [List.concat_eq_append] at *
    obtain ⟨S, x, rfl, h1, h2⟩ := h.last
    obtain ⟨ih, i0⟩ := TRel.join k (by simpa using hk) h1
    have hp := h2.pos
    rw [deep_snoc]
    refine ⟨?_, by omega⟩
    by_cases hS : S = []
    · subst hS
      have hs : s = [] := by have := h1.len; simpa using this.symm
      subst hs
      show Bal (x.text ++ []) _
      rw [List.append_nil]
      exact h2.bal.cast (by show p.depth = max 0 p.depth; omega)
    · rw [join_snoc S x hS]
      exact (ih.app ((Bal.one (b := 44) (quiet_of (by decide))).app h2.bal)).cast (by omega)
theorem may_value {n : NL} (h : n.may = true) (hk : n.kind = 1) : n.v.may = true ∧ n.v.t ≠ 0 ∧ 0 ≤ n.v.n := by
  unfold NL.may at h
  rw [if_pos hk] at h
  simp only [Bool.and_eq_true, decide_eq_true_eq] at h
  exact ⟨h.1.1.1.1.1.1.1, h.1.1.1.1.1.1.2, h.1.1.1.1.1.2⟩
theorem lit_bal {v : VL} (h : v.may = true) (h0 : v.t ≠ 0) (hn : 0 ≤ v.n) : Bal (litT v) 0 := by
  unfold litT
  rcases vmay_cases v h h0 with ⟨e, _⟩ | ⟨e, _⟩ | ⟨e, _⟩ | ⟨e, _, _, _, e5, e6⟩
  · rw [if_pos e]; exact Bal.all (printL_quiet hn)
  · rw [if_neg (by omega), if_pos e]; exact Bal.quote _
  · rw [if_neg (by omega), if_neg (by omega), if_pos e]
    split
    · exact Bal.all (fun b hb => quiet_of (Or.inl ((by decide : ∀ b ∈ ([84, 82, 85, 69] : List UInt8), 42 ≤ b.toNat) b hb)))
    · exact Bal.all (fun b hb => quiet_of (Or.inl ((by decide : ∀ b ∈ ([70, 65, 76, 83, 69] : List UInt8), 42 ≤ b.toNat) b hb)))
  · rw [if_neg (by omega), if_neg (by omega), if_neg (by omega)]; exact Bal.all (code_quiet e5 e6)
theorem step_told {st st' : List PL} {T : List TL} {n : NL} (h : stepP st n = some st') (hr : TRel st T) : TRel st' (stepT T n) := by
  cases hm : n.may
  · rw [step_bad hm] at h; cases h
  by_cases h3 : n.kind = 3
  · rw [step_rect hm h3] at h; cases h
    unfold stepT
    rw [if_neg (by omega), if_neg (by omega), if_pos h3]
    exact hr.app (TRel.one ⟨Bal.all (rect_quiet _ _ _ _), Int.le_refl _, rfl⟩)
  by_cases h4 : n.kind = 4
  · by_cases ho : n.op = 1 ∨ n.op = 2
    · rcases st.eq_nil_or_concat with rfl | ⟨s, b, rfl⟩
      · rw [step_one_no hm h4] at h; cases h
      rw [List.concat_eq_append] at *
      rw [step_one hm h4 ho] at h
      split at h
      · cases h
      cases h
      obtain ⟨S, x, rfl, h1, h2⟩ := hr.last
      obtain ⟨hb, h0⟩ := h2.at (levelI n.op)
      have hq : Bal (opT n.op) 0 := Bal.all (sign_quiet _)
      by_cases ho1 : n.op = 1
      · rw [stepT_neg h4 ho1]
        exact h1.app (TRel.one ⟨(hq.app hb).cast (by show max 0 (b.inside (levelI n.op)) = b.inside (levelI n.op); omega), h0, rfl⟩)
      · rw [stepT_pct h4 (by omega)]
        exact h1.app (TRel.one ⟨(hb.app hq).cast (by show max (b.inside (levelI n.op)) 0 = b.inside (levelI n.op); omega), h0, rfl⟩)
    · rcases two_last st with rfl | ⟨a, rfl⟩ | ⟨s, a, b, rfl⟩
      · rw [step_two_no0 hm h4 ho] at h; cases h
      · rw [step_two_no hm h4 ho] at h; cases h
      rw [step_two hm h4 ho] at h
      split at h
      · cases h
      cases h
      obtain ⟨S, x, y, rfl, h1, h2, h3⟩ := hr.last2
      obtain ⟨ha, a0⟩ := h2.at (levelI n.op)
      obtain ⟨hb, b0⟩ := h3.at (levelI n.op + 1)
      have hq : Bal (opT n.op) 0 := Bal.all (sign_quiet _)
      rw [stepT_two h4 (by omega) (by omega)]
      exact h1.app (TRel.one ⟨((ha.app hq).app hb).cast (by show max (max (a.inside (levelI n.op)) 0) (b.inside (levelI n.op + 1)) = max (a.inside (levelI n.op)) (b.inside (levelI n.op + 1)); omega), by show 0 ≤ max (a.inside (levelI n.op)) (b.inside (levelI n.op + 1)); omega, rfl⟩)
  by_cases h5 : n.kind = 5
  · obtain ⟨a0, a1, a2⟩ := args_of hm h5
    by_cases hl : st.length < n.args.toNat
    · rw [step_call_no hm h5 hl] at h; cases h
    obtain ⟨s, t, rfl, ht⟩ : ∃ s t, st = s ++ t ∧ t.length = n.args.toNat := ⟨st.take (st.length - n.args.toNat), st.drop (st.length - n.args.toNat), (List.take_append_drop _ _).symm, by rw [List.length_drop]; omega⟩
    rw [step_call hm h5 ht] at h; cases h
    obtain ⟨S, U, rfl, h1, h2⟩ := hr.split
    rw [stepT_call h5 (by rw [h2.len]; exact ht)]
    obtain ⟨hj, j0⟩ := h2.join t.length rfl
    have hn : Bal n.name.data.toList 0 := Bal.all fun b hb => part_quiet (by
      unfold namedB at a2
      simp only [Bool.and_eq_true, List.all_eq_true] at a2
      exact a2.1.2 b hb)
    exact h1.app (TRel.one ⟨(hn.app (hj.brack j0)).cast (by show max 0 (deepL t + 1) = deepL t + 1; omega), by show 0 ≤ deepL t + 1; omega, rfl⟩)
  rw [step_leaf hm h3 h4 h5] at h; cases h
  by_cases h1 : n.kind = 1
  · obtain ⟨e1, e2, e3⟩ := may_value hm h1
    unfold stepT
    rw [if_pos h1]
    exact hr.app (TRel.one ⟨lit_bal e1 e2 e3, Int.le_refl _, rfl⟩)
  by_cases h2 : n.kind = 2
  · unfold stepT
    rw [if_neg h1, if_pos h2]
    exact hr.app (TRel.one ⟨Bal.all (nameZ_quiet _ _), Int.le_refl _, rfl⟩)
  · exfalso
    unfold NL.may at hm
    rw [if_neg h1, if_neg h2, if_neg h3, if_neg h4, if_neg h5] at hm
    cases hm
theorem put_told (k : Nat) : ∀ (l : List NL), l.length = k → ∀ st, putP l = some st → TRel st (putT l) := by
  induction k with
  | zero =>
    intro l hl st h
    obtain rfl := List.eq_nil_of_length_eq_zero hl
    rw [show putP [] = some [] from rfl] at h
    cases h
    exact True.intro
  | succ k ih =>
    intro l hk st h
    rcases l.eq_nil_or_concat with rfl | ⟨a, n, rfl⟩
    · simp at hk
    rw [List.concat_eq_append] at *
    have e : putP (a ++ [n]) = (putP a).bind fun s => stepP s n := by unfold putP; rw [List.foldl_append]; rfl
    have e2 : putT (a ++ [n]) = stepT (putT a) n := by unfold putT; rw [List.foldl_append]; rfl
    rw [e] at h
    rw [e2]
    cases ha : putP a with
    | none => rw [ha] at h; cases h
    | some s =>
      rw [ha] at h
      exact step_told h (ih a (by simpa using hk) s ha)
/-- a formula's text: its brackets -/
theorem form_scan {l : List NL} {d : Int} (h : depthP l = some d) : scanL (some (0, 0, false)) (formT l) = some (0, d, false) ∧ 0 ≤ d := by
  unfold depthP at h
  split at h
  · cases h
  split at h
  · rename_i p hp
    split at h
    · cases h
    cases h
    have hr := put_told _ l rfl _ hp
    unfold formT
    match hT : putT l, hr with
    | [x], hr =>
      have h1 := hr.1.bal
      have h2 := hr.1.pos
      refine ⟨?_, h2⟩
      have := (Bal.one (b := 61) (quiet_of (by decide))).app h1 0 0 (by omega) (by omega)
      rw [show max 0 (0 + max 0 p.depth) = p.depth by omega] at this
      exact this
  · cases h
end Go.Proofs.YtfbkoieodflcpaaDoor
