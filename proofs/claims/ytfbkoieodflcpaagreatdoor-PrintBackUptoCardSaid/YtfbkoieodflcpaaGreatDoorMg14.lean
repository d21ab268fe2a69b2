/-
  print: how brackets stand in a formula's text, plain; print: what a step makes of the row of texts, plain; print: formulas as trees, plain.
-/
import Derived.Test.YtfbkoieodflcpaaGreatDoorMg3
import Derived.Test.YtfbkoieodflcpaaGreatDoorRows
import Derived.Test.YtfbkoieodflcpaaGreatDoorMg0
import Derived.Test.YtfbkoieodflcpaaGreatDoorProg
import Derived.Test.YtfbkoieodflcpaaGreatDoorShelf
import Derived.Test.YtfbkoieodflcpaaGreatDoorMg4
import Derived.Test.YtfbkoieodflcpaaGreatDoorAddrC
import Derived.Test.YtfbkoieodflcpaaGreatDoorMg6
import Derived.Test.YtfbkoieodflcpaaGreatDoorValA
import Derived.Test.YtfbkoieodflcpaaGreatDoorValB
import Derived.Test.YtfbkoieodflcpaaGreatDoorMg9
import Derived.Test.YtfbkoieodflcpaaGreatDoorMg10
import Derived.Test.YtfbkoieodflcpaaGreatDoorMg11
import Derived.Test.YtfbkoieodflcpaaGreatDoorMg2
import Derived.Test.YtfbkoieodflcpaaGreatDoorMg12
import Derived.Test.YtfbkoieodflcpaaGreatDoorValL
import Derived.WalkSpells
import Derived.WalkLawsBesides
import Derived.StillTactics
import Derived.Laws.Pointers
import Derived.Deep.RegionHeld3
import Derived.Deep.QuietTactic
import Derived.BigQuiet
import Derived.RowKit3
import Derived.Lib.Hide
import Derived.Lib.OthersKept
import Derived.OwnWalk
import Derived.Lib.IndexLaws
import Derived.Lib.ItoaMem
import Derived.Lib.TrimByte
import Derived.Lib.SlTrimSet
import Derived.Lib.ParseIntB
import Derived.WalkKit
import Derived.ProofKit
import Derived.OpenShut
import Derived.Carry
import Derived.ChangeSame
import Derived.Deep.Draws
import Derived.Shelf.Strings.Builder1
import Derived.Shelf.Strings.Builder2
import Derived.Shelf.Strings.Trim
import Derived.Shelf.Small.Utf8
import Derived.Shelf.Small.Strs
import Derived.Shelf.Small.Wraps
import Derived.Shelf.Strings.BuilderF
import Derived.Shelf.Strings.BuilderK
import Derived.Shelf.Utf8.RuneCount
import Derived.Shelf.Strconv.Itoa0
import Derived.Shelf.Strconv.Itoa1
import Derived.Shelf.LaysM
import Derived.Shelf.Strconv.Itoa2
import Derived.Shelf.Strconv.Itoa3
import Derived.Ground.MpProg
import Derived.Shelf.Pu.ParseUintPublic10
import Derived.Shelf.Strings.Search1
import Derived.Shelf.Strings.Search2
import Derived.Shelf.Strings.Search3
import Derived.Shelf.Strings.Cut
import Derived.Shelf.Strings.Count
import Derived.Shelf.Strings.Shaped
import Derived.Shelf.Strings.Prefix
import Derived.Shelf.Strings.Split
import Derived.Shelf.Strings.Replace
import Derived.Shelf.Strings.SplitShaped
import Derived.Shelf.Unicode.Decode
import Derived.Shelf.Strings.Runes
import Derived.Shelf.Strings.RuneCount
import Derived.Shelf.Strings.AsciiSet
import Derived.Shelf.Unicode.DecodeSlow
import Derived.Shelf.Unicode.DecodeAny
import Derived.Shelf.Unicode.DecodeLast
import Derived.Lib.ItoaNum
import Derived.Maps.OwnSet
import Derived.Maps.AppendAt
import Derived.Lib.Bytealg
import Derived.Lib.Replace
namespace Go.Proofs.YtfbkoieodflcpaaGreatDoor
open Go.RowKit

/-- what a scan of a text holds: how many are open, the most that were, in quotes -/
def scanB (st : Option (Int × Int × Bool)) (b : UInt8) : Option (Int × Int × Bool) :=
  st.bind fun x =>
    if b = 34 then some (x.1, x.2.1, !x.2.2)
    else if x.2.2 = true then some x
    else if b = 32 then none
    else if b = 40 then some (x.1 + 1, max x.2.1 (x.1 + 1), false)
    else if b = 41 then (if x.1 - 1 < 0 then none else some (x.1 - 1, x.2.1, false))
    else some x
def scanL (st : Option (Int × Int × Bool)) (l : List UInt8) : Option (Int × Int × Bool) := l.foldl scanB st
theorem scan_app (st : Option (Int × Int × Bool)) (a b : List UInt8) : scanL st (a ++ b) = scanL (scanL st a) b := List.foldl_append
/-- a text whose brackets are closed as often as opened, with d open at most -/
def Bal (l : List UInt8) (d : Int) : Prop := ∀ o m : Int, 0 ≤ o → o ≤ m → scanL (some (o, m, false)) l = some (o, max m (o + d), false)
theorem Bal.nil : Bal [] 0 := fun o m _ h => by
  rw [show max m (o + 0) = m by omega]; rfl
theorem Bal.app {a b : List UInt8} {x y : Int} (ha : Bal a x) (hb : Bal b y) : Bal (a ++ b) (max x y) := fun o m h0 h => by
  rw [scan_app, ha o m h0 h, hb o _ h0 (by omega), show max (max m (o + x)) (o + y) = max m (o + max x y) by omega]
def quietB (b : UInt8) : Prop := b ≠ 34 ∧ b ≠ 32 ∧ b ≠ 40 ∧ b ≠ 41
theorem Bal.one {b : UInt8} (h : quietB b) : Bal [b] 0 := fun o m _ hm => by
  obtain ⟨h1, h2, h3, h4⟩ := h
  show scanB (some (o, m, false)) b = _
  unfold scanB
  rw [show max m (o + 0) = m by omega]
  simp [h1, h2, h3, h4]
theorem Bal.all : ∀ {l : List UInt8}, (∀ b ∈ l, quietB b) → Bal l 0
  | [], _ => Bal.nil
  | b :: l, h => by
    have := (Bal.one (h b (by simp))).app (Bal.all (l := l) fun c hc => h c (by simp [hc]))
    exact this
theorem Bal.cast {l : List UInt8} {x y : Int} (h : Bal l x) (e : x = y) : Bal l y := e ▸ h
theorem Bal.brack {a : List UInt8} {d : Int} (h : Bal a d) (hd : 0 ≤ d) : Bal (40 :: (a ++ [41])) (d + 1) := fun o m h0 hm => by
  show scanL (scanB (some (o, m, false)) 40) (a ++ [41]) = _
  have e : scanB (some (o, m, false)) 40 = some (o + 1, max m (o + 1), false) := by unfold scanB; simp
  rw [e, scan_app, h (o + 1) _ (by omega) (by omega)]
  show scanB (some (o + 1, max (max m (o + 1)) (o + 1 + d), false)) 41 = _
  unfold scanB
  have h1 : ¬ (o + 1 - 1 < 0) := by omega
  simp only [Option.bind_some, if_neg h1]
  rw [show max (max m (o + 1)) (o + 1 + d) = max m (o + (d + 1)) by omega, show o + 1 - 1 = o by omega]
  rfl
theorem scan_quotes (o m : Int) : ∀ l : List UInt8, scanL (some (o, m, true)) (quotesL l) = some (o, m, true)
  | [] => rfl
  | b :: l => by
    have ih := scan_quotes o m l
    rw [show quotesL (b :: l) = (if b = 34 then [34, 34] else [b]) ++ quotesL l from by unfold quotesL; rw [List.flatMap_cons], scan_app]
    by_cases hb : b = 34
    · rw [if_pos hb, show scanL (some (o, m, true)) [34, 34] = some (o, m, true) from rfl, ih]
    · rw [if_neg hb, show scanL (some (o, m, true)) [b] = some (o, m, true) from by show scanB (some (o, m, true)) b = some (o, m, true); unfold scanB; simp [hb], ih]
theorem Bal.quote (l : List UInt8) : Bal (34 :: (quotesL l ++ [34])) 0 := fun o m _ hm => by
  show scanL (scanB (some (o, m, false)) 34) (quotesL l ++ [34]) = _
  rw [show scanB (some (o, m, false)) 34 = some (o, m, true) from rfl, scan_app, scan_quotes, show max m (o + 0) = m by omega]
  rfl
-- what the leaves are
theorem quiet_of {b : UInt8} (h : 42 ≤ b.toNat ∨ b.toNat = 35 ∨ b.toNat = 33 ∨ b.toNat = 37 ∨ b.toNat = 38) : quietB b := by
  refine ⟨?_, ?_, ?_, ?_⟩ <;> (rintro rfl; revert h; decide)
theorem digits_nat (n : Nat) (b : UInt8) (hb : b ∈ Lib.decDigits n) : 48 ≤ b.toNat ∧ b.toNat ≤ 57 := by
  by_cases h : n < 10
  · rw [Lib.decDigits_one h] at hb
    rcases List.mem_singleton.1 hb with rfl
    rw [UInt8.toNat_ofNat_of_lt' (by show _ < 256; omega)]; omega
  · rw [decSnoc (by omega)] at hb
    rcases List.mem_append.1 hb with hb | hb
    · exact digits_nat (n / 10) b hb
    · rcases List.mem_singleton.1 hb with rfl
      rw [UInt8.toNat_ofNat_of_lt' (by show _ < 256; omega)]; omega
termination_by n
decreasing_by omega
theorem dig_quiet (n : Nat) : ∀ b ∈ Lib.decDigits n, quietB b := fun b hb => by
  have := digits_nat n b hb
  exact quiet_of (Or.inl (by omega))
theorem four_quiet {n : Nat} (h : n < 10000) : ∀ b ∈ four n, quietB b := fun b hb => by
  have e := dec_five h
  exact dig_quiet (10000 + n) b (by rw [e]; exact List.mem_cons_of_mem _ hb)
theorem frac_quiet {n : Nat} (h : n < 10000) : ∀ b ∈ frac n, quietB b := fun b hb => by
  unfold frac Lib.trimRightB at hb
  rw [List.mem_reverse] at hb
  exact four_quiet h b (List.mem_reverse.1 ((List.dropWhile_sublist _).mem hb))
theorem printL_quiet {x : Int} (h : 0 ≤ x) : ∀ b ∈ printL x, quietB b := fun b hb => by
  unfold printL at hb
  rw [if_neg (by omega), show decide (x < 0) = false by simp; omega] at hb
  unfold textOf at hb
  simp only [Bool.false_eq_true, if_false, List.nil_append, List.mem_append] at hb
  rcases hb with hb | hb
  · exact dig_quiet _ b hb
  · split at hb
    · simp at hb
    · rcases List.mem_cons.1 hb with rfl | hb
      · exact quiet_of (Or.inl (by decide))
      · exact frac_quiet (Nat.mod_lt _ (by decide)) b hb
theorem ofNat_quiet {n : Nat} (h1 : 42 ≤ n) (h2 : n < 256) : quietB (UInt8.ofNat n) := quiet_of (Or.inl (by rw [UInt8.toNat_ofNat_of_lt' h2]; exact h1))
theorem col_quiet {c : Nat} (h : c ≤ 256) : ∀ b ∈ colL c, quietB b := fun b hb => by
  unfold colL at hb
  split at hb
  · rcases List.mem_singleton.1 hb with rfl
    exact ofNat_quiet (by omega) (by omega)
  · rcases List.mem_cons.1 hb with rfl | hb
    · exact ofNat_quiet (by omega) (by omega)
    · rcases List.mem_singleton.1 hb with rfl
      exact ofNat_quiet (by omega) (by omega)
theorem nameZ_quiet (r c : Int) : ∀ b ∈ nameZ r c, quietB b := fun b hb => by
  unfold nameZ at hb
  cases h : mayB r c
  · rw [h] at hb; simp at hb
  · rw [h, if_pos rfl] at hb
    obtain ⟨r', c', rfl, rfl, hm⟩ := mayB_ints h
    obtain ⟨m1, m2, m3, m4⟩ := mayN_of hm
    rcases List.mem_append.1 hb with hb | hb
    · exact col_quiet (by omega) b hb
    · exact dig_quiet _ b hb
theorem rect_quiet (t l b r : Int) : ∀ x ∈ nameRectZ t l b r, quietB x := fun x hx => by
  unfold nameRectZ at hx
  split at hx
  · rcases List.mem_append.1 hx with hx | hx
    · exact nameZ_quiet _ _ x hx
    · rcases List.mem_cons.1 hx with rfl | hx
      · exact quiet_of (Or.inl (by decide))
      · exact nameZ_quiet _ _ x hx
  · simp at hx
theorem part_quiet {b : UInt8} (h : partB b = true) : quietB b := by
  refine quiet_of (Or.inl ?_)
  unfold partB upB isDig at h
  simp only [Bool.or_eq_true, Bool.and_eq_true, decide_eq_true_eq] at h
  omega
theorem code_quiet {c : Int} (h1 : 1 ≤ c) (h2 : c ≤ 8) : ∀ b ∈ (codeName c).data.toList, quietB b := by
  have h3 : c = 1 ∨ c = 2 ∨ c = 3 ∨ c = 4 ∨ c = 5 ∨ c = 6 ∨ c = 7 ∨ c = 8 := by omega
  have key : ∀ b : UInt8, (42 ≤ b.toNat ∨ b.toNat = 35 ∨ b.toNat = 33 ∨ b.toNat = 37 ∨ b.toNat = 38) → quietB b := fun _ h => quiet_of h
  rcases h3 with rfl | rfl | rfl | rfl | rfl | rfl | rfl | rfl <;> exact fun b hb => key b ((by decide : ∀ b ∈ (codeName _).data.toList, 42 ≤ b.toNat ∨ b.toNat = 35 ∨ b.toNat = 33 ∨ b.toNat = 37 ∨ b.toNat = 38) b hb)
theorem sign_quiet (op : Int) : ∀ b ∈ opT op, quietB b := fun b hb => by
  have h1 : opT op ∈ ([[45], [37], [42], [47], [43], [38], [61], [60, 62], [60], [60, 61], [62], [62, 61]] : List (List UInt8)) := by
    unfold opT
    by_cases h1 : op = 1
    · rw [if_pos h1]; decide
    rw [if_neg h1]
    by_cases h2 : op = 2
    · rw [if_pos h2]; decide
    rw [if_neg h2]
    by_cases h3 : op = 3
    · rw [if_pos h3]; decide
    rw [if_neg h3]
    by_cases h4 : op = 4
    · rw [if_pos h4]; decide
    rw [if_neg h4]
    by_cases h5 : op = 5
    · rw [if_pos h5]; decide
    rw [if_neg h5]
    by_cases h6 : op = 6
    · rw [if_pos h6]; decide
    rw [if_neg h6]
    by_cases h7 : op = 7
    · rw [if_pos h7]; decide
    rw [if_neg h7]
    by_cases h8 : op = 8
    · rw [if_pos h8]; decide
    rw [if_neg h8]
    by_cases h9 : op = 9
    · rw [if_pos h9]; decide
    rw [if_neg h9]
    by_cases h10 : op = 10
    · rw [if_pos h10]; decide
    rw [if_neg h10]
    by_cases h11 : op = 11
    · rw [if_pos h11]; decide
    rw [if_neg h11]
    by_cases h12 : op = 12
    · rw [if_pos h12]; decide
    rw [if_neg h12]
    decide
  have h2 : ∀ l ∈ ([[45], [37], [42], [47], [43], [38], [61], [60, 62], [60], [60, 61], [62], [62, 61]] : List (List UInt8)), ∀ b ∈ l, 42 ≤ b.toNat ∨ b.toNat = 35 ∨ b.toNat = 33 ∨ b.toNat = 37 ∨ b.toNat = 38 := by decide
  exact quiet_of (h2 _ h1 b hb)
/-- a part's text stands for it -/
structure Told (p : PL) (x : TL) : Prop where
  bal : Bal x.text p.depth
  pos : 0 ≤ p.depth
  binds : x.binds = p.binds
def TRel : List PL → List TL → Prop
  | [], [] => True
  | p :: s, x :: t => Told p x ∧ TRel s t
  | _, _ => False
theorem TRel.app : ∀ {a b : List PL} {x y : List TL}, TRel a x → TRel b y → TRel (a ++ b) (x ++ y)
  | [], _, [], _, _, h => h
  | _ :: _, _, _ :: _, _, h, h2 => ⟨h.1, TRel.app h.2 h2⟩
theorem TRel.split : ∀ {a b : List PL} {z : List TL}, TRel (a ++ b) z → ∃ x y, z = x ++ y ∧ TRel a x ∧ TRel b y
  | [], _, z, h => ⟨[], z, rfl, trivial, h⟩
  | p :: a, b, q :: z, h => by
    obtain ⟨x, y, rfl, h1, h2⟩ := TRel.split (a := a) h.2
    exact ⟨q :: x, y, rfl, ⟨h.1, h1⟩, h2⟩
theorem TRel.len : ∀ {a : List PL} {x : List TL}, TRel a x → x.length = a.length
  | [], [], _ => rfl
  | _ :: a, _ :: x, h => by rw [List.length_cons, List.length_cons, TRel.len h.2]
theorem TRel.one {p : PL} {x : TL} (h : Told p x) : TRel [p] [x] := ⟨h, trivial⟩
theorem TRel.last {s : List PL} {b : PL} {z : List TL} (h : TRel (s ++ [b]) z) : ∃ x y, z = x ++ [y] ∧ TRel s x ∧ Told b y := by
  obtain ⟨x, y, rfl, h1, h2⟩ := h.split
  match y, h2 with
  | [y], h2 => exact ⟨x, y, rfl, h1, h2.1⟩
theorem TRel.last2 {s : List PL} {a b : PL} {z : List TL} (h : TRel (s ++ [a, b]) z) : ∃ x u v, z = x ++ [u, v] ∧ TRel s x ∧ Told a u ∧ Told b v := by
  obtain ⟨x, y, rfl, h1, h2⟩ := h.split
  match y, h2 with
  | [u, v], h2 => exact ⟨x, u, v, rfl, h1, h2.1, h2.2.1⟩
theorem Told.at {p : PL} {x : TL} (h : Told p x) (k : Int) : Bal (x.at' k) (p.inside k) ∧ 0 ≤ p.inside k := by
  have := h.pos
  unfold TL.at' PL.inside
  rw [h.binds]
  split
  · exact ⟨h.bal.brack h.pos, by omega⟩
  · exact ⟨h.bal, h.pos⟩
theorem TRel.join : ∀ (k : Nat) {t : List PL} {T : List TL}, t.length = k → TRel t T → Bal (joinT T) (deepL t) ∧ 0 ≤ deepL t
  | 0, [], [], _, _ => ⟨Bal.nil, Int.le_refl _⟩
  | k + 1, t, T, hk, h => by
    rcases t.eq_nil_or_concat with rfl | ⟨s, p, rfl⟩
    · simp at hk
    rw [List.concat_eq_append] at *
    obtain ⟨S, x, rfl, h1, h2⟩ := h.last
    obtain ⟨ih, i0⟩ := TRel.join k (by simpa using hk) h1
    have hp := h2.pos
    rw [deep_snoc]
    refine ⟨?_, by omega⟩
    by_cases hS : S = []
    · subst hS
      have hs : s = [] := by have := h1.len; simpa using this.symm
      subst hs
      show Bal (x.text ++ []) _
      rw [List.append_nil]
      exact h2.bal.cast (by show p.depth = max 0 p.depth; omega)
    · rw [join_snoc S x hS]
      exact (ih.app ((Bal.one (b := 44) (quiet_of (by decide))).app h2.bal)).cast (by omega)
theorem may_value {n : NL} (h : n.may = true) (hk : n.kind = 1) : n.v.may = true ∧ n.v.t ≠ 0 ∧ 0 ≤ n.v.n := by
  unfold NL.may at h
  rw [if_pos hk] at h
  simp only [Bool.and_eq_true, decide_eq_true_eq] at h
  exact ⟨h.1.1.1.1.1.1.1, h.1.1.1.1.1.1.2, h.1.1.1.1.1.2⟩
theorem lit_bal {v : VL} (h : v.may = true) (h0 : v.t ≠ 0) (hn : 0 ≤ v.n) : Bal (litT v) 0 := by
  unfold litT
  rcases vmay_cases v h h0 with ⟨e, _⟩ | ⟨e, _⟩ | ⟨e, _⟩ | ⟨e, _, _, _, e5, e6⟩
  · rw [if_pos e]; exact Bal.all (printL_quiet hn)
  · rw [if_neg (by omega), if_pos e]; exact Bal.quote _
  · rw [if_neg (by omega), if_neg (by omega), if_pos e]
    split
    · exact Bal.all (fun b hb => quiet_of (Or.inl ((by decide : ∀ b ∈ ([84, 82, 85, 69] : List UInt8), 42 ≤ b.toNat) b hb)))
    · exact Bal.all (fun b hb => quiet_of (Or.inl ((by decide : ∀ b ∈ ([70, 65, 76, 83, 69] : List UInt8), 42 ≤ b.toNat) b hb)))
  · rw [if_neg (by omega), if_neg (by omega), if_neg (by omega)]; exact Bal.all (code_quiet e5 e6)
theorem step_told {st st' : List PL} {T : List TL} {n : NL} (h : stepP st n = some st') (hr : TRel st T) : TRel st' (stepT T n) := by
  cases hm : n.may
  · rw [step_bad hm] at h; cases h
  by_cases h3 : n.kind = 3
  · rw [step_rect hm h3] at h; cases h
    unfold stepT
    rw [if_neg (by omega), if_neg (by omega), if_pos h3]
    exact hr.app (TRel.one ⟨Bal.all (rect_quiet _ _ _ _), Int.le_refl _, rfl⟩)
  by_cases h4 : n.kind = 4
  · by_cases ho : n.op = 1 ∨ n.op = 2
    · rcases st.eq_nil_or_concat with rfl | ⟨s, b, rfl⟩
      · rw [step_one_no hm h4] at h; cases h
      rw [List.concat_eq_append] at *
      rw [step_one hm h4 ho] at h
      split at h
      · cases h
      cases h
      obtain ⟨S, x, rfl, h1, h2⟩ := hr.last
      obtain ⟨hb, h0⟩ := h2.at (levelI n.op)
      have hq : Bal (opT n.op) 0 := Bal.all (sign_quiet _)
      by_cases ho1 : n.op = 1
      · rw [stepT_neg h4 ho1]
        exact h1.app (TRel.one ⟨(hq.app hb).cast (by show max 0 (b.inside (levelI n.op)) = b.inside (levelI n.op); omega), h0, rfl⟩)
      · rw [stepT_pct h4 (by omega)]
        exact h1.app (TRel.one ⟨(hb.app hq).cast (by show max (b.inside (levelI n.op)) 0 = b.inside (levelI n.op); omega), h0, rfl⟩)
    · rcases two_last st with rfl | ⟨a, rfl⟩ | ⟨s, a, b, rfl⟩
      · rw [step_two_no0 hm h4 ho] at h; cases h
      · rw [step_two_no hm h4 ho] at h; cases h
      rw [step_two hm h4 ho] at h
      split at h
      · cases h
      cases h
      obtain ⟨S, x, y, rfl, h1, h2, h3⟩ := hr.last2
      obtain ⟨ha, a0⟩ := h2.at (levelI n.op)
      obtain ⟨hb, b0⟩ := h3.at (levelI n.op + 1)
      have hq : Bal (opT n.op) 0 := Bal.all (sign_quiet _)
      rw [stepT_two h4 (by omega) (by omega)]
      exact h1.app (TRel.one ⟨((ha.app hq).app hb).cast (by show max (max (a.inside (levelI n.op)) 0) (b.inside (levelI n.op + 1)) = max (a.inside (levelI n.op)) (b.inside (levelI n.op + 1)); omega), by show 0 ≤ max (a.inside (levelI n.op)) (b.inside (levelI n.op + 1)); omega, rfl⟩)
  by_cases h5 : n.kind = 5
  · obtain ⟨a0, a1, a2⟩ := args_of hm h5
    by_cases hl : st.length < n.args.toNat
    · rw [step_call_no hm h5 hl] at h; cases h
    obtain ⟨s, t, rfl, ht⟩ : ∃ s t, st = s ++ t ∧ t.length = n.args.toNat := ⟨st.take (st.length - n.args.toNat), st.drop (st.length - n.args.toNat), (List.take_append_drop _ _).symm, by rw [List.length_drop]; omega⟩
    rw [step_call hm h5 ht] at h; cases h
    obtain ⟨S, U, rfl, h1, h2⟩ := hr.split
    rw [stepT_call h5 (by rw [h2.len]; exact ht)]
    obtain ⟨hj, j0⟩ := h2.join t.length rfl
    have hn : Bal n.name.data.toList 0 := Bal.all fun b hb => part_quiet (by
      unfold namedB at a2
      simp only [Bool.and_eq_true, List.all_eq_true] at a2
      exact a2.1.2 b hb)
    exact h1.app (TRel.one ⟨(hn.app (hj.brack j0)).cast (by show max 0 (deepL t + 1) = deepL t + 1; omega), by show 0 ≤ deepL t + 1; omega, rfl⟩)
  rw [step_leaf hm h3 h4 h5] at h; cases h
  by_cases h1 : n.kind = 1
  · obtain ⟨e1, e2, e3⟩ := may_value hm h1
    unfold stepT
    rw [if_pos h1]
    exact hr.app (TRel.one ⟨lit_bal e1 e2 e3, Int.le_refl _, rfl⟩)
  by_cases h2 : n.kind = 2
  · unfold stepT
    rw [if_neg h1, if_pos h2]
    exact hr.app (TRel.one ⟨Bal.all (nameZ_quiet _ _), Int.le_refl _, rfl⟩)
  · exfalso
    unfold NL.may at hm
    rw [if_neg h1, if_neg h2, if_neg h3, if_neg h4, if_neg h5] at hm
    cases hm
theorem put_told (k : Nat) : ∀ (l : List NL), l.length = k → ∀ st, putP l = some st → TRel st (putT l) := by
  induction k with
  | zero =>
    intro l hl st h
    obtain rfl := List.eq_nil_of_length_eq_zero hl
    rw [show putP [] = some [] from rfl] at h
    cases h
    exact True.intro
  | succ k ih =>
    intro l hk st h
    rcases l.eq_nil_or_concat with rfl | ⟨a, n, rfl⟩
    · simp at hk
    rw [List.concat_eq_append] at *
    have e : putP (a ++ [n]) = (putP a).bind fun s => stepP s n := by unfold putP; rw [List.foldl_append]; rfl
    have e2 : putT (a ++ [n]) = stepT (putT a) n := by unfold putT; rw [List.foldl_append]; rfl
    rw [e] at h
    rw [e2]
    cases ha : putP a with
    | none => rw [ha] at h; cases h
    | some s =>
      rw [ha] at h
      exact step_told h (ih a (by simpa using hk) s ha)
end Go.Proofs.YtfbkoieodflcpaaGreatDoor
namespace Go.Proofs.YtfbkoieodflcpaaGreatDoor
open Go.RowKit

theorem need_one {st st' : List PL} {T : List TL} {n : NL} (h : stepP st n = some st') (hr : TRel st T) (hm : n.may = true) (hk : n.kind = 4) : ∃ S x, T = S ++ [x] := by
  rcases T.eq_nil_or_concat with rfl | ⟨S, x, rfl⟩
  · obtain rfl : st = [] := List.eq_nil_of_length_eq_zero hr.len.symm
    by_cases ho : n.op = 1 ∨ n.op = 2
    · rw [step_one_no hm hk] at h; cases h
    · rw [step_two_no0 hm hk ho] at h; cases h
  · exact ⟨S, x, List.concat_eq_append⟩
theorem need_two {st st' : List PL} {T : List TL} {n : NL} (h : stepP st n = some st') (hr : TRel st T) (hm : n.may = true) (hk : n.kind = 4) (ho : ¬ (n.op = 1 ∨ n.op = 2)) : ∃ S x y, T = S ++ [x, y] := by
  rcases two_last st with rfl | ⟨a, rfl⟩ | ⟨s, a, b, rfl⟩
  · rw [step_two_no0 hm hk ho] at h; cases h
  · rw [step_two_no hm hk ho] at h; cases h
  · obtain ⟨S, x, y, rfl, _⟩ := hr.last2
    exact ⟨S, x, y, rfl⟩
theorem need_call {st st' : List PL} {T : List TL} {n : NL} (h : stepP st n = some st') (hr : TRel st T) (hm : n.may = true) (hk : n.kind = 5) : ∃ S U, T = S ++ U ∧ U.length = n.args.toNat := by
  by_cases hl : st.length < n.args.toNat
  · rw [step_call_no hm hk hl] at h; cases h
  · have := hr.len
    exact ⟨T.take (T.length - n.args.toNat), T.drop (T.length - n.args.toNat), (List.take_append_drop _ _).symm, by rw [List.length_drop]; omega⟩
theorem kind_of {n : NL} (h : n.may = true) : n.kind = 1 ∨ n.kind = 2 ∨ n.kind = 3 ∨ n.kind = 4 ∨ n.kind = 5 := by
  by_cases h1 : n.kind = 1
  · exact Or.inl h1
  by_cases h2 : n.kind = 2
  · exact Or.inr (Or.inl h2)
  by_cases h3 : n.kind = 3
  · exact Or.inr (Or.inr (Or.inl h3))
  by_cases h4 : n.kind = 4
  · exact Or.inr (Or.inr (Or.inr (Or.inl h4)))
  by_cases h5 : n.kind = 5
  · exact Or.inr (Or.inr (Or.inr (Or.inr h5)))
  exfalso
  unfold NL.may at h
  rw [if_neg h1, if_neg h2, if_neg h3, if_neg h4, if_neg h5] at h
  cases h
theorem stepT_lit {S : List TL} {n : NL} (hk : n.kind = 1) : stepT S n = S ++ [⟨litT n.v, 7⟩] := by unfold stepT; rw [if_pos hk]
theorem stepT_cell {S : List TL} {n : NL} (hk : n.kind = 2) : stepT S n = S ++ [⟨nameZ n.r n.c, 7⟩] := by unfold stepT; rw [if_neg (by omega), if_pos hk]
theorem stepT_rect {S : List TL} {n : NL} (hk : n.kind = 3) : stepT S n = S ++ [⟨nameRectZ n.t n.l n.b n.q, 7⟩] := by unfold stepT; rw [if_neg (by omega), if_neg (by omega), if_pos hk]
theorem printL_len {x : Int} (h : -9223372036854775808 ≤ x ∧ x ≤ 9223372036854775807) : (printL x).length ≤ 26 := by
  unfold printL
  split
  · simp
  · unfold textOf
    have h1 := dec_len20 (u := x.natAbs / 10000) (by omega)
    have h2 := frac_len (x.natAbs % 10000)
    have h3 : ((if decide (x < 0) = true then [45] else []) : List UInt8).length ≤ 1 := by split <;> simp
    have h4 : ((if x.natAbs % 10000 = 0 then [] else 46 :: frac (x.natAbs % 10000)) : List UInt8).length ≤ 5 := by split <;> simp; omega
    rw [List.length_append, List.length_append]
    omega
theorem code_len {c : Int} (h1 : 1 ≤ c) (h2 : c ≤ 8) : (codeName c).data.toList.length ≤ 16 := by
  have h3 : c = 1 ∨ c = 2 ∨ c = 3 ∨ c = 4 ∨ c = 5 ∨ c = 6 ∨ c = 7 ∨ c = 8 := by omega
  rcases h3 with rfl | rfl | rfl | rfl | rfl | rfl | rfl | rfl <;> decide
theorem lit_len {v : VL} (h : v.may = true) (h0 : v.t ≠ 0) (hok : v.ok) (hs : v.s.size ≤ 1048576) : (litT v).length ≤ 2097154 := by
  unfold litT
  rcases vmay_cases v h h0 with ⟨e, _⟩ | ⟨e, _⟩ | ⟨e, _⟩ | ⟨e, _, _, _, e5, e6⟩
  · rw [if_pos e]; have := printL_len hok; omega
  · rw [if_neg (by omega), if_pos e]
    have h1 := quotes_len v.s.data.toList
    have h2 : v.s.data.toList.length = v.s.size := by rw [Array.length_toList]; rfl
    simp only [List.length_cons, List.length_append, List.length_nil]
    omega
  · rw [if_neg (by omega), if_neg (by omega), if_pos e]
    split <;> decide
  · rw [if_neg (by omega), if_neg (by omega), if_neg (by omega)]; have := code_len e5 e6; omega
theorem rectZ_len (t l b r : Int) : (nameRectZ t l b r).length ≤ 13 := by
  unfold nameRectZ
  split
  · have h1 := nameZ_len t l
    have h2 := nameZ_len b r
    simp only [List.length_append, List.length_cons]; omega
  · simp
theorem two_eq (S : List TL) (a b : TL) : totT (S ++ [a, b]) = totT S + a.text.length + b.text.length := by
  rw [totT_app]; simp [totT]; omega
/-- what a step adds at most -/
theorem step_tot {st st' : List PL} {T : List TL} {n : NL} (h : stepP st n = some st') (hr : TRel st T) (hm : n.may = true) (hok : n.v.ok) (hs : n.v.s.size ≤ 1048576) : totT (stepT T n) ≤ totT T + 2097160 := by
  rcases kind_of hm with hk | hk | hk | hk | hk
  · obtain ⟨e1, e2, _⟩ := may_value hm hk
    rw [stepT_lit hk, totT_app, totT_one]
    have := lit_len e1 e2 hok hs
    show totT T + (litT n.v).length ≤ _
    omega
  · rw [stepT_cell hk, totT_app, totT_one]
    have := nameZ_len n.r n.c
    show totT T + (nameZ n.r n.c).length ≤ _
    omega
  · rw [stepT_rect hk, totT_app, totT_one]
    have := rectZ_len n.t n.l n.b n.q
    show totT T + (nameRectZ n.t n.l n.b n.q).length ≤ _
    omega
  · have hq := sign_len n.op
    by_cases ho : n.op = 1 ∨ n.op = 2
    · obtain ⟨S, x, rfl⟩ := need_one h hr hm hk
      have ha := at_len x (levelI n.op)
      by_cases ho1 : n.op = 1
      · rw [stepT_neg hk ho1, totT_app, totT_app, totT_one, totT_one]
        show totT S + (opT n.op ++ x.at' (levelI n.op)).length ≤ _
        rw [List.length_append]; omega
      · rw [stepT_pct hk (by omega), totT_app, totT_app, totT_one, totT_one]
        show totT S + (x.at' (levelI n.op) ++ opT n.op).length ≤ _
        rw [List.length_append]; omega
    · obtain ⟨S, x, y, rfl⟩ := need_two h hr hm hk ho
      have ha := at_len x (levelI n.op)
      have hb := at_len y (levelI n.op + 1)
      rw [stepT_two hk (by omega) (by omega), two_eq, totT_app, totT_one]
      show totT S + (x.at' (levelI n.op) ++ opT n.op ++ y.at' (levelI n.op + 1)).length ≤ _
      rw [List.length_append, List.length_append]; omega
  · obtain ⟨S, U, rfl, hU⟩ := need_call h hr hm hk
    obtain ⟨a0, a1, a2⟩ := args_of hm hk
    have hn : n.name.data.toList.length ≤ 16 := by
      unfold namedB at a2
      simp only [Bool.and_eq_true, decide_eq_true_eq] at a2
      exact a2.1.1.1.1.2
    have hj := join_len U
    rw [stepT_call hk hU, totT_app, totT_app, totT_one]
    show totT S + (n.name.data.toList ++ 40 :: (joinT U ++ [41])).length ≤ _
    rw [List.length_append, List.length_cons, List.length_append, List.length_singleton]; omega
/-- what a round of the print has to know -/
structure RoundT (ns : List NL) (j : Nat) (n : NL) (T : List TL) : Prop where
  may : n.may = true
  put : putT (ns.take (j + 1)) = stepT T n
  len : (stepT T n).length ≤ j + 1
  tot : totT (stepT T n) ≤ (j + 1) * 2097160
  one : n.kind = 4 → ∃ S x, T = S ++ [x]
  two : n.kind = 4 → ¬ (n.op = 1 ∨ n.op = 2) → ∃ S x y, T = S ++ [x, y]
  call : n.kind = 5 → ∃ S U, T = S ++ U ∧ U.length = n.args.toNat
theorem round_of {ns : List NL} {j : Nat} {n : NL} {T : List TL} (hp : putP ns ≠ none) (hn : ns[j]? = some n) (hok : n.v.ok) (hs : n.v.s.size ≤ 1048576) (hT : putT (ns.take j) = T) (hl : T.length ≤ j) (ht : totT T ≤ j * 2097160) : RoundT ns j n T := by
  obtain ⟨st, h1⟩ : ∃ st, putP (ns.take j) = some st := Option.ne_none_iff_exists'.1 fun e => hp (putP_no ns j e)
  obtain ⟨st', h2⟩ : ∃ st', putP (ns.take (j + 1)) = some st' := Option.ne_none_iff_exists'.1 fun e => hp (putP_no ns (j + 1) e)
  have h3 : stepP st n = some st' := by
    have := putP_take ns j n hn
    rw [h1, h2] at this
    exact this.symm
  have hr : TRel st T := by rw [← hT]; exact put_told _ _ rfl _ h1
  have hm : n.may = true := by
    cases hm : n.may
    · rw [step_bad hm] at h3; cases h3
    · rfl
  have hput : putT (ns.take (j + 1)) = stepT T n := by rw [putT_take ns j n hn, hT]
  have hl2 := (step_told h3 hr).len
  have hl3 := step_len h3
  have hl4 := hr.len
  have hl5 := step_tot h3 hr hm hok hs
  exact ⟨hm, hput, by omega, by omega, need_one h3 hr hm, need_two h3 hr hm, need_call h3 hr hm⟩
theorem check_yes {ns : List NL} (h : checkP ns = true) : 1 ≤ ns.length ∧ ns.length ≤ 1024 ∧ putP ns ≠ none ∧ ∃ x, putT ns = [x] := by
  unfold checkP at h
  cases hd : depthP ns with
  | none => rw [hd] at h; cases h
  | some d =>
    unfold depthP at hd
    split at hd
    · cases hd
    rename_i hl
    cases hp : putP ns with
    | none => rw [hp] at hd; cases hd
    | some st =>
      rw [hp] at hd
      refine ⟨by omega, by omega, by simp, ?_⟩
      have hr := put_told _ ns rfl _ hp
      rcases st with _ | ⟨p, _ | ⟨q, r⟩⟩
      · cases hd
      · match hT : putT ns, hr with
        | [x], _ => exact ⟨x, rfl⟩
      · cases hd
end Go.Proofs.YtfbkoieodflcpaaGreatDoor
namespace Go.Proofs.YtfbkoieodflcpaaGreatDoor
open Go.RowKit

/-- a formula's tree: what stands at a call's brackets is a chain of trees -/
inductive Tm where
  | leaf (n : NL)
  | un (n : NL) (a : Tm)
  | bin (n : NL) (a b : Tm)
  | call (n : NL) (c : Tm)
  | anil
  | acons (a r : Tm)
def leafT (n : NL) : List UInt8 := if n.kind = 1 then litT n.v else if n.kind = 2 then nameZ n.r n.c else nameRectZ n.t n.l n.b n.q
namespace Tm
def nodes : Tm → List NL
  | leaf n => [n]
  | un n a => a.nodes ++ [n]
  | bin n a b => a.nodes ++ b.nodes ++ [n]
  | call n c => c.nodes ++ [n]
  | anil => []
  | acons a r => a.nodes ++ r.nodes
def binds : Tm → Int
  | un n _ => levelI n.op
  | bin n _ _ => levelI n.op
  | _ => 7
def text : Tm → List UInt8
  | leaf n => leafT n
  | un n a => if n.op = 1 then opT n.op ++ TL.at' ⟨a.text, a.binds⟩ (levelI n.op) else TL.at' ⟨a.text, a.binds⟩ (levelI n.op) ++ opT n.op
  | bin n a b => TL.at' ⟨a.text, a.binds⟩ (levelI n.op) ++ opT n.op ++ TL.at' ⟨b.text, b.binds⟩ (levelI n.op + 1)
  | call n c => n.name.data.toList ++ 40 :: (c.text ++ [41])
  | anil => []
  | acons a anil => a.text
  | acons a r => a.text ++ 44 :: r.text
/-- a chain of trees -/
def chain : List Tm → Tm
  | [] => anil
  | t :: l => acons t (chain l)
def len : Tm → Nat
  | acons _ r => r.len + 1
  | _ => 0
/-- a tree that may be; a chain of such -/
def good : Bool → Tm → Prop
  | false, leaf n => n.may = true ∧ n.kind ≠ 4 ∧ n.kind ≠ 5
  | false, un n a => n.may = true ∧ n.kind = 4 ∧ (n.op = 1 ∨ n.op = 2) ∧ a.good false
  | false, bin n a b => n.may = true ∧ n.kind = 4 ∧ ¬ (n.op = 1 ∨ n.op = 2) ∧ a.good false ∧ b.good false
  | false, call n c => n.may = true ∧ n.kind = 5 ∧ n.args = (c.len : Int) ∧ c.good true
  | true, anil => True
  | true, acons a r => a.good false ∧ r.good true
  | false, anil => False
  | false, acons _ _ => False
  | true, leaf _ => False
  | true, un _ _ => False
  | true, bin _ _ _ => False
  | true, call _ _ => False
def tl (t : Tm) : TL := ⟨t.text, t.binds⟩
theorem text_acons (a r : Tm) (h : r ≠ anil) : (acons a r).text = a.text ++ 44 :: r.text := by
  cases r <;> first | (exact absurd rfl h) | rfl
theorem chain_text : ∀ l : List Tm, (chain l).text = joinT (l.map tl)
  | [] => rfl
  | [t] => by show t.text = _; simp [joinT, tl]
  | t :: u :: l => by
    have ih := chain_text (u :: l)
    rw [show chain (t :: u :: l) = acons t (chain (u :: l)) from rfl, text_acons _ _ (by simp [chain]), ih]
    simp [joinT, tl]
theorem chain_nodes : ∀ l : List Tm, (chain l).nodes = l.flatMap nodes
  | [] => rfl
  | t :: l => by
    show t.nodes ++ (chain l).nodes = _
    rw [chain_nodes l, List.flatMap_cons]
theorem chain_len : ∀ l : List Tm, (chain l).len = l.length
  | [] => rfl
  | t :: l => by show (chain l).len + 1 = _; rw [chain_len l]; rfl
theorem chain_good : ∀ l : List Tm, (∀ t ∈ l, t.good false) → (chain l).good true
  | [], _ => True.intro
  | t :: l, h => ⟨h t (by simp), chain_good l fun u hu => h u (by simp [hu])⟩
end Tm
theorem step_tree {st st' : List PL} {n : NL} {ts : List Tm} (h : stepP st n = some st') (hl : ts.length = st.length) (hg : ∀ t ∈ ts, t.good false) : ∃ us : List Tm, us.length = st'.length ∧ (∀ t ∈ us, t.good false) ∧ us.flatMap Tm.nodes = ts.flatMap Tm.nodes ++ [n] ∧ us.map Tm.tl = stepT (ts.map Tm.tl) n := by
  cases hm : n.may
  · rw [step_bad hm] at h; cases h
  have snoc : ∀ (a : List Tm) (x : Tm), (∀ t ∈ a, t.good false) → x.good false → ∀ t ∈ a ++ [x], t.good false := fun a x ha hx t ht => by
    rcases List.mem_append.1 ht with ht | ht
    · exact ha t ht
    · rw [List.mem_singleton.1 ht]; exact hx
  by_cases h4 : n.kind = 4
  · by_cases ho : n.op = 1 ∨ n.op = 2
    · rcases st.eq_nil_or_concat with rfl | ⟨s, b, rfl⟩
      · rw [step_one_no hm h4] at h; cases h
      rw [List.concat_eq_append] at *
      rw [step_one hm h4 ho] at h
      split at h
      · cases h
      cases h
      rcases ts.eq_nil_or_concat with rfl | ⟨t0, a, rfl⟩
      · simp at hl
      rw [List.concat_eq_append] at *
      refine ⟨t0 ++ [.un n a], by simpa using hl, snoc t0 (.un n a) (fun t ht => hg t (List.mem_append_left _ ht)) ⟨hm, h4, ho, hg a (by simp)⟩, by simp [Tm.nodes], ?_⟩
      rw [List.map_append, List.map_append]
      by_cases ho1 : n.op = 1
      · rw [show [a].map Tm.tl = [Tm.tl a] from rfl, stepT_neg h4 ho1]
        show _ ++ [Tm.tl (.un n a)] = _
        unfold Tm.tl
        rw [show (Tm.un n a).text = opT n.op ++ TL.at' ⟨a.text, a.binds⟩ (levelI n.op) by rw [Tm.text]; rw [if_pos ho1]]
        rfl
      · rw [show [a].map Tm.tl = [Tm.tl a] from rfl, stepT_pct h4 (by omega)]
        show _ ++ [Tm.tl (.un n a)] = _
        unfold Tm.tl
        rw [show (Tm.un n a).text = TL.at' ⟨a.text, a.binds⟩ (levelI n.op) ++ opT n.op by rw [Tm.text]; rw [if_neg ho1]]
        rfl
    · rcases two_last st with rfl | ⟨a, rfl⟩ | ⟨s, a, b, rfl⟩
      · rw [step_two_no0 hm h4 ho] at h; cases h
      · rw [step_two_no hm h4 ho] at h; cases h
      rw [step_two hm h4 ho] at h
      split at h
      · cases h
      cases h
      obtain ⟨t0, x, y, rfl⟩ : ∃ t0 x y, ts = t0 ++ [x, y] := by
        rcases ts.eq_nil_or_concat with rfl | ⟨t1, y, rfl⟩
        · simp at hl
        rcases t1.eq_nil_or_concat with rfl | ⟨t0, x, rfl⟩
        · simp at hl
        exact ⟨t0, x, y, by simp⟩
      refine ⟨t0 ++ [.bin n x y], by simpa using hl, snoc t0 (.bin n x y) (fun t ht => hg t (List.mem_append_left _ ht)) ⟨hm, h4, ho, hg x (by simp), hg y (by simp)⟩, by simp [Tm.nodes], ?_⟩
      rw [List.map_append, List.map_append, show [x, y].map Tm.tl = [Tm.tl x, Tm.tl y] from rfl, stepT_two h4 (by omega) (by omega)]
      rfl
  by_cases h5 : n.kind = 5
  · by_cases hk : st.length < n.args.toNat
    · rw [step_call_no hm h5 hk] at h; cases h
    obtain ⟨a0, a1, _⟩ := args_of hm h5
    obtain ⟨s, t, rfl, ht⟩ : ∃ s t, st = s ++ t ∧ t.length = n.args.toNat := ⟨st.take (st.length - n.args.toNat), st.drop (st.length - n.args.toNat), (List.take_append_drop _ _).symm, by rw [List.length_drop]; omega⟩
    rw [step_call hm h5 ht] at h; cases h
    obtain ⟨t0, us, rfl, hu⟩ : ∃ t0 us, ts = t0 ++ us ∧ us.length = n.args.toNat := ⟨ts.take s.length, ts.drop s.length, (List.take_append_drop _ _).symm, by rw [List.length_drop, hl, List.length_append]; omega⟩
    refine ⟨t0 ++ [.call n (Tm.chain us)], by simp at hl ⊢; omega, snoc t0 (.call n (Tm.chain us)) (fun t ht => hg t (List.mem_append_left _ ht)) ⟨hm, h5, by rw [Tm.chain_len]; omega, Tm.chain_good us fun t ht => hg t (List.mem_append_right _ ht)⟩, by simp [Tm.nodes, Tm.chain_nodes], ?_⟩
    rw [List.map_append, List.map_append, stepT_call h5 (by rw [List.length_map]; exact hu)]
    show _ ++ [Tm.tl (.call n (Tm.chain us))] = _
    unfold Tm.tl
    rw [Tm.text, Tm.chain_text]
    rfl
  have hs : st'.length = st.length + 1 := by
    by_cases h3 : n.kind = 3
    · rw [step_rect hm h3] at h; cases h; simp
    · rw [step_leaf hm h3 h4 h5] at h; cases h; simp
  refine ⟨ts ++ [.leaf n], by rw [List.length_append, hl, hs]; rfl, snoc ts (.leaf n) hg ⟨hm, h4, h5⟩, by simp [Tm.nodes], ?_⟩
  rw [List.map_append]
  show _ ++ [Tm.tl (.leaf n)] = _
  unfold Tm.tl
  rw [Tm.text, leafT]
  rcases kind_of hm with hk | hk | hk | hk | hk
  · rw [stepT_lit hk, if_pos hk]; rfl
  · rw [stepT_cell hk, if_neg (by omega), if_pos hk]; rfl
  · rw [stepT_rect hk, if_neg (by omega), if_neg (by omega)]; rfl
  · exact absurd hk h4
  · exact absurd hk h5
theorem put_tree (k : Nat) : ∀ (l : List NL), l.length = k → ∀ st, putP l = some st → ∃ ts : List Tm, ts.length = st.length ∧ (∀ t ∈ ts, t.good false) ∧ ts.flatMap Tm.nodes = l ∧ ts.map Tm.tl = putT l := by
  induction k with
  | zero =>
    intro l hl st h
    obtain rfl := List.eq_nil_of_length_eq_zero hl
    rw [show putP [] = some [] from rfl] at h
    cases h
    exact ⟨[], rfl, fun t ht => (by cases ht), rfl, rfl⟩
  | succ k ih =>
    intro l hk st h
    rcases l.eq_nil_or_concat with rfl | ⟨a, n, rfl⟩
    · simp at hk
    rw [List.concat_eq_append] at *
    have e : putP (a ++ [n]) = (putP a).bind fun s => stepP s n := by unfold putP; rw [List.foldl_append]; rfl
    have e2 : putT (a ++ [n]) = stepT (putT a) n := by unfold putT; rw [List.foldl_append]; rfl
    rw [e] at h
    rw [e2]
    cases ha : putP a with
    | none => rw [ha] at h; cases h
    | some s =>
      rw [ha] at h
      obtain ⟨ts, t1, t2, t3, t4⟩ := ih a (by simpa using hk) s ha
      obtain ⟨us, u1, u2, u3, u4⟩ := step_tree h t1 t2
      exact ⟨us, u1, u2, by rw [u3, t3], by rw [u4, t4]⟩
/-- a formula that may be is a tree -/
theorem form_tree {l : List NL} (h : checkP l = true) : ∃ t : Tm, t.good false ∧ t.nodes = l ∧ formT l = 61 :: t.text := by
  obtain ⟨_, _, h3, x, hx⟩ := check_yes h
  obtain ⟨st, hst⟩ := Option.ne_none_iff_exists'.1 h3
  obtain ⟨ts, t1, t2, t3, t4⟩ := put_tree _ l rfl st hst
  rw [hx] at t4
  match ts, t4 with
  | [t], t4 =>
    refine ⟨t, t2 t (by simp), by simpa using t3, ?_⟩
    have e : Tm.tl t = x := by simpa using t4
    unfold formT
    rw [hx, ← e]
    rfl
end Go.Proofs.YtfbkoieodflcpaaGreatDoor
