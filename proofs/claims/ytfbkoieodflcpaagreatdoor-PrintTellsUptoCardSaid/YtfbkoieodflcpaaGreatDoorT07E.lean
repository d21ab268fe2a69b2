/-
  orielref07: text in general.
-/
import Derived.Test.YtfbkoieodflcpaaGreatDoorMg3
import Derived.Test.YtfbkoieodflcpaaGreatDoorRows
import Derived.Test.YtfbkoieodflcpaaGreatDoorBase
import Derived.Test.YtfbkoieodflcpaaGreatDoorProg
import Derived.Test.YtfbkoieodflcpaaGreatDoorShelf
import Derived.Test.YtfbkoieodflcpaaGreatDoorAddrC
import Derived.Test.YtfbkoieodflcpaaGreatDoorMg5
import Derived.Test.YtfbkoieodflcpaaGreatDoorDecA
import Derived.Test.YtfbkoieodflcpaaGreatDoorValA
import Derived.Test.YtfbkoieodflcpaaGreatDoorValB
import Derived.Test.YtfbkoieodflcpaaGreatDoorMg9
import Derived.Test.YtfbkoieodflcpaaGreatDoorMapK
import Derived.Test.YtfbkoieodflcpaaGreatDoorRefP
import Derived.Test.YtfbkoieodflcpaaGreatDoorRefQ
import Derived.Test.YtfbkoieodflcpaaGreatDoorRefName
import Derived.Test.YtfbkoieodflcpaaGreatDoorShelfC
import Derived.Test.YtfbkoieodflcpaaGreatDoorMg2
import Derived.Test.YtfbkoieodflcpaaGreatDoorNameX
import Derived.Test.YtfbkoieodflcpaaGreatDoorNameY
import Derived.Test.YtfbkoieodflcpaaGreatDoorDPrint
import Derived.Test.YtfbkoieodflcpaaGreatDoorValK
import Derived.Test.YtfbkoieodflcpaaGreatDoorRPr
import Derived.Test.YtfbkoieodflcpaaGreatDoorValL
import Derived.Test.YtfbkoieodflcpaaGreatDoorPrP
import Derived.Test.YtfbkoieodflcpaaGreatDoorPrA
import Derived.Test.YtfbkoieodflcpaaGreatDoorT07
import Derived.Test.YtfbkoieodflcpaaGreatDoorRefN
import Derived.Test.YtfbkoieodflcpaaGreatDoorRefM
import Derived.Test.YtfbkoieodflcpaaGreatDoorRefY
import Derived.Test.YtfbkoieodflcpaaGreatDoorRefZ
import Derived.Test.YtfbkoieodflcpaaGreatDoorRLev
import Derived.Test.YtfbkoieodflcpaaGreatDoorT07B
import Derived.Test.YtfbkoieodflcpaaGreatDoorT07C
import Derived.Test.YtfbkoieodflcpaaGreatDoorT07D
import Derived.Test.YtfbkoieodflcpaaGreatDoorPrS
import Derived.Test.YtfbkoieodflcpaaGreatDoorPrT
import Derived.WalkSpells
import Derived.WalkLawsBesides
import Derived.StillTactics
import Derived.Laws.Pointers
import Derived.Deep.RegionHeld3
import Derived.Deep.QuietTactic
import Derived.BigQuiet
import Derived.RowKit3
import Derived.Lib.Hide
import Derived.Lib.OthersKept
import Derived.OwnWalk
import Derived.Lib.IndexLaws
import Derived.Lib.ItoaMem
import Derived.Lib.TrimByte
import Derived.Lib.SlTrimSet
import Derived.Lib.ParseIntB
import Derived.WalkKit
import Derived.ProofKit
import Derived.OpenShut
import Derived.Carry
import Derived.ChangeSame
import Derived.Deep.Draws
import Derived.Shelf.Strings.Builder1
import Derived.Shelf.Strings.Builder2
import Derived.Shelf.Strings.Trim
import Derived.Shelf.Small.Utf8
import Derived.Shelf.Small.Strs
import Derived.Shelf.Small.Wraps
import Derived.Shelf.Strings.BuilderF
import Derived.Shelf.Strings.BuilderK
import Derived.Shelf.Strconv.Itoa0
import Derived.Shelf.Strconv.Itoa1
import Derived.Shelf.LaysM
import Derived.Shelf.Strconv.Itoa2
import Derived.Shelf.Strconv.Itoa3
import Derived.Shelf.Strings.Search1
import Derived.Shelf.Strings.Search2
import Derived.Shelf.Strings.Search3
import Derived.Shelf.Strings.Cut
import Derived.Shelf.Strings.Count
import Derived.Shelf.Strings.Shaped
import Derived.Shelf.Strings.Prefix
import Derived.Shelf.Strings.Split
import Derived.Shelf.Strings.Replace
import Derived.Shelf.Strings.Runes
import Derived.Shelf.Strings.AsciiSet
import Derived.Shelf.Unicode.DecodeSlow
import Derived.Lib.ItoaNum
import Derived.Maps.OwnSet
import Derived.Maps.AppendAt
import Derived.Ground.MpProg
import Derived.Shelf.Pu.ParseUintPublic10
import Derived.Lib.Bytealg
import Derived.Lib.Replace
namespace Go.Proofs.YtfbkoieodflcpaaGreatDoor
open Go.RowKit

theorem put_tot7 (l : List NL) (hp : putP l ≠ none) (hok : ∀ n ∈ l, n.ok) (hs : ∀ n ∈ l, n.v.s.size ≤ 1048576) : ∀ j, j ≤ l.length → totT (putT (l.take j)) ≤ j * 2097160 ∧ (putT (l.take j)).length ≤ j := fun j => by
  induction j with
  | zero => exact fun _ => ⟨Nat.zero_le _, Nat.le_refl _⟩
  | succ j ih =>
    intro hj
    obtain ⟨h1, h2⟩ := ih (by omega)
    have hn : l[j]? = some (l[j]'(by omega)) := List.getElem?_eq_getElem _
    have hm := List.mem_of_getElem? hn
    have hr := round_of hp hn (hok _ hm).1 (hs _ hm) rfl h2 h1
    rw [hr.put]
    exact ⟨hr.tot, hr.len⟩
/-- what the first m nodes are: the last thing, how many nodes it has, what stands ahead of it -/
structure UsedAt (ns : List NL) (m : Nat) (s : List PL) (x : TL) (used : Nat) (S : List TL) : Prop where
  txt : putT (ns.take m) = S ++ [x]
  one : 1 ≤ used
  le : used ≤ m
  put : putP (ns.take (m - used)) = some s
  row : putT (ns.take (m - used)) = S
  at' : TextAt ns m x used
theorem put_zero (ns : List NL) : putP (ns.take 0) = some [] := rfl
theorem text_leaf (ns : List NL) (m : Nat) (hm : m ≤ 1024) (n : NL) (hn : ns[m]? = some n) (hmay : n.may = true) (hok : n.ok) (hs : n.v.s.size ≤ 1048576) (h4 : n.kind ≠ 4) (h5 : n.kind ≠ 5) (T : List TL) : ∃ x, stepT T n = T ++ [x] ∧ TextAt ns (m + 1) x 1 := by
  rcases kind_of hmay with hk | hk | hk | hk | hk
  · obtain ⟨e1, e2, e3⟩ := may_value hmay hk
    refine ⟨_, stepT_lit hk, ?_⟩
    rcases vmay_cases n.v e1 e2 with ⟨e, _⟩ | ⟨e, _⟩ | ⟨e, _⟩ | ⟨e, _⟩
    · exact text_num ns m hm n hn hk hok.1 e
    · exact text_txt ns m hm n hn hk hs e
    · exact text_show ns m hm n hn hk e1 (Or.inl e)
    · exact text_show ns m hm n hn hk e1 (Or.inr e)
  · exact ⟨_, stepT_cell hk, text_cell ns m hm n hn hk⟩
  · exact ⟨_, stepT_rect hk, text_rect ns m hm n hn hk⟩
  · exact absurd hk h4
  · exact absurd hk h5
theorem snoc_inj {α : Type} {a b : List α} {x y : α} (h : a ++ [x] = b ++ [y]) : a = b ∧ x = y := by
  have := List.append_inj' h rfl
  exact ⟨this.1, by simpa using this.2⟩
/-- the parts of a call, from behind -/
theorem text_chain (ns : List NL) (m0 : Nat) (s : List PL) (t : List PL) (S U : List TL) (hUt : U.length = t.length) (h0 : putP (ns.take m0) = some (s ++ t)) (h1 : putT (ns.take m0) = S ++ U)
    (ih : ∀ m, m ≤ m0 → 1 ≤ m → ∀ s p, putP (ns.take m) = some (s ++ [p]) → ∃ x used S, UsedAt ns m s x used S) :
    ∀ q, q ≤ U.length → ∃ us : Nat → Nat, us 0 = 1 ∧ (∀ i, i ≤ q → us i ≤ m0 + 1 ∧ 1 ≤ us i) ∧ (∀ i (hi : i < q) (hU : i < U.length), ∃ kq, us (i + 1) = us i + kq ∧ us i ≤ m0 ∧ TextAt ns (m0 + 1 - us i) (U[U.length - 1 - i]'(by omega)) kq) ∧
      putP (ns.take (m0 + 1 - us q)) = some (s ++ t.take (t.length - q)) ∧ putT (ns.take (m0 + 1 - us q)) = S ++ U.take (U.length - q) := fun q => by
  induction q with
  | zero =>
    intro _
    refine ⟨fun _ => 1, rfl, fun i _ => ⟨by show 1 ≤ m0 + 1; omega, Nat.le_refl _⟩, fun i hi => by omega, ?_, ?_⟩
    · show putP (ns.take (m0 + 1 - 1)) = _
      rw [Nat.add_sub_cancel, Nat.sub_zero, List.take_of_length_le (Nat.le_refl _)]; exact h0
    · show putT (ns.take (m0 + 1 - 1)) = _
      rw [Nat.add_sub_cancel, Nat.sub_zero, List.take_of_length_le (Nat.le_refl _)]; exact h1
  | succ q ihq =>
    intro hq
    obtain ⟨us, u0, ub, us1, up, ut⟩ := ihq (by omega)
    obtain ⟨a, ha⟩ : ∃ a, t.length - q = a + 1 := ⟨t.length - q - 1, by omega⟩
    have hat : a < t.length := by omega
    have haU : a < U.length := by omega
    have e1 : t.take (a + 1) = t.take a ++ [t[a]] := by rw [List.take_add_one, List.getElem?_eq_getElem hat]; rfl
    have e2 : U.take (a + 1) = U.take a ++ [U[a]] := by rw [List.take_add_one, List.getElem?_eq_getElem haU]; rfl
    rw [ha, e1, ← List.append_assoc] at up
    rw [hUt, ha, e2, ← List.append_assoc] at ut
    have hM : 1 ≤ m0 + 1 - us q := by
      rcases Nat.eq_zero_or_pos (m0 + 1 - us q) with h | h
      · rw [h, put_zero] at up
        have h9 := congrArg List.length (Option.some.inj up)
        rw [List.length_append, List.length_singleton, List.length_nil] at h9
        omega
      · exact h
    have hub := ub q (Nat.le_refl _)
    obtain ⟨x, used, S', hu⟩ := ih (m0 + 1 - us q) (by omega) hM _ _ up
    have hx := snoc_inj (hu.txt.symm.trans ut)
    refine ⟨fun i => if i = q + 1 then us q + used else us i, by simp [u0], fun i hi => ?_, fun i hi hU => ?_, ?_, ?_⟩
    · have := hu.le
      show (if i = q + 1 then us q + used else us i) ≤ m0 + 1 ∧ 1 ≤ (if i = q + 1 then us q + used else us i)
      split
      · omega
      · exact ub i (by omega)
    · show ∃ kq, (if i + 1 = q + 1 then us q + used else us (i + 1)) = (if i = q + 1 then us q + used else us i) + kq ∧ (if i = q + 1 then us q + used else us i) ≤ m0 ∧ TextAt ns (m0 + 1 - (if i = q + 1 then us q + used else us i)) (U[U.length - 1 - i]'(by omega)) kq
      rw [if_neg (by omega : ¬ i = q + 1)]
      by_cases hiq : i = q
      · subst hiq
        rw [if_pos rfl]
        refine ⟨used, rfl, by omega, ?_⟩
        have e9 : U[U.length - 1 - i]'(by omega) = x := by
          rw [hx.2]; congr 1; omega
        rw [e9]
        exact hu.at'
      · rw [if_neg (by omega)]
        exact us1 i (by omega) hU
    · show putP (ns.take (m0 + 1 - (if q + 1 = q + 1 then us q + used else us (q + 1)))) = _
      rw [if_pos rfl, show m0 + 1 - (us q + used) = m0 + 1 - us q - used by omega, hu.put, show t.length - (q + 1) = a by omega]
    · show putT (ns.take (m0 + 1 - (if q + 1 = q + 1 then us q + used else us (q + 1)))) = _
      rw [if_pos rfl, show m0 + 1 - (us q + used) = m0 + 1 - us q - used by omega, hu.row, hx.1, show U.length - (q + 1) = a by omega]
theorem text_all (ns : List NL) (hlen : ns.length ≤ 1024) (hok : ∀ n ∈ ns, n.ok) (hsz : ∀ n ∈ ns, n.v.s.size ≤ 1048576) (k : Nat) : ∀ m, m ≤ k → 1 ≤ m → m ≤ ns.length → ∀ s p, putP (ns.take m) = some (s ++ [p]) → ∃ x used S, UsedAt ns m s x used S := by
  induction k with
  | zero => intro m h1 h2; omega
  | succ k ih =>
    intro m hmk hm1 hml s p hp
    obtain ⟨m0, rfl⟩ : ∃ m0, m = m0 + 1 := ⟨m - 1, by omega⟩
    have hn : ns[m0]? = some (ns[m0]'(by omega)) := List.getElem?_eq_getElem _
    generalize ns[m0]'(by omega) = n at hn
    have hmem := List.mem_of_getElem? hn
    have hpt := putP_take ns m0 n hn
    rw [hp] at hpt
    cases hst : putP (ns.take m0) with
    | none => rw [hst] at hpt; cases hpt
    | some st =>
      rw [hst] at hpt
      have hstep : stepP st n = some (s ++ [p]) := hpt.symm
      have hrel := put_told _ (ns.take m0) rfl st hst
      have hTT := putT_take ns m0 n hn
      have hmay : n.may = true := by
        cases hm : n.may
        · rw [step_bad hm] at hstep; cases hstep
        · rfl
      have htl : (ns.take m0).length = m0 := by rw [List.length_take]; omega
      have htot : totT (putT (ns.take m0)) ≤ m0 * 2097160 := by
        have h9 := (put_tot7 (ns.take m0) (by rw [hst]; simp) (fun n hn => hok n (List.mem_of_mem_take hn)) (fun n hn => hsz n (List.mem_of_mem_take hn)) m0 (by omega)).1
        rwa [List.take_of_length_le (by omega)] at h9
      have htb : totT (putT (ns.take m0)) ≤ 3000000000 := by omega
      have hm0 : m0 ≤ 1024 := by omega
      have ih' : ∀ m, m ≤ m0 → 1 ≤ m → ∀ s p, putP (ns.take m) = some (s ++ [p]) → ∃ x used S, UsedAt ns m s x used S := fun m h1 h2 => ih m (by omega) h2 (by omega)
      by_cases h4 : n.kind = 4
      · obtain ⟨o1, o2⟩ := op_of hmay h4
        by_cases ho : n.op = 1 ∨ n.op = 2
        · rcases st.eq_nil_or_concat with rfl | ⟨s0, b, rfl⟩
          · rw [step_one_no hmay h4] at hstep; cases hstep
          rw [List.concat_eq_append] at *
          rw [step_one hmay h4 ho] at hstep
          split at hstep
          · cases hstep
          have hs := snoc_inj (Option.some.inj hstep)
          have hm1' : 1 ≤ m0 := by
            rcases Nat.eq_zero_or_pos m0 with h | h
            · subst h; rw [put_zero] at hst; have := Option.some.inj hst; simp at this
            · exact h
          obtain ⟨x, used, S, hu⟩ := ih' m0 (Nat.le_refl _) hm1' s0 b hst
          have hxl : x.text.length ≤ 3000000000 := by rw [hu.txt, totT_app, totT_one] at htb; omega
          have hle := hu.le
          by_cases ho1 : n.op = 1
          · refine ⟨⟨opT n.op ++ x.at' (levelI n.op), levelI n.op⟩, used + 1, S, ⟨?_, by omega, by omega, ?_, ?_, ?_⟩⟩
            · rw [hTT, hu.txt, stepT_neg h4 ho1]
            · rw [show m0 + 1 - (used + 1) = m0 - used by omega, hu.put, hs.1]
            · rw [show m0 + 1 - (used + 1) = m0 - used by omega, hu.row]
            · have h9 := text_neg ns m0 hm0 n hn h4 ho1 hm1' x used hle hxl hu.at' _ rfl
              rw [show opT n.op = [45] by rw [ho1]; rfl]
              exact h9
          · have ho2 : n.op = 2 := by omega
            refine ⟨⟨x.at' (levelI n.op) ++ opT n.op, levelI n.op⟩, used + 1, S, ⟨?_, by omega, by omega, ?_, ?_, ?_⟩⟩
            · rw [hTT, hu.txt, stepT_pct h4 ho2]
            · rw [show m0 + 1 - (used + 1) = m0 - used by omega, hu.put, hs.1]
            · rw [show m0 + 1 - (used + 1) = m0 - used by omega, hu.row]
            · have h9 := text_pct ns m0 hm0 n hn h4 ho2 hm1' x used hle hxl hu.at' _ rfl
              rw [show opT n.op = [37] by rw [ho2]; rfl]
              exact h9
        · rcases two_last st with rfl | ⟨a, rfl⟩ | ⟨s0, a, b, rfl⟩
          · rw [step_two_no0 hmay h4 ho] at hstep; cases hstep
          · rw [step_two_no hmay h4 ho] at hstep; cases hstep
          rw [step_two hmay h4 ho] at hstep
          split at hstep
          · cases hstep
          have hs := snoc_inj (Option.some.inj hstep)
          have hm1' : 1 ≤ m0 := by
            rcases Nat.eq_zero_or_pos m0 with h | h
            · subst h; rw [put_zero] at hst; have := Option.some.inj hst; simp at this
            · exact h
          rw [show s0 ++ [a, b] = (s0 ++ [a]) ++ [b] by simp] at hst
          obtain ⟨y, ky, Sy, hy⟩ := ih' m0 (Nat.le_refl _) hm1' _ b hst
          have hm2 : 1 ≤ m0 - ky := by
            rcases Nat.eq_zero_or_pos (m0 - ky) with h | h
            · have h9 := hy.put; rw [h, put_zero] at h9; have := Option.some.inj h9; simp at this
            · exact h
          obtain ⟨x, kx, Sx, hx⟩ := ih' (m0 - ky) (by omega) hm2 _ a hy.put
          have hSy := hx.txt.symm.trans hy.row
          have hT : putT (ns.take m0) = Sx ++ [x, y] := by rw [hy.txt, ← hSy]; simp
          have hl : x.text.length ≤ 3000000000 ∧ y.text.length ≤ 3000000000 := by rw [hT, two_eq] at htb; omega
          have h8 := hy.le
          have h7 := hx.le
          refine ⟨⟨x.at' (levelI n.op) ++ opT n.op ++ y.at' (levelI n.op + 1), levelI n.op⟩, ky + kx + 1, Sx, ⟨?_, by omega, by omega, ?_, ?_, ?_⟩⟩
          · rw [hTT, hT, stepT_two h4 (by omega) (by omega)]
          · rw [show m0 + 1 - (ky + kx + 1) = m0 - ky - kx by omega, hx.put, hs.1]
          · rw [show m0 + 1 - (ky + kx + 1) = m0 - ky - kx by omega, hx.row]
          · exact text_two ns m0 hm0 n hn h4 (by omega) o2 y ky (by omega) hl.2 hy.at' x kx h7 hl.1 hx.at' _ _ rfl rfl
      by_cases h5 : n.kind = 5
      · obtain ⟨a0, a1, a2⟩ := args_of hmay h5
        by_cases hl : st.length < n.args.toNat
        · rw [step_call_no hmay h5 hl] at hstep; cases hstep
        obtain ⟨s0, t, rfl, ht⟩ : ∃ s t, st = s ++ t ∧ t.length = n.args.toNat := ⟨st.take (st.length - n.args.toNat), st.drop (st.length - n.args.toNat), (List.take_append_drop _ _).symm, by rw [List.length_drop]; omega⟩
        rw [step_call hmay h5 ht] at hstep
        have hs := snoc_inj (Option.some.inj hstep)
        obtain ⟨S, U, hT, hr1, hr2⟩ := hrel.split
        have hUl := hr2.len
        obtain ⟨us, u0, ub, us1, up, ut⟩ := text_chain ns m0 s0 t S U hUl hst hT ih' U.length (Nat.le_refl _)
        have hUt : totT U ≤ 3000000000 := by rw [hT, totT_app] at htb; omega
        have hnl : n.name.size ≤ 16 := by
          unfold namedB at a2
          simp only [Bool.and_eq_true, decide_eq_true_eq] at a2
          have h9 := a2.1.1.1.1.2
          rw [Array.length_toList] at h9
          exact h9
        have hub := ub U.length (Nat.le_refl _)
        refine ⟨⟨n.name.data.toList ++ 40 :: (joinT U ++ [41]), 7⟩, us U.length, S, ⟨?_, hub.2, hub.1, ?_, ?_, ?_⟩⟩
        · rw [hTT, hT, stepT_call h5 (by omega)]
        · rw [up, show t.length - U.length = 0 by omega, List.take_zero, List.append_nil, hs.1]
        · rw [ut, Nat.sub_self, List.take_zero, List.append_nil]
        · exact text_call ns m0 hm0 n hn h5 U (by omega) (by omega) hnl hUt us u0 (fun q hq => (ub q hq).1) (fun q hq => us1 q hq hq)
      · obtain ⟨x, hx, hA⟩ := text_leaf ns m0 hm0 n hn hmay (hok n hmem) (hsz n hmem) h4 h5 (putT (ns.take m0))
        have hs : s = st := by
          by_cases h3 : n.kind = 3
          · rw [step_rect hmay h3] at hstep; exact (snoc_inj (Option.some.inj hstep)).1.symm
          · rw [step_leaf hmay h3 h4 h5] at hstep; exact (snoc_inj (Option.some.inj hstep)).1.symm
        exact ⟨x, 1, putT (ns.take m0), ⟨by rw [hTT, hx], Nat.le_refl _, by omega, by rw [Nat.add_sub_cancel, hst, hs], by rw [Nat.add_sub_cancel], hA⟩⟩
/-- the whole formula's text -/
theorem text_form (ns : List NL) (hc : checkP ns = true) (hok : ∀ n ∈ ns, n.ok) (hsz : ∀ n ∈ ns, n.v.s.size ≤ 1048576) : ∃ x used, formT ns = 61 :: x.text ∧ x.text.length ≤ 3000000000 ∧ TextAt ns ns.length x used := by
  obtain ⟨h1, h2, h3, x0, hx0⟩ := check_yes hc
  obtain ⟨p, hp⟩ : ∃ p, putP ns = some [p] := by
    cases hst : putP ns with
    | none => exact absurd hst h3
    | some st =>
      have h9 := put_len hst
      rw [hx0] at h9
      match st, h9 with
      | [p], _ => exact ⟨p, rfl⟩
  have htk : ns.take ns.length = ns := List.take_of_length_le (Nat.le_refl _)
  obtain ⟨x, used, S, hu⟩ := text_all ns h2 hok hsz ns.length ns.length (Nat.le_refl _) h1 (Nat.le_refl _) [] p (by rw [htk, hp]; rfl)
  have ht := hu.txt
  rw [htk, hx0] at ht
  have hS := snoc_inj (show [] ++ [x0] = S ++ [x] from ht)
  have htot := (put_tot7 ns h3 hok hsz ns.length (Nat.le_refl _)).1
  rw [htk, hx0, totT_one] at htot
  refine ⟨x, used, ?_, ?_, hu.at'⟩
  · unfold formT; rw [hx0, hS.2]
  · rw [← hS.2]; omega
end Go.Proofs.YtfbkoieodflcpaaGreatDoor
