/-
  oriellaw04.all: the tokens that a range tells; oriellaw04: known; Plain: the tokens of a text are such as nodes come of that may be; where a text is wrong, and how.
-/
import Derived.Test.YtfbkoieodflcpaaGreatDoorMg3
import Derived.Test.YtfbkoieodflcpaaGreatDoorRows
import Derived.Test.YtfbkoieodflcpaaGreatDoorMg0
import Derived.Test.YtfbkoieodflcpaaGreatDoorProg
import Derived.Test.YtfbkoieodflcpaaGreatDoorShelf
import Derived.Test.YtfbkoieodflcpaaGreatDoorMg4
import Derived.Test.YtfbkoieodflcpaaGreatDoorAddrC
import Derived.Test.YtfbkoieodflcpaaGreatDoorMg6
import Derived.Test.YtfbkoieodflcpaaGreatDoorValA
import Derived.Test.YtfbkoieodflcpaaGreatDoorValB
import Derived.Test.YtfbkoieodflcpaaGreatDoorMg9
import Derived.Test.YtfbkoieodflcpaaGreatDoorMg26
import Derived.Test.YtfbkoieodflcpaaGreatDoorMg11
import Derived.Test.YtfbkoieodflcpaaGreatDoorLexWd
import Derived.Test.YtfbkoieodflcpaaGreatDoorLexS
import Derived.Test.YtfbkoieodflcpaaGreatDoorDParse
import Derived.Test.YtfbkoieodflcpaaGreatDoorLexF
import Derived.Test.YtfbkoieodflcpaaGreatDoorMg15
import Derived.Test.YtfbkoieodflcpaaGreatDoorLexI
import Derived.Test.YtfbkoieodflcpaaGreatDoorMg10
import Derived.Test.YtfbkoieodflcpaaGreatDoorPaP
import Derived.Test.YtfbkoieodflcpaaGreatDoorMg22
import Derived.Test.YtfbkoieodflcpaaGreatDoorPaM
import Derived.Test.YtfbkoieodflcpaaGreatDoorRefN
import Derived.Test.YtfbkoieodflcpaaGreatDoorRefM
import Derived.Test.YtfbkoieodflcpaaGreatDoorRefY
import Derived.RangeFuncBox
import Derived.RangeFuncNested
import Derived.RangeFuncLeaves
import Derived.Shelf.Abstract
import Derived.WalkKit
import Derived.OwnWalkIn
import Derived.TacticsInMore
import Derived.LoopNIn
import Derived.LoopIn
import Derived.Maps.AppendAt
import Derived.Maps.OwnIn
import Derived.Lib.ItoaMem
import Derived.Lib.TrimByte
import Derived.Lib.IndexLaws
import Derived.Lib.SlTrimSet
import Derived.Lib.ParseIntB
import Derived.ProofKit
import Derived.OpenShut
import Derived.Carry
import Derived.ChangeSame
import Derived.Lib.Hide
import Derived.Deep.Draws
import Derived.Shelf.Strings.Builder1
import Derived.Shelf.Strings.Builder2
import Derived.Shelf.Strings.Trim
import Derived.Shelf.Small.Utf8
import Derived.Shelf.Small.Strs
import Derived.Shelf.Small.Wraps
import Derived.Shelf.Strings.BuilderF
import Derived.Shelf.Strings.BuilderK
import Derived.Shelf.Utf8.RuneCount
import Derived.Shelf.Strconv.Itoa0
import Derived.Shelf.Strconv.Itoa1
import Derived.Shelf.LaysM
import Derived.Shelf.Strconv.Itoa2
import Derived.Shelf.Strconv.Itoa3
import Derived.Ground.MpProg
import Derived.Shelf.Pu.ParseUintPublic10
import Derived.Shelf.Strings.Search1
import Derived.Shelf.Strings.Search2
import Derived.Shelf.Strings.Search3
import Derived.Shelf.Strings.Cut
import Derived.Shelf.Strings.Count
import Derived.Shelf.Strings.Shaped
import Derived.Shelf.Strings.Prefix
import Derived.Shelf.Strings.Split
import Derived.Shelf.Strings.Replace
import Derived.Shelf.Strings.SplitShaped
import Derived.Shelf.Unicode.Decode
import Derived.Shelf.Strings.Runes
import Derived.Shelf.Strings.RuneCount
import Derived.Shelf.Strings.AsciiSet
import Derived.Shelf.Unicode.DecodeSlow
import Derived.Shelf.Unicode.DecodeAny
import Derived.Shelf.Unicode.DecodeLast
import Derived.WalkSpells
import Derived.WalkLawsBesides
import Derived.StillTactics
import Derived.Laws.Pointers
import Derived.Deep.RegionHeld3
import Derived.Deep.QuietTactic
import Derived.BigQuiet
import Derived.RowKit3
import Derived.Lib.OthersKept
import Derived.OwnWalk
import Derived.Lib.ItoaNum
import Derived.Shelf.Strings.SlTrimAscii
import Derived.Lib.SmallJoins
import Derived.Maps.OwnSet
namespace Go.Proofs.YtfbkoieodflcpaaGreatDoor
open Go.RowKit Go.Shelf

attribute [local go_sem] Oper.semAt_some

theorem eq_nilf (b : Nat) (W : World) : (binOp BinOp.eql 79 (.func (.func 48) #[] #[.pointer (some ⟨b, 0, none⟩)]) .nilFunc).run Tryz.prog W = .ok (.bool false) W := by kernel_rfl
attribute [local go_sem] eq_nilf
end Go.Proofs.YtfbkoieodflcpaaGreatDoor
namespace Go.Proofs.YtfbkoieodflcpaaGreatDoor
open Go.RowKit Go.Shelf

/-- the cells of a row of tokens -/
theorem RdT.at {w : World} {B : Nat} {v : Value} {l : List Tok} (h : RdT w B v l) (h0 : 0 < l.length) : ∃ b o cap, v = .slice (some ⟨b, o, none⟩) l.length cap ∧ b < B ∧ ∀ k x, l[k]? = some x → ∀ j u, x.cs[j]? = some u → w.cell? ⟨b, o + k * 11 + j, none⟩ = some u := by
  obtain ⟨A, cap, rfl, h⟩ := h
  obtain ⟨x, hx⟩ : ∃ x, l[0]? = some x := ⟨_, List.getElem?_eq_getElem h0⟩
  obtain ⟨b, o, e, hb, _⟩ := h 0 x.cs (by rw [List.getElem?_map, hx]; rfl)
  subst e
  refine ⟨b, o, cap, rfl, hb, fun k y hy j u hu => ?_⟩
  obtain ⟨b', o', e', _, hc⟩ := h k y.cs (by rw [List.getElem?_map, hy]; rfl)
  injection e' with e'
  injection e' with e1 e2 _
  subst e1 e2
  exact hc j u hu
/-- what holds of a text's tokens -/
structure TokLaws (l : List UInt8) (ts : List Tok) : Prop where
  ne : 0 < ts.length
  last : ∀ (k : Nat) (x : Tok), ts[k]? = some x → x.last = decide (k + 1 = ts.length)
  place : ∀ (k : Nat) (x : Tok), ts[k]? = some x → 0 ≤ x.place ∧ x.place ≤ l.length
  rise : ∀ (k : Nat) (x y : Tok), ts[k]? = some x → ts[k + 1]? = some y → x.place < y.place
  fin : ∀ (k : Nat) (x : Tok), ts[k]? = some x → x.kind = 0 → x.place = l.length
theorem laws_one (l : List UInt8) : TokLaws l [tokK 8] := by
  refine ⟨by simp, fun k x hx => ?_, fun k x hx => ?_, fun k x y hx hy => by simp at hy, fun k x hx hk => ?_⟩
  all_goals (cases k with | zero => (simp at hx; subst hx; first | rfl | (simp [tokK]; done) | (simp [tokK] at hk)) | succ k => simp at hx)
theorem lexL_laws (l : List UInt8) : TokLaws l (lexL l) := by
  cases l with
  | nil => exact laws_one _
  | cons b r =>
    by_cases h61 : b.toNat = 61
    · have e : lexL (b :: r) = toks (b :: r).length (r.length + 1) r := by simp [lexL, h61]
      rw [e]
      have hle : r.length ≤ (b :: r).length := by simp
      refine ⟨toks_ne _ _ _ (by omega), toks_last _ _ _ (by omega), fun k x hx => ?_, toks_rise _ _ _ hle, fun k x hx hk => toks_end _ _ _ hle k x hx hk⟩
      have := toks_in _ _ _ hle k x hx
      simp at this ⊢
      omega
    · rw [lexL_no (fun c hc => by simp at hc; subst hc; exact h61)]
      exact laws_one _
end Go.Proofs.YtfbkoieodflcpaaGreatDoor
namespace Go.Proofs.YtfbkoieodflcpaaGreatDoor
open Go.RowKit

theorem TokOk.put {x : Tok} (h : TokOk x) (p : Int) : TokOk (x.put p) := ⟨h.leaf, h.rect, h.word⟩
theorem tokOk_K (k : Int) (h : k = 0 ∨ k = 8) : TokOk (tokK k) := by
  refine ⟨fun n hn => ?_, fun hk => ?_, fun hk => ?_⟩ <;> rcases h with rfl | rfl <;> simp [leafN, tokK] at *
theorem numP_low {c : UInt8} {r : List UInt8} (hc : isDig c = true) : 0 ≤ numV (c :: r) := by
  have hl : lowOf (c :: r) = false := by
    simp [isDig] at hc
    simp [lowOf]
    rintro rfl
    simp at hc
  unfold numV
  cases h : numP (c :: r) with
  | none => simp
  | some x =>
    unfold numP at h
    rw [hl] at h
    unfold bodyOf at h
    split at h
    · split at h
      · unfold numOf at h
        split at h
        · cases h
        · split at h
          · injection h with h; subst h; simp
          · cases h
      · cases h
    · cases h
theorem pOk_may {l : List UInt8} (h : pOk l = true) : mayB (pRow l) (pCol l) = true := by
  unfold pOk at h
  cases hp : parse l with
  | none => rw [hp] at h; cases h
  | some x =>
    obtain ⟨r, c⟩ := x
    have e1 : pRow l = r := by simp [pRow, hp]
    have e2 : pCol l = c := by simp [pCol, hp]
    rw [e1, e2, mayB_nat]
    exact (name_of_parse hp).1
theorem qOk_may {l : List UInt8} (h : qOk l = true) : mayRectB (qT l) (qL l) (qB l) (qR l) = true := by
  unfold qOk at h
  cases hp : parseRect l with
  | none => rw [hp] at h; cases h
  | some x =>
    have e1 : qT l = x.1 := by simp [qT, hp]
    have e2 : qL l = x.2.1 := by simp [qL, hp]
    have e3 : qB l = x.2.2.1 := by simp [qB, hp]
    have e4 : qR l = x.2.2.2 := by simp [qR, hp]
    rw [e1, e2, e3, e4]
    unfold parseRect at hp
    split at hp
    · cases hp
    · dsimp only at hp
      split at hp
      · rename_i h2
        injection hp with hp
        subst hp
        simp only [Bool.and_eq_true] at h2
        exact h2.2
      · cases hp
theorem pwhile_all (p : UInt8 → Bool) : ∀ l : List UInt8, (l.takeWhile p).all p = true
  | [] => by simp
  | b :: l => by
    rw [List.takeWhile_cons]
    split
    · rename_i h; rw [List.all_cons, h, pwhile_all p l]; rfl
    · rfl
theorem leaf3 (W : List UInt8) : leafN (tokS 3 W) = if (⟨W.toArray⟩ : ByteArray) = trueS then some (valN ⟨3, 0, ⟨#[]⟩, true, 0⟩) else if (⟨W.toArray⟩ : ByteArray) = falseS then some (valN ⟨3, 0, ⟨#[]⟩, false, 0⟩) else none := by
  rfl
theorem first_ok (l : List UInt8) : TokOk (firstT l).1 := by
  cases l with
  | nil => exact tokOk_K 0 (.inl rfl)
  | cons c r =>
    simp only [firstT]
    split
    · rename_i hc
      unfold nuT
      split
      · refine ⟨fun n hn => ?_, fun hk => by simp [tokNum] at hk, fun hk => by simp [tokNum] at hk⟩
        have h0 : 0 ≤ numV ((c :: r).takeWhile numB) := by
          rw [List.takeWhile_cons, if_pos (by simp [numB, hc])]
          exact numP_low hc
        simp [leafN, tokNum, valN] at hn
        subst hn
        simp [NL.may, VL.may, vMay, NL.noC, NL.noR, NL.noO, NL.noN]
        omega
      · exact tokOk_K 8 (.inr rfl)
    split
    · unfold textT
      split
      · refine ⟨fun n hn => ?_, fun hk => by simp [tokS] at hk, fun hk => by simp [tokS] at hk⟩
        simp [leafN, tokS, valN] at hn
        subst hn
        simp [NL.may, VL.may, vMay, NL.noC, NL.noR, NL.noO, NL.noN]
      · exact tokOk_K 8 (.inr rfl)
    split
    · unfold codeT
      split
      · rename_i h
        refine ⟨fun n hn => ?_, fun hk => by simp [tokCode] at hk, fun hk => by simp [tokCode] at hk⟩
        have hle := codeOf_le ⟨((c :: r).takeWhile bangB ++ [33]).toArray⟩
        have h0 := h.1
        have h1 := h.2.1
        generalize codeOf ⟨((c :: r).takeWhile bangB ++ [33]).toArray⟩ = k at *
        simp [leafN, tokCode, valN] at hn
        subst hn
        simp [NL.may, VL.may, vMay, NL.noC, NL.noR, NL.noO, NL.noN]
        omega
      · exact tokOk_K 8 (.inr rfl)
    split
    · rename_i hu
      unfold wordT
      split
      · split
        · split
          · rename_i hq
            refine ⟨fun n hn => by simp [leafN, tokRect] at hn, fun hk => ?_, fun hk => by simp [tokRect] at hk⟩
            have := qOk_may hq
            simp [NL.may, rectN', tokRect, vl0, vEq, NL.noV, NL.noC, NL.noO, NL.noN, this]
          · exact tokOk_K 8 (.inr rfl)
        · split
          · rename_i hp
            refine ⟨fun n hn => ?_, fun hk => by simp [tokCell] at hk, fun hk => by simp [tokCell] at hk⟩
            have := pOk_may hp
            simp [leafN, tokCell] at hn
            subst hn
            simp [NL.may, cellN, vl0, vEq, NL.noV, NL.noR, NL.noO, NL.noN, this]
          · exact tokOk_K 8 (.inr rfl)
      · rename_i hm
        refine ⟨fun n hn => ?_, fun hk => by simp [tokS] at hk, fun _ hn hs => ?_⟩
        · have e := (leaf3 _).symm.trans hn
          generalize (⟨((c :: r).takeWhile partB).toArray⟩ : ByteArray) = W at e
          by_cases g1 : W = trueS
          · rw [if_pos g1] at e; injection e with e; subst e; simp [valN, NL.may, VL.may, vMay, NL.noC, NL.noR, NL.noO, NL.noN]
          · rw [if_neg g1] at e
            by_cases g2 : W = falseS
            · rw [if_pos g2] at e; injection e with e; subst e; simp [valN, NL.may, VL.may, vMay, NL.noC, NL.noR, NL.noO, NL.noN]
            · rw [if_neg g2] at e; cases e
        · have ha := pwhile_all partB (c :: r)
          have hh : (c :: r).takeWhile partB = c :: r.takeWhile partB := by rw [List.takeWhile_cons, if_pos (by simp [partB, hu])]
          have e := (leaf3 _).symm.trans hn
          have hs1 : ((c :: r).takeWhile partB).length ≤ 16 := hs
          show namedB ((c :: r).takeWhile partB) = true
          clear hn hs
          generalize (c :: r).takeWhile partB = W at *
          subst hh
          have g1 : ¬ (c :: r.takeWhile partB) = [84, 82, 85, 69] := fun e1 => by
            rw [e1, if_pos (by decide +kernel)] at e; cases e
          have g2 : ¬ (c :: r.takeWhile partB) = [70, 65, 76, 83, 69] := fun e1 => by
            rw [e1, if_neg (by decide +kernel), if_pos (by decide +kernel)] at e; cases e
          have hm' : meantB (c :: r.takeWhile partB) = false := by simpa using hm
          unfold namedB
          simp only [ha, hu, hm', decide_eq_false g1, decide_eq_false g2, decide_eq_true hs1, Bool.not_false, Bool.or_false, Bool.and_true]
          simp
    · unfold signT
      split
      · exact ⟨fun n hn => by simp [leafN, tokS] at hn, fun hk => by simp [tokS] at hk, fun hk => by simp [tokS] at hk⟩
      · split
        · exact ⟨fun n hn => by simp [leafN, tokS] at hn, fun hk => by simp [tokS] at hk, fun hk => by simp [tokS] at hk⟩
        · exact tokOk_K 8 (.inr rfl)
theorem toks_ok (n : Nat) : ∀ (f : Nat) (l : List UInt8), ∀ x ∈ toks n f l, TokOk x
  | 0, l, x, h => by simp [toks] at h
  | f + 1, l, x, h => by
    unfold toks at h
    rcases List.mem_cons.1 h with rfl | h
    · exact (first_ok _).put _
    · split at h
      · simp at h
      · exact toks_ok n f _ x h
theorem lexL_ok (l : List UInt8) : ∀ x ∈ lexL l, TokOk x := by
  cases l with
  | nil => intro x h; simp [lexL] at h; subst h; exact tokOk_K 8 (.inr rfl)
  | cons b r =>
    intro x h
    simp only [lexL] at h
    split at h
    · exact toks_ok _ _ _ x h
    · simp at h; subst h; exact tokOk_K 8 (.inr rfl)
/-- where, and as what, a text is wrong -/
def BadOk (P : Int → Prop) : PR → Prop | .ok _ => True | .bad e a => (e = 7 ∨ e = 8) ∧ P a
theorem bad_fail {P : Int → Prop} {s : PS} (h : P s.now.place) : BadOk P s.fail := ⟨.inr rfl, h⟩
theorem bad_add {P : Int → Prop} {s : PS} {n : NL} {a : Int} (h : P a) : BadOk P (s.add n a) := by
  unfold PS.add
  split
  · exact ⟨.inr rfl, h⟩
  · trivial
theorem bad_opens {P : Int → Prop} {s : PS} (h : P s.now.place) : BadOk P s.opens := by
  unfold PS.opens
  split
  · exact bad_fail h
  · split
    · exact ⟨.inl rfl, h⟩
    · trivial
theorem bad_closes {P : Int → Prop} {s : PS} (h : P s.now.place) : BadOk P s.closes := by
  unfold PS.closes
  split
  · exact bad_fail h
  · trivial
theorem bad_negs {P : Int → Prop} : ∀ {l : List Int} {s : PS}, (∀ a ∈ l, P a) → BadOk P (negs l s)
  | [], s, _ => trivial
  | a :: l, s, h => by
    have h1 : BadOk P (s.add (opN 1) a) := bad_add (h a (by simp))
    simp only [negs]
    split
    · rename_i hs; rw [hs] at h1; exact h1
    · exact bad_negs fun x hx => h x (by simp [hx])
theorem bindR_bad {P : Int → Prop} {x : Option PR} {f : PS → Option PR} {r : PR} (h : bindR x f = some r) (hx : ∀ q, x = some q → BadOk P q) (hf : ∀ s, x = some (.ok s) → f s = some r → BadOk P r) : BadOk P r := by
  rcases bindR_some h with ⟨e, a, h1, rfl⟩ | ⟨s, h1, h2⟩
  · exact hx _ h1
  · exact hf s h1 h2
def MdAt (P : Int → Prop) : Md → Prop | .neg ats => ∀ a ∈ ats, P a | .args _ p _ => P p | _ => True
theorem px_bad {P : Int → Prop} (tb : Tb) : ∀ (f : Nat) (m : Md) (s : PS) (r : PR), MdAt P m → (∀ x ∈ s.now :: s.rest, P x.place) → px tb f m s = some r → BadOk P r := by
  intro f
  induction f with
  | zero => intro m s r _ _ h; cases h
  | succ f ih =>
    intro m s r hm ht h
    have hx : ∀ {g : Nat} {m1 : Md} {a b : PS}, px tb g m1 a = some (.ok b) → (∀ x ∈ a.now :: a.rest, P x.place) → ∀ x ∈ b.now :: b.rest, P x.place := fun h ha x hx => ha x ((suffix_inv.px tb _ _ _ _ h).subset hx)
    have hst : ∀ {a : PS}, (∀ x ∈ a.now :: a.rest, P x.place) → ∀ x ∈ a.step.now :: a.step.rest, P x.place := fun ha x hx => ha x ((step_suffix _).subset hx)
    have hn : ∀ {a : PS}, (∀ x ∈ a.now :: a.rest, P x.place) → P a.now.place := fun ha => ha _ (by simp)
    cases m with
    | lev k =>
      rw [px] at h
      split at h
      · exact ih (.neg []) s r (by simp [MdAt]) ht h
      · exact bindR_bad h (fun q hq => ih (.lev (k + 1)) s q trivial ht hq) fun s1 h1 h2 => ih (.loop k) s1 r trivial (hx h1 ht) h2
    | loop k =>
      rw [px] at h
      split at h
      · injection h with h; subst h; trivial
      · refine bindR_bad h (fun q hq => ih (.lev (k + 1)) s.step q trivial (hst ht) hq) fun s1 h1 h2 => ?_
        refine bindR_bad h2 (fun q hq => by injection hq with hq; subst hq; exact bad_add (hn ht)) fun s2 h3 h4 => ?_
        injection h3 with h3
        obtain ⟨e2, _⟩ := add_some h3
        exact ih (.loop k) s2 r trivial (by rw [e2]; exact hx (b := s1) h1 (hst ht)) h4
    | neg ats =>
      rw [px] at h
      split at h
      · refine ih (.neg (s.now.place :: ats)) s.step r ?_ (hst ht) h
        intro a ha
        rcases List.mem_cons.1 ha with rfl | ha
        · exact hn ht
        · exact hm a ha
      · refine bindR_bad h (fun q hq => ih .prim s q trivial ht hq) fun s1 h1 h2 => ?_
        refine bindR_bad h2 (fun q hq => ih .pct s1 q trivial (hx h1 ht) hq) fun s2 h3 h4 => ?_
        injection h4 with h4
        subst h4
        exact bad_negs hm
    | pct =>
      rw [px] at h
      split at h
      · refine bindR_bad h (fun q hq => by injection hq with hq; subst hq; exact bad_add (hn ht)) fun s1 h1 h2 => ?_
        injection h1 with h1
        obtain ⟨e2, _⟩ := add_some h1
        exact ih .pct s1.step r trivial (hst (by rw [e2]; exact ht)) h2
      · injection h with h; subst h; trivial
    | prim =>
      rw [px] at h
      split at h
      · refine bindR_bad h (fun q hq => by injection hq with hq; subst hq; exact bad_add (hn ht)) fun s1 h1 h2 => ?_
        injection h2 with h2; subst h2; trivial
      · split at h
        · split at h
          · injection h with h; subst h; exact bad_fail (hn ht)
          · refine bindR_bad h (fun q hq => by injection hq with hq; subst hq; exact bad_opens (hn (hst ht))) fun s1 h1 h2 => ?_
            injection h1 with h1
            obtain ⟨e1, f1, f2⟩ := opens_some h1
            exact ih (.args s.now.str s.now.place []) s1 r (hn ht) (by rw [e1]; exact hst (a := { s.step with opn := s.step.opn + 1 }) (hst ht)) h2
        · refine bindR_bad h (fun q hq => by injection hq with hq; subst hq; exact bad_opens (hn ht)) fun s1 h1 h2 => ?_
          injection h1 with h1
          obtain ⟨e1, f1, f2⟩ := opens_some h1
          have ht1 : ∀ x ∈ s1.now :: s1.rest, P x.place := by rw [e1]; exact hst (a := { s with opn := s.opn + 1 }) ht
          refine bindR_bad h2 (fun q hq => ih (.lev 0) s1 q trivial ht1 hq) fun s2 h3 h4 => ?_
          injection h4 with h4
          subst h4
          exact bad_closes (hn (hx h3 ht1))
    | args nm pl rects =>
      rw [px] at h
      split at h
      · split at h
        · refine bindR_bad h (fun q hq => by injection hq with hq; subst hq; exact bad_add hm) fun s1 h1 h2 => ?_
          injection h1 with h1
          injection h2 with h2
          subst h2
          obtain ⟨e2, _⟩ := add_some h1
          exact bad_closes (by rw [e2]; exact hn (a := s) ht)
        · injection h with h; subst h; exact ⟨.inr rfl, hm⟩
      · split at h
        · injection h with h; subst h; exact bad_fail (hn ht)
        · obtain ⟨e, a, h1, _⟩ | ⟨s1, h1, h2⟩ := bindR_some h
          · cases h1
          injection h1 with h1; injection h1 with h1
          have ht1 : ∀ x ∈ s1.now :: s1.rest, P x.place := by subst h1; split; exact ht; exact hst ht
          split at h2
          · refine bindR_bad h2 (fun q hq => by injection hq with hq; subst hq; exact bad_add (hn ht1)) fun s2 h3 h4 => ?_
            injection h3 with h3
            obtain ⟨e2, _⟩ := add_some h3
            exact ih (.args nm pl (rects ++ [true])) s2.step r hm (hst (by rw [e2]; exact ht1)) h4
          · refine bindR_bad h2 (fun q hq => ih (.lev 0) s1 q trivial ht1 hq) fun s2 h3 h4 => ?_
            exact ih (.args nm pl (rects ++ [false])) s2 r hm (hx h3 ht1) h4
theorem parseT_bad {P : Int → Prop} (tb : Tb) (ts : List Tok) (h0 : P 0) (ht : ∀ x ∈ ts, P x.place) : BadOk P (parseT tb ts) := by
  cases ts with
  | nil => exact ⟨.inr rfl, h0⟩
  | cons x r =>
    simp only [parseT]
    split
    · exact ⟨.inr rfl, h0⟩
    · rename_i e a h1; exact px_bad (P := P) tb _ (.lev 0) ⟨x, r, 0, []⟩ (.bad e a) trivial ht h1
    · rename_i s h1
      split
      · trivial
      · exact bad_fail (ht _ ((suffix_inv.px tb _ _ _ _ h1).subset (by simp)))
/-- what is read is a formula that may be; where it isn't, the place stands in the text -/
theorem parse_law (tb : Tb) (l : List UInt8) : match parseT tb (lexL l) with
    | .ok s => checkP s.nodes = true
    | .bad e a => (e = 7 ∨ e = 8) ∧ 0 ≤ a ∧ a ≤ l.length := by
  have hl := lexL_laws l
  have h := parseT_bad (P := fun a => 0 ≤ a ∧ a ≤ l.length) tb (lexL l) ⟨by omega, by omega⟩ (by
    intro x hx
    obtain ⟨k, hk⟩ := List.mem_iff_getElem?.1 hx
    exact hl.place k x hk)
  have hne := hl.ne
  have hlast : ∃ m x, lexL l = m ++ [x] ∧ x.last = true := by
    refine ⟨(lexL l).dropLast, (lexL l).getLast (List.ne_nil_of_length_pos hne), (List.dropLast_concat_getLast _).symm, ?_⟩
    have := hl.last ((lexL l).length - 1) _ (by rw [List.getElem?_eq_getElem (by omega), ← List.getLast_eq_getElem (List.ne_nil_of_length_pos hne)])
    rw [this]; simp; omega
  cases hp : parseT tb (lexL l) with
  | ok s => exact parse_check (lexL_ok l) hlast hp
  | bad e a => rw [hp] at h; exact h
/-- what all that is put behind is -/
structure PxAll (T : Tok → Prop) (Q : NL → Prop) : Prop where
  op : ∀ o, Q (opN o)
  leaf : ∀ x n, T x → leafN x = some n → Q n
  rect : ∀ x, T x → Q (rectN' x.t x.l x.b x.q)
  call : ∀ (nm : ByteArray) (n : Int), nm.size ≤ 16 → Q (callN nm n)
theorem all_snoc {Q : NL → Prop} {l : List NL} {n : NL} (h : ∀ x ∈ l, Q x) (hn : Q n) : ∀ x ∈ l ++ [n], Q x := by
  intro x hx
  rcases List.mem_append.1 hx with hx | hx
  · exact h x hx
  · rw [List.mem_singleton.1 hx]; exact hn
theorem all_negs {Q : NL → Prop} (ho : ∀ o, Q (opN o)) : ∀ {l : List Int} {s s' : PS}, negs l s = .ok s' → (∀ n ∈ s.nodes, Q n) → ∀ n ∈ s'.nodes, Q n
  | [], s, s', h, hq => by simp only [negs] at h; injection h with h; subst h; exact hq
  | a :: l, s, s', h, hq => by
    simp only [negs] at h
    split at h
    · cases h
    · rename_i s1 h1
      obtain ⟨rfl, _⟩ := add_some h1
      exact all_negs ho h (all_snoc hq (ho 1))
def MdQ : Md → Prop | .args nm _ _ => nm.size ≤ 16 | _ => True
theorem px_all {T : Tok → Prop} {Q : NL → Prop} (hQ : PxAll T Q) (tb : Tb) : ∀ (f : Nat) (m : Md) (s s' : PS), MdQ m → (∀ x ∈ s.now :: s.rest, T x) → (∀ n ∈ s.nodes, Q n) → px tb f m s = some (.ok s') → ∀ n ∈ s'.nodes, Q n := by
  intro f
  induction f with
  | zero => intro m s s' _ _ _ h; cases h
  | succ f ih =>
    intro m s s' hm ht hq h
    have hx : ∀ {g : Nat} {m1 : Md} {a b : PS}, px tb g m1 a = some (.ok b) → (∀ x ∈ a.now :: a.rest, T x) → ∀ x ∈ b.now :: b.rest, T x := fun h ha x hx => ha x ((suffix_inv.px tb _ _ _ _ h).subset hx)
    have hst : ∀ {a : PS}, (∀ x ∈ a.now :: a.rest, T x) → ∀ x ∈ a.step.now :: a.step.rest, T x := fun ha x hx => ha x ((step_suffix _).subset hx)
    have hsn : ∀ {a : PS}, (∀ n ∈ a.nodes, Q n) → ∀ n ∈ a.step.nodes, Q n := fun h => by rw [PS.step_nodes]; exact h
    cases m with
    | lev k =>
      rw [px] at h
      split at h
      · exact ih (.neg []) s s' trivial ht hq h
      · obtain ⟨s1, h1, h2⟩ := bindR_ok h
        exact ih (.loop k) s1 s' trivial (hx h1 ht) (ih (.lev (k + 1)) s s1 trivial ht hq h1) h2
    | loop k =>
      rw [px] at h
      split at h
      · injection h with h; injection h with h; subst h; exact hq
      · obtain ⟨s1, h1, h2⟩ := bindR_ok h
        obtain ⟨s2, h3, h4⟩ := bindR_ok h2
        injection h3 with h3
        obtain ⟨e2, _⟩ := add_some h3
        have q1 := ih (.lev (k + 1)) s.step s1 trivial (hst ht) (hsn hq) h1
        exact ih (.loop k) s2 s' trivial (by rw [e2]; exact hx (b := s1) h1 (hst ht)) (by rw [e2]; exact all_snoc q1 (hQ.op _)) h4
    | neg ats =>
      rw [px] at h
      split at h
      · exact ih (.neg (s.now.place :: ats)) s.step s' trivial (hst ht) (hsn hq) h
      · obtain ⟨s1, h1, h2⟩ := bindR_ok h
        obtain ⟨s2, h3, h4⟩ := bindR_ok h2
        injection h4 with h4
        exact all_negs hQ.op h4 (ih .pct s1 s2 trivial (hx h1 ht) (ih .prim s s1 trivial ht hq h1) h3)
    | pct =>
      rw [px] at h
      split at h
      · obtain ⟨s1, h1, h2⟩ := bindR_ok h
        injection h1 with h1
        obtain ⟨e2, _⟩ := add_some h1
        exact ih .pct s1.step s' trivial (hst (by rw [e2]; exact ht)) (hsn (by rw [e2]; exact all_snoc hq (hQ.op _))) h2
      · injection h with h; injection h with h; subst h; exact hq
    | prim =>
      rw [px] at h
      split at h
      · rename_i n hn
        obtain ⟨s1, h1, h2⟩ := bindR_ok h
        injection h1 with h1
        injection h2 with h2; injection h2 with h2; subst h2
        obtain ⟨e2, _⟩ := add_some h1
        exact hsn (by rw [e2]; exact all_snoc hq (hQ.leaf _ _ (ht _ (by simp)) hn))
      · split at h
        · split at h
          · injection h with h; cases h
          · rename_i h4
            obtain ⟨s1, h1, h2⟩ := bindR_ok h
            injection h1 with h1
            obtain ⟨e1, f1, f2⟩ := opens_some h1
            exact ih (.args s.now.str s.now.place []) s1 s' (show s.now.str.size ≤ 16 by omega) (by rw [e1]; exact hst (a := { s.step with opn := s.step.opn + 1 }) (hst ht)) (by rw [e1]; exact hsn (a := { s.step with opn := s.step.opn + 1 }) (hsn hq)) h2
        · obtain ⟨s1, h1, h2⟩ := bindR_ok h
          injection h1 with h1
          obtain ⟨e1, f1, f2⟩ := opens_some h1
          obtain ⟨s2, h3', h4⟩ := bindR_ok h2
          injection h4 with h4
          obtain ⟨e4, _⟩ := closes_some h4
          have ht1 : ∀ x ∈ s1.now :: s1.rest, T x := by rw [e1]; exact hst (a := { s with opn := s.opn + 1 }) ht
          have q1 := ih (.lev 0) s1 s2 trivial ht1 (by rw [e1]; exact hsn (a := { s with opn := s.opn + 1 }) hq) h3'
          rw [e4]; exact hsn (a := { s2 with opn := s2.opn - 1 }) q1
    | args nm pl rects =>
      rw [px] at h
      split at h
      · split at h
        · obtain ⟨s1, h1, h2⟩ := bindR_ok h
          injection h1 with h1
          injection h2 with h2
          obtain ⟨e1, _⟩ := add_some h1
          obtain ⟨e2, _⟩ := closes_some h2
          rw [e2]; exact hsn (a := { s1 with opn := s1.opn - 1 }) (by rw [e1]; exact all_snoc hq (hQ.call _ _ hm))
        · injection h with h; cases h
      · split at h
        · injection h with h; cases h
        · obtain ⟨s1, h1, h2⟩ := bindR_ok h
          injection h1 with h1; injection h1 with h1
          have ht1 : ∀ x ∈ s1.now :: s1.rest, T x := by subst h1; split; exact ht; exact hst ht
          have q1 : ∀ n ∈ s1.nodes, Q n := by subst h1; split; exact hq; exact hsn hq
          split at h2
          · obtain ⟨s2, h3, h4⟩ := bindR_ok h2
            injection h3 with h3
            obtain ⟨e2, _⟩ := add_some h3
            exact ih (.args nm pl (rects ++ [true])) s2.step s' hm (hst (by rw [e2]; exact ht1)) (hsn (by rw [e2]; exact all_snoc q1 (hQ.rect _ (ht1 _ (by simp))))) h4
          · obtain ⟨s2, h3, h4⟩ := bindR_ok h2
            exact ih (.args nm pl (rects ++ [false])) s2 s' hm (hx h3 ht1) (ih (.lev 0) s1 s2 trivial ht1 q1 h3) h4
theorem numV_range {l : List UInt8} : -9223372036854775808 ≤ numV l ∧ numV l ≤ 9223372036854775807 := by
  unfold numV
  cases h : numP l with
  | none => simp
  | some x =>
    unfold numP bodyOf at h
    split at h
    · split at h
      · unfold numOf at h
        split at h
        · cases h
        · split at h
          · injection h with h; subst h
            rename_i hle
            dsimp only
            split
            · exact ⟨by refine Int.le_trans ?_ (Int.neg_le_neg (Int.ofNat_le.2 hle)); decide, by refine Int.le_trans (Int.neg_nonpos_of_nonneg (Int.natCast_nonneg _)) (by decide)⟩
            · exact ⟨Int.le_trans (by decide) (Int.natCast_nonneg _), Int.ofNat_le.2 hle⟩
          · cases h
      · cases h
    · cases h
/-- a token's number is a number -/
def TokR (x : Tok) : Prop := -9223372036854775808 ≤ x.num ∧ x.num ≤ 9223372036854775807
theorem first_R (l : List UInt8) : TokR (firstT l).1 := by
  have z : -9223372036854775808 ≤ (0 : Int) ∧ (0 : Int) ≤ 9223372036854775807 := by omega
  cases l with
  | nil => exact z
  | cons c r =>
    simp only [firstT]
    split
    · unfold nuT; split
      · exact numV_range
      · exact z
    split
    · unfold textT; split <;> exact z
    split
    · unfold codeT; split <;> exact z
    split
    · unfold wordT
      split
      · split
        · split <;> exact z
        · split <;> exact z
      · exact z
    · unfold signT
      split
      · exact z
      · split <;> exact z
theorem toks_R (n : Nat) : ∀ (f : Nat) (l : List UInt8), ∀ x ∈ toks n f l, TokR x
  | 0, l, x, h => by simp [toks] at h
  | f + 1, l, x, h => by
    unfold toks at h
    rcases List.mem_cons.1 h with rfl | h
    · exact first_R (blank l)
    · split at h
      · simp at h
      · exact toks_R n f _ x h
theorem lexL_R (l : List UInt8) : ∀ x ∈ lexL l, TokR x := by
  have z : TokR (tokK 8) := ⟨by simp [tokK], by simp [tokK]⟩
  cases l with
  | nil => intro x h; simp [lexL] at h; subst h; exact z
  | cons b r =>
    intro x h
    simp only [lexL] at h
    split at h
    · exact toks_R _ _ _ x h
    · simp at h; subst h; exact z
theorem okAll : PxAll TokR NL.ok := by
  have z : vl0.ok := ⟨by simp [vl0], by simp [vl0]⟩
  have e : (⟨#[]⟩ : ByteArray).size ≤ 9223372036854775807 := by decide
  refine ⟨fun o => ⟨z, e⟩, fun x n hx hn => ?_, fun x _ => ⟨z, e⟩, fun nm n h => ⟨z, show nm.size ≤ _ by omega⟩⟩
  unfold leafN at hn
  split at hn
  · injection hn with hn; subst hn; exact ⟨hx, e⟩
  split at hn
  · injection hn with hn; subst hn; exact ⟨z, e⟩
  split at hn
  · injection hn with hn; subst hn; exact ⟨z, e⟩
  split at hn
  · injection hn with hn; subst hn; exact ⟨z, e⟩
  split at hn
  · split at hn
    · injection hn with hn; subst hn; exact ⟨z, e⟩
    · split at hn
      · injection hn with hn; subst hn; exact ⟨z, e⟩
      · cases hn
  · cases hn
theorem parseT_all {T : Tok → Prop} {Q : NL → Prop} (hQ : PxAll T Q) (tb : Tb) {ts : List Tok} {s : PS} (ht : ∀ x ∈ ts, T x) (h : parseT tb ts = .ok s) : ∀ n ∈ s.nodes, Q n := by
  cases ts with
  | nil => cases h
  | cons x r =>
    simp only [parseT] at h
    split at h
    · cases h
    · cases h
    · rename_i s1 h1
      split at h
      · injection h with h
        subst h
        exact px_all hQ tb _ (.lev 0) ⟨x, r, 0, []⟩ s1 trivial ht (by simp) h1
      · cases h
theorem parse_okn (tb : Tb) (l : List UInt8) {s : PS} (h : parseT tb (lexL l) = .ok s) : ∀ n ∈ s.nodes, n.ok := parseT_all okAll tb (lexL_R l) h
end Go.Proofs.YtfbkoieodflcpaaGreatDoor
