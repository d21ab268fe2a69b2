/-
  Plain: a blank where a token begins moves the places behind it, no more; The tokens of a text with a closing bracket put behind; Plain: brackets around the whole of a text that is read.
-/
import Derived.Test.YtiekhbagpmnboaaGreatDoorMg1
import Derived.Test.YtiekhbagpmnboaaGreatDoorRows
import Derived.Test.YtiekhbagpmnboaaGreatDoorMg0
import Derived.Test.YtiekhbagpmnboaaGreatDoorProg
import Derived.Test.YtiekhbagpmnboaaGreatDoorAddrC
import Derived.Test.YtiekhbagpmnboaaGreatDoorMg3
import Derived.Test.YtiekhbagpmnboaaGreatDoorMg4
import Derived.Test.YtiekhbagpmnboaaGreatDoorValA
import Derived.Test.YtiekhbagpmnboaaGreatDoorValB
import Derived.Test.YtiekhbagpmnboaaGreatDoorMg7
import Derived.Test.YtiekhbagpmnboaaGreatDoorLexP
import Derived.Test.YtiekhbagpmnboaaGreatDoorMg9
import Derived.Test.YtiekhbagpmnboaaGreatDoorPaP
import Derived.Test.YtiekhbagpmnboaaGreatDoorMg15
import Derived.Test.YtiekhbagpmnboaaGreatDoorPaM
import Derived.Test.YtiekhbagpmnboaaGreatDoorMg22
import Derived.Test.YtiekhbagpmnboaaGreatDoorMg23
import Derived.Test.YtiekhbagpmnboaaGreatDoorLexR
import Derived.Test.YtiekhbagpmnboaaGreatDoorLexWd
import Derived.Test.YtiekhbagpmnboaaGreatDoorMg26
import Derived.Test.YtiekhbagpmnboaaGreatDoorMg27
import Derived.Test.YtiekhbagpmnboaaGreatDoorLexS
import Derived.Test.YtiekhbagpmnboaaGreatDoorDDig
import Derived.Test.YtiekhbagpmnboaaGreatDoorDParse
import Derived.Test.YtiekhbagpmnboaaGreatDoorLexF
import Derived.Test.YtiekhbagpmnboaaGreatDoorLexN
import Derived.Test.YtiekhbagpmnboaaGreatDoorRDPar
import Derived.Test.YtiekhbagpmnboaaGreatDoorRDParB
import Derived.Test.YtiekhbagpmnboaaGreatDoorRDJoin
import Derived.Test.YtiekhbagpmnboaaGreatDoorLexD
import Derived.Test.YtiekhbagpmnboaaGreatDoorLexB
import Derived.Test.YtiekhbagpmnboaaGreatDoorLexI
import Derived.Test.YtiekhbagpmnboaaGreatDoorMg40
import Derived.Test.YtiekhbagpmnboaaGreatDoorPaB
import Derived.Lib.ItoaMem
import Derived.Lib.TrimByte
import Derived.Lib.IndexLaws
import Derived.Lib.SlTrimSet
import Derived.Lib.ParseIntB
import Derived.WalkKit
import Derived.ProofKit
import Derived.OpenShut
import Derived.Carry
import Derived.ChangeSame
import Derived.Lib.Hide
import Derived.Deep.Draws
import Derived.Shelf.Strings.Builder1
import Derived.Shelf.Strings.Trim
import Derived.Shelf.Small.Utf8
import Derived.Shelf.Small.Strs
import Derived.Shelf.Small.Wraps
import Derived.Shelf.Strings.BuilderF
import Derived.Shelf.Strings.BuilderK
import Derived.Shelf.Strconv.Itoa0
import Derived.Shelf.Strconv.Itoa1
import Derived.Shelf.LaysM
import Derived.Shelf.Strconv.Itoa2
import Derived.Shelf.Strconv.Itoa3
import Derived.Ground.MpProg
import Derived.Shelf.Pu.ParseUintPublic10
import Derived.Shelf.Strings.Search1
import Derived.Shelf.Strings.Search2
import Derived.Shelf.Strings.Cut
import Derived.Shelf.Strings.Shaped
import Derived.Shelf.Strings.Prefix
import Derived.Shelf.Strings.Runes
import Derived.Shelf.Strings.AsciiSet
import Derived.Shelf.Unicode.DecodeSlow
import Derived.WalkSpells
import Derived.WalkLawsBesides
import Derived.StillTactics
import Derived.Laws.Pointers
import Derived.Deep.RegionHeld3
import Derived.Deep.QuietTactic
import Derived.BigQuiet
import Derived.RowKit3
import Derived.Lib.OthersKept
import Derived.OwnWalk
import Derived.Lib.ItoaNum
import Derived.Maps.OwnSet
import Derived.Maps.AppendAt
import Derived.Shelf.Strings.SlTrimAscii
import Derived.Lib.SmallJoins
import Derived.RangeFuncBox
import Derived.RangeFuncNested
import Derived.RangeFuncLeaves
import Derived.Shelf.Abstract
import Derived.OwnWalkIn
import Derived.TacticsInMore
import Derived.LoopNIn
import Derived.LoopIn
import Derived.Maps.OwnIn
namespace Go.Proofs.YtiekhbagpmnboaaGreatDoor
open Go.RowKit

theorem blank_law2 (b : UInt8) (r : List UInt8) (h61 : b.toNat = 61) (k : Nat) (x : Tok) (hx : (lexL (b :: r))[k]? = some x) : ∃ fr : Nat, x.place = (fr : Int) ∧ fr ≤ (b :: r).length ∧
    lexL ((b :: r).take fr ++ 32 :: (b :: r).drop fr) = (lexL (b :: r)).take k ++ ((lexL (b :: r)).drop k).map Tok.shift := by
  have e : lexL (b :: r) = toks (b :: r).length (r.length + 1) r := by simp [lexL, h61]
  rw [e] at hx ⊢
  have hle : r.length ≤ (b :: r).length := by simp
  have h1 := toks_in _ _ _ hle k x hx
  simp at h1
  obtain ⟨o, ho⟩ : ∃ o : Nat, x.place = (o : Int) + 1 := ⟨(x.place - 1).toNat, by omega⟩
  have hi := toks_ins (b :: r).length (r.length + 1) r (by omega) hle k x o hx (by simp; omega) (r.length + 1 + 1) (by omega)
  refine ⟨o + 1, by omega, by simp; omega, ?_⟩
  rw [← hi, List.take_succ_cons, List.drop_succ_cons, List.cons_append]
  have hlen : (r.take o ++ 32 :: r.drop o).length = r.length + 1 := by simp; omega
  simp only [lexL]
  rw [if_pos h61, List.length_cons, hlen, List.length_cons]
def up1 (t p : Int) : Int := if t ≤ p then p + 1 else p
theorem laws_mono {l : List UInt8} {ts : List Tok} (h : TokLaws l ts) : ∀ (d k : Nat) (x y : Tok), ts[k]? = some x → ts[k + d + 1]? = some y → x.place < y.place
  | 0, k, x, y, hx, hy => h.rise k x y hx hy
  | d + 1, k, x, y, hx, hy => by
    have hlt : k + d + 1 < ts.length := by have := (List.getElem?_eq_some_iff.1 hy).1; omega
    have hz := List.getElem?_eq_getElem hlt
    have h1 := laws_mono h d k x _ hx hz
    have h2 := h.rise (k + d + 1) _ y hz hy
    omega
theorem shift_mv {l : List UInt8} {ts : List Tok} (h : TokLaws l ts) (k : Nat) (x : Tok) (hx : ts[k]? = some x) : ts.take k ++ (ts.drop k).map Tok.shift = ts.map (Tok.mv (up1 x.place)) := by
  have hk : k < ts.length := (List.getElem?_eq_some_iff.1 hx).1
  apply List.ext_getElem?
  intro i
  rw [List.getElem?_map]
  by_cases hi : i < k
  · rw [List.getElem?_append_left (by rw [List.length_take]; omega), List.getElem?_take_of_lt hi]
    obtain ⟨y, hy⟩ : ∃ y, ts[i]? = some y := ⟨_, List.getElem?_eq_getElem (by omega)⟩
    have := laws_mono h (k - i - 1) i y x hy (by rw [show i + (k - i - 1) + 1 = k by omega]; exact hx)
    rw [hy]
    simp only [Option.map_some, Tok.mv, up1]
    rw [if_neg (by omega)]
    rfl
  · rw [List.getElem?_append_right (by rw [List.length_take]; omega), List.length_take, Nat.min_eq_left (by omega), List.getElem?_map, List.getElem?_drop, show k + (i - k) = i by omega]
    cases hy : ts[i]? with
    | none => rfl
    | some y =>
      have : x.place ≤ y.place := by
        by_cases hik : i = k
        · subst hik; rw [hx] at hy; injection hy with hy; subst hy; exact Int.le_refl _
        · have := laws_mono h (i - k - 1) k x y hx (by rw [show k + (i - k - 1) + 1 = i by omega]; exact hy)
          omega
      simp only [Option.map_some, Tok.mv, up1, Tok.shift]
      rw [if_pos this]
theorem parseT_mv (tb : Tb) (φ : Int → Int) (ts : List Tok) (hw : ∃ l x, ts = l ++ [x] ∧ x.last = true) : parseT tb (ts.map (Tok.mv φ)) = (parseT tb ts).mv φ := by
  cases ts with
  | nil => obtain ⟨l, x, e, _⟩ := hw; simp at e
  | cons x r =>
    have h := px_mv tb φ (8 * r.length + 16) (.lev 0) ⟨x, r, 0, []⟩
    simp only [List.map_cons, parseT, List.length_map]
    change px tb (8 * r.length + 16) (.lev 0) ⟨Tok.mv φ x, r.map (Tok.mv φ), 0, []⟩ = _ at h
    rw [h]
    obtain ⟨q, hq⟩ : ∃ q, px tb (8 * r.length + 16) (.lev 0) ⟨x, r, 0, []⟩ = q := ⟨_, rfl⟩
    rw [hq]
    cases q with
    | none =>
      obtain ⟨q, e, _⟩ := px_total tb (8 * r.length + 16) (.lev 0) ⟨x, r, 0, []⟩ hw (show 0 ≤ 4 by omega) (by simp only [Md.rank]; omega)
      rw [hq] at e; cases e
    | some q =>
      cases q with
      | bad e a => rfl
      | ok s =>
        simp only [Option.map_some, PR.mv]
        show (if s.now.kind = 0 then _ else _) = _
        split <;> rfl
theorem lexL_last (l : List UInt8) : ∃ m x, lexL l = m ++ [x] ∧ x.last = true := by
  have hl := lexL_laws l
  have hne := hl.ne
  refine ⟨(lexL l).dropLast, (lexL l).getLast (List.ne_nil_of_length_pos hne), (List.dropLast_concat_getLast _).symm, ?_⟩
  have := hl.last ((lexL l).length - 1) _ (by rw [List.getElem?_eq_getElem (by omega), ← List.getLast_eq_getElem (List.ne_nil_of_length_pos hne)])
  rw [this]; simp; omega
/-- a blank put in where a token begins: the same, but for the places behind it -/
theorem blank_parse (tb : Tb) (b : UInt8) (r : List UInt8) (h61 : b.toNat = 61) (k : Nat) (x : Tok) (hx : (lexL (b :: r))[k]? = some x) : ∃ fr : Nat, x.place = (fr : Int) ∧ fr ≤ (b :: r).length ∧
    parseT tb (lexL ((b :: r).take fr ++ 32 :: (b :: r).drop fr)) = (parseT tb (lexL (b :: r))).mv (up1 fr) := by
  obtain ⟨fr, h1, h2, h3⟩ := blank_law2 b r h61 k x hx
  refine ⟨fr, h1, h2, ?_⟩
  rw [h3, shift_mv (lexL_laws _) k x hx, parseT_mv tb _ _ (lexL_last _), h1]
theorem parse_noeq (tb : Tb) (l : List UInt8) (h : ∀ b, l.head? = some b → b.toNat ≠ 61) : parseT tb (lexL l) = .bad 8 0 := by
  rw [lexL_no h]
  rfl
end Go.Proofs.YtiekhbagpmnboaaGreatDoor
namespace Go.Proofs.YtiekhbagpmnboaaGreatDoor
open Go.RowKit

def OkR2 (l : List UInt8) (n : Nat) (r : List UInt8) : Prop := (∀ b, r.head? = some b → b.toNat = 32 ∨ b.toNat = 41) ∨ r.head? = (l.drop n).head?
theorem OkR2.no {l : List UInt8} {n : Nat} {r : List UInt8} (h : OkR2 l n r) (p : UInt8 → Bool) (hp : ∀ b : UInt8, b.toNat = 32 ∨ b.toNat = 41 → p b = false) (hd : ∀ b, (l.drop n).head? = some b → p b = false) (b : UInt8) (hb : r.head? = some b) : p b = false := by
  rcases h with h | h
  · exact hp b (h b hb)
  · exact hd b (by rw [← h]; exact hb)
theorem first_gen2 (l r : List UInt8) (h : (firstT l).1.last = false) (hr : OkR2 l (firstT l).2 r) : firstT (l.take (firstT l).2 ++ r) = firstT l := by
  have hs := first_small l h
  cases l with
  | nil => simp [firstT, Tok.last, tokK] at h
  | cons c l =>
    obtain ⟨n, hn⟩ : ∃ n, (firstT (c :: l)).2 = n + 1 := ⟨(firstT (c :: l)).2 - 1, by omega⟩
    have hform : (c :: l).take (firstT (c :: l)).2 ++ r = c :: (l.take n ++ r) := by rw [hn]; simp
    rw [hform]
    have hform' : (c :: l).take (firstT (c :: l)).2 ++ r = c :: (l.take n ++ r) := hform
    simp only [firstT] at h hform' hr ⊢
    split
    · rename_i hc
      rw [if_pos hc] at h hform' hr
      unfold nuT at h hform' hr
      split at h
      · rename_i hk
        rw [if_pos hk] at hform' hr
        dsimp only at hform' hr
        rw [← takeWhile_take] at hform'
        unfold nuT
        rw [← hform', takeWhile_end numB r (hr.no numB (fun b h => by rcases h with h | h <;> simp [numB, isDig, h]) (drop_head numB _))]
      · simp [Tok.last, tokK] at h
    · rename_i hc
      rw [if_neg hc] at h hform' hr
      split
      · rename_i hd
        rw [if_pos hd] at h hform' hr
        unfold textT at h hform' hr
        cases hq : quoteG ((c :: l).drop 1) with
        | none => rw [hq] at h; simp [Tok.last, tokK] at h
        | some x =>
          rw [hq] at hform' hr
          dsimp only at hform' hr
          rw [List.take_succ_cons, List.cons_append] at hform'
          have h8 := (List.cons.inj hform').2
          have hq34 : ∀ b, r.head? = some b → b.toNat ≠ 34 := fun b hb => by
            have := hr.no (fun b => decide (b.toNat = 34)) (fun b h => by rcases h with h | h <;> simp [h]) (fun b hb2 => by simpa using quote_head _ x hq b (by simpa using hb2)) b hb
            simpa using this
          have := quote_alone r hq34 _ x hq
          unfold textT
          simp only [List.drop_one, List.tail_cons] at this hq ⊢
          rw [← h8, this, hq]
      · rename_i hd
        rw [if_neg hd] at h hform' hr
        split
        · rename_i he
          rw [if_pos he] at h hform' hr
          unfold codeT at h hform' hr
          split at h
          · rename_i hk
            rw [if_pos hk] at hform' hr
            dsimp only at hform' hr
            have h3 := hk.2.2
            have hdr := drop_takeWhile bangB (c :: l)
            have hsome : ∃ s, (c :: l).take (((c :: l).takeWhile bangB).length + 1) = (c :: l).takeWhile bangB ++ s ∧ s.length = 1 ∧ ∀ b ∈ s, b.toNat = 33 := by
              have h7 := List.takeWhile_append_dropWhile (p := bangB) (l := c :: l)
              cases hdw : (c :: l).dropWhile bangB with
              | nil => rw [hdw] at h7; rw [List.append_nil] at h7; rw [h7] at h3; exact absurd h3 (Nat.lt_irrefl _)
              | cons d a =>
                rw [hdw] at h7
                refine ⟨[d], ?_, rfl, fun b hb => ?_⟩
                · generalize (c :: l).takeWhile bangB = W at *
                  rw [← h7, List.take_append, List.take_of_length_le (by omega), show W.length + 1 - W.length = 1 by omega]; simp
                · simp at hb; subst hb
                  have := dropWhile_head bangB _ _ _ hdw
                  simpa [bangB] using this
            obtain ⟨s, h4, h5, h6⟩ := hsome
            rw [h4] at hform'
            obtain ⟨d, rfl⟩ := List.length_eq_one_iff.1 h5
            have hd33 := h6 d (by simp)
            have key : ∀ a : List UInt8, a.all bangB = true → (a ++ (d :: r)).takeWhile bangB = a := by
              intro a
              induction a with
              | nil => intro _; simp [bangB, hd33]
              | cons x a ih => intro ha; simp at ha; rw [List.cons_append, List.takeWhile_cons, if_pos ha.1, ih (by simpa using ha.2)]
            have key2 := key _ (takeWhile_all bangB (c :: l))
            unfold codeT
            rw [← hform', List.append_assoc, List.singleton_append, key2, if_pos hk, if_pos ⟨hk.1, hk.2.1, by simp⟩]
          · simp [Tok.last, tokK] at h
        · rename_i he
          rw [if_neg he] at h hform' hr
          split
          · rename_i hu
            rw [if_pos hu] at h hform' hr
            unfold wordT at h hform' hr
            split at h
            · rename_i hm
              rw [if_pos hm] at hform' hr
              split at h
              · rename_i hcol
                rw [if_pos hcol] at hform' hr
                split at h
                · rename_i hq
                  rw [if_pos hq] at hform' hr
                  dsimp only at hform' hr
                  have hw := takeWhile_all partB (c :: l)
                  have hdr := drop_takeWhile partB (c :: l)
                  have hsplit : ∃ d a, (c :: l) = (c :: l).takeWhile partB ++ d :: a ∧ d.toNat = 58 := by
                    have h7 := List.takeWhile_append_dropWhile (p := partB) (l := c :: l)
                    rw [colonB, hdr] at hcol
                    cases hdw : (c :: l).dropWhile partB with
                    | nil => rw [hdw] at hcol; simp at hcol
                    | cons d a => rw [hdw] at h7 hcol; exact ⟨d, a, h7.symm, by simpa using hcol⟩
                  obtain ⟨d, a, hsp, hd58⟩ := hsplit
                  have hd' : d = 58 := by rw [← UInt8.toNat_inj]; exact hd58
                  subst hd'
                  generalize hW : (c :: l).takeWhile partB = W at *
                  have hdrop : (c :: l).drop (W.length + 1) = a := by rw [hsp]; simp
                  have hN : rectN (c :: l) = W.length + 1 + (a.takeWhile partB).length := by unfold rectN; rw [hW, hdrop]
                  have htake : (c :: l).take (rectN (c :: l)) = W ++ 58 :: a.takeWhile partB := by
                    rw [hN, hsp, List.take_append, List.take_of_length_le (by omega), show W.length + 1 + (a.takeWhile partB).length - W.length = (a.takeWhile partB).length + 1 by omega, List.take_succ_cons, ← takeWhile_take]
                  rw [htake] at hform'
                  rw [htake] at hq
                  have hform2 : c :: (l.take n ++ r) = W ++ 58 :: (a.takeWhile partB ++ r) := by rw [← hform']; simp
                  have e1 : (c :: (l.take n ++ r)).takeWhile partB = W := by rw [hform2]; exact word_colon _ W hw
                  have e2 : (c :: (l.take n ++ r)).drop (W.length + 1) = a.takeWhile partB ++ r := by rw [hform2]; simp
                  have hr2 : ∀ b, r.head? = some b → partB b = false := hr.no partB (fun b h => by rcases h with h | h <;> simp [partB, upB, isDig, h]) (fun b hb => by
                    rw [hN, show W.length + 1 + (a.takeWhile partB).length = (W.length + 1) + (a.takeWhile partB).length by omega, ← List.drop_drop, hdrop] at hb
                    exact drop_head partB a b hb)
                  have e3 : rectN (c :: (l.take n ++ r)) = rectN (c :: l) := by unfold rectN; rw [e1, e2, takeWhile_end partB r hr2 a, hW, hdrop]
                  have e4 : (c :: (l.take n ++ r)).take (rectN (c :: l)) = W ++ 58 :: a.takeWhile partB := by
                    rw [hform2, hN, List.take_append, List.take_of_length_le (by omega), show W.length + 1 + (a.takeWhile partB).length - W.length = (a.takeWhile partB).length + 1 by omega, List.take_succ_cons, List.take_append_of_le_length (Nat.le_refl _), List.take_length]
                  have e5 : colonB (c :: (l.take n ++ r)) = true := by unfold colonB; rw [e1, hform2]; simp
                  unfold wordT
                  rw [e1, if_pos hm, e5, if_pos rfl, e3, e4, if_pos hq, hW, if_pos hm, if_pos hcol, htake, if_pos hq]
                · simp [Tok.last, tokK] at h
              · rename_i hcol
                rw [if_neg hcol] at hform' hr
                split at h
                · rename_i hq
                  rw [if_pos hq] at hform' hr
                  dsimp only at hform' hr
                  rw [← takeWhile_take] at hform'
                  have e1 := (takeWhile_end partB r (hr.no partB (fun b h => by rcases h with h | h <;> simp [partB, upB, isDig, h]) (drop_head partB _)) (c :: l))
                  have hno := hr.no (fun b => decide (b.toNat = 58)) (fun b h => by rcases h with h | h <;> simp [h]) (fun b hb => by
                    rw [colonB, hb] at hcol; simpa using hcol)
                  have e5 : colonB ((c :: l).takeWhile partB ++ r) = false := by
                    unfold colonB; rw [e1, List.drop_left]
                    cases hrh : r.head? with
                    | none => simp
                    | some d => simpa using hno d hrh
                  unfold wordT
                  rw [← hform', e1, if_pos hm, e5, if_neg (by simp), if_pos hq, if_pos hm, if_neg hcol]
                · simp [Tok.last, tokK] at h
            · rename_i hm
              rw [if_neg hm] at hform' hr
              dsimp only at hform' hr
              rw [← takeWhile_take] at hform'
              have e1 := (takeWhile_end partB r (hr.no partB (fun b h => by rcases h with h | h <;> simp [partB, upB, isDig, h]) (drop_head partB _)) (c :: l))
              unfold wordT
              rw [← hform', e1, if_neg hm, if_neg hm]
          · rename_i hu
            rw [if_neg hu] at h hform' hr
            unfold signT at h hform' hr
            split at h
            · rename_i ht
              rw [if_pos ht] at hform' hr
              dsimp only at hform' hr
              have h2 : 2 ≤ (c :: l).length := by
                cases l with
                | nil => simp [twoB] at ht
                | cons d r => simp
              have e1 := take_len (c :: l) r 2 h2
              unfold signT
              rw [← hform', twoB, e1, if_pos (by exact ht), if_pos ht]
            · rename_i ht
              rw [if_neg ht] at hform' hr
              split at h
              · rename_i hsg
                rw [if_pos hsg] at hform' hr
                dsimp only at hform' hr
                have e2 : twoB ([c] ++ r) = false := by
                  rcases hr with hr | hr
                  · cases r with
                    | nil => simp [twoB]
                    | cons d r =>
                      rcases hr d (by simp) with hd2 | hd2
                      · have hd' : d = 32 := by rw [← UInt8.toNat_inj]; exact hd2
                        subst hd'
                        simp [twoB]
                      · have hd' : d = 41 := by rw [← UInt8.toNat_inj]; exact hd2
                        subst hd'
                        simp [twoB]
                  · have : ([c] ++ r).take 2 = (c :: l).take 2 := by
                      cases r <;> cases l <;> simp at hr ⊢
                      exact hr
                    rw [twoB, this]; simpa [twoB] using ht
                have e3 : (c :: l).take 1 = [c] := by simp
                have e4 : ([c] ++ r).head?.any signs.contains = true := hsg
                unfold signT
                rw [← hform', e3, e2, if_neg (by simp), if_neg ht, if_pos e4, if_pos hsg]
                simp
              · simp [Tok.last, tokK] at h
theorem blank_app (l r : List UInt8) (h : blank l ≠ []) : blank (l ++ r) = blank l ++ r := by
  unfold blank at *
  induction l with
  | nil => simp at h
  | cons b l ih =>
    rw [List.dropWhile_cons] at h
    rw [List.cons_append, List.dropWhile_cons, List.dropWhile_cons]
    split
    · rename_i hb; rw [if_pos hb] at h; exact ih h
    · rfl
theorem blank_nil (l r : List UInt8) (h : blank l = []) : blank (l ++ r) = blank r := by
  unfold blank at *
  induction l with
  | nil => rfl
  | cons b l ih =>
    rw [List.dropWhile_cons] at h
    rw [List.cons_append, List.dropWhile_cons]
    split
    · rename_i hb; rw [if_pos hb] at h; exact ih h
    · rename_i hb; rw [if_neg hb] at h; cases h
/-- ')' put behind a text without a fault: its token, then the end -/
theorem toks_close (n : Nat) : ∀ (f : Nat) (l : List UInt8), l.length < f → (∀ x ∈ toks n f l, x.kind ≠ 8) → ∀ g, l.length + 1 < g → ∃ (m : List Tok) (e : Tok), toks n f l = m ++ [e] ∧ e.kind = 0 ∧ (∀ x ∈ m, x.last = false) ∧ toks (n + 1) g (l ++ [41]) = m ++ [(tokS 7 [41]).put (n : Int), (tokK 0).put ((n : Int) + 1)]
  | 0, l, h => by omega
  | f + 1, l, hf => fun h8 g hg => by
    obtain ⟨g, rfl⟩ : ∃ g', g = g' + 1 := ⟨g - 1, by omega⟩
    by_cases hb : blank l = []
    · obtain ⟨g, rfl⟩ : ∃ g', g = g' + 1 := ⟨g - 1, by omega⟩
      refine ⟨[], (tokK 0).put n, ?_, rfl, fun x hx => by simp at hx, ?_⟩
      · rw [toks, hb]; simp [firstT, tokK, Tok.last, Tok.put]
      · have e1 : blank (l ++ [41]) = [41] := by rw [blank_nil l _ hb]; rfl
        have e2 : firstT [41] = (tokS 7 [41], 1) := by rfl
        rw [toks, e1, e2]
        have e3 : (tokS 7 [41]).last = false := rfl
        rw [e3, if_neg (by simp), toks]
        have e4 : blank (List.drop 1 [(41 : UInt8)]) = [] := rfl
        rw [e4]
        simp [firstT, tokK, Tok.last, Tok.put]
    · have hlast : (firstT (blank l)).1.last = false := by
        cases hx : (firstT (blank l)).1.last with
        | false => rfl
        | true =>
          have hk : (firstT (blank l)).1.kind = 0 ∨ (firstT (blank l)).1.kind = 8 := by simpa [Tok.last] using hx
          rcases hk with hk | hk
          · exact absurd (first_end _ hk) hb
          · exact absurd hk (h8 ((firstT (blank l)).1.put ((n : Int) - (blank l).length)) (by rw [toks]; simp))
      have hs := first_small _ hlast
      have hle := blank_le l
      have hto : toks n (f + 1) l = (firstT (blank l)).1.put ((n : Int) - (blank l).length) :: toks n f ((blank l).drop (firstT (blank l)).2) := by
        rw [toks, hlast, if_neg (by simp)]
      rw [hto] at h8 ⊢
      obtain ⟨m, e, h1, h2, h3, h4⟩ := toks_close n f ((blank l).drop (firstT (blank l)).2) (by rw [List.length_drop]; omega) (fun x hx => h8 x (by simp [hx])) g (by rw [List.length_drop]; omega)
      refine ⟨(firstT (blank l)).1.put ((n : Int) - (blank l).length) :: m, e, by rw [h1]; simp, h2, ?_, ?_⟩
      · intro x hx
        rcases List.mem_cons.1 hx with rfl | hx
        · exact hlast
        · exact h3 x hx
      · have e1 : blank (l ++ [41]) = blank l ++ [41] := blank_app l _ hb
        have e2 : firstT (blank l ++ [41]) = firstT (blank l) := by
          have := first_gen2 (blank l) ((blank l).drop (firstT (blank l)).2 ++ [41]) hlast (by
            cases hd : (blank l).drop (firstT (blank l)).2 with
            | nil => exact .inl (fun b hb => by simp at hb; subst hb; exact .inr rfl)
            | cons a r => exact .inr (by simp [hd]))
          rwa [← List.append_assoc, List.take_append_drop] at this
        rw [toks, e1, e2, hlast, if_neg (by simp), List.drop_append_of_le_length hs.2, h4]
        simp only [List.cons_append, List.length_append, List.length_singleton]
        congr 2
        omega
theorem lexL_close (r : List UInt8) (h8 : ∀ x ∈ lexL (61 :: r), x.kind ≠ 8) : ∃ (m : List Tok) (e : Tok), lexL (61 :: r) = m ++ [e] ∧ e.kind = 0 ∧ (∀ x ∈ m, x.last = false) ∧ lexL (61 :: 40 :: (r ++ [41])) = (tokS 7 [40]).put 1 :: (m.map Tok.shift ++ [(tokS 7 [41]).put ((r.length : Int) + 2), (tokK 0).put ((r.length : Int) + 3)]) := by
  have e : lexL (61 :: r) = toks (r.length + 1) (r.length + 1) r := rfl
  rw [e] at h8 ⊢
  obtain ⟨m, e, h1, h2, h3, h4⟩ := toks_close (r.length + 1) (r.length + 1) r (by omega) h8 (r.length + 1 + 1) (by omega)
  refine ⟨m, e, h1, h2, h3, ?_⟩
  have e1 : lexL (61 :: 40 :: (r ++ [41])) = toks (r.length + 1 + 1 + 1) (r.length + 1 + 1 + 1) (40 :: (r ++ [41])) := by
    simp [lexL]
  have e2 : blank (40 :: (r ++ [41])) = 40 :: (r ++ [41]) := rfl
  have e3 : firstT (40 :: (r ++ [41])) = (tokS 7 [40], 1) := by
    simp only [firstT]
    rw [if_neg (by decide), if_neg (by decide), if_neg (by decide), if_neg (by decide)]
    unfold signT
    have h2 : twoB (40 :: (r ++ [41])) = false := by simp [twoB]
    rw [h2, if_neg (by simp)]
    rfl
  have e4 : (tokS 7 [40]).last = false := rfl
  rw [e1, toks, e2, e3, e4, if_neg (by simp), List.drop_one, List.tail_cons, toks_shift, h4]
  simp [Tok.shift, Tok.put, tokS, tokK]
  omega
end Go.Proofs.YtiekhbagpmnboaaGreatDoor
namespace Go.Proofs.YtiekhbagpmnboaaGreatDoor
open Go.RowKit

def opB (x : Tok) : Bool := decide (x.kind = 7) && decide (x.str = ⟨#[40]⟩)
def cnt40 (l : List UInt8) : Nat := l.countP fun b => decide (b.toNat = 40)
theorem first_open (l : List UInt8) (h : opB (firstT l).1 = true) : ∃ b r, l = b :: r ∧ b.toNat = 40 ∧ (firstT l).2 = 1 := by
  have hk : (firstT l).1.kind = 7 := by simp [opB] at h; exact h.1
  have hs : (firstT l).1.str = ⟨#[40]⟩ := by simp [opB] at h; exact h.2
  clear h
  cases l with
  | nil => simp [firstT, tokK] at hk
  | cons c r =>
    simp only [firstT] at hk hs ⊢
    split at hk
    · unfold nuT at hk; split at hk <;> simp [tokNum, tokK] at hk
    rename_i h1
    rw [if_neg h1] at hs ⊢
    split at hk
    · unfold textT at hk; split at hk <;> simp [tokS, tokK] at hk
    rename_i h2
    rw [if_neg h2] at hs ⊢
    split at hk
    · unfold codeT at hk; split at hk <;> simp [tokCode, tokK] at hk
    rename_i h3
    rw [if_neg h3] at hs ⊢
    split at hk
    · unfold wordT at hk
      split at hk
      · split at hk
        · split at hk <;> simp [tokRect, tokK] at hk
        · split at hk <;> simp [tokCell, tokK] at hk
      · simp [tokS] at hk
    rename_i h4
    rw [if_neg h4] at hs ⊢
    unfold signT at hk hs ⊢
    split at hk
    · rename_i h5
      rw [if_pos h5] at hs
      exfalso
      simp only [twoB, Bool.or_eq_true, decide_eq_true_eq] at h5
      simp only [tokS] at hs
      rcases h5 with (h5 | h5) | h5 <;> rw [h5] at hs <;> exact absurd hs (by decide +kernel)
    · rename_i h5
      rw [if_neg h5] at hs ⊢
      split at hk
      · rename_i h6
        rw [if_pos h6] at hs ⊢
        refine ⟨c, r, rfl, ?_, rfl⟩
        simp only [tokS, List.take_succ_cons, List.take_zero] at hs
        have h7 : [c] = [40] := by
          have h8 : (#[c] : Array UInt8) = #[40] := congrArg ByteArray.data hs
          simpa using h8
        injection h7 with h7
        rw [h7]; rfl
      · simp [tokK] at hk
theorem cnt_blank (l : List UInt8) : cnt40 (blank l) = cnt40 l := by
  obtain ⟨B, hB, hBa⟩ := blank_form l
  have : cnt40 B = 0 := by
    unfold cnt40
    rw [List.countP_eq_zero]
    intro b hb
    have := List.all_eq_true.1 hBa b hb
    simp at this ⊢; omega
  rw [show cnt40 l = cnt40 (B ++ blank l) by rw [← hB]]
  unfold cnt40 at *
  rw [List.countP_append, this]; omega
theorem cnt_drop (l : List UInt8) (n : Nat) : cnt40 (l.drop n) ≤ cnt40 l := (List.drop_sublist n l).countP_le
theorem toks_cnt (n : Nat) : ∀ (f : Nat) (l : List UInt8), (toks n f l).countP opB ≤ cnt40 l
  | 0, l => by simp [toks]
  | f + 1, l => by
    have hb := cnt_blank l
    have ih := toks_cnt n f ((blank l).drop (firstT (blank l)).2)
    rw [toks, List.countP_cons]
    have hp : opB ((firstT (blank l)).1.put ((n : Int) - (blank l).length)) = opB (firstT (blank l)).1 := rfl
    rw [hp]
    have hle : (if (firstT (blank l)).1.last = true then [] else toks n f ((blank l).drop (firstT (blank l)).2)).countP opB ≤ cnt40 ((blank l).drop (firstT (blank l)).2) := by
      split
      · simp
      · exact ih
    by_cases ho : opB (firstT (blank l)).1 = true
    · rw [if_pos ho]
      obtain ⟨b, r, e, h40, h1⟩ := first_open _ ho
      have h3 : cnt40 (b :: r) = cnt40 r + 1 := by unfold cnt40; rw [List.countP_cons, if_pos (by simp [h40])]
      have h4 : cnt40 ((blank l).drop (firstT (blank l)).2) = cnt40 r := by rw [h1, e]; rfl
      rw [h4] at hle
      rw [← hb, e, h3]
      rw [e] at hle
      omega
    · rw [if_neg ho]
      have := cnt_drop (blank l) (firstT (blank l)).2
      omega
theorem lexL_cnt (r : List UInt8) : (lexL (61 :: r)).countP opB ≤ cnt40 (61 :: r) := by
  have e : lexL (61 :: r) = toks (r.length + 1) (r.length + 1) r := rfl
  rw [e]
  refine Nat.le_trans (toks_cnt _ _ _) ?_
  unfold cnt40; rw [List.countP_cons]; omega
theorem px_levS (tb : Tb) (f k : Nat) (s : PS) (h : k ≠ 4) : px tb (f + 1) (.lev k) s = bindR (px tb f (.lev (k + 1)) s) (px tb f (.loop k)) := by rw [px, if_neg h]
theorem px_lev4 (tb : Tb) (f : Nat) (s : PS) : px tb (f + 1) (.lev 4) s = px tb f (.neg []) s := by rw [px, if_pos rfl]
theorem is_no {s : PS} (h : s.now.kind = 0) (c : List UInt8) : s.is c = false := by simp [PS.is, h]
theorem px_loop0 (tb : Tb) (f k : Nat) {s : PS} (h : s.now.kind = 0) : px tb (f + 1) (.loop k) s = some (.ok s) := by
  have : s.sig (sgn k) = none := by
    unfold PS.sig
    rw [List.find?_eq_none.2 (fun x _ => by simp [is_no h])]
    rfl
  rw [px, this]
theorem px_pct0 (tb : Tb) (f : Nat) {s : PS} (h : s.now.kind = 0) : px tb (f + 1) .pct s = some (.ok s) := by
  rw [px, is_no h, if_neg (by simp)]
/-- a part in brackets, alone -/
theorem px_paren (tb : Tb) (g : Nat) (s t : PS) (hi : s.is [40] = true) (ho : s.opens = .ok t) : (∀ a, px tb g (.lev 0) t = some (.bad 7 a) → px tb (g + 7) (.lev 0) s = some (.bad 7 a)) ∧ (∀ t' u, px tb g (.lev 0) t = some (.ok t') → t'.closes = .ok u → u.now.kind = 0 → px tb (g + 7) (.lev 0) s = some (.ok u)) := by
  have hk := PS.is_kind hi
  have h45 : s.is [45] = false := by
    cases h : s.is [45] with
    | false => rfl
    | true =>
      simp only [PS.is, Bool.and_eq_true, decide_eq_true_eq] at hi h
      have := hi.2.symm.trans h.2
      exact absurd this (by decide +kernel)
  have hl : leafN s.now = none := by simp [leafN, hk]
  have hprim : px tb (g + 1) .prim s = bindR (px tb g (.lev 0) t) fun s'' => some s''.closes := by
    rw [px.eq_def]
    dsimp only
    rw [hl]
    dsimp only
    rw [if_neg (by rw [hk]; decide), ho]
    rfl
  have hneg : px tb (g + 2) (.neg []) s = bindR (px tb (g + 1) .prim s) fun s' => bindR (px tb (g + 1) .pct s') fun s'' => some (negs [] s'') := by
    rw [px, h45, if_neg (by simp)]
  refine ⟨fun a h => ?_, fun t' u h hc hu => ?_⟩
  · have e1 : px tb (g + 2) (.neg []) s = some (.bad 7 a) := by rw [hneg, hprim, h]; rfl
    have e2 : px tb (g + 3) (.lev 4) s = some (.bad 7 a) := by rw [px_lev4]; exact e1
    have e3 : px tb (g + 4) (.lev 3) s = some (.bad 7 a) := by rw [px_levS _ _ _ _ (by decide), e2]; rfl
    have e4 : px tb (g + 5) (.lev 2) s = some (.bad 7 a) := by rw [px_levS _ _ _ _ (by decide), e3]; rfl
    have e5 : px tb (g + 6) (.lev 1) s = some (.bad 7 a) := by rw [px_levS _ _ _ _ (by decide), e4]; rfl
    rw [px_levS _ _ _ _ (by decide), e5]; rfl
  · have e0 : px tb (g + 1) .prim s = some (.ok u) := by rw [hprim, h]; show some t'.closes = _; rw [hc]
    have e1 : px tb (g + 2) (.neg []) s = some (.ok u) := by
      rw [hneg, e0]
      show bindR (px tb (g + 1) .pct u) _ = _
      rw [px_pct0 tb g hu]; rfl
    have e2 : px tb (g + 3) (.lev 4) s = some (.ok u) := by rw [px_lev4]; exact e1
    have e3 : px tb (g + 4) (.lev 3) s = some (.ok u) := by rw [px_levS _ _ _ _ (by decide), e2]; exact px_loop0 tb _ _ hu
    have e4 : px tb (g + 5) (.lev 2) s = some (.ok u) := by rw [px_levS _ _ _ _ (by decide), e3]; exact px_loop0 tb _ _ hu
    have e5 : px tb (g + 6) (.lev 1) s = some (.ok u) := by rw [px_levS _ _ _ _ (by decide), e4]; exact px_loop0 tb _ _ hu
    rw [px_levS _ _ _ _ (by decide), e5]; exact px_loop0 tb _ _ hu
theorem cnt_mv (φ : Int → Int) (l : List Tok) : (l.map (Tok.mv φ)).countP opB = l.countP opB := by
  rw [List.countP_map]; rfl
/-- brackets around the whole of what is read: read as the same, or too deep where as many are opened -/
theorem brackets_law (tb : Tb) (r : List UInt8) (s : PS) (h : parseT tb (lexL (61 :: r)) = .ok s) : (∃ s', parseT tb (lexL (61 :: 40 :: (r ++ [41]))) = .ok s' ∧ s'.nodes = s.nodes) ∨ (∃ a, parseT tb (lexL (61 :: 40 :: (r ++ [41]))) = .bad 7 a ∧ 0 < a ∧ 32 ≤ cnt40 (61 :: r)) := by
  have L := lexL_laws (61 :: r)
  have hC := lexL_cnt r
  cases hts : lexL (61 :: r) with
  | nil => rw [hts] at L; exact absurd L.ne (by simp)
  | cons x rr =>
  have h0 := h
  rw [hts] at h0
  simp only [parseT] at h0
  split at h0
  · cases h0
  · cases h0
  rename_i s1 h1
  split at h0
  rotate_left
  · cases h0
  rename_i hk0
  injection h0 with h0
  subst h0
  have h8 : ∀ y ∈ lexL (61 :: r), y.kind ≠ 8 := fun y hy h8 => by
    obtain ⟨i, hi⟩ := List.mem_iff_getElem?.1 hy
    have hin : s1.now ∈ lexL (61 :: r) := by rw [hts]; exact (suffix_inv.px tb _ _ _ _ h1).subset (by simp)
    obtain ⟨j, hj⟩ := List.mem_iff_getElem?.1 hin
    have e1 := L.last i y hi
    have e2 := L.last j _ hj
    simp only [Tok.last, h8, hk0] at e1 e2
    have g1 : i + 1 = (lexL (61 :: r)).length := by simpa using e1.symm
    have g2 : j + 1 = (lexL (61 :: r)).length := by simpa using e2.symm
    obtain rfl : i = j := by omega
    rw [hi] at hj; injection hj with hj
    rw [hj, hk0] at h8; cases h8
  obtain ⟨m, e, hm, he, hml, hl2⟩ := lexL_close r h8
  have L2 := lexL_laws (61 :: 40 :: (r ++ [41]))
  have e61 : lexL (61 :: 40 :: (r ++ [41])) = toks (r.length + 1 + 1 + 1) (r.length + 1 + 1 + 1) (40 :: (r ++ [41])) := by simp [lexL]
  have hpos : ∀ y ∈ lexL (61 :: 40 :: (r ++ [41])), 0 < y.place := fun y hy => by
    obtain ⟨i, hi⟩ := List.mem_iff_getElem?.1 hy
    rw [e61] at hi
    have := toks_in _ _ _ (by simp) i y hi
    simp at this; omega
  rw [hl2] at hpos ⊢
  rw [hts] at hm hC
  have hmx : x :: rr = m ++ [e] := hm
  have hlen : rr.length = m.length := by have := congrArg List.length hmx; simp at this; omega
  -- the state behind the bracket
  have hmv := px_mv tb (· + 1) (8 * rr.length + 16) (.lev 0) ⟨x, rr, 0, []⟩
  rw [h1] at hmv
  change px tb (8 * rr.length + 16) (.lev 0) ⟨Tok.mv (· + 1) x, rr.map (Tok.mv (· + 1)), 0, []⟩ = some (.ok (s1.mv (· + 1))) at hmv
  have hsh : m.map Tok.shift = m.map (Tok.mv (· + 1)) := rfl
  rw [hsh] at hpos ⊢
  obtain ⟨y, rest, hyr⟩ : ∃ y rest, m.map (Tok.mv (· + 1)) ++ [(tokS 7 [41]).put ((r.length : Int) + 2), (tokK 0).put ((r.length : Int) + 3)] = y :: rest := by
    cases hq : m.map (Tok.mv (· + 1)) with
    | nil => exact ⟨_, _, rfl⟩
    | cons a b => exact ⟨_, _, rfl⟩
  have hB : BR ((tokS 7 [41]).put ((r.length : Int) + 2)) (Tok.mv (· + 1) e) ((tokK 0).put ((r.length : Int) + 3)) ⟨Tok.mv (· + 1) x, rr.map (Tok.mv (· + 1)), 0, []⟩ ⟨y, rest, 1, []⟩ := by
    refine ⟨⟨m.map (Tok.mv (· + 1)), ?_, ?_, ?_⟩, rfl, rfl⟩
    · have := congrArg (List.map (Tok.mv (· + 1))) hmx
      simpa using this
    · exact hyr.symm
    · intro z hz
      obtain ⟨z', hz', rfl⟩ := List.mem_map.1 hz
      exact hml z' hz'
  have hE : Ends ((tokS 7 [41]).put ((r.length : Int) + 2)) (Tok.mv (· + 1) e) ((tokK 0).put ((r.length : Int) + 3)) := ⟨he, rfl, rfl, rfl⟩
  have hW := px_br hE tb (8 * rr.length + 16) (.lev 0) _ _ _ (show 0 ≤ 4 by omega) hB hmv
  rw [hyr] at hpos ⊢
  have hrest : rest.length = rr.length + 1 := by have := congrArg List.length hyr; simp at this; omega
  have hP := px_paren tb (8 * rr.length + 16) ⟨(tokS 7 [40]).put 1, y :: rest, 0, []⟩ ⟨y, rest, 1, []⟩ rfl rfl
  have hf : 8 * rr.length + 16 + 7 ≤ 8 * (y :: rest).length + 16 := by rw [List.length_cons, hrest]; omega
  cases hq : px tb (8 * rr.length + 16) (.lev 0) ⟨y, rest, 1, []⟩ with
  | none => rw [hq] at hW; cases hW
  | some q =>
    rw [hq] at hW hP
    cases hW with
    | deep a hd ha =>
      right
      have e1 := px_mono tb hf (hP.1 a rfl)
      refine ⟨a, by simp only [parseT]; rw [e1], ?_, ?_⟩
      · obtain ⟨z, hz, rfl⟩ := ha
        exact hpos z (List.mem_cons_of_mem _ hz)
      · have : (⟨Tok.mv (· + 1) x, rr.map (Tok.mv (· + 1)), 0, []⟩ : PS).cnt = (x :: rr).countP opB := cnt_mv (· + 1) (x :: rr)
        rw [this] at hd
        simp only at hd
        omega
    | ok t' hb =>
      left
      have hcl : t'.now = (tokS 7 [41]).put ((r.length : Int) + 2) ∧ t'.rest = [(tokK 0).put ((r.length : Int) + 3)] := by
        rcases hb.cases with ⟨_, _, a3, a4⟩ | ⟨_, a2, _⟩
        · exact ⟨a3, a4⟩
        · exfalso
          have : (s1.mv (· + 1)).now.last = s1.now.last := rfl
          rw [this] at a2
          simp [Tok.last, hk0] at a2
      have hcs : t'.closes = .ok ({ t' with opn := t'.opn - 1 } : PS).step := by
        unfold PS.closes
        have : t'.is [41] = true := by unfold PS.is; rw [hcl.1]; rfl
        rw [this, if_neg (by simp)]
      have hst : ({ t' with opn := t'.opn - 1 } : PS).step = ⟨(tokK 0).put ((r.length : Int) + 3), [], t'.opn - 1, t'.nodes⟩ := by
        unfold PS.step; dsimp only; rw [hcl.2]
      rw [hst] at hcs
      have e1 := px_mono tb hf (hP.2 t' _ rfl hcs rfl)
      refine ⟨⟨(tokK 0).put ((r.length : Int) + 3), [], t'.opn - 1, t'.nodes⟩, ?_, ?_⟩
      · simp only [parseT]; rw [e1]; rfl
      · show t'.nodes = _
        rw [hb.nodes]; rfl
end Go.Proofs.YtiekhbagpmnboaaGreatDoor
