/-
  Plain laws of the parser: fuel, what is kept, other functions, other places; Plain: where a reader stands in a text; trees with calls that may be; how deep their brackets are; Plain: what is printed is read again, level by level.
-/
import Derived.Test.YtfbkoieodflcpaaGreatDoorMg3
import Derived.Test.YtfbkoieodflcpaaGreatDoorRows
import Derived.Test.YtfbkoieodflcpaaGreatDoorMg0
import Derived.Test.YtfbkoieodflcpaaGreatDoorProg
import Derived.Test.YtfbkoieodflcpaaGreatDoorShelf
import Derived.Test.YtfbkoieodflcpaaGreatDoorMg4
import Derived.Test.YtfbkoieodflcpaaGreatDoorAddrC
import Derived.Test.YtfbkoieodflcpaaGreatDoorMg6
import Derived.Test.YtfbkoieodflcpaaGreatDoorValA
import Derived.Test.YtfbkoieodflcpaaGreatDoorValB
import Derived.Test.YtfbkoieodflcpaaGreatDoorMg9
import Derived.Test.YtfbkoieodflcpaaGreatDoorMg10
import Derived.Test.YtfbkoieodflcpaaGreatDoorPaP
import Derived.Test.YtfbkoieodflcpaaGreatDoorMg11
import Derived.Test.YtfbkoieodflcpaaGreatDoorMg2
import Derived.Test.YtfbkoieodflcpaaGreatDoorMg12
import Derived.Test.YtfbkoieodflcpaaGreatDoorValL
import Derived.Test.YtfbkoieodflcpaaGreatDoorMg14
import Derived.Test.YtfbkoieodflcpaaGreatDoorMg15
import Derived.Test.YtfbkoieodflcpaaGreatDoorLexS
import Derived.Test.YtfbkoieodflcpaaGreatDoorRefN
import Derived.Test.YtfbkoieodflcpaaGreatDoorRefM
import Derived.Test.YtfbkoieodflcpaaGreatDoorRefY
import Derived.Test.YtfbkoieodflcpaaGreatDoorMg20
import Derived.Lib.ItoaMem
import Derived.Lib.TrimByte
import Derived.Lib.IndexLaws
import Derived.Lib.SlTrimSet
import Derived.Lib.ParseIntB
import Derived.WalkKit
import Derived.ProofKit
import Derived.OpenShut
import Derived.Carry
import Derived.ChangeSame
import Derived.Lib.Hide
import Derived.Deep.Draws
import Derived.Shelf.Strings.Builder1
import Derived.Shelf.Strings.Builder2
import Derived.Shelf.Strings.Trim
import Derived.Shelf.Small.Utf8
import Derived.Shelf.Small.Strs
import Derived.Shelf.Small.Wraps
import Derived.Shelf.Strings.BuilderF
import Derived.Shelf.Strings.BuilderK
import Derived.Shelf.Utf8.RuneCount
import Derived.Shelf.Strconv.Itoa0
import Derived.Shelf.Strconv.Itoa1
import Derived.Shelf.LaysM
import Derived.Shelf.Strconv.Itoa2
import Derived.Shelf.Strconv.Itoa3
import Derived.Ground.MpProg
import Derived.Shelf.Pu.ParseUintPublic10
import Derived.Shelf.Strings.Search1
import Derived.Shelf.Strings.Search2
import Derived.Shelf.Strings.Search3
import Derived.Shelf.Strings.Cut
import Derived.Shelf.Strings.Count
import Derived.Shelf.Strings.Shaped
import Derived.Shelf.Strings.Prefix
import Derived.Shelf.Strings.Split
import Derived.Shelf.Strings.Replace
import Derived.Shelf.Strings.SplitShaped
import Derived.Shelf.Unicode.Decode
import Derived.Shelf.Strings.Runes
import Derived.Shelf.Strings.RuneCount
import Derived.Shelf.Strings.AsciiSet
import Derived.Shelf.Unicode.DecodeSlow
import Derived.Shelf.Unicode.DecodeAny
import Derived.Shelf.Unicode.DecodeLast
import Derived.WalkSpells
import Derived.WalkLawsBesides
import Derived.StillTactics
import Derived.Laws.Pointers
import Derived.Deep.RegionHeld3
import Derived.Deep.QuietTactic
import Derived.BigQuiet
import Derived.RowKit3
import Derived.Lib.OthersKept
import Derived.OwnWalk
import Derived.Lib.ItoaNum
import Derived.Maps.OwnSet
import Derived.Maps.AppendAt
import Derived.Lib.Bytealg
import Derived.Lib.Replace
namespace Go.Proofs.YtfbkoieodflcpaaGreatDoor
open Go.RowKit

theorem bindR_mono {x y : Option PR} {f g : PS → Option PR} {r : PR} (h : bindR x f = some r) (hx : ∀ q, x = some q → y = some q) (hf : ∀ s, x = some (.ok s) → ∀ q, f s = some q → g s = some q) : bindR y g = some r := by
  rcases bindR_some h with ⟨e, a, h1, rfl⟩ | ⟨s, h1, h2⟩
  · rw [hx _ h1]; rfl
  · rw [hx _ h1]; exact hf s h1 _ h2
theorem px_step (tb : Tb) : ∀ (f : Nat) (m : Md) (s : PS) (r : PR), px tb f m s = some r → px tb (f + 1) m s = some r := by
  intro f
  induction f with
  | zero => intro m s r h; cases h
  | succ f ih =>
    intro m s r h
    cases m with
    | lev k =>
      rw [px] at h ⊢
      split
      · rename_i hk
        rw [if_pos hk] at h
        exact ih _ _ _ h
      · rename_i hk
        rw [if_neg hk] at h
        exact bindR_mono h (ih _ _) fun s _ => ih _ _
    | loop k =>
      rw [px] at h ⊢
      split
      · rename_i hs; rw [hs] at h; exact h
      · rename_i o hs
        rw [hs] at h
        exact bindR_mono h (ih _ _) fun s1 _ q h2 => bindR_mono h2 (fun _ h => h) fun s2 _ => ih _ _
    | neg ats =>
      rw [px] at h ⊢
      split
      · rename_i hs; rw [if_pos hs] at h; exact ih _ _ _ h
      · rename_i hs; rw [if_neg hs] at h
        exact bindR_mono h (ih _ _) fun s1 _ q h2 => bindR_mono h2 (ih _ _) fun s2 _ q h3 => h3
    | pct =>
      rw [px] at h ⊢
      split
      · rename_i hs; rw [if_pos hs] at h
        exact bindR_mono h (fun _ h => h) fun s1 _ => ih _ _
      · rename_i hs; rw [if_neg hs] at h; exact h
    | prim =>
      rw [px] at h ⊢
      split
      · rename_i n hs; rw [hs] at h; exact h
      · rename_i hs
        rw [hs] at h
        dsimp only at h
        split
        · rename_i h3
          rw [if_pos h3] at h
          split
          · rename_i h4; rw [if_pos h4] at h; exact h
          · rename_i h4; rw [if_neg h4] at h
            exact bindR_mono h (fun _ h => h) fun s1 _ => ih _ _
        · rename_i h3
          rw [if_neg h3] at h
          exact bindR_mono h (fun _ h => h) fun s1 _ q h2 => bindR_mono h2 (ih _ _) fun s2 _ q h3 => h3
    | args nm p rects =>
      rw [px] at h ⊢
      split
      · rename_i h1; rw [if_pos h1] at h; exact h
      · rename_i h1
        rw [if_neg h1] at h
        split
        · rename_i h2; rw [if_pos h2] at h; exact h
        · rename_i h2
          rw [if_neg h2] at h
          refine bindR_mono h (fun _ h => h) fun s1 _ q h3 => ?_
          split
          · rename_i h5
            rw [if_pos h5] at h3
            exact bindR_mono h3 (fun _ h => h) fun s2 _ => ih _ _
          · rename_i h5
            rw [if_neg h5] at h3
            exact bindR_mono h3 (ih _ _) fun s2 _ => ih _ _
theorem px_mono (tb : Tb) {f g : Nat} (hfg : f ≤ g) {m : Md} {s : PS} {r : PR} (h : px tb f m s = some r) : px tb g m s = some r := by
  induction hfg with
  | refl => exact h
  | step _ ih => exact px_step tb _ _ _ _ ih
theorem px_same (tb : Tb) {f g : Nat} {m : Md} {s : PS} {r q : PR} (h : px tb f m s = some r) (h' : px tb g m s = some q) : r = q := by
  have a := px_mono tb (Nat.le_max_left f g) h
  have b := px_mono tb (Nat.le_max_right f g) h'
  rw [a] at b
  injection b
/-- whatever the fuel: what a part that is read leaves -/
theorem px_after (tb : Tb) {f : Nat} {m : Md} {s s' : PS} (hw : s.wf) (hm : m.ok) (h : px tb f m s = some (.ok s')) : PS.After m s s' := by
  obtain ⟨r, e, hr⟩ := px_total tb _ m s hw hm (Nat.le_refl _)
  exact hr s' (px_same tb e h)
/-- what each step keeps, all keep -/
structure PxInv (I : PS → PS → Prop) : Prop where
  refl : ∀ s, I s s
  trans : ∀ {a b c}, I a b → I b c → I a c
  step : ∀ s : PS, I s s.step
  add : ∀ (s : PS) n, I s { s with nodes := n }
  opens : ∀ s : PS, s.is [40] = true → I s { s with opn := s.opn + 1 }.step
  closes : ∀ s : PS, I s { s with opn := s.opn - 1 }.step
theorem bindR_ok {x : Option PR} {f : PS → Option PR} {s' : PS} (h : bindR x f = some (.ok s')) : ∃ s, x = some (.ok s) ∧ f s = some (.ok s') := by
  rcases bindR_some h with ⟨e, a, _, h2⟩ | h
  · cases h2
  · exact h
theorem PxInv.negs {I : PS → PS → Prop} (hI : PxInv I) : ∀ {l : List Int} {s s' : PS}, negs l s = .ok s' → I s s'
  | [], s, s', h => by simp only [Go.Proofs.YtfbkoieodflcpaaGreatDoor.negs] at h; injection h with h; subst h; exact hI.refl _
  | a :: l, s, s', h => by
    simp only [Go.Proofs.YtfbkoieodflcpaaGreatDoor.negs] at h
    split at h
    · cases h
    · rename_i s1 h1
      obtain ⟨rfl, _⟩ := add_some h1
      exact hI.trans (hI.add s _) (hI.negs h)
theorem PxInv.px {I : PS → PS → Prop} (hI : PxInv I) (tb : Tb) : ∀ (f : Nat) (m : Md) (s s' : PS), px tb f m s = some (.ok s') → I s s' := by
  intro f
  induction f with
  | zero => intro m s r h; cases h
  | succ f ih =>
    intro m s s' h
    cases m with
    | lev k =>
      rw [Go.Proofs.YtfbkoieodflcpaaGreatDoor.px] at h
      split at h
      · exact ih _ _ _ h
      · obtain ⟨s1, h1, h2⟩ := bindR_ok h
        exact hI.trans (ih _ _ _ h1) (ih _ _ _ h2)
    | loop k =>
      rw [Go.Proofs.YtfbkoieodflcpaaGreatDoor.px] at h
      split at h
      · injection h with h; injection h with h; subst h; exact hI.refl _
      · obtain ⟨s1, h1, h2⟩ := bindR_ok h
        obtain ⟨s2, h3, h4⟩ := bindR_ok h2
        injection h3 with h3
        obtain ⟨rfl, _⟩ := add_some h3
        exact hI.trans (hI.step s) (hI.trans (ih _ _ _ h1) (hI.trans (hI.add s1 _) (ih _ _ _ h4)))
    | neg ats =>
      rw [Go.Proofs.YtfbkoieodflcpaaGreatDoor.px] at h
      split at h
      · exact hI.trans (hI.step s) (ih _ _ _ h)
      · obtain ⟨s1, h1, h2⟩ := bindR_ok h
        obtain ⟨s2, h3, h4⟩ := bindR_ok h2
        injection h4 with h4
        exact hI.trans (ih _ _ _ h1) (hI.trans (ih _ _ _ h3) (hI.negs h4))
    | pct =>
      rw [Go.Proofs.YtfbkoieodflcpaaGreatDoor.px] at h
      split at h
      · obtain ⟨s1, h1, h2⟩ := bindR_ok h
        injection h1 with h1
        obtain ⟨rfl, _⟩ := add_some h1
        exact hI.trans (hI.add s _) (hI.trans (hI.step _) (ih _ _ _ h2))
      · injection h with h; injection h with h; subst h; exact hI.refl _
    | prim =>
      rw [Go.Proofs.YtfbkoieodflcpaaGreatDoor.px] at h
      split at h
      · obtain ⟨s1, h1, h2⟩ := bindR_ok h
        injection h1 with h1
        obtain ⟨rfl, _⟩ := add_some h1
        injection h2 with h2; injection h2 with h2; subst h2
        exact hI.trans (hI.add s _) (hI.step _)
      · split at h
        · split at h
          · injection h with h; cases h
          · obtain ⟨s1, h1, h2⟩ := bindR_ok h
            injection h1 with h1
            obtain ⟨rfl, h40, _⟩ := opens_some h1
            exact hI.trans (hI.step s) (hI.trans (hI.opens _ h40) (ih _ _ _ h2))
        · obtain ⟨s1, h1, h2⟩ := bindR_ok h
          injection h1 with h1
          obtain ⟨rfl, h40, _⟩ := opens_some h1
          obtain ⟨s2, h3, h4⟩ := bindR_ok h2
          injection h4 with h4
          obtain ⟨rfl, _⟩ := closes_some h4
          exact hI.trans (hI.opens s h40) (hI.trans (ih _ _ _ h3) (hI.closes _))
    | args nm p rects =>
      rw [Go.Proofs.YtfbkoieodflcpaaGreatDoor.px] at h
      split at h
      · split at h
        · obtain ⟨s1, h1, h2⟩ := bindR_ok h
          injection h1 with h1
          obtain ⟨rfl, _⟩ := add_some h1
          injection h2 with h2
          obtain ⟨rfl, _⟩ := closes_some h2
          exact hI.trans (hI.add s _) (hI.closes _)
        · injection h with h; cases h
      · split at h
        · injection h with h; cases h
        · obtain ⟨s1, h1, h2⟩ := bindR_ok h
          have h01 : I s s1 := by
            injection h1 with h1; injection h1 with h1; subst h1
            split
            · exact hI.refl _
            · exact hI.step _
          refine hI.trans h01 ?_
          split at h2
          · obtain ⟨s2, h3, h4⟩ := bindR_ok h2
            injection h3 with h3
            obtain ⟨rfl, _⟩ := add_some h3
            exact hI.trans (hI.add s1 _) (hI.trans (hI.step _) (ih _ _ _ h4))
          · obtain ⟨s2, h3, h4⟩ := bindR_ok h2
            exact hI.trans (ih _ _ _ h3) (ih _ _ _ h4)
theorem step_suffix (s : PS) : (s.step.now :: s.step.rest) <:+ (s.now :: s.rest) := by
  unfold PS.step
  cases h : s.rest with
  | nil => simp [h]
  | cons x r => exact List.suffix_cons _ _
theorem suffix_inv : PxInv fun s s' => (s'.now :: s'.rest) <:+ (s.now :: s.rest) where
  refl := fun _ => List.suffix_refl _
  trans := fun a b => b.trans a
  step := step_suffix
  add := fun _ _ => List.suffix_refl _
  opens := fun s _ => step_suffix { s with opn := s.opn + 1 }
  closes := fun s => step_suffix { s with opn := s.opn - 1 }
end Go.Proofs.YtfbkoieodflcpaaGreatDoor
namespace Go.Proofs.YtfbkoieodflcpaaGreatDoor
open Go.RowKit

/-- a reader stands at this rest of a text of n bytes -/
def AtL (n : Nat) (l : List UInt8) (s : PS) : Prop := s.now :: s.rest = toks n (l.length + 1) l
def NB (l : List UInt8) : Prop := NoHead (fun b => decide (b.toNat = 32)) l
theorem blank_nb {l : List UInt8} (h : NB l) : blank l = l := by
  cases l with
  | nil => rfl
  | cons b t =>
    unfold blank
    have hb : decide (b.toNat = 32) = false := h b t rfl
    rw [List.dropWhile_cons, if_neg (by rw [hb]; decide)]
theorem blank_len (l : List UInt8) : (blank l).length ≤ l.length := by
  unfold blank
  exact (List.dropWhile_sublist _).length_le
theorem toks_fuelB (n : Nat) : ∀ (f g : Nat) (l : List UInt8), l.length < f → l.length < g → toks n f l = toks n g l
  | 0, _, l, h, _ => by omega
  | _, 0, l, _, h => by omega
  | f + 1, g + 1, l, hf, hg => by
    rw [toks, toks]
    congr 1
    by_cases hl : (firstT (blank l)).1.last = true
    · rw [if_pos hl, if_pos hl]
    · rw [if_neg hl, if_neg hl]
      have h1 := first_small (blank l) (by simpa using hl)
      have h2 := blank_len l
      exact toks_fuelB n f g _ (by rw [List.length_drop]; omega) (by rw [List.length_drop]; omega)
/-- one token on -/
theorem at_step {n : Nat} {c r : List UInt8} {s : PS} {x : Tok} (h : AtL n (c ++ r) s) (hb : NB (c ++ r)) (hx : firstT (c ++ r) = (x, c.length)) (hl : x.last = false) : (∃ p, s.now = x.put p) ∧ AtL n r s.step := by
  unfold AtL at h
  rw [toks, blank_nb hb, hx] at h
  simp only [hl] at h
  have hc := first_small (c ++ r) (by rw [hx]; exact hl)
  rw [hx] at hc
  injection h with h1 h2
  refine ⟨⟨_, h1⟩, ?_⟩
  have hd : (c ++ r).drop c.length = r := by simp
  rw [hd] at h2
  simp only [Bool.false_eq_true, if_false] at h2
  have hlen : (c ++ r).length = c.length + r.length := by simp
  rw [toks_fuelB n _ (r.length + 1) r (by simp only at hc; omega) (by omega)] at h2
  rw [toks] at h2
  have hs : s.step = { s with now := (firstT (blank r)).1.put ((n : Int) - (blank r).length), rest := if (firstT (blank r)).1.last = true then [] else toks n r.length ((blank r).drop (firstT (blank r)).2) } := by
    unfold PS.step
    rw [h2]
  unfold AtL
  rw [hs, toks]
theorem at_end {n : Nat} {s : PS} (h : AtL n [] s) : s.now.kind = 0 := by
  unfold AtL at h
  rw [toks] at h
  injection h with h1 _
  rw [h1]; rfl
/-- a sign's first byte -/
theorem first_seven (b : UInt8) (u : List UInt8) (h : (firstT (b :: u)).1.kind = 7) : ∃ w, (firstT (b :: u)).1.str = ⟨(b :: w).toArray⟩ := by
  rw [firstT] at h ⊢
  split at h
  · unfold nuT at h; split at h <;> simp [tokNum, tokK] at h
  rename_i h1
  rw [if_neg h1]
  split at h
  · unfold textT at h; split at h <;> simp [tokS, tokK] at h
  rename_i h2
  rw [if_neg h2]
  split at h
  · unfold codeT at h; split at h <;> simp [tokCode, tokK] at h
  rename_i h3
  rw [if_neg h3]
  split at h
  · unfold wordT at h
    split at h
    · split at h
      · split at h <;> simp [tokRect, tokK] at h
      · split at h <;> simp [tokCell, tokK] at h
    · simp [tokS] at h
  rename_i h4
  rw [if_neg h4]
  unfold signT at h ⊢
  split at h
  · rename_i h5
    rw [if_pos h5]
    cases u with
    | nil => exact ⟨[], rfl⟩
    | cons c u => exact ⟨[c], rfl⟩
  · rename_i h5
    rw [if_neg h5]
    split at h
    · rename_i h6
      rw [if_pos h6]
      exact ⟨[], rfl⟩
    · simp [tokK] at h
theorem bytes_list' {a b : List UInt8} (h : (⟨a.toArray⟩ : ByteArray) = ⟨b.toArray⟩) : a = b := by
  injection h with h
  simpa using congrArg Array.toList h
theorem is_head {n : Nat} {b : UInt8} {u c : List UInt8} {s : PS} (h : AtL n (b :: u) s) (hb : NB (b :: u)) (hi : s.is c = true) : ∃ w, c = b :: w := by
  unfold AtL at h
  rw [toks, blank_nb hb] at h
  injection h with h1 _
  unfold PS.is at hi
  simp only [Bool.and_eq_true, decide_eq_true_eq] at hi
  rw [h1] at hi
  obtain ⟨w, hw⟩ := first_seven b u hi.1
  have h2 : (firstT (b :: u)).1.str = ⟨c.toArray⟩ := hi.2
  rw [hw] at h2
  exact ⟨w, (bytes_list' h2).symm⟩
theorem is_tok {s : PS} {w : List UInt8} {p : Int} (h : s.now = (tokS 7 w).put p) (c : List UInt8) : s.is c = decide (w = c) := by
  unfold PS.is
  rw [h]
  show (true && decide ((⟨w.toArray⟩ : ByteArray) = ⟨c.toArray⟩)) = _
  rw [Bool.true_and]
  by_cases e : w = c
  · subst e; simp
  · rw [decide_eq_false e, decide_eq_false fun h => e (bytes_list' h)]
theorem is_nosign {s : PS} (h : s.now.kind ≠ 7) (c : List UInt8) : s.is c = false := by simp [PS.is, h]
namespace Tm
def isRect : Tm → Bool | leaf n => decide (n.kind = 3) | _ => false
def rects : Tm → List Bool | acons a r => a.isRect :: r.rects | _ => []
/-- every call is one of the table's, and no rectangle stands where none may -/
def Came (tb : Tb) : Tm → Prop
  | leaf _ => True
  | un _ a => Came tb a ∧ a.isRect = false
  | bin _ a b => Came tb a ∧ Came tb b ∧ a.isRect = false ∧ b.isRect = false
  | call n c => tb.known n.name = true ∧ n.name.data.toList.length ≤ 16 ∧ tb.takes n.name c.rects = true ∧ c.len ≤ 16 ∧ Came tb c
  | anil => True
  | acons a r => Came tb a ∧ Came tb r
/-- how many brackets stand in one another -/
def nest : Tm → Nat
  | leaf _ => 0
  | un n a => if a.binds < levelI n.op then a.nest + 1 else a.nest
  | bin n a b => max (if a.binds < levelI n.op then a.nest + 1 else a.nest) (if b.binds < levelI n.op + 1 then b.nest + 1 else b.nest)
  | call _ c => c.nest + 1
  | anil => 0
  | acons a r => max a.nest r.nest
def nestAt (t : Tm) (k : Int) : Nat := if t.binds < k then t.nest + 1 else t.nest
theorem nest_low {t : Tm} {k : Int} (h : t.binds < k) : nestAt t k = t.nest + 1 := if_pos h
theorem nest_high {t : Tm} {k : Int} (h : k ≤ t.binds) : nestAt t k = t.nest := if_neg (by omega)
theorem nest_next {t : Tm} {k : Int} (h : t.binds ≠ k) : nestAt t k = nestAt t (k + 1) := by
  by_cases hk : t.binds < k
  · rw [nest_low hk, nest_low (by omega)]
  · rw [nest_high (by omega), nest_high (by omega)]
theorem nest_un (n : NL) (a : Tm) : (un n a).nest = nestAt a (levelI n.op) := rfl
theorem nest_bin (n : NL) (a b : Tm) : (bin n a b).nest = max (nestAt a (levelI n.op)) (nestAt b (levelI n.op + 1)) := rfl
theorem spine2 {tb : Tb} {k : Int} (h1 : 1 ≤ k) (h4 : k ≤ 4) : ∀ {t : Tm}, Fine t → Came tb t → t.isRect = false → ∃ h l, t = grow h l ∧ Fine h ∧ Came tb h ∧ h.isRect = false ∧ (∀ p ∈ l, Sign k p ∧ Came tb p.2 ∧ p.2.isRect = false ∧ nestAt p.2 (k + 1) ≤ nestAt t k) ∧ nestAt h (k + 1) ≤ nestAt t k ∧ At t k = At h (k + 1) ++ rowT k l := by
  intro t
  induction t with
  | bin n a b iha _ =>
    intro h hc hr
    by_cases hb : (bin n a b).binds = k
    · obtain ⟨m1, m2, m3, m4, ha, hb'⟩ := h.bin
      obtain ⟨c1, c2, c3, c4⟩ := hc
      have hl : levelI n.op = k := hb
      obtain ⟨g, l, e1, e2, e3, e4, e5, e6, e7⟩ := iha ha c1 c3
      have hn : nestAt (bin n a b) k = max (nestAt a k) (nestAt b (k + 1)) := by
        rw [nest_high (by omega), nest_bin, hl]
      refine ⟨g, l ++ [(n, b)], by rw [grow_snoc, ← e1], e2, e3, e4, fun p hp => ?_, by omega, ?_⟩
      · rcases List.mem_append.1 hp with hp | hp
        · obtain ⟨p1, p2, p3, p4⟩ := e5 p hp
          exact ⟨p1, p2, p3, by omega⟩
        · rw [List.mem_singleton.1 hp]; exact ⟨⟨m1, m2, m3, m4, hl, hb'⟩, c2, c4, by show nestAt b (k + 1) ≤ _; omega⟩
      · rw [at_high (by omega), text_bin, hl, e7, row_snoc]
        simp only [List.append_assoc]
    · exact ⟨_, [], rfl, h, hc, hr, fun p hp => (by cases hp), by rw [nest_next hb]; exact Nat.le_refl _, by rw [at_next hb]; exact (List.append_nil _).symm⟩
  | un n a _ =>
    intro h hc hr
    have hb : (un n a).binds ≠ k := by
      obtain ⟨_, _, ho, _⟩ := h.un
      show levelI n.op ≠ k
      rcases ho with ho | ho <;> rw [ho]
      · show (5 : Int) ≠ k; omega
      · show (6 : Int) ≠ k; omega
    exact ⟨_, [], rfl, h, hc, hr, fun p hp => (by cases hp), by rw [nest_next hb]; exact Nat.le_refl _, by rw [at_next hb]; exact (List.append_nil _).symm⟩
  | leaf n =>
    intro h hc hr
    have hb : (leaf n).binds ≠ k := by show (7 : Int) ≠ k; omega
    exact ⟨_, [], rfl, h, hc, hr, fun p hp => (by cases hp), by rw [nest_next hb]; exact Nat.le_refl _, by rw [at_next hb]; exact (List.append_nil _).symm⟩
  | call n c _ =>
    intro h hc hr
    have hb : (call n c).binds ≠ k := by show (7 : Int) ≠ k; omega
    exact ⟨_, [], rfl, h, hc, hr, fun p hp => (by cases hp), by rw [nest_next hb]; exact Nat.le_refl _, by rw [at_next hb]; exact (List.append_nil _).symm⟩
  | anil => intro h; exact h.1.elim
  | acons a r _ _ => intro h; exact h.1.elim
theorem spine_pct2 {tb : Tb} : ∀ {t : Tm}, Fine t → Came tb t → t.isRect = false → ∃ h m, t = growP (opN 2) h m ∧ Fine h ∧ Came tb h ∧ h.isRect = false ∧ nestAt h 7 ≤ nestAt t 6 ∧ At t 6 = At h 7 ++ List.replicate m 37 := by
  intro t
  induction t with
  | un n a ih =>
    intro h hc hr
    by_cases hb : (un n a).binds = 6
    · obtain ⟨m, b, e, ho⟩ := pct_form h hb
      injection e with en ea
      rw [← en] at ho
      obtain ⟨m1, m2, _, ha⟩ := h.un
      obtain ⟨g, j, e1, e2, c2, c3, c4, e3⟩ := ih ha hc.1 hc.2
      have hn : nestAt (un n a) 6 = nestAt a 6 := by
        rw [nest_high (by omega), nest_un, ho]; rfl
      refine ⟨g, j + 1, ?_, e2, c2, c3, by omega, ?_⟩
      · have hn := may_op m1 m2
        rw [ho] at hn
        show _ = un _ (growP _ g j)
        rw [← e1]
        show un n a = un (opN 2) a
        rw [hn]; rfl
      · rw [at_high (by omega), Tm.text_pct ho, e3, List.replicate_succ', List.append_assoc]
    · exact ⟨_, 0, rfl, h, hc, hr, by rw [nest_next hb]; exact Nat.le_refl _, by rw [at_next hb]; exact (List.append_nil _).symm⟩
  | bin n a b _ _ =>
    intro h hc hr
    have hb : (bin n a b).binds ≠ 6 := fun hb => by
      obtain ⟨m, c, e, _⟩ := pct_form h hb
      cases e
    exact ⟨_, 0, rfl, h, hc, hr, by rw [nest_next hb]; exact Nat.le_refl _, by rw [at_next hb]; exact (List.append_nil _).symm⟩
  | leaf n =>
    intro h hc hr
    have hb : (leaf n).binds ≠ 6 := by show (7 : Int) ≠ 6; decide
    exact ⟨_, 0, rfl, h, hc, hr, by rw [nest_next hb]; exact Nat.le_refl _, by rw [at_next hb]; exact (List.append_nil _).symm⟩
  | call n c _ =>
    intro h hc hr
    have hb : (call n c).binds ≠ 6 := by show (7 : Int) ≠ 6; decide
    exact ⟨_, 0, rfl, h, hc, hr, by rw [nest_next hb]; exact Nat.le_refl _, by rw [at_next hb]; exact (List.append_nil _).symm⟩
  | anil => intro h; exact h.1.elim
  | acons a r _ _ => intro h; exact h.1.elim
theorem grow_nodes : ∀ (l : List (NL × Tm)) (h : Tm), (grow h l).nodes = h.nodes ++ l.flatMap fun p => p.2.nodes ++ [p.1]
  | [], h => by simp [grow]
  | p :: l, h => by
    show (grow (bin p.1 h p.2) l).nodes = _
    rw [grow_nodes l]
    show (h.nodes ++ p.2.nodes ++ [p.1]) ++ _ = _
    simp [List.flatMap_cons]
theorem growP_nodes (n : NL) (h : Tm) : ∀ m, (growP n h m).nodes = h.nodes ++ List.replicate m n
  | 0 => by simp [growP]
  | m + 1 => by
    show (growP n h m).nodes ++ [n] = _
    rw [growP_nodes n h m, List.replicate_succ', List.append_assoc]
end Tm
end Go.Proofs.YtfbkoieodflcpaaGreatDoor
namespace Go.Proofs.YtfbkoieodflcpaaGreatDoor
open Go.RowKit

namespace Tm
/-- what is left when a part is read -/
structure Rd (n : Nat) (r : List UInt8) (s s' : PS) (m : List NL) : Prop where
  at' : AtL n r s'
  opn : s'.opn = s.opn
  nodes : s'.nodes = s.nodes ++ m
/-- what a part asks -/
structure Ask (tb : Tb) (n : Nat) (K : Int) (M : Nat) (t : Tm) (r : List UInt8) (s : PS) : Prop where
  fine : Fine t
  came : Came tb t
  rect : t.isRect = false
  stop : StopK K r
  nb : NB r
  len : (At t K).length ≤ M
  at' : AtL n (At t K ++ r) s
  opn : s.opn + (nestAt t K : Int) ≤ 32
  few : s.nodes.length + t.nodes.length ≤ 1024
def Read7 (tb : Tb) (n M : Nat) : Prop := ∀ t r s, Ask tb n 7 M t r s → ∃ f s', px tb f .prim s = some (.ok s') ∧ Rd n r s s' t.nodes
def Read6 (tb : Tb) (n M : Nat) : Prop := ∀ t r s, Ask tb n 6 M t r s → ∃ f s', bindR (px tb f .prim s) (px tb f .pct) = some (.ok s') ∧ Rd n r s s' t.nodes
def Read5 (tb : Tb) (n M : Nat) : Prop := ∀ t r s, Ask tb n 5 M t r s → ∀ ats, ∃ f s', px tb f (.neg ats) s = some (negs ats s') ∧ Rd n r s s' t.nodes
def ReadL (tb : Tb) (n : Nat) (k : Nat) (M : Nat) : Prop := ∀ t r s, Ask tb n ((k : Int) + 1) M t r s → ∃ f s', px tb f (.lev k) s = some (.ok s') ∧ Rd n r s s' t.nodes
theorem head_nb {k : Int} {b : UInt8} (h : headB k b = true) : b.toNat ≠ 32 := fun e => by
  have e2 : b = 32 := by rw [← UInt8.toNat_inj]; exact e
  subst e2
  revert h
  unfold headB
  rw [show wordB 32 = false by decide]
  simp
theorem nb_at {t : Tm} (h : Fine t) (k : Int) (r : List UInt8) : NB (At t k ++ r) := by
  obtain ⟨b, l, e, hb⟩ := head_at h k
  rw [e]
  intro c u he
  injection he with he _
  subst he
  simpa using head_nb hb
theorem nb_cons {b : UInt8} (h : b.toNat ≠ 32) (r : List UInt8) : NB (b :: r) := fun c u e => by
  injection e with e _
  subst e
  simpa using h
theorem nb_op {a : Int} (h1 : 3 ≤ a) (h2 : a ≤ 13) (r : List UInt8) : NB (opT a ++ r) := by
  rcases op_cases h1 h2 with rfl | rfl | rfl | rfl | rfl | rfl | rfl | rfl | rfl | rfl | rfl <;> exact nb_cons (by decide) _
theorem nb_row {k : Int} {l : List (NL × Tm)} (hl : ∀ p ∈ l, Sign k p) {r : List UInt8} (hr : NB r) : NB (rowT k l ++ r) := by
  cases l with
  | nil => exact hr
  | cons p l =>
    obtain ⟨_, _, m3, m4, _⟩ := hl p (by simp)
    show NB ((opT p.1.op ++ (At p.2 (k + 1) ++ rowT k l)) ++ r)
    rw [List.append_assoc]
    exact nb_op m3 m4 _
theorem px_le (tb : Tb) {f g : Nat} {m : Md} {s : PS} {x : PR} (h : px tb f m s = some x) (hfg : f ≤ g) : px tb g m s = some x := px_mono tb hfg h
/-- a sign of a level is found -/
theorem sig_at {k : Nat} (hk : k ≤ 3) {a : Int} (h1 : 3 ≤ a) (h2 : a ≤ 13) (hl : levelI a = (k : Int) + 1) {s : PS} {p : Int} (hs : s.now = (tokS 7 (opT a)).put p) : s.sig (sgn k) = some a := by
  have hi := is_tok hs
  unfold PS.sig
  have hk' : k = 0 ∨ k = 1 ∨ k = 2 ∨ k = 3 := by omega
  rcases op_cases h1 h2 with rfl | rfl | rfl | rfl | rfl | rfl | rfl | rfl | rfl | rfl | rfl <;> rcases hk' with rfl | rfl | rfl | rfl <;> first
    | (exfalso; revert hl; decide)
    | (simp only [sgn, List.find?_cons, hi]; rfl)
theorem sgn_lv {k : Nat} (hk : k ≤ 3) : ∀ y ∈ sgn k, ∃ b w, y.1 = b :: w ∧ lvB b = (k : Int) + 1 := by
  have hk' : k = 0 ∨ k = 1 ∨ k = 2 ∨ k = 3 := by omega
  rcases hk' with rfl | rfl | rfl | rfl <;> intro y hy <;> simp only [sgn, List.mem_cons, List.not_mem_nil, or_false] at hy
  · rcases hy with rfl | rfl | rfl | rfl | rfl | rfl <;> exact ⟨_, _, rfl, by decide⟩
  · subst hy; exact ⟨_, _, rfl, by decide⟩
  · rcases hy with rfl | rfl <;> exact ⟨_, _, rfl, by decide⟩
  · rcases hy with rfl | rfl <;> exact ⟨_, _, rfl, by decide⟩
/-- no sign of a level stands where a part ends -/
theorem sig_stop {n k : Nat} (hk : k ≤ 3) {r : List UInt8} {s : PS} (h : AtL n r s) (hs : StopK ((k : Int) + 1) r) (hb : NB r) : s.sig (sgn k) = none := by
  unfold PS.sig
  rw [List.find?_eq_none.2]
  · rfl
  intro y hy
  cases r with
  | nil => simp [is_nosign (s := s) (by rw [at_end h]; decide)]
  | cons b u =>
    intro hi
    obtain ⟨w, e⟩ := is_head h hb hi
    obtain ⟨c, v, e2, hl⟩ := sgn_lv hk y hy
    rw [e] at e2
    injection e2 with e2 _
    subst e2
    have := hs b u rfl
    unfold stopB at this
    simp only [Bool.or_eq_false_iff, decide_eq_false_iff_not] at this
    exact this.2 (by omega)
theorem op_node {n : NL} (h : n.may = true) (k : n.kind = 4) : n = opN n.op := may_op h k
theorem add_ok {s : PS} {n : NL} {a : Int} (h : s.nodes.length < 1024) : s.add n a = .ok { s with nodes := s.nodes ++ [n] } := if_neg (by omega)
/-- the signs of a level, one behind the other -/
theorem read_rows {tb : Tb} {n k M : Nat} (hk : k ≤ 3) (H : ReadL tb n (k + 1) M) {r : List UInt8} (hr : StopK ((k : Int) + 1) r) (hb : NB r) (d : Int) :
    ∀ (l : List (NL × Tm)) (s : PS), (∀ p ∈ l, Sign ((k : Int) + 1) p ∧ Came tb p.2 ∧ p.2.isRect = false ∧ (nestAt p.2 ((k : Int) + 1 + 1) : Int) ≤ d) → (rowT ((k : Int) + 1) l).length ≤ M → AtL n (rowT ((k : Int) + 1) l ++ r) s → s.opn + d ≤ 32 → s.nodes.length + (l.flatMap fun p => p.2.nodes ++ [p.1]).length ≤ 1024 →
      ∃ f s', px tb f (.loop k) s = some (.ok s') ∧ Rd n r s s' (l.flatMap fun p => p.2.nodes ++ [p.1])
  | [], s, _, _, ha, _, _ => ⟨1, s, by rw [px, sig_stop hk ha hr hb], ha, rfl, by simp⟩
  | p :: l, s, hl, hM, ha, ho, hf => by
    obtain ⟨⟨m1, m2, m3, m4, m5, m6⟩, c1, c2, c3⟩ := hl p (by simp)
    have e1 : rowT ((k : Int) + 1) (p :: l) ++ r = opT p.1.op ++ (At p.2 ((k : Int) + 1 + 1) ++ (rowT ((k : Int) + 1) l ++ r)) := by
      show (opT p.1.op ++ (At p.2 _ ++ rowT _ l)) ++ r = _
      simp only [List.append_assoc]
    have e2 : (rowT ((k : Int) + 1) (p :: l)).length = (opT p.1.op).length + ((At p.2 ((k : Int) + 1 + 1)).length + (rowT ((k : Int) + 1) l).length) := by
      show (opT p.1.op ++ (At p.2 _ ++ rowT _ l)).length = _
      simp only [List.length_append]
    have e3 : ((p :: l).flatMap fun p => p.2.nodes ++ [p.1]).length = p.2.nodes.length + 1 + (l.flatMap fun p => p.2.nodes ++ [p.1]).length := by
      rw [List.flatMap_cons]; simp; omega
    rw [e1] at ha
    obtain ⟨⟨q, hq⟩, ha1⟩ := at_step ha (nb_op m3 m4 _) (bk_op m3 m4 _ (at_noeq m6 _ _)) rfl
    have hl' := fun p hp => hl p (List.mem_cons_of_mem _ hp)
    have hsg : ∀ p ∈ l, Sign ((k : Int) + 1) p := fun p hp => (hl' p hp).1
    obtain ⟨f1, s1, hp1, r1⟩ := H p.2 (rowT ((k : Int) + 1) l ++ r) s.step ⟨m6, c1, c2, by
        have := row_stop (by omega) hsg hr
        exact_mod_cast this, nb_row hsg hb, by push_cast; omega, by push_cast; exact ha1, by rw [PS.step_opn]; push_cast; omega, by rw [PS.step_nodes]; omega⟩
    have hn1 : s1.nodes = s.nodes ++ p.2.nodes := by rw [r1.nodes, PS.step_nodes]
    have ho1 : s1.opn = s.opn := by rw [r1.opn, PS.step_opn]
    have hadd := add_ok (s := s1) (n := opN p.1.op) (a := s.now.place) (by rw [hn1, List.length_append]; omega)
    obtain ⟨f2, s2, hp2, r2⟩ := read_rows hk H hr hb d l { s1 with nodes := s1.nodes ++ [opN p.1.op] } hl' (by omega) r1.at' (by show s1.opn + d ≤ 32; omega) (by show (s1.nodes ++ [opN p.1.op]).length + _ ≤ 1024; rw [hn1]; simp only [List.length_append, List.length_cons, List.length_nil]; omega)
    refine ⟨max f1 f2 + 1, s2, ?_, r2.at', r2.opn.trans ho1, ?_⟩
    · rw [px, sig_at hk m3 m4 m5 hq]
      simp only
      rw [px_le tb hp1 (Nat.le_max_left _ _)]
      simp only [bindR]
      rw [hadd]
      simp only
      exact px_le tb hp2 (Nat.le_max_right _ _)
    · rw [r2.nodes]
      show (s1.nodes ++ [opN p.1.op]) ++ _ = _
      rw [hn1, ← op_node m1 m2, List.flatMap_cons]
      simp only [List.append_assoc]
/-- a level of two sides -/
theorem read_low {tb : Tb} {n k M : Nat} (hk : k ≤ 3) (H : ReadL tb n (k + 1) M) : ReadL tb n k M := by
  intro t r s a
  obtain ⟨h, l, e, hf, hc, hr, hl, hn, ht⟩ := spine2 (k := (k : Int) + 1) (by omega) (by omega) a.fine a.came a.rect
  have hsg : ∀ p ∈ l, Sign ((k : Int) + 1) p := fun p hp => (hl p hp).1
  have ha := a.at'
  have hM := a.len
  have hfew := a.few
  have hno : t.nodes = h.nodes ++ l.flatMap fun p => p.2.nodes ++ [p.1] := by rw [e, grow_nodes]
  have ho := a.opn
  rw [ht, List.append_assoc] at ha
  rw [ht, List.length_append] at hM
  rw [hno, List.length_append] at hfew
  obtain ⟨f1, s1, hp1, r1⟩ := H h (rowT ((k : Int) + 1) l ++ r) s ⟨hf, hc, hr, by
      have := row_stop (by omega) hsg a.stop
      exact_mod_cast this, nb_row hsg a.nb, by push_cast; omega, by push_cast; exact ha, by push_cast; omega, by omega⟩
  obtain ⟨f2, s2, hp2, r2⟩ := read_rows hk H a.stop a.nb (nestAt t ((k : Int) + 1) : Int) l s1 (fun p hp => ⟨(hl p hp).1, (hl p hp).2.1, (hl p hp).2.2.1, by have := (hl p hp).2.2.2; omega⟩) (by omega) r1.at' (by rw [r1.opn]; exact ho) (by rw [r1.nodes, List.length_append]; omega)
  refine ⟨max f1 f2 + 1, s2, ?_, r2.at', r2.opn.trans r1.opn, by rw [r2.nodes, r1.nodes, hno, List.append_assoc]⟩
  rw [px, if_neg (by omega), px_le tb hp1 (Nat.le_max_left _ _)]
  exact px_le tb hp2 (Nat.le_max_right _ _)
theorem neg_no {n : Nat} {t : Tm} (h : Fine t) (hb : t.binds ≠ 5) {r : List UInt8} {s : PS} (ha : AtL n (At t 5 ++ r) s) : s.is [45] = false := by
  cases hi : s.is [45] with
  | false => rfl
  | true =>
    obtain ⟨b, l, e, _⟩ := head_at h 5
    have hnb := nb_at h 5 r
    rw [e] at ha hnb
    obtain ⟨w, hw⟩ := is_head ha hnb hi
    injection hw with hw _
    exact (no_neg h hb r (l ++ r) (by rw [e, ← hw]; rfl)).elim
/-- signs ahead -/
theorem read_neg {tb : Tb} {n M : Nat} (H6 : Read6 tb n (M + 1)) (H : Read5 tb n M) : Read5 tb n (M + 1) := by
  intro t r s a ats
  by_cases bt : t.binds = 5
  · obtain ⟨nn, u, e, ho⟩ := neg_form a.fine bt
    subst e
    obtain ⟨m1, m2, _, hfu⟩ := a.fine.un
    have hopn := op_node m1 m2
    rw [ho] at hopn
    have et : At (un nn u) 5 = 45 :: At u 5 := by rw [at_high (by omega), text_neg ho]
    have ha := a.at'
    have hM := a.len
    have hfew := a.few
    have hopn2 := a.opn
    rw [et] at ha hM
    have hnest : nestAt (un nn u) 5 = nestAt u 5 := by rw [nest_high (by omega), nest_un, ho]; rfl
    rw [hnest] at hopn2
    have hnodes : (un nn u).nodes = u.nodes ++ [nn] := rfl
    rw [hnodes, List.length_append] at hfew
    obtain ⟨⟨p, hp⟩, ha1⟩ := at_step (c := [45]) (r := At u 5 ++ r) ha (nb_cons (by decide) _) (bk_sign (by decide) _ (.inl (by decide))) rfl
    have hi : s.is [45] = true := by rw [is_tok hp]; rfl
    obtain ⟨f, s1, hp1, r1⟩ := H u r s.step ⟨hfu, a.came.1, a.came.2, a.stop, a.nb, by simp at hM; omega, ha1, by rw [PS.step_opn]; exact hopn2, by rw [PS.step_nodes]; simp at hfew; omega⟩ (s.now.place :: ats)
    have hn1 : s1.nodes = s.nodes ++ u.nodes := by rw [r1.nodes, PS.step_nodes]
    have hadd := add_ok (s := s1) (n := opN 1) (a := s.now.place) (by rw [hn1, List.length_append]; simp at hfew; omega)
    refine ⟨f + 1, { s1 with nodes := s1.nodes ++ [opN 1] }, ?_, r1.at', by show s1.opn = s.opn; rw [r1.opn, PS.step_opn], ?_⟩
    · rw [px, if_pos hi, hp1, negs, hadd]
    · show s1.nodes ++ [opN 1] = _
      rw [hn1, hnodes, ← hopn, List.append_assoc]
  · have e5 : At t 5 = At t 6 := at_next bt
    have en : nestAt t 5 = nestAt t 6 := nest_next bt
    have hi := neg_no a.fine bt a.at'
    obtain ⟨f, s1, hp1, r1⟩ := H6 t r s ⟨a.fine, a.came, a.rect, a.stop.up (by decide), a.nb, by rw [← e5]; exact a.len, by rw [← e5]; exact a.at', by rw [← en]; exact a.opn, a.few⟩
    refine ⟨f + 1, s1, ?_, r1⟩
    rw [px, hi, if_neg (by decide)]
    rcases bindR_some hp1 with ⟨_, _, _, h⟩ | ⟨s2, h1, h2⟩
    · cases h
    · rw [h1]
      simp only [bindR]
      rw [h2]
theorem step_put (s : PS) (l : List NL) : ({ s with nodes := l } : PS).step = { s.step with nodes := l } := by
  obtain ⟨a, b, c, d⟩ := s
  cases b <;> rfl
theorem read_pcts {tb : Tb} {n : Nat} {r : List UInt8} (hr : StopK 6 r) (hb : NB r) : ∀ (m : Nat) (s : PS), AtL n (List.replicate m 37 ++ r) s → s.nodes.length + m ≤ 1024 → ∃ f s', px tb f .pct s = some (.ok s') ∧ Rd n r s s' (List.replicate m (opN 2)) := by
  intro m
  induction m with
  | zero =>
    intro s ha _
    refine ⟨1, s, ?_, ha, rfl, by simp⟩
    have hi : s.is [37] = false := by
      cases hi : s.is [37] with
      | false => rfl
      | true =>
        cases r with
        | nil => rw [is_nosign (s := s) (by rw [at_end ha]; decide)] at hi; cases hi
        | cons b u =>
          obtain ⟨w, e⟩ := is_head ha hb hi
          injection e with e _
          have := pct_no hr b u rfl
          simp only [decide_eq_false_iff_not] at this
          exact absurd e.symm this
    rw [px, hi, if_neg (by decide)]
  | succ m ih =>
    intro s ha hf
    have e37 : List.replicate (m + 1) (37 : UInt8) ++ r = [37] ++ (List.replicate m 37 ++ r) := by rw [List.replicate_succ]; rfl
    rw [e37] at ha
    have hx : firstT ([37] ++ (List.replicate m 37 ++ r)) = (tokS 7 [37], [(37 : UInt8)].length) := bk_sign (c := 37) (by decide) _ (.inl (by decide))
    obtain ⟨⟨p, hp⟩, ha1⟩ := at_step ha (nb_cons (b := 37) (by decide) _) hx rfl
    have hi : s.is [37] = true := by rw [is_tok hp]; rfl
    have hadd := add_ok (s := s) (n := opN 2) (a := s.now.place) (by omega)
    have hst := step_put s (s.nodes ++ [opN 2])
    obtain ⟨f, s1, hp1, r1⟩ := ih ({ s with nodes := s.nodes ++ [opN 2] } : PS).step (by rw [hst]; exact ha1) (by rw [PS.step_nodes]; show (s.nodes ++ [opN 2]).length + m ≤ 1024; simp; omega)
    refine ⟨f + 1, s1, ?_, r1.at', by rw [r1.opn, PS.step_opn], ?_⟩
    · rw [px, if_pos hi, hadd]
      exact hp1
    · rw [r1.nodes, PS.step_nodes]
      show (s.nodes ++ [opN 2]) ++ _ = _
      rw [List.replicate_succ, List.append_assoc]; rfl
theorem read_pct {tb : Tb} {n M : Nat} (H : Read7 tb n M) : Read6 tb n M := by
  intro t r s a
  obtain ⟨h, m, e, hf, hc, hr, hn, ht⟩ := spine_pct2 a.fine a.came a.rect
  have ha := a.at'
  have hM := a.len
  have hfew := a.few
  have ho := a.opn
  have hno : t.nodes = h.nodes ++ List.replicate m (opN 2) := by rw [e, growP_nodes]
  rw [ht, List.append_assoc] at ha
  rw [ht, List.length_append] at hM
  rw [hno, List.length_append, List.length_replicate] at hfew
  obtain ⟨f1, s1, hp1, r1⟩ := H h (List.replicate m 37 ++ r) s ⟨hf, hc, hr, pct_stop a.stop m, by
      cases m with
      | zero => exact a.nb
      | succ m => exact nb_cons (by decide) _, by omega, ha, by omega, by omega⟩
  obtain ⟨f2, s2, hp2, r2⟩ := read_pcts (tb := tb) a.stop a.nb m s1 r1.at' (by rw [r1.nodes, List.length_append]; omega)
  refine ⟨max f1 f2, s2, ?_, r2.at', r2.opn.trans r1.opn, by rw [r2.nodes, r1.nodes, hno, List.append_assoc]⟩
  rw [px_le tb hp1 (Nat.le_max_left _ _)]
  exact px_le tb hp2 (Nat.le_max_right _ _)
end Tm
end Go.Proofs.YtfbkoieodflcpaaGreatDoor
