/-
  Plain laws of the parser: fuel, what is kept, other functions, other places; parse: the reader's row; Plain: brackets around the whole.
-/
import Derived.Test.YtiekhbagpmnboaaGreatDoorMg0
import Derived.Test.YtiekhbagpmnboaaGreatDoorRows
import Derived.Test.YtiekhbagpmnboaaGreatDoorProg
import Derived.Test.YtiekhbagpmnboaaGreatDoorAddrC
import Derived.Test.YtiekhbagpmnboaaGreatDoorMg2
import Derived.Test.YtiekhbagpmnboaaGreatDoorMg26
import Derived.Test.YtiekhbagpmnboaaGreatDoorValA
import Derived.Test.YtiekhbagpmnboaaGreatDoorValB
import Derived.Test.YtiekhbagpmnboaaGreatDoorMg5
import Derived.Test.YtiekhbagpmnboaaGreatDoorMg6
import Derived.Test.YtiekhbagpmnboaaGreatDoorMg7
import Derived.Test.YtiekhbagpmnboaaGreatDoorPaW
import Derived.Test.YtiekhbagpmnboaaGreatDoorMg9
import Derived.Lib.ItoaMem
import Derived.Lib.TrimByte
import Derived.Lib.IndexLaws
import Derived.Lib.SlTrimSet
import Derived.Lib.ParseIntB
import Derived.WalkKit
import Derived.ProofKit
import Derived.OpenShut
import Derived.Carry
import Derived.ChangeSame
import Derived.Lib.Hide
import Derived.Deep.Draws
import Derived.Shelf.Strings.Builder1
import Derived.Shelf.Strings.Trim
import Derived.Shelf.Small.Utf8
import Derived.Shelf.Small.Strs
import Derived.Shelf.Small.Wraps
import Derived.Shelf.Strings.BuilderF
import Derived.Shelf.Strings.BuilderK
import Derived.Shelf.Strconv.Itoa0
import Derived.Shelf.Strconv.Itoa1
import Derived.Shelf.LaysM
import Derived.Shelf.Strconv.Itoa2
import Derived.Shelf.Strconv.Itoa3
import Derived.Ground.MpProg
import Derived.Shelf.Pu.ParseUintPublic10
import Derived.Shelf.Strings.Search1
import Derived.Shelf.Strings.Search2
import Derived.Shelf.Strings.Cut
import Derived.Shelf.Strings.Shaped
import Derived.Shelf.Strings.Prefix
import Derived.Shelf.Strings.Runes
import Derived.Shelf.Strings.AsciiSet
import Derived.Shelf.Unicode.DecodeSlow
import Derived.WalkSpells
import Derived.WalkLawsBesides
import Derived.StillTactics
import Derived.Laws.Pointers
import Derived.Deep.RegionHeld3
import Derived.Deep.QuietTactic
import Derived.BigQuiet
import Derived.RowKit3
import Derived.Lib.OthersKept
import Derived.OwnWalk
import Derived.Lib.ItoaNum
import Derived.Maps.OwnSet
import Derived.Maps.AppendAt
import Derived.BigRegion
import Derived.ScopeJumps
import Derived.WalkMore
import Derived.Deep.RegionLaw
import Derived.Deep.AppendLies
namespace Go.Proofs.YtiekhbagpmnboaaGreatDoor
open Go.RowKit

theorem bindR_mono {x y : Option PR} {f g : PS → Option PR} {r : PR} (h : bindR x f = some r) (hx : ∀ q, x = some q → y = some q) (hf : ∀ s, x = some (.ok s) → ∀ q, f s = some q → g s = some q) : bindR y g = some r := by
  rcases bindR_some h with ⟨e, a, h1, rfl⟩ | ⟨s, h1, h2⟩
  · rw [hx _ h1]; rfl
  · rw [hx _ h1]; exact hf s h1 _ h2
theorem px_step (tb : Tb) : ∀ (f : Nat) (m : Md) (s : PS) (r : PR), px tb f m s = some r → px tb (f + 1) m s = some r := by
  intro f
  induction f with
  | zero => intro m s r h; cases h
  | succ f ih =>
    intro m s r h
    cases m with
    | lev k =>
      rw [px] at h ⊢
      split
      · rename_i hk
        rw [if_pos hk] at h
        exact ih _ _ _ h
      · rename_i hk
        rw [if_neg hk] at h
        exact bindR_mono h (ih _ _) fun s _ => ih _ _
    | loop k =>
      rw [px] at h ⊢
      split
      · rename_i hs; rw [hs] at h; exact h
      · rename_i o hs
        rw [hs] at h
        exact bindR_mono h (ih _ _) fun s1 _ q h2 => bindR_mono h2 (fun _ h => h) fun s2 _ => ih _ _
    | neg ats =>
      rw [px] at h ⊢
      split
      · rename_i hs; rw [if_pos hs] at h; exact ih _ _ _ h
      · rename_i hs; rw [if_neg hs] at h
        exact bindR_mono h (ih _ _) fun s1 _ q h2 => bindR_mono h2 (ih _ _) fun s2 _ q h3 => h3
    | pct =>
      rw [px] at h ⊢
      split
      · rename_i hs; rw [if_pos hs] at h
        exact bindR_mono h (fun _ h => h) fun s1 _ => ih _ _
      · rename_i hs; rw [if_neg hs] at h; exact h
    | prim =>
      rw [px] at h ⊢
      split
      · rename_i n hs; rw [hs] at h; exact h
      · rename_i hs
        rw [hs] at h
        dsimp only at h
        split
        · rename_i h3
          rw [if_pos h3] at h
          split
          · rename_i h4; rw [if_pos h4] at h; exact h
          · rename_i h4; rw [if_neg h4] at h
            exact bindR_mono h (fun _ h => h) fun s1 _ => ih _ _
        · rename_i h3
          rw [if_neg h3] at h
          exact bindR_mono h (fun _ h => h) fun s1 _ q h2 => bindR_mono h2 (ih _ _) fun s2 _ q h3 => h3
    | args nm p rects =>
      rw [px] at h ⊢
      split
      · rename_i h1; rw [if_pos h1] at h; exact h
      · rename_i h1
        rw [if_neg h1] at h
        split
        · rename_i h2; rw [if_pos h2] at h; exact h
        · rename_i h2
          rw [if_neg h2] at h
          refine bindR_mono h (fun _ h => h) fun s1 _ q h3 => ?_
          split
          · rename_i h5
            rw [if_pos h5] at h3
            exact bindR_mono h3 (fun _ h => h) fun s2 _ => ih _ _
          · rename_i h5
            rw [if_neg h5] at h3
            exact bindR_mono h3 (ih _ _) fun s2 _ => ih _ _
theorem px_mono (tb : Tb) {f g : Nat} (hfg : f ≤ g) {m : Md} {s : PS} {r : PR} (h : px tb f m s = some r) : px tb g m s = some r := by
  induction hfg with
  | refl => exact h
  | step _ ih => exact px_step tb _ _ _ _ ih
theorem px_same (tb : Tb) {f g : Nat} {m : Md} {s : PS} {r q : PR} (h : px tb f m s = some r) (h' : px tb g m s = some q) : r = q := by
  have a := px_mono tb (Nat.le_max_left f g) h
  have b := px_mono tb (Nat.le_max_right f g) h'
  rw [a] at b
  injection b
/-- whatever the fuel: what a part that is read leaves -/
theorem px_after (tb : Tb) {f : Nat} {m : Md} {s s' : PS} (hw : s.wf) (hm : m.ok) (h : px tb f m s = some (.ok s')) : PS.After m s s' := by
  obtain ⟨r, e, hr⟩ := px_total tb _ m s hw hm (Nat.le_refl _)
  exact hr s' (px_same tb e h)
/-- what each step keeps, all keep -/
structure PxInv (I : PS → PS → Prop) : Prop where
  refl : ∀ s, I s s
  trans : ∀ {a b c}, I a b → I b c → I a c
  step : ∀ s : PS, I s s.step
  add : ∀ (s : PS) n, I s { s with nodes := n }
  opens : ∀ s : PS, s.is [40] = true → I s { s with opn := s.opn + 1 }.step
  closes : ∀ s : PS, I s { s with opn := s.opn - 1 }.step
theorem bindR_ok {x : Option PR} {f : PS → Option PR} {s' : PS} (h : bindR x f = some (.ok s')) : ∃ s, x = some (.ok s) ∧ f s = some (.ok s') := by
  rcases bindR_some h with ⟨e, a, _, h2⟩ | h
  · cases h2
  · exact h
theorem PxInv.negs {I : PS → PS → Prop} (hI : PxInv I) : ∀ {l : List Int} {s s' : PS}, negs l s = .ok s' → I s s'
  | [], s, s', h => by simp only [Go.Proofs.YtiekhbagpmnboaaGreatDoor.negs] at h; injection h with h; subst h; exact hI.refl _
  | a :: l, s, s', h => by
    simp only [Go.Proofs.YtiekhbagpmnboaaGreatDoor.negs] at h
    split at h
    · cases h
    · rename_i s1 h1
      obtain ⟨rfl, _⟩ := add_some h1
      exact hI.trans (hI.add s _) (hI.negs h)
theorem PxInv.px {I : PS → PS → Prop} (hI : PxInv I) (tb : Tb) : ∀ (f : Nat) (m : Md) (s s' : PS), px tb f m s = some (.ok s') → I s s' := by
  intro f
  induction f with
  | zero => intro m s r h; cases h
  | succ f ih =>
    intro m s s' h
    cases m with
    | lev k =>
      rw [Go.Proofs.YtiekhbagpmnboaaGreatDoor.px] at h
      split at h
      · exact ih _ _ _ h
      · obtain ⟨s1, h1, h2⟩ := bindR_ok h
        exact hI.trans (ih _ _ _ h1) (ih _ _ _ h2)
    | loop k =>
      rw [Go.Proofs.YtiekhbagpmnboaaGreatDoor.px] at h
      split at h
      · injection h with h; injection h with h; subst h; exact hI.refl _
      · obtain ⟨s1, h1, h2⟩ := bindR_ok h
        obtain ⟨s2, h3, h4⟩ := bindR_ok h2
        injection h3 with h3
        obtain ⟨rfl, _⟩ := add_some h3
        exact hI.trans (hI.step s) (hI.trans (ih _ _ _ h1) (hI.trans (hI.add s1 _) (ih _ _ _ h4)))
    | neg ats =>
      rw [Go.Proofs.YtiekhbagpmnboaaGreatDoor.px] at h
      split at h
      · exact hI.trans (hI.step s) (ih _ _ _ h)
      · obtain ⟨s1, h1, h2⟩ := bindR_ok h
        obtain ⟨s2, h3, h4⟩ := bindR_ok h2
        injection h4 with h4
        exact hI.trans (ih _ _ _ h1) (hI.trans (ih _ _ _ h3) (hI.negs h4))
    | pct =>
      rw [Go.Proofs.YtiekhbagpmnboaaGreatDoor.px] at h
      split at h
      · obtain ⟨s1, h1, h2⟩ := bindR_ok h
        injection h1 with h1
        obtain ⟨rfl, _⟩ := add_some h1
        exact hI.trans (hI.add s _) (hI.trans (hI.step _) (ih _ _ _ h2))
      · injection h with h; injection h with h; subst h; exact hI.refl _
    | prim =>
      rw [Go.Proofs.YtiekhbagpmnboaaGreatDoor.px] at h
      split at h
      · obtain ⟨s1, h1, h2⟩ := bindR_ok h
        injection h1 with h1
        obtain ⟨rfl, _⟩ := add_some h1
        injection h2 with h2; injection h2 with h2; subst h2
        exact hI.trans (hI.add s _) (hI.step _)
      · split at h
        · split at h
          · injection h with h; cases h
          · obtain ⟨s1, h1, h2⟩ := bindR_ok h
            injection h1 with h1
            obtain ⟨rfl, h40, _⟩ := opens_some h1
            exact hI.trans (hI.step s) (hI.trans (hI.opens _ h40) (ih _ _ _ h2))
        · obtain ⟨s1, h1, h2⟩ := bindR_ok h
          injection h1 with h1
          obtain ⟨rfl, h40, _⟩ := opens_some h1
          obtain ⟨s2, h3, h4⟩ := bindR_ok h2
          injection h4 with h4
          obtain ⟨rfl, _⟩ := closes_some h4
          exact hI.trans (hI.opens s h40) (hI.trans (ih _ _ _ h3) (hI.closes _))
    | args nm p rects =>
      rw [Go.Proofs.YtiekhbagpmnboaaGreatDoor.px] at h
      split at h
      · split at h
        · obtain ⟨s1, h1, h2⟩ := bindR_ok h
          injection h1 with h1
          obtain ⟨rfl, _⟩ := add_some h1
          injection h2 with h2
          obtain ⟨rfl, _⟩ := closes_some h2
          exact hI.trans (hI.add s _) (hI.closes _)
        · injection h with h; cases h
      · split at h
        · injection h with h; cases h
        · obtain ⟨s1, h1, h2⟩ := bindR_ok h
          have h01 : I s s1 := by
            injection h1 with h1; injection h1 with h1; subst h1
            split
            · exact hI.refl _
            · exact hI.step _
          refine hI.trans h01 ?_
          split at h2
          · obtain ⟨s2, h3, h4⟩ := bindR_ok h2
            injection h3 with h3
            obtain ⟨rfl, _⟩ := add_some h3
            exact hI.trans (hI.add s1 _) (hI.trans (hI.step _) (ih _ _ _ h4))
          · obtain ⟨s2, h3, h4⟩ := bindR_ok h2
            exact hI.trans (ih _ _ _ h3) (ih _ _ _ h4)
theorem step_suffix (s : PS) : (s.step.now :: s.step.rest) <:+ (s.now :: s.rest) := by
  unfold PS.step
  cases h : s.rest with
  | nil => simp [h]
  | cons x r => exact List.suffix_cons _ _
theorem suffix_inv : PxInv fun s s' => (s'.now :: s'.rest) <:+ (s.now :: s.rest) where
  refl := fun _ => List.suffix_refl _
  trans := fun a b => b.trans a
  step := step_suffix
  add := fun _ _ => List.suffix_refl _
  opens := fun s _ => step_suffix { s with opn := s.opn + 1 }
  closes := fun s => step_suffix { s with opn := s.opn - 1 }
/-- how many brackets are opened by tokens -/
def PS.cnt (s : PS) : Nat := (s.now :: s.rest).countP fun x => decide (x.kind = 7) && decide (x.str = ⟨#[40]⟩)
theorem cnt_step (s : PS) : s.step.cnt ≤ s.cnt := (step_suffix s).sublist.countP_le
theorem opens_inv : PxInv fun s s' => s.wf → s'.wf ∧ s'.opn + s'.cnt ≤ s.opn + s.cnt where
  refl := fun _ h => ⟨h, Int.le_refl _⟩
  trans := fun a b h => ⟨(b (a h).1).1, Int.le_trans (b (a h).1).2 (a h).2⟩
  step := fun s h => ⟨PS.wf_step h, by have := cnt_step s; rw [PS.step_opn]; omega⟩
  add := fun s n h => ⟨h, Int.le_refl _⟩
  opens := fun s h hw => by
    refine ⟨PS.wf_step (s := { s with opn := s.opn + 1 }) hw, ?_⟩
    have h1 : s.cnt = (if (decide (s.now.kind = 7) && decide (s.now.str = ⟨#[40]⟩)) = true then 1 else 0) + s.rest.countP fun x => decide (x.kind = 7) && decide (x.str = ⟨#[40]⟩) := by
      unfold PS.cnt; rw [List.countP_cons, Nat.add_comm]
    have h2 : (decide (s.now.kind = 7) && decide (s.now.str = ⟨#[40]⟩)) = true := h
    rw [if_pos h2] at h1
    obtain ⟨x, r, hr⟩ := PS.wf_rest hw (PS.is_last h)
    rw [hr] at h1
    rw [PS.step_opn]
    simp only [PS.step, hr, PS.cnt]
    simp only [PS.cnt] at h1
    rw [hr] at h1
    omega
  closes := fun s hw => by
    refine ⟨PS.wf_step (s := { s with opn := s.opn - 1 }) hw, ?_⟩
    have := cnt_step { s with opn := s.opn - 1 }
    have h2 : ({ s with opn := s.opn - 1 } : PS).cnt = s.cnt := rfl
    rw [PS.step_opn]; simp only [h2] at this ⊢; omega
/-- other places -/
def Tok.mv (φ : Int → Int) (x : Tok) : Tok := x.put (φ x.place)
def PS.mv (φ : Int → Int) (s : PS) : PS := ⟨s.now.mv φ, s.rest.map (Tok.mv φ), s.opn, s.nodes⟩
def PR.mv (φ : Int → Int) : PR → PR | .ok s => .ok (s.mv φ) | .bad e a => .bad e (φ a)
def Md.mv (φ : Int → Int) : Md → Md | .neg l => .neg (l.map φ) | .args n p r => .args n (φ p) r | m => m
theorem mv_step (φ : Int → Int) (s : PS) : (s.mv φ).step = s.step.mv φ := by
  obtain ⟨a, r, o, n⟩ := s
  cases r <;> rfl
theorem mv_is (φ : Int → Int) (s : PS) (c : List UInt8) : (s.mv φ).is c = s.is c := rfl
theorem mv_sig (φ : Int → Int) (s : PS) (l : List (List UInt8 × Int)) : (s.mv φ).sig l = s.sig l := rfl
theorem mv_add (φ : Int → Int) (s : PS) (n : NL) (a : Int) : (s.mv φ).add n (φ a) = (s.add n a).mv φ := by
  unfold PS.add
  rw [show (s.mv φ).nodes = s.nodes from rfl]
  split <;> rfl
theorem mv_set (φ : Int → Int) (s : PS) (o : Int) : ({ s.mv φ with opn := o } : PS) = ({ s with opn := o } : PS).mv φ := rfl
theorem mv_opens (φ : Int → Int) (s : PS) : (s.mv φ).opens = s.opens.mv φ := by
  unfold PS.opens
  rw [mv_is, show (s.mv φ).opn = s.opn from rfl, mv_set, mv_step]
  split
  · rfl
  · split <;> rfl
theorem mv_closes (φ : Int → Int) (s : PS) : (s.mv φ).closes = s.closes.mv φ := by
  unfold PS.closes
  rw [mv_is, show (s.mv φ).opn = s.opn from rfl, mv_set, mv_step]
  split <;> rfl
theorem mv_negs (φ : Int → Int) : ∀ (l : List Int) (s : PS), negs (l.map φ) (s.mv φ) = (negs l s).mv φ
  | [], s => rfl
  | a :: l, s => by
    simp only [List.map_cons, negs]
    rw [mv_add]
    cases s.add (opN 1) a with
    | bad e b => rfl
    | ok s' => exact mv_negs φ l s'
theorem mv_bind (φ : Int → Int) {x y : Option PR} {f g : PS → Option PR} (hx : y = x.map (PR.mv φ)) (hf : ∀ s, g (s.mv φ) = (f s).map (PR.mv φ)) : bindR y g = (bindR x f).map (PR.mv φ) := by
  subst hx
  cases x with
  | none => rfl
  | some r => cases r with
    | bad e a => rfl
    | ok s => exact hf s
theorem px_mv (tb : Tb) (φ : Int → Int) : ∀ (f : Nat) (m : Md) (s : PS), px tb f (m.mv φ) (s.mv φ) = (px tb f m s).map (PR.mv φ) := by
  intro f
  induction f with
  | zero => intro m s; rfl
  | succ f ih =>
    intro m s
    cases m with
    | lev k =>
      simp only [Md.mv, px]
      by_cases h : k = 4
      · simp only [h, ↓reduceIte]; exact ih (.neg []) s
      · simp only [h, ↓reduceIte]
        exact mv_bind φ (ih (.lev (k + 1)) s) (ih (.loop k))
    | loop k =>
      simp only [Md.mv, px, mv_sig]
      split
      · rfl
      · rename_i o ho
        rw [mv_step]
        refine mv_bind φ (ih (.lev (k + 1)) s.step) fun s1 => ?_
        refine mv_bind φ (x := some (s1.add (opN o) s.now.place)) ?_ (ih (.loop k))
        exact congrArg some (mv_add φ s1 _ _)
    | neg ats =>
      simp only [Md.mv, px, mv_is]
      by_cases h : s.is [45] = true
      · simp only [h, ↓reduceIte]; rw [mv_step]; exact ih (.neg (s.now.place :: ats)) s.step
      · simp only [h]
        refine mv_bind φ (ih .prim s) fun s1 => mv_bind φ (ih .pct s1) fun s2 => ?_
        exact congrArg some (mv_negs φ ats s2)
    | pct =>
      simp only [Md.mv, px, mv_is]
      by_cases h : s.is [37] = true
      · simp only [h, ↓reduceIte]
        refine mv_bind φ (x := some (s.add (opN 2) s.now.place)) (congrArg some (mv_add φ s _ _)) fun s1 => ?_
        rw [mv_step]; exact ih .pct s1.step
      · simp only [h]; rfl
    | prim =>
      simp only [Md.mv, px]
      rw [show leafN (s.mv φ).now = leafN s.now from rfl]
      split
      · rename_i n hn
        refine mv_bind φ (x := some (s.add n s.now.place)) (congrArg some (mv_add φ s _ _)) fun s1 => ?_
        rw [mv_step]; rfl
      · rw [show (s.mv φ).now.kind = s.now.kind from rfl, show (s.mv φ).now.str = s.now.str from rfl]
        split
        · split
          · rfl
          · rw [mv_step, mv_opens]
            exact mv_bind φ rfl fun s1 => ih (.args s.now.str s.now.place []) s1
        · rw [mv_opens]
          refine mv_bind φ rfl fun s1 => mv_bind φ (ih (.lev 0) s1) fun s2 => ?_
          rw [mv_closes]; rfl
    | args nm p rects =>
      simp only [Md.mv, px, mv_is]
      by_cases h : s.is [41] = true
      · simp only [h, ↓reduceIte]
        by_cases h2 : tb.takes nm rects = true
        · simp only [h2, ↓reduceIte]
          refine mv_bind φ (x := some (s.add (callN nm rects.length) p)) (congrArg some (mv_add φ s _ _)) fun s1 => ?_
          rw [mv_closes]; rfl
        · simp only [h2]; rfl
      · simp only [h]
        by_cases h2 : rects ≠ [] ∧ (s.is [44] = false ∨ rects.length = 16)
        · have h2' := eq_true h2
          simp only [h2', ↓reduceIte, Bool.false_eq_true]; rfl
        · have h2' := eq_false h2
          simp only [h2', ↓reduceIte, Bool.false_eq_true]
          refine mv_bind φ (x := some (.ok (if rects = [] then s else s.step))) ?_ fun s1 => ?_
          · rw [mv_step]; split <;> rfl
          · rw [show (s1.mv φ).now.kind = s1.now.kind from rfl]
            by_cases h5 : s1.now.kind = 5
            · simp only [h5, ↓reduceIte]
              refine mv_bind φ (x := some (s1.add (rectN' s1.now.t s1.now.l s1.now.b s1.now.q) s1.now.place)) (congrArg some (mv_add φ s1 _ _)) fun s2 => ?_
              rw [mv_step]; exact ih (.args nm p (rects ++ [true])) s2.step
            · simp only [h5, ↓reduceIte]
              exact mv_bind φ (ih (.lev 0) s1) (ih (.args nm p (rects ++ [false])))
end Go.Proofs.YtiekhbagpmnboaaGreatDoor
namespace Go.Proofs.YtiekhbagpmnboaaGreatDoor
open Go.RowKit

/-- the signs and operations of a row, as they lie -/
def sgRow (l : List (List UInt8 × Int)) : List Value := (l.map fun x => [.iface 9 (.string ⟨x.1.toArray⟩), .iface 3 (.int .i64 x.2)]).flatten
theorem sgRow_at (l : List (List UInt8 × Int)) (j : Nat) (x : List UInt8 × Int) (hx : l[j]? = some x) : (sgRow l)[j * 2]? = some (.iface 9 (.string ⟨x.1.toArray⟩)) ∧ (sgRow l)[j * 2 + 1]? = some (.iface 3 (.int .i64 x.2)) := by
  have h := fun (i : Nat) (u : Value) hu => flat_at (k := 2) (l.map fun x => [.iface 9 (.string ⟨x.1.toArray⟩), .iface 3 (.int .i64 x.2)]) (fun c hc => by obtain ⟨y, _, rfl⟩ := List.mem_map.1 hc; rfl) j [.iface 9 (.string ⟨x.1.toArray⟩), .iface 3 (.int .i64 x.2)] (by rw [List.getElem?_map, hx]; rfl) i u hu
  exact ⟨h 0 _ rfl, h 1 _ rfl⟩
def restLen (R : Nat) (w : World) : Nat := match w.cell? ⟨R, 0, none⟩ with | some (.slice _ n _) => n | _ => 0
theorem restLen_of {tv : TV} {R : Nat} {w : World} {s : PS} (h : RSt tv R w s) : restLen R w = s.rest.length := by
  obtain ⟨A, cap, N, h⟩ := h
  unfold restLen
  rw [cell_of_row w R 0 _ _ _ h.blk]
  rfl
theorem RSt.wf {tv : TV} {R : Nat} {w : World} {s : PS} (h : RSt tv R w s) : s.wf := by obtain ⟨A, cap, N, h⟩ := h; exact h.wf
theorem RSt.rl {tv : TV} {R : Nat} {w : World} {s : PS} (h : RSt tv R w s) : s.rest.length ≤ 1000000000 := by obtain ⟨A, cap, N, h⟩ := h; exact h.rl
theorem loop_some {tb : Tb} {g k : Nat} {s : PS} {r : PR} (h : px tb g (.loop k) s = some r) : ∃ g', g = g' + 1 ∧ ((s.sig (sgn k) = none ∧ r = .ok s) ∨ ∃ o, s.sig (sgn k) = some o ∧ ((∃ e a, px tb g' (.lev (k + 1)) s.step = some (.bad e a) ∧ r = .bad e a) ∨ ∃ s1, px tb g' (.lev (k + 1)) s.step = some (.ok s1) ∧ ((∃ e a, s1.add (opN o) s.now.place = .bad e a ∧ r = .bad e a) ∨ ∃ s2, s1.add (opN o) s.now.place = .ok s2 ∧ px tb g' (.loop k) s2 = some r))) := by
  cases g with
  | zero => cases h
  | succ g =>
    refine ⟨g, rfl, ?_⟩
    rw [px] at h
    split at h
    · rename_i hs
      injection h with h
      exact .inl ⟨hs, h.symm⟩
    · rename_i o hs
      refine .inr ⟨o, hs, ?_⟩
      rcases bindR_some h with h1 | ⟨s1, h1, h2⟩
      · exact .inl h1
      · refine .inr ⟨s1, h1, ?_⟩
        rcases bindR_some h2 with ⟨e, a, h3, h4⟩ | ⟨s2, h3, h4⟩
        · injection h3 with h3; exact .inl ⟨e, a, h3, h4⟩
        · injection h3 with h3; exact .inr ⟨s2, h3, h4⟩
theorem sig_drop (s : PS) (l : List (List UInt8 × Int)) (j : Nat) (x : List UInt8 × Int) (hx : l[j]? = some x) : s.sig (l.drop j) = if s.is x.1 then some x.2 else s.sig (l.drop (j + 1)) := by
  have h1 : l.drop j = x :: l.drop (j + 1) := by
    obtain ⟨hl, e⟩ := List.getElem?_eq_some_iff.1 hx
    rw [List.drop_eq_getElem_cons hl, e]
  rw [h1]
  unfold PS.sig
  rw [List.find?_cons]
  cases s.is x.1 <;> simp
/-- a scope whose label stands behind its first part: what holds at the label, from the first part and at every jump -/
theorem wp_scope_head {P : Program} {a : Act} {w : World} {Q : Exit → Act → World → Prop} {A rest : Code} (l : Nat) (J : Act → World → Prop) (μ : Act → World → Nat) (hf : findLabel (A.seq ((Code.label l).seq rest)) l = some (Code.skip.seq rest))
    (first : A.wp P (Exit.then J (Exit.jump l J Q)) a w)
    (pass : ∀ a w, J a w → rest.wp P (Exit.jump l (fun a' w' => J a' w' ∧ μ a' w' < μ a w) Q) a w) : (Code.scope (A.seq ((Code.label l).seq rest))).wp P Q a w := by
  refine wp_scope_jumps l J μ hf (wp_seq (wp_mono first fun e a w h => ?_)) fun a w hJ => wp_seq (wp_skip (pass a w hJ))
  cases e with
  | normal =>
    refine wp_seq (wp_label ?_)
    refine wp_mono (pass a w h) fun e a w he => ?_
    cases e with
    | goto l => exact ⟨he.1, he.2.1⟩
    | _ => exact he
  | _ => exact h
/-- where a row stands at its label -/
def RowJ (tb : Tb) (tv : TV) (R Sb : Nat) (F : FuncId) (first cap : Array Value) (Hd : World → Prop) (f k : Nat) (sgs : List (List UInt8 × Int)) (w : World) (r : PR) (a' : Act) (w' : World) : Prop :=
  ∃ (g : Nat) (s1 : PS) (u3 u4 u5 u6 u7 u8 u9 u10 u11 u12 u13 u14 u15 u16 u17 u18 u19 u20 u21 u22 u23 u24 u25 u26 u27 u28 u29 u30 u31 u32 u33 u34 u35 u36 u37 u38 u39 u40 u41 : Value), a' = { tmps := #[.pointer (some ⟨R, 0, none⟩), .func (.func F) first cap, .slice (some ⟨Sb, 0, none⟩) (sgs.length * 2) (sgs.length * 2), u3, u4, u5, u6, u7, u8, u9, u10, u11, u12, u13, u14, u15, u16, u17, u18, u19, u20, u21, u22, u23, u24, u25, u26, u27, u28, u29, u30, u31, u32, u33, u34, u35, u36, u37, u38, u39, u40, u41], defers := [] } ∧ g ≤ f ∧ px tb g (.loop k) s1 = some r ∧ KeepR R w w' ∧ RSt tv R w' s1 ∧ Hd w' ∧ Apart R w' Sb (sgRow sgs).toArray 20 (0, 0)
theorem assert_str (b : ByteArray) (w : World) : Sem.run Tryz.prog (Instr.typeAssert (.iface 9 (.string b)) 20 9 false) w = .ok (.string b) w := by kernel_rfl
theorem assert_int (b : Int) (w : World) : Sem.run Tryz.prog (Instr.typeAssert (.iface 3 (.int .i64 b)) 20 3 false) w = .ok (.int .i64 b) w := by kernel_rfl
set_option maxRecDepth 100000 in
set_option maxHeartbeats 4000000 in
theorem prow (k : Nat) (hk : k ≤ 3) (sgs : List (List UInt8 × Int)) (hsg : sgs = sgn k) (tb : Tb) (tv : TV) (R Sb : Nat) (F : FuncId) (first cap : Array Value) (hE : ∀ w, Sem.run Tryz.prog (callFunc F (first ++ cap)) w = .ok (.enter F (first ++ cap)) w) (Hd : World → Prop) (hHd : ∀ w w', Hd w → KeepR R w w' → Hd w') (f : Nat)
    (H : ∀ s w q, Hd w → RSt tv R w s → px tb f (.lev (k + 1)) s = some q → Calls Tryz.prog F (first ++ cap) w fun e w' => RRes tv R w q e w')
    (s : PS) (r : PR) (w : World) (h1 : bindR (px tb f (.lev (k + 1)) s) (px tb f (.loop k)) = some r) (hw : Hd w) (hR : RSt tv R w s) (hS : Apart R w Sb (sgRow sgs).toArray 20 (0, 0)) :
    Calls Tryz.prog 52 #[.pointer (some ⟨R, 0, none⟩), .func (.func F) first cap, .slice (some ⟨Sb, 0, none⟩) (sgs.length * 2) (sgs.length * 2)] w fun e w' => RRes tv R w r e w' := by
  have hn : sgs.length ≤ 6 := by rw [hsg]; unfold sgn; split <;> simp
  have hsgH := Lib.hid hsg
  clear hsg
  have hA1 := assert_str
  have hA2 := assert_int
  go_enter Tryz.func52, Tryz.ntmps52
  go_wp2
  refine wp_scope_head 0 (RowJ tb tv R Sb F first cap Hd f k sgs w r) (fun _ w' => restLen R w') rfl ?first ?pass
  case first =>
    have C := fun q => H s w q hw hR
    rcases bindR_some h1 with ⟨e1, a1, h2, rfl⟩ | ⟨s1, h2, h3⟩
    · have C1 := C _ h2
      clear C h2 h1 H
      go_wp2_with fail
      refine C1.mono ?_
      rintro e w1 ⟨k1, rfl⟩
      exact ⟨rfl, k1, rfl⟩
    · have C1 := C _ h2
      clear C h2 h1 H
      go_wp2_with fail
      refine C1.mono ?_
      rintro e w1 ⟨k1, rfl, hR1⟩
      go_wp2
      exact ⟨f, s1, _, _, _, _, _, _, _, _, _, _, _, _, _, _, _, _, _, _, _, _, _, _, _, _, _, _, _, _, _, _, _, _, _, _, _, _, _, _, _, rfl, Nat.le_refl _, h3, k1, hR1, hHd _ _ hw k1, hS.kept k1⟩
  case pass =>
    rintro a' w1 ⟨g, s1, u3, u4, u5, u6, u7, u8, u9, u10, u11, u12, u13, u14, u15, u16, u17, u18, u19, u20, u21, u22, u23, u24, u25, u26, u27, u28, u29, u30, u31, u32, u33, u34, u35, u36, u37, u38, u39, u40, u41, rfl, hg, hpx, hkp, hR1, hw1, hS1⟩
    obtain ⟨g', rfl, hcase⟩ := loop_some hpx
    rw [← hsgH.out] at hcase
    clear hpx h1 hR hw hS hsgH
    have hlen1 := restLen_of hR1
    go_wp2
    go_loopw [6] (fun i wr => ∃ j : Nat, j ≤ sgs.length ∧ i = .int .i64 ((j * 2 : Nat) : Int) ∧ s1.sig sgs = s1.sig (sgs.drop j) ∧ wr = w1) (fun i _ => sgs.length * 2 - (intOf i).toNat)
    case atStart => exact ⟨0, Nat.zero_le _, rfl, rfl, rfl⟩
    case round =>
      obtain ⟨j, hj, rfl, hsig, rfl⟩ := hrel
      by_cases hjn : j < sgs.length
      · obtain ⟨x, hx⟩ : ∃ x, sgs[j]? = some x := ⟨_, List.getElem?_eq_getElem hjn⟩
        obtain ⟨r0, r1⟩ := sgRow_at sgs j x hx
        have cs0 : wr.cell? ⟨Sb, j * 2, none⟩ = some (.iface 9 (.string ⟨x.1.toArray⟩)) := by rw [cell_of_row wr Sb _ _ _ _ hS1.blk]; simpa using r0
        have cs1 : wr.cell? ⟨Sb, j * 2 + 1, none⟩ = some (.iface 3 (.int .i64 x.2)) := by rw [cell_of_row wr Sb _ _ _ _ hS1.blk]; simpa using r1
        have hd := sig_drop s1 sgs j x hx
        rw [← hsig] at hd
        have CI := pis tv R s1 x.1 wr hR1
        have hlt : ((j * 2 : Nat) : Int) < ((sgs.length * 2 : Nat) : Int) := by omega
        have hlt2 : ((j * 2 : Nat) : Int) + 1 < ((sgs.length * 2 : Nat) : Int) := by omega
        have hge : (0 : Int) ≤ ((j * 2 : Nat) : Int) := by omega
        go_wp2_with fail
        refine CI.mono ?_
        rintro e w2 ⟨rfl, he2⟩
        have he2 := he2.symm
        subst he2
        cases hi : s1.is x.1 with
        | false =>
          rw [hi] at hd
          go_wp2
          go_roundw
          case rel => exact ⟨j + 1, by omega, by go_num, by rw [hsig, sig_drop s1 sgs j x hx, hi]; rfl, by first | rfl | trivial⟩
          case measure => simp [intOf]; omega
        | true =>
          rw [hi, if_pos rfl] at hd
          rw [hd] at hcase
          have hplace : wr.cell? ⟨R, 2, none⟩ = some (.int .i64 s1.now.place) := by
            obtain ⟨A, cap', N, h⟩ := hR1
            rw [cell_of_row wr R 2 _ _ _ h.blk]; rfl
          have CS := pstep tv R s1 wr hR1
          have hwf := hR1.wf
          have hsl := PS.step_len hwf (PS.is_last hi)
          clear CI hlt
          go_wp2_with fail
          refine CS.mono ?_
          rintro e w3 ⟨rfl, hR3, k3⟩
          have hw3 := hHd _ _ hw1 k3
          have hS3 := hS1.kept k3
          have hkp3 := hkp.trans k3
          clear CS hplace cs0 cs1
          have cs1 : w3.cell? ⟨Sb, j * 2 + 1, none⟩ = some (.iface 3 (.int .i64 x.2)) := by rw [cell_of_row w3 Sb _ _ _ _ hS3.blk]; simpa using r1
          have hR3w := hR3.wf
          have hlen3 := hR3.lt
          obtain ⟨o, ho, hcase⟩ : ∃ o, x.2 = o ∧ ((∃ e a, px tb g' (.lev (k + 1)) s1.step = some (.bad e a) ∧ r = .bad e a) ∨ ∃ s4, px tb g' (.lev (k + 1)) s1.step = some (.ok s4) ∧ ((∃ e a, s4.add (opN o) s1.now.place = .bad e a ∧ r = .bad e a) ∨ ∃ s2, s4.add (opN o) s1.now.place = .ok s2 ∧ px tb g' (.loop k) s2 = some r)) := by
            rcases hcase with ⟨h0, _⟩ | ⟨o, h0, h2⟩
            · cases h0
            · injection h0 with h0; exact ⟨o, h0, h2⟩
          subst ho
          have hgf : g' ≤ f := by omega
          have C := fun q hq => H s1.step w3 q hw3 hR3 (px_mono tb hgf hq)
          rcases hcase with ⟨e1, a1, h2, rfl⟩ | ⟨s4, h2, hcase⟩
          · have C1 := C _ h2
            clear C h2 hd
            go_wp2_with fail
            refine C1.mono ?_
            rintro e w4 ⟨k4, rfl⟩
            exact ⟨rfl, hkp3.trans k4, rfl⟩
          · have C1 := C _ h2
            have hk4 : Md.ok (.lev (k + 1)) := show k + 1 ≤ 4 by omega
            have haf := (px_after tb hR3w hk4 h2).len
            clear C h2 hd
            go_wp2_with fail
            refine C1.mono ?_
            rintro e w4 ⟨k4, rfl, hR4⟩
            have hw4 := hHd _ _ hw3 k4
            have hS4 := hS3.kept k4
            have hkp4 := hkp3.trans k4
            clear C1 cs1
            have cs1 : w4.cell? ⟨Sb, j * 2 + 1, none⟩ = some (.iface 3 (.int .i64 x.2)) := by rw [cell_of_row w4 Sb _ _ _ _ hS4.blk]; simpa using r1
            have CO := pop tv R s4 x.2 s1.now.place w4 hR4
            rcases hcase with ⟨e1, a1, h5, rfl⟩ | ⟨s2, h5, h6⟩
            · rw [h5] at CO
              clear h5
              go_wp2_with fail
              refine CO.mono ?_
              rintro e w5 ⟨k5, rfl⟩
              exact ⟨rfl, hkp4.trans k5, rfl⟩
            · rw [h5] at CO
              obtain ⟨e2, _⟩ := add_some h5
              clear h5
              go_wp2_with fail
              refine CO.mono ?_
              rintro e w5 ⟨k5, rfl, hR5⟩
              go_wp2
              go_step3
              refine ⟨rfl, ⟨g', s2, _, _, _, _, _, _, _, _, _, _, _, _, _, _, _, _, _, _, _, _, _, _, _, _, _, _, _, _, _, _, _, _, _, _, _, _, _, _, _, rfl, hgf, h6, hkp4.trans k5, hR5, hHd _ _ hw4 k5, hS4.kept k5⟩, ?_⟩
              rw [restLen_of hR5, e2]
              show s4.rest.length < _
              simp only [Md.strict] at haf
              omega
      · obtain rfl : j = sgs.length := by omega
        have hnone : s1.sig sgs = none := by rw [hsig, List.drop_length]; rfl
        rw [hnone] at hcase
        obtain ⟨_, rfl⟩ | ⟨o, ho, _⟩ := hcase
        · go_wp2
          simp only [Exit.jump]
          first | go_end0 | refine bodyPost_ret (results_none rfl _ _ _) rfl ?_
          exact ⟨hkp, rfl, hR1⟩
        · cases ho
end Go.Proofs.YtiekhbagpmnboaaGreatDoor
namespace Go.Proofs.YtiekhbagpmnboaaGreatDoor
open Go.RowKit

/-- the same tokens, the last one a closing bracket and one more behind it; one bracket more is open -/
structure BR (cl e1 e2 : Tok) (s t : PS) : Prop where
  toks : ∃ l, s.now :: s.rest = l ++ [e1] ∧ t.now :: t.rest = l ++ [cl, e2] ∧ ∀ x ∈ l, x.last = false
  opn : t.opn = s.opn + 1
  nodes : t.nodes = s.nodes
structure Ends (cl e1 e2 : Tok) : Prop where
  k1 : e1.kind = 0
  k2 : e2.kind = 0
  kc : cl.kind = 7
  sc : cl.str = ⟨#[41]⟩
theorem BR.cases {cl e1 e2 : Tok} {s t : PS} (h : BR cl e1 e2 s t) : (s.now = e1 ∧ s.rest = [] ∧ t.now = cl ∧ t.rest = [e2]) ∨ (s.now = t.now ∧ s.now.last = false ∧ BR cl e1 e2 s.step t.step) := by
  obtain ⟨⟨l, h1, h2, h3⟩, ho, hn⟩ := h
  cases l with
  | nil =>
    simp at h1 h2
    exact .inl ⟨h1.1, h1.2, h2.1, h2.2⟩
  | cons x l =>
    simp only [List.cons_append, List.cons.injEq] at h1 h2
    refine .inr ⟨by rw [h1.1, h2.1], by rw [h1.1]; exact h3 x (by simp), ?_, by rw [PS.step_opn, PS.step_opn]; exact ho, by rw [PS.step_nodes, PS.step_nodes]; exact hn⟩
    refine ⟨l, ?_, ?_, fun y hy => h3 y (by simp [hy])⟩
    · unfold PS.step
      rw [h1.2]
      cases l <;> rfl
    · unfold PS.step
      rw [h2.2]
      cases l <;> rfl
theorem BR.set {cl e1 e2 : Tok} {s t : PS} (h : BR cl e1 e2 s t) (o : Int) (n : List NL) : BR cl e1 e2 { s with opn := s.opn + o, nodes := n } { t with opn := t.opn + o, nodes := n } :=
  ⟨h.toks, by have := h.opn; show t.opn + o = s.opn + o + 1; omega, rfl⟩
theorem BR.wf {cl e1 e2 : Tok} {s t : PS} (E : Ends cl e1 e2) (h : BR cl e1 e2 s t) : s.wf := by
  obtain ⟨⟨l, h1, _, _⟩, _, _⟩ := h
  exact ⟨l, e1, h1, by simp [Tok.last, E.k1]⟩
/-- what may come of it: the same, or too deep a nesting, where as many brackets are opened -/
inductive BW (cl e1 e2 : Tok) (s t : PS) (m : Md) (s' : PS) : Option PR → Prop where
  | ok (t' : PS) (h : BR cl e1 e2 s' t') : BW cl e1 e2 s t m s' (some (.ok t'))
  | deep (a : Int) (h : 32 ≤ s.opn + s.cnt) (ha : ∃ x ∈ t.now :: t.rest, x.place = a) : BW cl e1 e2 s t m s' (some (.bad 7 a))
theorem BW.up {cl e1 e2 : Tok} {s t s1 t1 : PS} {m m1 : Md} {s' : PS} {x : Option PR} (h : BW cl e1 e2 s1 t1 m1 s' x) (hk : s1.opn + s1.cnt ≤ s.opn + s.cnt) (hs : (t1.now :: t1.rest) <:+ (t.now :: t.rest)) : BW cl e1 e2 s t m s' x := by
  cases h with
  | ok t' h => exact .ok t' h
  | deep a h ha =>
    obtain ⟨y, hy, e⟩ := ha
    exact .deep a (by omega) ⟨y, hs.subset hy, e⟩
theorem BW.bind {cl e1 e2 : Tok} {s t s1 : PS} {m m1 : Md} {s' : PS} {x : Option PR} {f : PS → Option PR} (h : BW cl e1 e2 s t m1 s1 x) (hf : ∀ t1, x = some (.ok t1) → BR cl e1 e2 s1 t1 → BW cl e1 e2 s t m s' (f t1)) : BW cl e1 e2 s t m s' (bindR x f) := by
  cases h with
  | ok t1 h => exact hf t1 rfl h
  | deep a h ha => exact .deep a h ha
theorem br_add {cl e1 e2 : Tok} {s t s1 : PS} {n : NL} {a : Int} (b : Int) (h : BR cl e1 e2 s t) (ha : s.add n a = .ok s1) : ∃ t1, t.add n b = .ok t1 ∧ BR cl e1 e2 s1 t1 ∧ t1 = { t with nodes := t.nodes ++ [n] } := by
  obtain ⟨rfl, hn⟩ := add_some ha
  refine ⟨_, ?_, ?_, rfl⟩
  · unfold PS.add; rw [h.nodes, if_neg hn]
  · have := h.set 0 (s.nodes ++ [n])
    rw [h.nodes]; simpa using this
theorem br_negs {cl e1 e2 : Tok} : ∀ {l : List Int} {s t s' : PS}, BR cl e1 e2 s t → negs l s = .ok s' → ∃ t', negs l t = .ok t' ∧ BR cl e1 e2 s' t'
  | [], s, t, s', h, hs => by simp only [negs] at hs ⊢; injection hs with hs; subst hs; exact ⟨t, rfl, h⟩
  | a :: l, s, t, s', h, hs => by
    simp only [negs] at hs ⊢
    split at hs
    · cases hs
    · rename_i s1 h1
      obtain ⟨t1, e1, h2, _⟩ := br_add a h h1
      rw [e1]
      exact br_negs h2 hs
theorem br_is {s t : PS} (c : List UInt8) (h : s.now = t.now) : t.is c = s.is c := by unfold PS.is; rw [h]
theorem br_opens {cl e1 e2 : Tok} (E : Ends cl e1 e2) {s t s1 : PS} (h : BR cl e1 e2 s t) (hs : s.opens = .ok s1) : BW cl e1 e2 s t .prim s1 (some t.opens) := by
  obtain ⟨rfl, h40, h32⟩ := opens_some hs
  rcases h.cases with ⟨e, _, _, _⟩ | ⟨e, hl, hst⟩
  · have := PS.is_kind h40
    rw [e, E.k1] at this
    omega
  · have ht : t.is [40] = true := (br_is [40] e).trans h40
    unfold PS.opens
    rw [if_neg (by simp [ht])]
    by_cases h5 : t.opn = 32
    · rw [if_pos h5]
      refine .deep _ ?_ ⟨t.now, by simp, rfl⟩
      have ho := h.opn
      have : 1 ≤ s.cnt := by
        unfold PS.cnt
        rw [List.countP_cons, if_pos (show (decide (s.now.kind = 7) && decide (s.now.str = ⟨#[40]⟩)) = true from h40)]
        omega
      omega
    · rw [if_neg h5]
      refine .ok _ ?_
      rcases (h.set 1 s.nodes).cases with ⟨e', _⟩ | ⟨_, _, h6⟩
      · have := PS.is_kind h40
        rw [show s.now = e1 from e', E.k1] at this
        omega
      · have h7 := h.nodes
        obtain ⟨a, b, c, d⟩ := t
        simp only at h7
        subst h7
        exact h6
theorem br_closes {cl e1 e2 : Tok} (E : Ends cl e1 e2) {s t s1 : PS} (h : BR cl e1 e2 s t) (hs : s.closes = .ok s1) : ∃ t1, t.closes = .ok t1 ∧ BR cl e1 e2 s1 t1 := by
  obtain ⟨rfl, h41⟩ := closes_some hs
  rcases h.cases with ⟨e, _, _, _⟩ | ⟨e, hl, hst⟩
  · have := PS.is_kind h41
    rw [e, E.k1] at this
    omega
  · have ht : t.is [41] = true := (br_is [41] e).trans h41
    unfold PS.closes
    rw [if_neg (by simp [ht])]
    refine ⟨_, rfl, ?_⟩
    rcases (h.set (-1) s.nodes).cases with ⟨e', _⟩ | ⟨_, _, h6⟩
    · have := PS.is_kind h41
      rw [show s.now = e1 from e', E.k1] at this
      omega
    · have h7 := h.nodes
      obtain ⟨a, b, c, d⟩ := t
      simp only at h7
      subst h7
      exact h6
theorem br_sig {s t : PS} (l : List (List UInt8 × Int)) (h : s.now = t.now) : t.sig l = s.sig l := by
  unfold PS.sig PS.is
  rw [h]
theorem sgn_41 (k : Nat) : ∀ x ∈ sgn k, x.1 ≠ [41] := by
  intro x hx
  unfold sgn at hx
  split at hx <;> simp at hx <;> (rcases hx with rfl | rfl | rfl | rfl | rfl | rfl) <;> simp
theorem sig_cl {cl : Tok} (hc : cl.kind = 7) (hs : cl.str = ⟨#[41]⟩) (k : Nat) {t : PS} (ht : t.now = cl) : t.sig (sgn k) = none := by
  unfold PS.sig
  rw [Option.map_eq_none_iff, List.find?_eq_none]
  intro x hx
  have := sgn_41 k x hx
  unfold PS.is
  rw [ht, hc, hs]
  simp
  intro h
  exact this h.symm
theorem px_br {cl e1 e2 : Tok} (E : Ends cl e1 e2) (tb : Tb) : ∀ (f : Nat) (m : Md) (s t s' : PS), m.ok → BR cl e1 e2 s t → px tb f m s = some (.ok s') → BW cl e1 e2 s t m s' (px tb f m t) := by
  intro f
  induction f with
  | zero => intro m s t s' _ _ h; cases h
  | succ f ih =>
    intro m s t s' hm hb h
    have hk : ∀ {m1 : Md} {g : Nat} {a b : PS}, a.wf → px tb g m1 a = some (.ok b) → b.wf ∧ b.opn + b.cnt ≤ a.opn + a.cnt := fun hw h => opens_inv.px tb _ _ _ _ h hw
    have hst : ∀ {a : PS}, a.step.opn + a.step.cnt ≤ a.opn + a.cnt := fun {a} => by have := cnt_step a; rw [PS.step_opn]; omega
    have hend : s.now = e1 → s.rest = [] → m.strict = 1 → False := fun h1 h2 h3 => by
      have := (px_after tb (hb.wf E) hm h).len
      rw [h2, h3] at this
      simp at this
    have hsf : ∀ {m1 : Md} {g : Nat} {a b : PS}, px tb g m1 a = some (.ok b) → (b.now :: b.rest) <:+ (a.now :: a.rest) := fun h => suffix_inv.px tb _ _ _ _ h
    cases m with
    | lev k =>
      rw [px] at h ⊢
      simp only [Md.ok] at hm
      split
      · rename_i hk4
        rw [if_pos hk4] at h
        exact (ih (.neg []) s t s' trivial hb h).up (Int.le_refl _) (List.suffix_refl _)
      · rename_i hk4
        rw [if_neg hk4] at h
        obtain ⟨s1, h1, h2⟩ := bindR_ok h
        have hk5 : k + 1 ≤ 4 := by omega
        refine (ih (.lev (k + 1)) s t s1 hk5 hb h1).bind (m1 := .lev (k + 1)) fun t1 e1' b1 => ?_
        exact (ih (.loop k) s1 t1 s' (by simp only [Md.ok]; omega) b1 h2).up (hk (hb.wf E) h1).2 (hsf e1')
    | loop k =>
      rw [px] at h ⊢
      simp only [Md.ok] at hm
      rcases hb.cases with ⟨c1, c2, c3, c4⟩ | ⟨c1, c2, c3⟩
      · rw [sig_cl E.kc E.sc k c3]
        have hn : s.sig (sgn k) = none := by
          unfold PS.sig
          rw [Option.map_eq_none_iff, List.find?_eq_none]
          intro x _
          unfold PS.is
          rw [c1, E.k1]
          simp
        rw [hn] at h
        injection h with h; injection h with h; subst h
        exact .ok t hb
      · rw [br_sig _ c1]
        split
        · rename_i hs
          rw [hs] at h
          injection h with h; injection h with h; subst h
          exact .ok t hb
        · rename_i o hs
          rw [hs] at h
          obtain ⟨s1, h1, h2⟩ := bindR_ok h
          obtain ⟨s2, h3, h4⟩ := bindR_ok h2
          injection h3 with h3
          have hk5 : k + 1 ≤ 4 := by omega
          have B1 := (ih (.lev (k + 1)) s.step t.step s1 hk5 c3 h1).up (s := s) (t := t) (m := .lev (k + 1)) hst (step_suffix t)
          refine B1.bind fun t1 e1' b1 => ?_
          obtain ⟨t2, e2', b2, e3'⟩ := br_add t.now.place b1 h3
          rw [e2']
          refine (ih (.loop k) s2 t2 s' (by simp only [Md.ok]; omega) b2 h4).up ?_ ?_
          · have a1 := (hk (c3.wf E) h1).2
            have a2 := hst (a := s)
            obtain ⟨rfl, _⟩ := add_some h3
            exact Int.le_trans a1 a2
          · subst e3'
            exact (hsf e1').trans (step_suffix t)
    | neg ats =>
      rcases hb.cases with ⟨c1, c2, c3, c4⟩ | ⟨c1, c2, c3⟩
      · exact (hend c1 c2 rfl).elim
      · rw [px] at h ⊢
        rw [br_is [45] c1]
        split
        · rename_i hs
          rw [if_pos hs, c1] at h
          exact (ih (.neg _) s.step t.step s' trivial c3 h).up hst (step_suffix t)
        · rename_i hs
          rw [if_neg hs] at h
          obtain ⟨s1, h1, h2⟩ := bindR_ok h
          obtain ⟨s2, h3, h4⟩ := bindR_ok h2
          injection h4 with h4
          refine (ih .prim s t s1 trivial hb h1).bind (m1 := .prim) fun t1 e1' b1 => ?_
          have B2 := (ih .pct s1 t1 s2 trivial b1 h3).up (s := s) (t := t) (m := .pct) (hk (hb.wf E) h1).2 (hsf e1')
          refine B2.bind fun t2 e2' b2 => ?_
          obtain ⟨t3, e3', b3⟩ := br_negs b2 h4
          rw [e3']
          exact .ok t3 b3
    | pct =>
      rw [px] at h ⊢
      rcases hb.cases with ⟨c1, c2, c3, c4⟩ | ⟨c1, c2, c3⟩
      · have hn : s.is [37] = false := by unfold PS.is; rw [c1, E.k1]; simp
        have hn2 : t.is [37] = false := by unfold PS.is; rw [c3, E.sc]; simp
        rw [if_neg (by simp [hn])] at h
        rw [if_neg (by simp [hn2])]
        injection h with h; injection h with h; subst h
        exact .ok t hb
      · rw [br_is [37] c1]
        split
        · rename_i hs
          rw [if_pos hs] at h
          obtain ⟨s1, h1, h2⟩ := bindR_ok h
          injection h1 with h1
          obtain ⟨t1, e1', b1, e2'⟩ := br_add t.now.place hb h1
          rw [e1']
          rcases b1.cases with ⟨d1, _⟩ | ⟨d1, d2, d3⟩
          · obtain ⟨rfl, _⟩ := add_some h1
            rw [show s.now = e1 from d1] at c2
            simp [Tok.last, E.k1] at c2
          · subst e2'
            refine (ih .pct s1.step _ s' trivial d3 h2).up ?_ (step_suffix { t with nodes := t.nodes ++ [opN 2] })
            obtain ⟨rfl, _⟩ := add_some h1
            exact hst (a := { s with nodes := s.nodes ++ [opN 2] })
        · rename_i hs
          rw [if_neg hs] at h
          injection h with h; injection h with h; subst h
          exact .ok t hb
    | prim =>
      rcases hb.cases with ⟨c1, c2, c3, c4⟩ | ⟨c1, c2, c3⟩
      · exact (hend c1 c2 rfl).elim
      · rw [px] at h ⊢
        rw [← c1]
        split
        · rename_i n hn
          rw [hn] at h
          obtain ⟨s1, h1, h2⟩ := bindR_ok h
          injection h1 with h1
          injection h2 with h2; injection h2 with h2; subst h2
          obtain ⟨t1, e1', b1, e2'⟩ := br_add s.now.place hb h1
          rw [e1']
          rcases b1.cases with ⟨d1, _⟩ | ⟨d1, d2, d3⟩
          · obtain ⟨rfl, _⟩ := add_some h1
            rw [show s.now = e1 from d1] at c2
            simp [Tok.last, E.k1] at c2
          · exact .ok _ d3
        · rename_i hn
          rw [hn] at h
          dsimp only at h
          split
          · rename_i h3
            rw [if_pos h3] at h
            split
            · rename_i h4
              rw [if_pos h4] at h
              injection h with h; cases h
            · rename_i h4
              rw [if_neg h4] at h
              obtain ⟨s1, h1, h2⟩ := bindR_ok h
              injection h1 with h1
              have B1 := (br_opens E c3 h1).up (s := s) (t := t) (m := .prim) hst (step_suffix t)
              refine B1.bind fun t1 e1' b1 => ?_
              injection e1' with e1'
              obtain ⟨e3', f1, _⟩ := opens_some e1'
              obtain ⟨e4', f2, _⟩ := opens_some h1
              refine (ih (.args _ _ _) s1 t1 s' trivial b1 h2).up ?_ ?_
              · have := (opens_inv.opens s.step f2 (c3.wf E)).2
                rw [← e4'] at this
                exact Int.le_trans this hst
              · rw [e3']; exact (step_suffix { t.step with opn := t.step.opn + 1 }).trans (step_suffix t)
          · rename_i h3
            rw [if_neg h3] at h
            obtain ⟨s1, h1, h2⟩ := bindR_ok h
            injection h1 with h1
            obtain ⟨s2, h3', h4⟩ := bindR_ok h2
            injection h4 with h4
            refine (br_opens E hb h1).bind fun t1 e1' b1 => ?_
            injection e1' with e1'
            obtain ⟨e3', f1, _⟩ := opens_some e1'
            obtain ⟨e4', f2, _⟩ := opens_some h1
            have hk0 : (0 : Nat) ≤ 4 := by omega
            have B2 := (ih (.lev 0) s1 t1 s2 hk0 b1 h3').up (s := s) (t := t) (m := .lev 0) (by
              have := (opens_inv.opens s f2 (hb.wf E)).2
              rw [← e4'] at this
              exact this) (by rw [e3']; exact step_suffix { t with opn := t.opn + 1 })
            refine B2.bind fun t2 e2' b2 => ?_
            obtain ⟨t3, e5', b3⟩ := br_closes E b2 h4
            rw [e5']
            exact .ok t3 b3
    | args nm p rects =>
      rcases hb.cases with ⟨c1, c2, c3, c4⟩ | ⟨c1, c2, c3⟩
      · exact (hend c1 c2 rfl).elim
      · rw [px] at h ⊢
        rw [br_is [41] c1, br_is [44] c1]
        split
        · rename_i h1
          rw [if_pos h1] at h
          split
          · rename_i h2
            rw [if_pos h2] at h
            obtain ⟨s1, h3, h4⟩ := bindR_ok h
            injection h3 with h3
            injection h4 with h4
            obtain ⟨t1, e1', b1, e2'⟩ := br_add p hb h3
            rw [e1']
            obtain ⟨t3, e5', b3⟩ := br_closes E b1 h4
            show BW cl e1 e2 s t _ s' (some t1.closes)
            rw [e5']
            exact .ok t3 b3
          · rename_i h2
            rw [if_neg h2] at h
            injection h with h; cases h
        · rename_i h1
          rw [if_neg h1] at h
          split
          · rename_i h2
            rw [if_pos h2] at h
            injection h with h; cases h
          · rename_i h2
            rw [if_neg h2] at h
            obtain ⟨s1, h3, h4⟩ := bindR_ok h
            have hb1 : BR cl e1 e2 s1 (if rects = [] then t else t.step) := by
              injection h3 with h3; injection h3 with h3; subst h3
              split
              · exact hb
              · exact c3
            have hk1 : s1.opn + s1.cnt ≤ s.opn + s.cnt := by
              injection h3 with h3; injection h3 with h3; subst h3
              split
              · exact Int.le_refl _
              · exact hst
            have hs1 : ((if rects = [] then t else t.step).now :: (if rects = [] then t else t.step).rest) <:+ (t.now :: t.rest) := by
              split
              · exact List.suffix_refl _
              · exact step_suffix t
            show BW cl e1 e2 s t _ s' (if (if rects = [] then t else t.step).now.kind = 5 then _ else _)
            generalize (if rects = [] then t else t.step) = t1 at hb1 hs1
            rcases hb1.cases with ⟨d1, d2, d3, d4⟩ | ⟨d1, d2, d3⟩
            · exfalso
              rw [if_neg (by rw [d1, E.k1]; omega)] at h4
              obtain ⟨s2, h5, h6⟩ := bindR_ok h4
              have := (px_after tb (hb1.wf E) (show Md.ok (.lev 0) from by simp [Md.ok]) h5).len
              rw [d2] at this
              simp [Md.strict] at this
            · rw [← d1]
              split
              · rename_i h5
                rw [if_pos h5] at h4
                obtain ⟨s2, h6, h7⟩ := bindR_ok h4
                injection h6 with h6
                obtain ⟨t2, e1', b1, e2'⟩ := br_add s1.now.place hb1 h6
                rw [e1']
                rcases b1.cases with ⟨g1, _⟩ | ⟨g1, g2, g3⟩
                · obtain ⟨rfl, _⟩ := add_some h6
                  rw [show s1.now = e1 from g1] at d2
                  simp [Tok.last, E.k1] at d2
                · refine (ih (.args _ _ _) s2.step t2.step s' trivial g3 h7).up ?_ ?_
                  · obtain ⟨rfl, _⟩ := add_some h6
                    exact Int.le_trans (hst (a := { s1 with nodes := _ })) hk1
                  · subst e2'
                    exact (step_suffix { t1 with nodes := _ }).trans hs1
              · rename_i h5
                rw [if_neg h5] at h4
                obtain ⟨s2, h6, h7⟩ := bindR_ok h4
                have hk0 : (0 : Nat) ≤ 4 := by omega
                have B2 := (ih (.lev 0) s1 t1 s2 hk0 hb1 h6).up (s := s) (t := t) (m := .lev 0) hk1 hs1
                refine B2.bind fun t2 e2' b2 => ?_
                exact (ih (.args _ _ _) s2 t2 s' trivial b2 h7).up (Int.le_trans (hk (hb1.wf E) h6).2 hk1) ((hsf e2').trans hs1)
end Go.Proofs.YtiekhbagpmnboaaGreatDoor
