/-
  Plain laws of the parser: fuel, what is kept, other functions, other places.
-/
import Derived.Test.YtiekhbagpmnboaaGreatDoorMg2
import Derived.Test.YtiekhbagpmnboaaGreatDoorRows
import Derived.Test.YtiekhbagpmnboaaGreatDoorMg0
import Derived.Test.YtiekhbagpmnboaaGreatDoorProg
import Derived.Test.YtiekhbagpmnboaaGreatDoorShelf
import Derived.Test.YtiekhbagpmnboaaGreatDoorCutW
import Derived.Test.YtiekhbagpmnboaaGreatDoorAddrC
import Derived.Test.YtiekhbagpmnboaaGreatDoorNames
import Derived.Test.YtiekhbagpmnboaaGreatDoorParseW
import Derived.Test.YtiekhbagpmnboaaGreatDoorPRect
import Derived.Test.YtiekhbagpmnboaaGreatDoorValA
import Derived.Test.YtiekhbagpmnboaaGreatDoorValB
import Derived.Test.YtiekhbagpmnboaaGreatDoorValD
import Derived.Test.YtiekhbagpmnboaaGreatDoorLexP
import Derived.Test.YtiekhbagpmnboaaGreatDoorMg12
import Derived.Test.YtiekhbagpmnboaaGreatDoorPaP
import Derived.Lib.ItoaMem
import Derived.Lib.TrimByte
import Derived.Lib.IndexLaws
import Derived.Lib.SlTrimSet
import Derived.Lib.ParseIntB
import Derived.WalkKit
import Derived.ProofKit
import Derived.OpenShut
import Derived.Carry
import Derived.ChangeSame
import Derived.Lib.Hide
import Derived.Deep.Draws
import Derived.Shelf.Strings.Builder1
import Derived.Shelf.Strings.Trim
import Derived.Shelf.Small.Utf8
import Derived.Shelf.Small.Strs
import Derived.Shelf.Small.Wraps
import Derived.Shelf.Strings.BuilderF
import Derived.Shelf.Strings.BuilderK
import Derived.Shelf.Strconv.Itoa0
import Derived.Shelf.Strconv.Itoa1
import Derived.Shelf.LaysM
import Derived.Shelf.Strconv.Itoa2
import Derived.Shelf.Strconv.Itoa3
import Derived.Ground.MpProg
import Derived.Shelf.Pu.ParseUintPublic10
import Derived.Shelf.Strings.Search1
import Derived.Shelf.Strings.Search2
import Derived.Shelf.Strings.Cut
import Derived.Shelf.Strings.Shaped
import Derived.Shelf.Strings.Prefix
import Derived.Shelf.Strings.Runes
import Derived.Shelf.Strings.AsciiSet
import Derived.Shelf.Unicode.DecodeSlow
import Derived.WalkSpells
import Derived.WalkLawsBesides
import Derived.StillTactics
import Derived.Laws.Pointers
import Derived.Deep.RegionHeld3
import Derived.Deep.QuietTactic
import Derived.BigQuiet
import Derived.RowKit3
import Derived.Lib.OthersKept
import Derived.OwnWalk
import Derived.Lib.ItoaNum
import Derived.Maps.OwnSet
import Derived.Maps.AppendAt
namespace Go.Proofs.YtiekhbagpmnboaaGreatDoor
open Go.RowKit

theorem bindR_mono {x y : Option PR} {f g : PS → Option PR} {r : PR} (h : bindR x f = some r) (hx : ∀ q, x = some q → y = some q) (hf : ∀ s, x = some (.ok s) → ∀ q, f s = some q → g s = some q) : bindR y g = some r := by
  rcases bindR_some h with ⟨e, a, h1, rfl⟩ | ⟨s, h1, h2⟩
  · rw [hx _ h1]; rfl
  · rw [hx _ h1]; exact hf s h1 _ h2
theorem px_step (tb : Tb) : ∀ (f : Nat) (m : Md) (s : PS) (r : PR), px tb f m s = some r → px tb (f + 1) m s = some r := by
  intro f
  induction f with
  | zero => intro m s r h; cases h
  | succ f ih =>
    intro m s r h
    cases m with
    | lev k =>
      rw [px] at h ⊢
      split
      · rename_i hk
        rw [if_pos hk] at h
        exact ih _ _ _ h
      · rename_i hk
        rw [if_neg hk] at h
        exact bindR_mono h (ih _ _) fun s _ => ih _ _
    | loop k =>
      rw [px] at h ⊢
      split
      · rename_i hs; rw [hs] at h; exact h
      · rename_i o hs
        rw [hs] at h
        exact bindR_mono h (ih _ _) fun s1 _ q h2 => bindR_mono h2 (fun _ h => h) fun s2 _ => ih _ _
    | neg ats =>
      rw [px] at h ⊢
      split
      · rename_i hs; rw [if_pos hs] at h; exact ih _ _ _ h
      · rename_i hs; rw [if_neg hs] at h
        exact bindR_mono h (ih _ _) fun s1 _ q h2 => bindR_mono h2 (ih _ _) fun s2 _ q h3 => h3
    | pct =>
      rw [px] at h ⊢
      split
      · rename_i hs; rw [if_pos hs] at h
        exact bindR_mono h (fun _ h => h) fun s1 _ => ih _ _
      · rename_i hs; rw [if_neg hs] at h; exact h
    | prim =>
      rw [px] at h ⊢
      split
      · rename_i n hs; rw [hs] at h; exact h
      · rename_i hs
        rw [hs] at h
        dsimp only at h
        split
        · rename_i h3
          rw [if_pos h3] at h
          split
          · rename_i h4; rw [if_pos h4] at h; exact h
          · rename_i h4; rw [if_neg h4] at h
            exact bindR_mono h (fun _ h => h) fun s1 _ => ih _ _
        · rename_i h3
          rw [if_neg h3] at h
          exact bindR_mono h (fun _ h => h) fun s1 _ q h2 => bindR_mono h2 (ih _ _) fun s2 _ q h3 => h3
    | args nm p rects =>
      rw [px] at h ⊢
      split
      · rename_i h1; rw [if_pos h1] at h; exact h
      · rename_i h1
        rw [if_neg h1] at h
        split
        · rename_i h2; rw [if_pos h2] at h; exact h
        · rename_i h2
          rw [if_neg h2] at h
          refine bindR_mono h (fun _ h => h) fun s1 _ q h3 => ?_
          split
          · rename_i h5
            rw [if_pos h5] at h3
            exact bindR_mono h3 (fun _ h => h) fun s2 _ => ih _ _
          · rename_i h5
            rw [if_neg h5] at h3
            exact bindR_mono h3 (ih _ _) fun s2 _ => ih _ _
theorem px_mono (tb : Tb) {f g : Nat} (hfg : f ≤ g) {m : Md} {s : PS} {r : PR} (h : px tb f m s = some r) : px tb g m s = some r := by
  induction hfg with
  | refl => exact h
  | step _ ih => exact px_step tb _ _ _ _ ih
theorem px_same (tb : Tb) {f g : Nat} {m : Md} {s : PS} {r q : PR} (h : px tb f m s = some r) (h' : px tb g m s = some q) : r = q := by
  have a := px_mono tb (Nat.le_max_left f g) h
  have b := px_mono tb (Nat.le_max_right f g) h'
  rw [a] at b
  injection b
/-- whatever the fuel: what a part that is read leaves -/
theorem px_after (tb : Tb) {f : Nat} {m : Md} {s s' : PS} (hw : s.wf) (hm : m.ok) (h : px tb f m s = some (.ok s')) : PS.After m s s' := by
  obtain ⟨r, e, hr⟩ := px_total tb _ m s hw hm (Nat.le_refl _)
  exact hr s' (px_same tb e h)
/-- what each step keeps, all keep -/
structure PxInv (I : PS → PS → Prop) : Prop where
  refl : ∀ s, I s s
  trans : ∀ {a b c}, I a b → I b c → I a c
  step : ∀ s : PS, I s s.step
  add : ∀ (s : PS) n, I s { s with nodes := n }
  opens : ∀ s : PS, s.is [40] = true → I s { s with opn := s.opn + 1 }.step
  closes : ∀ s : PS, I s { s with opn := s.opn - 1 }.step
theorem bindR_ok {x : Option PR} {f : PS → Option PR} {s' : PS} (h : bindR x f = some (.ok s')) : ∃ s, x = some (.ok s) ∧ f s = some (.ok s') := by
  rcases bindR_some h with ⟨e, a, _, h2⟩ | h
  · cases h2
  · exact h
theorem PxInv.negs {I : PS → PS → Prop} (hI : PxInv I) : ∀ {l : List Int} {s s' : PS}, negs l s = .ok s' → I s s'
  | [], s, s', h => by simp only [Go.Proofs.YtiekhbagpmnboaaGreatDoor.negs] at h; injection h with h; subst h; exact hI.refl _
  | a :: l, s, s', h => by
    simp only [Go.Proofs.YtiekhbagpmnboaaGreatDoor.negs] at h
    split at h
    · cases h
    · rename_i s1 h1
      obtain ⟨rfl, _⟩ := add_some h1
      exact hI.trans (hI.add s _) (hI.negs h)
theorem PxInv.px {I : PS → PS → Prop} (hI : PxInv I) (tb : Tb) : ∀ (f : Nat) (m : Md) (s s' : PS), px tb f m s = some (.ok s') → I s s' := by
  intro f
  induction f with
  | zero => intro m s r h; cases h
  | succ f ih =>
    intro m s s' h
    cases m with
    | lev k =>
      rw [Go.Proofs.YtiekhbagpmnboaaGreatDoor.px] at h
      split at h
      · exact ih _ _ _ h
      · obtain ⟨s1, h1, h2⟩ := bindR_ok h
        exact hI.trans (ih _ _ _ h1) (ih _ _ _ h2)
    | loop k =>
      rw [Go.Proofs.YtiekhbagpmnboaaGreatDoor.px] at h
      split at h
      · injection h with h; injection h with h; subst h; exact hI.refl _
      · obtain ⟨s1, h1, h2⟩ := bindR_ok h
        obtain ⟨s2, h3, h4⟩ := bindR_ok h2
        injection h3 with h3
        obtain ⟨rfl, _⟩ := add_some h3
        exact hI.trans (hI.step s) (hI.trans (ih _ _ _ h1) (hI.trans (hI.add s1 _) (ih _ _ _ h4)))
    | neg ats =>
      rw [Go.Proofs.YtiekhbagpmnboaaGreatDoor.px] at h
      split at h
      · exact hI.trans (hI.step s) (ih _ _ _ h)
      · obtain ⟨s1, h1, h2⟩ := bindR_ok h
        obtain ⟨s2, h3, h4⟩ := bindR_ok h2
        injection h4 with h4
        exact hI.trans (ih _ _ _ h1) (hI.trans (ih _ _ _ h3) (hI.negs h4))
    | pct =>
      rw [Go.Proofs.YtiekhbagpmnboaaGreatDoor.px] at h
      split at h
      · obtain ⟨s1, h1, h2⟩ := bindR_ok h
        injection h1 with h1
        obtain ⟨rfl, _⟩ := add_some h1
        exact hI.trans (hI.add s _) (hI.trans (hI.step _) (ih _ _ _ h2))
      · injection h with h; injection h with h; subst h; exact hI.refl _
    | prim =>
      rw [Go.Proofs.YtiekhbagpmnboaaGreatDoor.px] at h
      split at h
      · obtain ⟨s1, h1, h2⟩ := bindR_ok h
        injection h1 with h1
        obtain ⟨rfl, _⟩ := add_some h1
        injection h2 with h2; injection h2 with h2; subst h2
        exact hI.trans (hI.add s _) (hI.step _)
      · split at h
        · split at h
          · injection h with h; cases h
          · obtain ⟨s1, h1, h2⟩ := bindR_ok h
            injection h1 with h1
            obtain ⟨rfl, h40, _⟩ := opens_some h1
            exact hI.trans (hI.step s) (hI.trans (hI.opens _ h40) (ih _ _ _ h2))
        · obtain ⟨s1, h1, h2⟩ := bindR_ok h
          injection h1 with h1
          obtain ⟨rfl, h40, _⟩ := opens_some h1
          obtain ⟨s2, h3, h4⟩ := bindR_ok h2
          injection h4 with h4
          obtain ⟨rfl, _⟩ := closes_some h4
          exact hI.trans (hI.opens s h40) (hI.trans (ih _ _ _ h3) (hI.closes _))
    | args nm p rects =>
      rw [Go.Proofs.YtiekhbagpmnboaaGreatDoor.px] at h
      split at h
      · split at h
        · obtain ⟨s1, h1, h2⟩ := bindR_ok h
          injection h1 with h1
          obtain ⟨rfl, _⟩ := add_some h1
          injection h2 with h2
          obtain ⟨rfl, _⟩ := closes_some h2
          exact hI.trans (hI.add s _) (hI.closes _)
        · injection h with h; cases h
      · split at h
        · injection h with h; cases h
        · obtain ⟨s1, h1, h2⟩ := bindR_ok h
          have h01 : I s s1 := by
            injection h1 with h1; injection h1 with h1; subst h1
            split
            · exact hI.refl _
            · exact hI.step _
          refine hI.trans h01 ?_
          split at h2
          · obtain ⟨s2, h3, h4⟩ := bindR_ok h2
            injection h3 with h3
            obtain ⟨rfl, _⟩ := add_some h3
            exact hI.trans (hI.add s1 _) (hI.trans (hI.step _) (ih _ _ _ h4))
          · obtain ⟨s2, h3, h4⟩ := bindR_ok h2
            exact hI.trans (ih _ _ _ h3) (ih _ _ _ h4)
theorem step_suffix (s : PS) : (s.step.now :: s.step.rest) <:+ (s.now :: s.rest) := by
  unfold PS.step
  cases h : s.rest with
  | nil => simp [h]
  | cons x r => exact List.suffix_cons _ _
theorem suffix_inv : PxInv fun s s' => (s'.now :: s'.rest) <:+ (s.now :: s.rest) where
  refl := fun _ => List.suffix_refl _
  trans := fun a b => b.trans a
  step := step_suffix
  add := fun _ _ => List.suffix_refl _
  opens := fun s _ => step_suffix { s with opn := s.opn + 1 }
  closes := fun s => step_suffix { s with opn := s.opn - 1 }
end Go.Proofs.YtiekhbagpmnboaaGreatDoor
