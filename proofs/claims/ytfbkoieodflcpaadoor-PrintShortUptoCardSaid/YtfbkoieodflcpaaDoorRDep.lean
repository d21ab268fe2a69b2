/-
  orielref05: Depth of a formula that may be.
-/
import Derived.Test.YtfbkoieodflcpaaDoorMg4
import Derived.Test.YtfbkoieodflcpaaDoorRows
import Derived.Test.YtfbkoieodflcpaaDoorBase
import Derived.Test.YtfbkoieodflcpaaDoorProg
import Derived.Test.YtfbkoieodflcpaaDoorShelf
import Derived.Test.YtfbkoieodflcpaaDoorAddrC
import Derived.Test.YtfbkoieodflcpaaDoorNames
import Derived.Test.YtfbkoieodflcpaaDoorMg7
import Derived.Test.YtfbkoieodflcpaaDoorDecA
import Derived.Test.YtfbkoieodflcpaaDoorValA
import Derived.Test.YtfbkoieodflcpaaDoorValB
import Derived.Test.YtfbkoieodflcpaaDoorMg11
import Derived.Test.YtfbkoieodflcpaaDoorLexP
import Derived.Test.YtfbkoieodflcpaaDoorRowB
import Derived.Test.YtfbkoieodflcpaaDoorMapK
import Derived.Test.YtfbkoieodflcpaaDoorArgK
import Derived.Test.YtfbkoieodflcpaaDoorRefP
import Derived.Test.YtfbkoieodflcpaaDoorMg17
import Derived.Test.YtfbkoieodflcpaaDoorRefN
import Derived.Test.YtfbkoieodflcpaaDoorRefM
import Derived.Test.YtfbkoieodflcpaaDoorRNam
import Derived.Test.YtfbkoieodflcpaaDoorRNod
import Derived.Test.YtfbkoieodflcpaaDoorRefY
import Derived.Test.YtfbkoieodflcpaaDoorRefQ
import Derived.Test.YtfbkoieodflcpaaDoorRefZ
import Derived.Test.YtfbkoieodflcpaaDoorRLev
import Derived.Test.YtfbkoieodflcpaaDoorRNodB
import Derived.Test.YtfbkoieodflcpaaDoorRPt
import Derived.Test.YtfbkoieodflcpaaDoorRPtB
import Derived.Test.YtfbkoieodflcpaaDoorRPut
import Derived.WalkSpells
import Derived.WalkLawsBesides
import Derived.StillTactics
import Derived.Laws.Pointers
import Derived.Deep.RegionHeld3
import Derived.Deep.QuietTactic
import Derived.BigQuiet
import Derived.RowKit3
import Derived.Lib.Hide
import Derived.Lib.OthersKept
import Derived.OwnWalk
import Derived.Lib.IndexLaws
import Derived.Lib.ItoaMem
import Derived.Lib.TrimByte
import Derived.Lib.SlTrimSet
import Derived.Lib.ParseIntB
import Derived.WalkKit
import Derived.ProofKit
import Derived.OpenShut
import Derived.Carry
import Derived.ChangeSame
import Derived.Deep.Draws
import Derived.Shelf.Strings.Builder1
import Derived.Shelf.Strings.Builder2
import Derived.Shelf.Strings.Trim
import Derived.Shelf.Small.Utf8
import Derived.Shelf.Small.Strs
import Derived.Shelf.Strings.BuilderF
import Derived.Shelf.Strings.BuilderK
import Derived.Shelf.Strconv.Itoa0
import Derived.Shelf.Strconv.Itoa1
import Derived.Shelf.LaysM
import Derived.Shelf.Strconv.Itoa2
import Derived.Shelf.Strconv.Itoa3
import Derived.Shelf.Strings.Search1
import Derived.Shelf.Strings.Search2
import Derived.Shelf.Strings.Search3
import Derived.Shelf.Strings.Count
import Derived.Shelf.Strings.Shaped
import Derived.Shelf.Strings.Split
import Derived.Shelf.Strings.Replace
import Derived.Shelf.Strings.Runes
import Derived.Shelf.Strings.AsciiSet
import Derived.Shelf.Unicode.DecodeSlow
import Derived.Lib.ItoaNum
import Derived.Maps.OwnSet
import Derived.Maps.AppendAt
import Derived.Outline
import Derived.Deep.CutRange
import Derived.Deep.AppendLies
namespace Go.Proofs.YtfbkoieodflcpaaDoor
open Go.RowKit

set_option maxRecDepth 100000 in
set_option maxHeartbeats 4000000 in
theorem rdepth_yes (ns : List NL) (h1 : 1 ≤ ns.length) (h2 : ns.length ≤ 1024) (hok : ∀ n ∈ ns, n.ok) (d : Int) (hd : depthP ns = some d) (w : World) (A : Option Addr) (cap : Nat) (hR : RdB w w.heap.size A 15 (ns.map NL.cs)) : Calls Tryd.prog 9 #[.agg #[.slice A ns.length cap]] w fun e w' => e = .returned (.int .i64 d) ∧ Below w.heap.size w w' := by
  have h3 : ¬ (ns.length : Int) < 1 := by omega
  have h4 : ¬ (ns.length : Int) > 1024 := by omega
  obtain ⟨p, hp, hpm, hpd⟩ : ∃ p, putP ns = some [p] ∧ p.many = false ∧ p.depth = d := by
    unfold depthP at hd
    rw [if_neg (by omega)] at hd
    split at hd
    · rename_i p hp
      split at hd
      · cases hd
      · rename_i hm
        cases hd
        exact ⟨p, hp, by simpa using hm, rfl⟩
    · cases hd
  subst hpd
  have C : ∀ w0 : World, Below w.heap.size w w0 → Calls Tryd.prog 19 #[.slice A ns.length cap] w0 fun e w' => (∃ v, e = .returned (.tuple #[v, .bool true]) ∧ OwnR w' w0.heap.size v [p]) ∧ Below w0.heap.size w0 w' := fun w0 hb0 => (rput ns h2 hok w0 A cap ((hR.below hb0).mono hb0.size)).mono fun e w' h => by
    obtain ⟨h | h, hb⟩ := h
    · obtain ⟨v, st, e1, e2, e3⟩ := h
      rw [hp] at e1
      cases e1
      exact ⟨⟨v, e2, e3⟩, hb⟩
    · exfalso
      rw [hp] at h
      cases h.1
  have CH := Lib.hid C
  have hpmH := Lib.hid hpm
  clear C hR hok hd hp hpm
  go_enter Tryd.func9, Tryd.ntmps9
  go_wp2_with fail
  go_at_call 19
  refine (CH.out _ ((Below.refl _ _).alloc (Nat.le_refl _) _)).mono ?_
  rintro e w1 ⟨⟨v, rfl, hown⟩, hb⟩
  have hbr : Below w.heap.size w w1 := ((Below.refl _ _).alloc (Nat.le_refl _) (.cells #[.slice A ns.length cap] 24)).trans (hb.mono (by simp))
  rcases hown.form (n := 1) rfl with ⟨h0, _⟩ | ⟨g, cap', rfl, hBg, hgw, hle, hrow⟩
  · omega
  have hq0 : w1.cell? ⟨g, 0, none⟩ = some (.int .i64 p.depth) := (hrow 0 (by omega)).trans rfl
  have hq2 : w1.cell? ⟨g, 2, none⟩ = some (.bool false) := (hrow 2 (by omega)).trans (by rw [← hpmH.out]; rfl)
  clear hrow hb hown
  go_wp2
  go_ret
  exact ⟨rfl, hbr⟩
end Go.Proofs.YtfbkoieodflcpaaDoor
