/-
  parse: the reader's post.
-/
import Derived.Test.YtiekhbagpmnboaaGreatDoorMg2
import Derived.Test.YtiekhbagpmnboaaGreatDoorRows
import Derived.Test.YtiekhbagpmnboaaGreatDoorMg0
import Derived.Test.YtiekhbagpmnboaaGreatDoorProg
import Derived.Test.YtiekhbagpmnboaaGreatDoorShelf
import Derived.Test.YtiekhbagpmnboaaGreatDoorCutW
import Derived.Test.YtiekhbagpmnboaaGreatDoorAddrC
import Derived.Test.YtiekhbagpmnboaaGreatDoorNames
import Derived.Test.YtiekhbagpmnboaaGreatDoorParseW
import Derived.Test.YtiekhbagpmnboaaGreatDoorPRect
import Derived.Test.YtiekhbagpmnboaaGreatDoorValA
import Derived.Test.YtiekhbagpmnboaaGreatDoorValB
import Derived.Test.YtiekhbagpmnboaaGreatDoorValD
import Derived.Test.YtiekhbagpmnboaaGreatDoorLexP
import Derived.Test.YtiekhbagpmnboaaGreatDoorMg12
import Derived.Test.YtiekhbagpmnboaaGreatDoorPaP
import Derived.Test.YtiekhbagpmnboaaGreatDoorPaF
import Derived.Test.YtiekhbagpmnboaaGreatDoorPaW
import Derived.Test.YtiekhbagpmnboaaGreatDoorPaX
import Derived.Test.YtiekhbagpmnboaaGreatDoorPaY
import Derived.Test.YtiekhbagpmnboaaGreatDoorPaL
import Derived.Test.YtiekhbagpmnboaaGreatDoorPaZ
import Derived.BigRegion
import Derived.WalkSpells
import Derived.WalkLawsBesides
import Derived.StillTactics
import Derived.Laws.Pointers
import Derived.Deep.RegionHeld3
import Derived.Deep.QuietTactic
import Derived.BigQuiet
import Derived.RowKit3
import Derived.Lib.Hide
import Derived.Lib.OthersKept
import Derived.OwnWalk
import Derived.Lib.IndexLaws
import Derived.Lib.ItoaMem
import Derived.Lib.TrimByte
import Derived.Lib.SlTrimSet
import Derived.Lib.ParseIntB
import Derived.WalkKit
import Derived.ProofKit
import Derived.OpenShut
import Derived.Carry
import Derived.ChangeSame
import Derived.Deep.Draws
import Derived.Shelf.Strings.Builder1
import Derived.Shelf.Strings.Trim
import Derived.Shelf.Small.Utf8
import Derived.Shelf.Small.Strs
import Derived.Shelf.Small.Wraps
import Derived.Shelf.Strings.BuilderF
import Derived.Shelf.Strings.BuilderK
import Derived.Shelf.Strconv.Itoa0
import Derived.Shelf.Strconv.Itoa1
import Derived.Shelf.LaysM
import Derived.Shelf.Strconv.Itoa2
import Derived.Shelf.Strconv.Itoa3
import Derived.Ground.MpProg
import Derived.Shelf.Pu.ParseUintPublic10
import Derived.Shelf.Strings.Search1
import Derived.Shelf.Strings.Search2
import Derived.Shelf.Strings.Cut
import Derived.Shelf.Strings.Shaped
import Derived.Shelf.Strings.Prefix
import Derived.Shelf.Strings.Runes
import Derived.Shelf.Strings.AsciiSet
import Derived.Shelf.Unicode.DecodeSlow
import Derived.Lib.ItoaNum
import Derived.Maps.OwnSet
import Derived.Maps.AppendAt
import Derived.Deep.RegionLaw
import Derived.Deep.AppendLies
import Derived.ScopeJumps
import Derived.WalkMore
namespace Go.Proofs.YtiekhbagpmnboaaGreatDoor
open Go.RowKit

theorem own_keep {R B size n : Nat} {w w' : World} {e : TypeId} {v : Value} {xs : List Value} (h : w.ownsRow B e size v n xs) (hB : R < B) (hne : ∀ q, v.ownBlock = some q → nown w R ≠ some q) (hk : KeepR R w w') : w'.ownsRow B e size v n xs ∧ ∀ q, v.ownBlock = some q → nown w' R ≠ some q := by
  refine ⟨?_, fun q hq => ?_⟩
  · obtain ⟨h1, h2⟩ := h
    rcases h2 with ⟨h2, h3⟩ | ⟨g, cap, cur, hv, hg, hh, hr⟩
    · exact ⟨h1, .inl ⟨h2, h3⟩⟩
    · exact ⟨h1, .inr ⟨g, cap, cur, hv, hg, hk.2.2 g _ _ _ hh (by omega) (hne g (by rw [hv]; rfl)), hr⟩⟩
  · have hlt := (h.lt q hq).2
    rcases hk.2.1 with e | ⟨g, e, h1, _⟩
    · rw [e]; exact hne q hq
    · rw [e]; intro e2; injection e2 with e2; omega
theorem KeepR.grow {R : Nat} {w w1 w2 : World} {row : Option Nat} (hk : KeepR R w w1) (hR : R < w1.heap.size) (hg : w1.grownBy w2 row) (hrow : ∀ q, row = some q → w.heap.size ≤ q ∧ R < q) : KeepR R w w2 := by
  obtain ⟨h1, h2, h3⟩ := hk
  have hne : some R ≠ row := fun e => by have := (hrow R e.symm).2; omega
  have hn : nown w2 R = nown w1 R := nown_eq (hg.cell_far ⟨R, 14, none⟩ hR hne)
  have hsz := hg.size
  refine ⟨h1.grown hg (by omega) (fun q hq => by have := (hrow q hq).2; omega), ?_, fun k cs t fr hk hkR how => ?_⟩
  · rw [hn]
    rcases h2 with e | ⟨g, e, a, b⟩
    · exact .inl e
    · exact .inr ⟨g, e, a, by omega⟩
  · have hlt := heap_lt hk
    have hk1 := h3 k cs t fr hk hkR how
    exact (hg.block k (heap_lt hk1) (fun e => by have := (hrow k e.symm).1; omega)).trans hk1
theorem RSt.grow {tv : TV} {R : Nat} {w1 w2 : World} {s : PS} {row : Option Nat} (h : RSt tv R w1 s) (hg : w1.grownBy w2 row) (hrow : ∀ q, row = some q → R < q ∧ nown w1 R ≠ some q) : RSt tv R w2 s := by
  have hR := h.lt
  have hf := h.fresh
  obtain ⟨A, cap, N, h⟩ := h
  have hne : some R ≠ row := fun e => by have := (hrow R e.symm).1; omega
  have hb : Below R w1 w2 := (Below.refl _ _).grown hg (by omega) (fun q hq => by have := (hrow q hq).1; omega)
  refine ⟨A, cap, N, (hg.block R hR hne).trans h.blk, h.rest.below hb, h.room, ?_, h.o1, h.o2, h.nl, h.rl, h.wf, h.tab.below hb⟩
  have hn := h.nown
  obtain ⟨h1, h2⟩ := h.nodes
  rcases h2 with ⟨h2, h3⟩ | ⟨g, cap, cur, hv, hB, hh, hr⟩
  · exact ⟨h1, .inl ⟨h2, h3⟩⟩
  · refine ⟨h1, .inr ⟨g, cap, cur, hv, hB, (hg.block g (heap_lt hh) (fun e => ?_)).trans hh, hr⟩⟩
    exact (hrow g e.symm).2 (by rw [hn, hv]; rfl)
theorem pct_some {tb : Tb} {g : Nat} {s : PS} {r : PR} (h : px tb g .pct s = some r) : ∃ g', g = g' + 1 ∧ ((s.is [37] = false ∧ r = .ok s) ∨ (s.is [37] = true ∧ ((∃ e a, s.add (opN 2) s.now.place = .bad e a ∧ r = .bad e a) ∨ ∃ s1, s.add (opN 2) s.now.place = .ok s1 ∧ px tb g' .pct s1.step = some r))) := by
  cases g with
  | zero => cases h
  | succ g =>
    refine ⟨g, rfl, ?_⟩
    rw [px] at h
    split at h
    · rename_i hs
      refine .inr ⟨hs, ?_⟩
      rcases bindR_some h with ⟨e, a, h3, h4⟩ | ⟨s2, h3, h4⟩
      · injection h3 with h3; exact .inl ⟨e, a, h3, h4⟩
      · injection h3 with h3; exact .inr ⟨s2, h3, h4⟩
    · rename_i hs
      injection h with h
      exact .inl ⟨by simpa using hs, h.symm⟩
theorem RSt.place {tv : TV} {R : Nat} {w : World} {s : PS} (h : RSt tv R w s) : w.cell? ⟨R, 2, none⟩ = some (.int .i64 s.now.place) := by
  obtain ⟨A, cap', N, h⟩ := h
  rw [cell_of_row w R 2 _ _ _ h.blk]; rfl
set_option maxRecDepth 100000 in
set_option maxHeartbeats 2000000 in
theorem ppost (tb : Tb) (tv : TV) (R f : Nat) (HP : ∀ s w q, RSt tv R w s → px tb f .prim s = some q → Calls Tryz.prog 111 #[.pointer (some ⟨R, 0, none⟩)] w fun e w' => RRes tv R w q e w') (s : PS) (r : PR) (w : World) (hR : RSt tv R w s) (h : bindR (px tb f .prim s) (px tb f .pct) = some r) : Calls Tryz.prog 89 #[.pointer (some ⟨R, 0, none⟩)] w fun e w' => RRes tv R w r e w' := by
  have C := fun q => HP s w q hR
  clear HP
  rcases bindR_some h with ⟨e1, a1, h2, rfl⟩ | ⟨s1, h2, h3⟩
  · have C1 := C _ h2
    clear C h2 h hR
    go_enter Tryz.func89, Tryz.ntmps89
    go_wp2_with fail
    refine C1.mono ?_
    rintro e w1 ⟨k1, rfl⟩
    exact ⟨rfl, k1, rfl⟩
  · have C1 := C _ h2
    clear C h2 h hR
    go_enter Tryz.func89, Tryz.ntmps89
    go_wp2_with fail
    refine C1.mono ?_
    rintro e w1 ⟨k1, rfl, hR1⟩
    clear C1
    go_wp2
    go_loopw [] (fun wr => ∃ (g : Nat) (s2 : PS), g ≤ f ∧ px tb g .pct s2 = some r ∧ KeepR R w wr ∧ RSt tv R wr s2) (fun wr => restLen R wr)
    case atStart => exact ⟨f, s1, Nat.le_refl _, h3, k1, hR1⟩
    case round =>
      clear h3 hR1 k1
      obtain ⟨g, s2, hg, hpx, hk, hR2⟩ := hrel
      obtain ⟨g', rfl, hcase⟩ := pct_some hpx
      have CI := pis tv R s2 [37] wr hR2
      have hlen := restLen_of hR2
      clear hpx
      rcases hcase with ⟨hi, rfl⟩ | ⟨hi, hcase⟩
      · rw [hi] at CI
        clear hi
        go_wp2_with fail
        refine CI.mono ?_
        rintro e w2 ⟨rfl, he2⟩
        have he2 := he2.symm
        subst he2
        go_wp2
        first | go_end0 | refine bodyPost_ret (results_none rfl _ _ _) rfl ?_
        exact ⟨hk, rfl, hR2⟩
      · rw [hi] at CI
        have hpl := hR2.place
        have CO := pop tv R s2 2 s2.now.place wr hR2
        have hwf := hR2.wf
        have hl := PS.is_last hi
        clear hi
        go_wp2_with fail
        refine CI.mono ?_
        rintro e w2 ⟨rfl, he2⟩
        have he2 := he2.symm
        subst he2
        rcases hcase with ⟨e1, a1, h5, rfl⟩ | ⟨s3, h5, h6⟩
        · rw [h5] at CO
          clear h5
          go_wp2_with fail
          refine CO.mono ?_
          rintro e w5 ⟨k5, rfl⟩
          exact ⟨rfl, hk.trans k5, rfl⟩
        · rw [h5] at CO
          obtain ⟨e2, _⟩ := add_some h5
          have hl3 : s3.step.rest.length + 1 = s2.rest.length := by
            have hwf3 : s3.wf := by rw [e2]; exact hwf
            have := PS.step_len hwf3 (by rw [e2]; exact hl)
            rw [this, e2]
          clear h5 e2
          go_wp2_with fail
          refine CO.mono ?_
          rintro e w5 ⟨k5, rfl, hR5⟩
          have CS := pstep tv R s3 w5 hR5
          go_wp2_with fail
          refine CS.mono ?_
          rintro e w6 ⟨rfl, hR6, k6⟩
          have hlen6 := restLen_of hR6
          clear CS CO CI hpl
          go_wp2
          go_roundw
          case rel => exact ⟨g', s3.step, by omega, h6, hk.trans (k5.trans k6), hR6⟩
          case measure => omega
end Go.Proofs.YtiekhbagpmnboaaGreatDoor
