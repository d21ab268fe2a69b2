/-
  parse: the reader's post; parse: the reader's neg.
-/
import Derived.Test.YtfbkoieodflcpaaGreatDoorMg3
import Derived.Test.YtfbkoieodflcpaaGreatDoorRows
import Derived.Test.YtfbkoieodflcpaaGreatDoorMg0
import Derived.Test.YtfbkoieodflcpaaGreatDoorProg
import Derived.Test.YtfbkoieodflcpaaGreatDoorShelf
import Derived.Test.YtfbkoieodflcpaaGreatDoorMg4
import Derived.Test.YtfbkoieodflcpaaGreatDoorAddrC
import Derived.Test.YtfbkoieodflcpaaGreatDoorMg6
import Derived.Test.YtfbkoieodflcpaaGreatDoorValA
import Derived.Test.YtfbkoieodflcpaaGreatDoorValB
import Derived.Test.YtfbkoieodflcpaaGreatDoorMg9
import Derived.Test.YtfbkoieodflcpaaGreatDoorMg10
import Derived.Test.YtfbkoieodflcpaaGreatDoorPaP
import Derived.Test.YtfbkoieodflcpaaGreatDoorPaF
import Derived.Test.YtfbkoieodflcpaaGreatDoorPaW
import Derived.Test.YtfbkoieodflcpaaGreatDoorPaX
import Derived.Test.YtfbkoieodflcpaaGreatDoorPaY
import Derived.Test.YtfbkoieodflcpaaGreatDoorMg22
import Derived.Test.YtfbkoieodflcpaaGreatDoorPaZ
import Derived.BigRegion
import Derived.WalkSpells
import Derived.WalkLawsBesides
import Derived.StillTactics
import Derived.Laws.Pointers
import Derived.Deep.RegionHeld3
import Derived.Deep.QuietTactic
import Derived.BigQuiet
import Derived.RowKit3
import Derived.Lib.Hide
import Derived.Lib.OthersKept
import Derived.OwnWalk
import Derived.Lib.IndexLaws
import Derived.Lib.ItoaMem
import Derived.Lib.TrimByte
import Derived.Lib.SlTrimSet
import Derived.Lib.ParseIntB
import Derived.WalkKit
import Derived.ProofKit
import Derived.OpenShut
import Derived.Carry
import Derived.ChangeSame
import Derived.Deep.Draws
import Derived.Shelf.Strings.Builder1
import Derived.Shelf.Strings.Builder2
import Derived.Shelf.Strings.Trim
import Derived.Shelf.Small.Utf8
import Derived.Shelf.Small.Strs
import Derived.Shelf.Small.Wraps
import Derived.Shelf.Strings.BuilderF
import Derived.Shelf.Strings.BuilderK
import Derived.Shelf.Utf8.RuneCount
import Derived.Shelf.Strconv.Itoa0
import Derived.Shelf.Strconv.Itoa1
import Derived.Shelf.LaysM
import Derived.Shelf.Strconv.Itoa2
import Derived.Shelf.Strconv.Itoa3
import Derived.Ground.MpProg
import Derived.Shelf.Pu.ParseUintPublic10
import Derived.Shelf.Strings.Search1
import Derived.Shelf.Strings.Search2
import Derived.Shelf.Strings.Search3
import Derived.Shelf.Strings.Cut
import Derived.Shelf.Strings.Count
import Derived.Shelf.Strings.Shaped
import Derived.Shelf.Strings.Prefix
import Derived.Shelf.Strings.Split
import Derived.Shelf.Strings.Replace
import Derived.Shelf.Strings.SplitShaped
import Derived.Shelf.Unicode.Decode
import Derived.Shelf.Strings.Runes
import Derived.Shelf.Strings.RuneCount
import Derived.Shelf.Strings.AsciiSet
import Derived.Shelf.Unicode.DecodeSlow
import Derived.Shelf.Unicode.DecodeAny
import Derived.Shelf.Unicode.DecodeLast
import Derived.Lib.ItoaNum
import Derived.Maps.OwnSet
import Derived.Maps.AppendAt
import Derived.Deep.RegionLaw
import Derived.Deep.AppendLies
import Derived.ScopeJumps
import Derived.WalkMore
namespace Go.Proofs.YtfbkoieodflcpaaGreatDoor
open Go.RowKit

theorem own_keep {R B size n : Nat} {w w' : World} {e : TypeId} {v : Value} {xs : List Value} (h : w.ownsRow B e size v n xs) (hB : R < B) (hne : ∀ q, v.ownBlock = some q → nown w R ≠ some q) (hk : KeepR R w w') : w'.ownsRow B e size v n xs ∧ ∀ q, v.ownBlock = some q → nown w' R ≠ some q := by
  refine ⟨?_, fun q hq => ?_⟩
  · obtain ⟨h1, h2⟩ := h
    rcases h2 with ⟨h2, h3⟩ | ⟨g, cap, cur, hv, hg, hh, hr⟩
    · exact ⟨h1, .inl ⟨h2, h3⟩⟩
    · exact ⟨h1, .inr ⟨g, cap, cur, hv, hg, hk.2.2 g _ _ _ hh (by omega) (hne g (by rw [hv]; rfl)), hr⟩⟩
  · have hlt := (h.lt q hq).2
    rcases hk.2.1 with e | ⟨g, e, h1, _⟩
    · rw [e]; exact hne q hq
    · rw [e]; intro e2; injection e2 with e2; omega
theorem KeepR.grow {R : Nat} {w w1 w2 : World} {row : Option Nat} (hk : KeepR R w w1) (hR : R < w1.heap.size) (hg : w1.grownBy w2 row) (hrow : ∀ q, row = some q → w.heap.size ≤ q ∧ R < q) : KeepR R w w2 := by
  obtain ⟨h1, h2, h3⟩ := hk
  have hne : some R ≠ row := fun e => by have := (hrow R e.symm).2; omega
  have hn : nown w2 R = nown w1 R := nown_eq (hg.cell_far ⟨R, 14, none⟩ hR hne)
  have hsz := hg.size
  refine ⟨h1.grown hg (by omega) (fun q hq => by have := (hrow q hq).2; omega), ?_, fun k cs t fr hk hkR how => ?_⟩
  · rw [hn]
    rcases h2 with e | ⟨g, e, a, b⟩
    · exact .inl e
    · exact .inr ⟨g, e, a, by omega⟩
  · have hlt := heap_lt hk
    have hk1 := h3 k cs t fr hk hkR how
    exact (hg.block k (heap_lt hk1) (fun e => by have := (hrow k e.symm).1; omega)).trans hk1
theorem RSt.grow {tv : TV} {R : Nat} {w1 w2 : World} {s : PS} {row : Option Nat} (h : RSt tv R w1 s) (hg : w1.grownBy w2 row) (hrow : ∀ q, row = some q → R < q ∧ nown w1 R ≠ some q) : RSt tv R w2 s := by
  have hR := h.lt
  have hf := h.fresh
  obtain ⟨A, cap, N, h⟩ := h
  have hne : some R ≠ row := fun e => by have := (hrow R e.symm).1; omega
  have hb : Below R w1 w2 := (Below.refl _ _).grown hg (by omega) (fun q hq => by have := (hrow q hq).1; omega)
  refine ⟨A, cap, N, (hg.block R hR hne).trans h.blk, h.rest.below hb, h.room, ?_, h.o1, h.o2, h.nl, h.rl, h.wf, h.tab.below hb⟩
  have hn := h.nown
  obtain ⟨h1, h2⟩ := h.nodes
  rcases h2 with ⟨h2, h3⟩ | ⟨g, cap, cur, hv, hB, hh, hr⟩
  · exact ⟨h1, .inl ⟨h2, h3⟩⟩
  · refine ⟨h1, .inr ⟨g, cap, cur, hv, hB, (hg.block g (heap_lt hh) (fun e => ?_)).trans hh, hr⟩⟩
    exact (hrow g e.symm).2 (by rw [hn, hv]; rfl)
theorem pct_some {tb : Tb} {g : Nat} {s : PS} {r : PR} (h : px tb g .pct s = some r) : ∃ g', g = g' + 1 ∧ ((s.is [37] = false ∧ r = .ok s) ∨ (s.is [37] = true ∧ ((∃ e a, s.add (opN 2) s.now.place = .bad e a ∧ r = .bad e a) ∨ ∃ s1, s.add (opN 2) s.now.place = .ok s1 ∧ px tb g' .pct s1.step = some r))) := by
  cases g with
  | zero => cases h
  | succ g =>
    refine ⟨g, rfl, ?_⟩
    rw [px] at h
    split at h
    · rename_i hs
      refine .inr ⟨hs, ?_⟩
      rcases bindR_some h with ⟨e, a, h3, h4⟩ | ⟨s2, h3, h4⟩
      · injection h3 with h3; exact .inl ⟨e, a, h3, h4⟩
      · injection h3 with h3; exact .inr ⟨s2, h3, h4⟩
    · rename_i hs
      injection h with h
      exact .inl ⟨by simpa using hs, h.symm⟩
theorem RSt.place {tv : TV} {R : Nat} {w : World} {s : PS} (h : RSt tv R w s) : w.cell? ⟨R, 2, none⟩ = some (.int .i64 s.now.place) := by
  obtain ⟨A, cap', N, h⟩ := h
  rw [cell_of_row w R 2 _ _ _ h.blk]; rfl
set_option maxRecDepth 100000 in
set_option maxHeartbeats 2000000 in
theorem ppost (tb : Tb) (tv : TV) (R f : Nat) (HP : ∀ s w q, RSt tv R w s → px tb f .prim s = some q → Calls Tryz.prog 128 #[.pointer (some ⟨R, 0, none⟩)] w fun e w' => RRes tv R w q e w') (s : PS) (r : PR) (w : World) (hR : RSt tv R w s) (h : bindR (px tb f .prim s) (px tb f .pct) = some r) : Calls Tryz.prog 97 #[.pointer (some ⟨R, 0, none⟩)] w fun e w' => RRes tv R w r e w' := by
  have C := fun q => HP s w q hR
  clear HP
  rcases bindR_some h with ⟨e1, a1, h2, rfl⟩ | ⟨s1, h2, h3⟩
  · have C1 := C _ h2
    clear C h2 h hR
    go_enter Tryz.func97, Tryz.ntmps97
    go_wp2_with fail
    refine C1.mono ?_
    rintro e w1 ⟨k1, rfl⟩
    exact ⟨rfl, k1, rfl⟩
  · have C1 := C _ h2
    clear C h2 h hR
    go_enter Tryz.func97, Tryz.ntmps97
    go_wp2_with fail
    refine C1.mono ?_
    rintro e w1 ⟨k1, rfl, hR1⟩
    clear C1
    go_wp2
    go_loopw [] (fun wr => ∃ (g : Nat) (s2 : PS), g ≤ f ∧ px tb g .pct s2 = some r ∧ KeepR R w wr ∧ RSt tv R wr s2) (fun wr => restLen R wr)
    case atStart => exact ⟨f, s1, Nat.le_refl _, h3, k1, hR1⟩
    case round =>
      clear h3 hR1 k1
      obtain ⟨g, s2, hg, hpx, hk, hR2⟩ := hrel
      obtain ⟨g', rfl, hcase⟩ := pct_some hpx
      have CI := pis tv R s2 [37] wr hR2
      have hlen := restLen_of hR2
      clear hpx
      rcases hcase with ⟨hi, rfl⟩ | ⟨hi, hcase⟩
      · rw [hi] at CI
        clear hi
        go_wp2_with fail
        refine CI.mono ?_
        rintro e w2 ⟨rfl, he2⟩
        have he2 := he2.symm
        subst he2
        go_wp2
        first | go_end0 | refine bodyPost_ret (results_none rfl _ _ _) rfl ?_
        exact ⟨hk, rfl, hR2⟩
      · rw [hi] at CI
        have hpl := hR2.place
        have CO := pop tv R s2 2 s2.now.place wr hR2
        have hwf := hR2.wf
        have hl := PS.is_last hi
        clear hi
        go_wp2_with fail
        refine CI.mono ?_
        rintro e w2 ⟨rfl, he2⟩
        have he2 := he2.symm
        subst he2
        rcases hcase with ⟨e1, a1, h5, rfl⟩ | ⟨s3, h5, h6⟩
        · rw [h5] at CO
          clear h5
          go_wp2_with fail
          refine CO.mono ?_
          rintro e w5 ⟨k5, rfl⟩
          exact ⟨rfl, hk.trans k5, rfl⟩
        · rw [h5] at CO
          obtain ⟨e2, _⟩ := add_some h5
          have hl3 : s3.step.rest.length + 1 = s2.rest.length := by
            have hwf3 : s3.wf := by rw [e2]; exact hwf
            have := PS.step_len hwf3 (by rw [e2]; exact hl)
            rw [this, e2]
          clear h5 e2
          go_wp2_with fail
          refine CO.mono ?_
          rintro e w5 ⟨k5, rfl, hR5⟩
          have CS := pstep tv R s3 w5 hR5
          go_wp2_with fail
          refine CS.mono ?_
          rintro e w6 ⟨rfl, hR6, k6⟩
          have hlen6 := restLen_of hR6
          clear CS CO CI hpl
          go_wp2
          go_roundw
          case rel => exact ⟨g', s3.step, by omega, h6, hk.trans (k5.trans k6), hR6⟩
          case measure => omega
end Go.Proofs.YtfbkoieodflcpaaGreatDoor
namespace Go.Proofs.YtfbkoieodflcpaaGreatDoor
open Go.RowKit

theorem int_info : (Tryz.prog.info? 3).map (fun i => (i.zero, i.size, i.bytes)) = some (some (.int .i64 0), 1, 8) := by kernel_rfl
def atRow (l : List Int) : List Value := l.map fun x => .int .i64 x
theorem own_cut {w : World} {base : Nat} {e : TypeId} {size n m cap : Nat} {A : Option Addr} {xs ys zs : List Value} (h : w.ownsRow base e size (.slice A n cap) n xs) (hx : xs = ys ++ zs) (hy : ys.length = m * size) (hm : m ≤ n) (h0 : A = none → m = 0) : w.ownsRow base e size (.slice A m cap) m ys := by
  obtain ⟨h1, h2⟩ := h
  rcases h2 with ⟨hv, hn⟩ | ⟨g, cap', cur, hv, hg, hh, hle, hmx, hsz, htk⟩
  · cases hv
    have := h0 rfl
    subst this
    exact ⟨hy, .inl ⟨rfl, rfl⟩⟩
  · cases hv
    refine ⟨hy, .inr ⟨g, _, cur, rfl, hg, hh, by omega, hmx, hsz, ?_⟩⟩
    have h3 : (cur.toList.take (n * size)).take (m * size) = xs.take (m * size) := by rw [htk]
    rw [List.take_take, Nat.min_eq_left (Nat.mul_le_mul_right _ hm)] at h3
    rw [h3, hx, ← hy, List.take_left]
theorem own_cap {w : World} {base : Nat} {e : TypeId} {size n cap : Nat} {A : Option Addr} {xs : List Value} (h : w.ownsRow base e size (.slice A n cap) n xs) : n ≤ cap := by
  rcases h.2 with ⟨hv, hn⟩ | ⟨g, cap', cur, hv, hg, hh, hle, _⟩
  · cases hv; omega
  · cases hv; exact hle
def sliceLen (v : Value) : Nat := match v with | .slice _ n _ => n | _ => 0
theorem neg_some {tb : Tb} {g : Nat} {ats : List Int} {s : PS} {r : PR} (h : px tb g (.neg ats) s = some r) : ∃ g', g = g' + 1 ∧ ((s.is [45] = true ∧ px tb g' (.neg (s.now.place :: ats)) s.step = some r) ∨ (s.is [45] = false ∧ bindR (px tb g' .prim s) (fun s' => bindR (px tb g' .pct s') fun s'' => some (negs ats s'')) = some r)) := by
  cases g with
  | zero => cases h
  | succ g =>
    refine ⟨g, rfl, ?_⟩
    rw [px] at h
    split at h
    · rename_i hs; exact .inl ⟨hs, h⟩
    · rename_i hs; exact .inr ⟨by simpa using hs, h⟩
/-- where a thing behind its signs ends -/
theorem post_negs {tb : Tb} {g : Nat} {ats : List Int} {s : PS} {r : PR} (h : bindR (px tb g .prim s) (fun s' => bindR (px tb g .pct s') fun s'' => some (negs ats s'')) = some r) : (∃ e a, bindR (px tb g .prim s) (px tb g .pct) = some (.bad e a) ∧ r = .bad e a) ∨ ∃ s1, bindR (px tb g .prim s) (px tb g .pct) = some (.ok s1) ∧ negs ats s1 = r := by
  rcases bindR_some h with ⟨e, a, h1, h2⟩ | ⟨s1, h1, h2⟩
  · exact .inl ⟨e, a, by rw [h1]; rfl, h2⟩
  · rcases bindR_some h2 with ⟨e, a, h3, h4⟩ | ⟨s2, h3, h4⟩
    · exact .inl ⟨e, a, by rw [h1]; exact h3, h4⟩
    · injection h4 with h4
      exact .inr ⟨s2, by rw [h1]; exact h3, h4⟩
set_option maxRecDepth 100000 in
set_option maxHeartbeats 4000000 in
theorem pneg (tb : Tb) (tv : TV) (R f : Nat) (HP : ∀ s w q, RSt tv R w s → px tb f .prim s = some q → Calls Tryz.prog 128 #[.pointer (some ⟨R, 0, none⟩)] w fun e w' => RRes tv R w q e w') (s : PS) (r : PR) (w : World) (hR : RSt tv R w s) (h : px tb f (.neg []) s = some r) : Calls Tryz.prog 56 #[.pointer (some ⟨R, 0, none⟩)] w fun e w' => RRes tv R w r e w' := by
  obtain ⟨i0, hi, hz0, hz1, hz2⟩ := info_parts int_info
  have CI := pis tv R s [45] w hR
  have hlt := hR.lt
  have hrl0 := hR.rl
  obtain ⟨f', rfl, hcase⟩ := neg_some h
  have HQ : ∀ g s w q, g ≤ f' → RSt tv R w s → bindR (px tb g .prim s) (px tb g .pct) = some q → Calls Tryz.prog 97 #[.pointer (some ⟨R, 0, none⟩)] w fun e w' => RRes tv R w q e w' := fun g s w q hg hR h => ppost tb tv R f' (fun s w q hR h => HP s w q hR (px_mono tb (Nat.le_succ _) h)) s q w hR (bindR_mono h (fun _ h => px_mono tb hg h) fun _ _ _ h => px_mono tb hg h)
  clear HP
  rcases hcase with ⟨h45, h0⟩ | ⟨h45, h0⟩
  · rw [h45] at CI
    obtain ⟨w0, hw0⟩ : ∃ w0, w0 = w := ⟨_, rfl⟩
    go_enter Tryz.func56, Tryz.ntmps56
    go_wp2_with fail
    refine CI.mono ?_
    rintro e w2 ⟨rfl, he2⟩
    have he2 := he2.symm
    subst he2
    clear CI
    go_wp2
    go_loopw [2] (fun v wr => ∃ (g : Nat) (ats : List Int) (s2 : PS), g ≤ f' + 1 ∧ px tb g (.neg ats) s2 = some r ∧ KeepR R w wr ∧ RSt tv R wr s2 ∧ ats.length + s2.rest.length ≤ s.rest.length ∧ wr.ownsRow w.heap.size 3 1 v ats.length (atRow ats.reverse) ∧ ∀ q, v.ownBlock = some q → nown wr R ≠ some q) (fun _ wr => restLen R wr)
    case atStart => exact ⟨f' + 1, [], s, Nat.le_refl _, h, KeepR.refl hlt, hR, by simp, World.ownsRow_nil _ _ _ _, fun q hq => by cases hq⟩
    case round =>
      clear hR h0 h45 h
      obtain ⟨g, ats, s2, hg, hpx, hk, hR2, hlen, hown, hna⟩ := hrel
      obtain ⟨g', rfl, hcase⟩ := neg_some hpx
      have CI := pis tv R s2 [45] wr hR2
      have hrl := restLen_of hR2
      have hRl := hR2.lt
      have hsz := hk.1.size
      clear hpx
      obtain ⟨A, cap, rfl⟩ := ownsRow_form' hown
      rcases hcase with ⟨hi45, hpx⟩ | ⟨hi45, hpx⟩
      · rw [hi45] at CI
        have hpl := hR2.place
        have hwf := hR2.wf
        have hl := PS.is_last hi45
        have hsl := PS.step_len hwf hl
        clear hi45
        go_wp2_with fail
        refine CI.mono ?_
        rintro e w2 ⟨rfl, he2⟩
        have he2 := he2.symm
        subst he2
        go_wp2_with (at_builtin; refine wpList_append_own_at _ rfl _ _ 145 rfl w.heap.size 3 i0 (.int .i64 0) 1 8 Tryz.underlying145 hi hz0 hz1 hz2 rfl (by decide) _ _ _ rfl (hown.alloc _) ⟨wr.heap.size, 0, none⟩ 1 1 [.int .i64 s2.now.place] rfl rfl (World.news_of_block (cs := #[.int .i64 s2.now.place]) (heap_alloc_new wr _)) (by simp [Value.oneCell']) (by unfold maxLen; omega) (by omega) (by simp; omega) ?_; intro v' w5 hown5 hgrow5 _ hat5)
        have hW1 : Below wr.heap.size wr (wr.alloc (.cells #[.int .i64 s2.now.place] 3)) := (Below.refl _ _).alloc (Nat.le_refl _) _
        have hn1 : nown (wr.alloc (.cells #[.int .i64 s2.now.place] 3)) R = nown wr R := nown_eq (hW1.cell (p := ⟨R, 14, none⟩) hRl)
        have hk5 : KeepR R w w5 := (hk.trans (KeepR.up hW1 hRl)).grow (by simp; omega) hgrow5 (fun q hq => by have := hown.lt q hq; omega)
        have hR5 : RSt tv R w5 s2 := (hR2.up hW1).grow hgrow5 (fun q hq => ⟨by have := hown.lt q hq; omega, by rw [hn1]; exact hna q hq⟩)
        have hn5 : nown w5 R = nown wr R := (nown_eq (hgrow5.cell_far ⟨R, 14, none⟩ (by simp; omega) (fun e => by have := hown.lt R e.symm; omega))).trans hn1
        have hna5 : ∀ q, v'.ownBlock = some q → nown w5 R ≠ some q := fun q hq => by
          rw [hn5]
          rcases hat5 with e | e
          · exact hna q (e.symm.trans hq)
          · rw [hq] at e
            injection e with e
            intro e2
            have := (hR2.fresh q e2).2
            simp at e
            omega
        have CS := pstep tv R s2 w5 hR5
        have hl5 : w5.ownsRow w.heap.size 3 1 v' (s2.now.place :: ats).length (atRow (s2.now.place :: ats).reverse) := by
          have e : atRow (s2.now.place :: ats).reverse = atRow ats.reverse ++ [.int .i64 s2.now.place] := by simp [atRow]
          rw [e]; exact hown5
        clear CI hpl hna hown hown5 hgrow5 hat5 hk hR2 hW1 hn1 hn5
        go_wp2_with fail
        refine CS.mono ?_
        rintro e w6 ⟨rfl, hR6, k6⟩
        obtain ⟨hl6, hna6⟩ := own_keep hl5 hlt hna5 k6
        have hlen6 := restLen_of hR6
        clear CS
        go_wp2
        go_roundw
        case rel => exact ⟨g', s2.now.place :: ats, s2.step, by omega, hpx, hk5.trans k6, hR6, by simp; omega, hl6, hna6⟩
        case measure => omega
      · rw [hi45] at CI
        clear hi45
        have hC := fun q => HQ g' s2 wr q (by omega) hR2
        rcases post_negs hpx with ⟨e1, a1, h1, rfl⟩ | ⟨s3, h1, hng⟩
        · have CQ := hC _ h1
          clear h1 hpx hC HQ
          go_wp2_with fail
          refine CI.mono ?_
          rintro e w2 ⟨rfl, he2⟩
          have he2 := he2.symm
          subst he2
          go_wp2_with fail
          refine CQ.mono ?_
          rintro e w3 ⟨k3, rfl⟩
          exact ⟨rfl, hk.trans k3, rfl⟩
        · have CQ := hC _ h1
          clear h1 hpx hC HQ
          go_wp2_with fail
          refine CI.mono ?_
          rintro e w2 ⟨rfl, he2⟩
          have he2 := he2.symm
          subst he2
          go_wp2_with fail
          refine CQ.mono ?_
          rintro e w3 ⟨k3, rfl, hR3⟩
          obtain ⟨hown3, hna3⟩ := own_keep hown hlt hna k3
          have hk3 := hk.trans k3
          clear CI CQ hown hna hk k3 hR2 hrl
          go_wp2
          go_loopw [2] (fun v wq => ∃ (l : List Int) (s4 : PS), l.length ≤ ats.length ∧ negs l s4 = r ∧ v = .slice A l.length cap ∧ KeepR R w wq ∧ RSt tv R wq s4 ∧ wq.ownsRow w.heap.size 3 1 (.slice A l.length cap) l.length (atRow l.reverse) ∧ ∀ q, Value.ownBlock (.slice A l.length cap) = some q → nown wq R ≠ some q) (fun v _ => sliceLen v)
          case atStart => exact ⟨ats, s3, Nat.le_refl _, hng, rfl, hk3, hR3, hown3, hna3⟩
          case round =>
            clear hng hk3 hR3 hown3 hna3
            obtain ⟨l, s4, hle, hng, rfl, hk, hR4, hown, hna⟩ := hrel
            cases l with
            | nil =>
              simp only [negs] at hng
              subst hng
              go_wp2
              first | go_end0 | refine bodyPost_ret (results_none rfl _ _ _) rfl ?_
              exact ⟨hk, rfl, hR4⟩
            | cons a l =>
              have hlc : (a :: l).length = l.length + 1 := rfl
              rw [hlc] at hown hna ⊢
              obtain ⟨gb, cap0, he, hgb, _⟩ := hown.form (by omega)
              injection he with hA _ hcap
              subst hA hcap
              have hcl : wr.cell? ⟨gb, l.length, none⟩ = some (.int .i64 a) := by
                have := hown.cellAt l.length (by omega)
                rw [this]
                simp [atRow]
              have hcp := own_cap hown
              have hg0 : (0 : Int) < (l.length : Int) + 1 := by omega
              have hwl : IntKind.i64.wrap ((l.length : Int) + 1 - 1) = (l.length : Int) := (IntWalk.i64_in _ (by omega)).trans (by omega)
              have hwl2 : IntKind.i64.wrap (l.length : Int) = (l.length : Int) := IntWalk.i64_in _ (by omega)
              have CO := pop tv R s4 1 a wr hR4
              simp only [negs] at hng
              cases hq : s4.add (opN 1) a with
              | bad e1 a1 =>
                rw [hq] at CO hng
                simp only at hng
                clear hq
                subst hng
                go_wp2_with fail
                refine CO.mono ?_
                rintro e w5 ⟨k5, rfl⟩
                exact ⟨rfl, hk.trans k5, rfl⟩
              | ok s5 =>
                rw [hq] at CO hng
                simp only at hng
                clear hq
                go_wp2_with fail
                refine CO.mono ?_
                rintro e w5 ⟨k5, rfl, hR5⟩
                obtain ⟨hown5, hna5⟩ := own_keep hown hlt hna k5
                have hcut := own_cut hown5 (ys := atRow l.reverse) (zs := [.int .i64 a]) (m := l.length) (by simp [atRow]) (by simp [atRow]) (by omega) (fun h => by cases h)
                clear CO hcl
                go_wp2
                go_roundw
                case rel => exact ⟨l, s5, by simp at hle; omega, hng, by simp, hk.trans k5, hR5, hcut, hna5⟩
                case measure => simp [sliceLen]
  · rw [h45] at CI
    rcases post_negs h0 with ⟨e1, a1, h1, rfl⟩ | ⟨s3, h1, hng⟩
    · have CQ := HQ f' s w _ (Nat.le_refl _) hR h1
      clear h1 h0 HQ h h45
      go_enter Tryz.func56, Tryz.ntmps56
      go_wp2_with fail
      refine CI.mono ?_
      rintro e w2 ⟨rfl, he2⟩
      have he2 := he2.symm
      subst he2
      go_wp2_with fail
      refine CQ.mono ?_
      rintro e w3 ⟨k3, rfl⟩
      exact ⟨rfl, k3, rfl⟩
    · have CQ := HQ f' s w _ (Nat.le_refl _) hR h1
      simp only [negs] at hng
      clear h1 h0 HQ h h45
      go_enter Tryz.func56, Tryz.ntmps56
      go_wp2_with fail
      refine CI.mono ?_
      rintro e w2 ⟨rfl, he2⟩
      have he2 := he2.symm
      subst he2
      go_wp2_with fail
      refine CQ.mono ?_
      rintro e w3 ⟨k3, rfl, hR3⟩
      subst hng
      go_wp2
      first | go_end0 | refine bodyPost_ret (results_none rfl _ _ _) rfl ?_
      exact ⟨k3, rfl, hR3⟩
end Go.Proofs.YtfbkoieodflcpaaGreatDoor
