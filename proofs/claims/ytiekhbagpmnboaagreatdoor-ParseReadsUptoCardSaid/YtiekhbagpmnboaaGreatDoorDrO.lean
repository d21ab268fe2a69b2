/-
  orielref06: the reader's expr, of a level.
-/
import Derived.Test.YtiekhbagpmnboaaGreatDoorMg0
import Derived.Test.YtiekhbagpmnboaaGreatDoorRows
import Derived.Test.YtiekhbagpmnboaaGreatDoorProg
import Derived.Test.YtiekhbagpmnboaaGreatDoorAddrC
import Derived.Test.YtiekhbagpmnboaaGreatDoorMg2
import Derived.Test.YtiekhbagpmnboaaGreatDoorMg26
import Derived.Test.YtiekhbagpmnboaaGreatDoorValA
import Derived.Test.YtiekhbagpmnboaaGreatDoorValB
import Derived.Test.YtiekhbagpmnboaaGreatDoorMg5
import Derived.Test.YtiekhbagpmnboaaGreatDoorMg6
import Derived.Test.YtiekhbagpmnboaaGreatDoorMg7
import Derived.Test.YtiekhbagpmnboaaGreatDoorPaW
import Derived.Test.YtiekhbagpmnboaaGreatDoorMg9
import Derived.Test.YtiekhbagpmnboaaGreatDoorDrC
import Derived.Test.YtiekhbagpmnboaaGreatDoorMg11
import Derived.Test.YtiekhbagpmnboaaGreatDoorDrF
import Derived.Test.YtiekhbagpmnboaaGreatDoorDrH
import Derived.Test.YtiekhbagpmnboaaGreatDoorDrI
import Derived.Test.YtiekhbagpmnboaaGreatDoorMg15
import Derived.Test.YtiekhbagpmnboaaGreatDoorMg16
import Derived.WalkSpells
import Derived.WalkLawsBesides
import Derived.StillTactics
import Derived.Laws.Pointers
import Derived.Deep.RegionHeld3
import Derived.Deep.QuietTactic
import Derived.BigQuiet
import Derived.RowKit3
import Derived.Lib.Hide
import Derived.Lib.OthersKept
import Derived.OwnWalk
import Derived.Lib.IndexLaws
import Derived.Lib.ItoaMem
import Derived.Lib.TrimByte
import Derived.Lib.SlTrimSet
import Derived.Lib.ParseIntB
import Derived.WalkKit
import Derived.ProofKit
import Derived.OpenShut
import Derived.Carry
import Derived.ChangeSame
import Derived.Deep.Draws
import Derived.Shelf.Strings.Builder1
import Derived.Shelf.Strings.Trim
import Derived.Shelf.Small.Utf8
import Derived.Shelf.Small.Strs
import Derived.Shelf.Small.Wraps
import Derived.Shelf.Strings.BuilderF
import Derived.Shelf.Strings.BuilderK
import Derived.Shelf.Strconv.Itoa0
import Derived.Shelf.Strconv.Itoa1
import Derived.Shelf.LaysM
import Derived.Shelf.Strconv.Itoa2
import Derived.Shelf.Strconv.Itoa3
import Derived.Ground.MpProg
import Derived.Shelf.Pu.ParseUintPublic10
import Derived.Shelf.Strings.Search1
import Derived.Shelf.Strings.Search2
import Derived.Shelf.Strings.Cut
import Derived.Shelf.Strings.Shaped
import Derived.Shelf.Strings.Prefix
import Derived.Shelf.Strings.Runes
import Derived.Shelf.Strings.AsciiSet
import Derived.Shelf.Unicode.DecodeSlow
import Derived.Lib.ItoaNum
import Derived.Maps.OwnSet
import Derived.Maps.AppendAt
import Derived.BigRegion
import Derived.Deep.RegionLaw
import Derived.Deep.AppendLies
import Derived.ScopeJumps
import Derived.WalkMore
namespace Go.Proofs.YtiekhbagpmnboaaGreatDoor
open Go.RowKit

def leftI (n : Nat) (v : Value) : Nat := match v with | .int _ i => n - i.toNat | _ => 0
theorem strsK_at {k n : Nat} {z : List UInt8 × Int} (h : (sgn k)[n]? = some z) : (strsK k)[n]? = some (.string ⟨z.1.toArray⟩) := by
  unfold strsK
  simp [h]
theorem intsK_at {k n : Nat} {z : List UInt8 × Int} (h : (sgn k)[n]? = some z) : (intsK k)[n]? = some (.int .i64 z.2) := by
  unfold intsK
  simp [h]
theorem sgn_len (k : Nat) : (sgn k).length ≤ 6 := by
  unfold sgn
  split <;> decide
theorem dexpr4 (tv : TV) (R : Nat) (ts : List Tok) (s : PS) (r : PR) (w : World) (hR : DOk tv R w ts s) (CN : Calls Tryz.prog 57 #[.pointer (some ⟨R, 0, none⟩)] w fun e w' => DRes tv R ts w r e w') : Calls Tryz.prog 28 #[.pointer (some ⟨R, 0, none⟩), .int .i64 4] w fun e w' => DRes tv R ts w r e w' := by
  have hlt := hR.ltR
  have d4 := hR.err
  clear hR
  go_enter Tryz.func28, Tryz.ntmps28
  go_wp2_with fail
  refine CN.mono ?_
  intro e w1 h1
  obtain ⟨rfl, k1, h1⟩ := h1.st
  go_wp2
  first | go_end0 | refine bodyPost_ret (results_none rfl _ _ _) rfl ?_
  exact DSt.res h1 k1
set_option maxRecDepth 100000 in
set_option maxHeartbeats 8000000 in
theorem dexprL (tb : Tb) (tv : TV) (R : Nat) (ts : List Tok) (f k : Nat) (hk3 : k ≤ 3) (HK : ∀ s w q, DOk tv R w ts s → px tb f (.lev (k + 1)) s = some q → Calls Tryz.prog 28 #[.pointer (some ⟨R, 0, none⟩), .int .i64 ((k : Int) + 1)] w fun e w' => DRes tv R ts w q e w') (s : PS) (r : PR) (w : World) (hR : DOk tv R w ts s) (h : px tb (f + 1) (.lev k) s = some r) : Calls Tryz.prog 28 #[.pointer (some ⟨R, 0, none⟩), .int .i64 (k : Int)] w fun e w' => DRes tv R ts w r e w' := by
  rw [px, if_neg (by omega)] at h
  have hlt := hR.ltR
  have d4 := hR.err
  have hL6 : ((sgn k).length : Int) ≤ 6 := by have := sgn_len k; omega
  have hk4 : ((k : Int) == 4) = false := by simp; omega
  have hk4' : ¬ (k : Int) = 4 := by omega
  have hkI : (k : Int) ≤ 3 := by omega
  have CL := dlevels k hk3 w
  have hW : Below w.heap.size w ((w.alloc (.cells (strsK k) 9)).alloc (.cells (intsK k) 3)) := ((Below.refl _ _).alloc (Nat.le_refl _) _).alloc (by simp) _
  have hkW := KeepD.up hW hlt
  have hRW := hR.up hW
  have hS0 : ApartD R ((w.alloc (.cells (strsK k) 9)).alloc (.cells (intsK k) 3)) w.heap.size (strsK k) 9 (0, 0) := DSt.apart (x := .ok s) hR hW (Nat.le_refl _) ((Lib.alloc_old _ _ _ (by simp)).trans (heap_alloc_new w _))
  have hI0 : ApartD R ((w.alloc (.cells (strsK k) 9)).alloc (.cells (intsK k) 3)) (w.heap.size + 1) (intsK k) 3 (0, 0) := by
    have hvg := heap_alloc_new (w.alloc (.cells (strsK k) 9)) (.cells (intsK k) 3)
    rw [World.size_alloc] at hvg
    exact DSt.apart (x := .ok s) hR hW (Nat.le_succ _) hvg
  obtain ⟨x1, hx1, hl⟩ : ∃ x1, px tb f (.lev (k + 1)) s = some x1 ∧ bindR (some x1) (px tb f (.loop k)) = some r := by
    rcases bindR_some h with ⟨e, a, h1, h2⟩ | ⟨s1, h1, h2⟩
    · exact ⟨_, h1, by rw [h2]; rfl⟩
    · exact ⟨_, h1, h2⟩
  have CE := HK s ((w.alloc (.cells (strsK k) 9)).alloc (.cells (intsK k) 3)) x1 hRW hx1
  clear h hR hx1 hRW hk3
  go_enter Tryz.func28, Tryz.ntmps28
  go_wp2_with fail
  refine CL.mono ?_
  rintro e w2 ⟨rfl, rfl⟩
  clear CL
  go_wp2_with fail
  refine CE.mono ?_
  intro e w3 h3
  obtain ⟨rfl, k3, h3⟩ := h3.st
  have hS3 := hS0.kept k3
  have hI3 := hI0.kept k3
  have hk3 := hkW.trans k3
  clear CE hS0 hI0 hkW k3 d4 hk4 hk4' hW
  go_wp2
  go_loopw [6] (fun m wr => ∃ (b : Bool) (x : PR) (g : Nat), m = .bool b ∧ KeepD R w wr ∧ DSt tv R wr ts x ∧ ApartD R wr w.heap.size (strsK k) 9 (0, 0) ∧ ApartD R wr (w.heap.size + 1) (intsK k) 3 (0, 0) ∧ ((b = false ∧ x = r) ∨ (b = true ∧ g ≤ f ∧ bindR (some x) (px tb g (.loop k)) = some r))) (fun m wr => moreD ts.length R m wr)
  case atStart => exact ⟨true, x1, f, rfl, hk3, h3, hS3, hI3, .inr ⟨rfl, Nat.le_refl _, hl⟩⟩
  case round =>
    clear hk3 h3 hS3 hI3 hl
    obtain ⟨b, x, g, rfl, hk, hx, hS, hI, hcase⟩ := hrel
    rcases hcase with ⟨rfl, rfl⟩ | ⟨rfl, hg, hl⟩
    · go_wp2
      first | go_end0 | refine bodyPost_ret (results_none rfl _ _ _) rfl ?_
      exact DSt.res hx hk
    · have hgo := hx.goes
      go_wp2
      go_loopw [6, 7] (fun m i wq => ∃ (b : Bool) (n : Nat) (y : PR) (g2 : Nat), m = .bool b ∧ i = .int .i64 (n : Int) ∧ n ≤ (sgn k).length ∧ KeepD R w wq ∧ DSt tv R wq ts y ∧ ApartD R wq w.heap.size (strsK k) 9 (0, 0) ∧ ApartD R wq (w.heap.size + 1) (intsK k) 3 (0, 0) ∧ ((b = false ∧ y = x ∧ ∀ j, j < n → ∀ z, (sgn k)[j]? = some z → isR x z.1 = false) ∨ (b = true ∧ g2 ≤ f ∧ bindR (some y) (px tb g2 (.loop k)) = some r ∧ goesN y < goesN x))) (fun _ i _ => leftI (sgn k).length i)
      case atStart => exact ⟨false, 0, x, g, rfl, rfl, Nat.zero_le _, hk, hx, hS, hI, .inl ⟨rfl, rfl, fun j hj => by omega⟩⟩
      case round =>
        clear hk hx hS hI
        obtain ⟨b, n, y, g2, rfl, rfl, hn, hk, hy, hS, hI, hcase⟩ := hrel
        have hgoy := hy.goes
        rcases hcase with ⟨rfl, rfl, hnone⟩ | ⟨rfl, hg2, hl2, hless⟩
        · by_cases hnL : n < (sgn k).length
          · have hni : (n : Int) < ((sgn k).length : Int) := by omega
            obtain ⟨z, hz⟩ : ∃ z, (sgn k)[n]? = some z := ⟨_, List.getElem?_eq_getElem hnL⟩
            have m0 : wr.cell? ⟨w.heap.size, n, none⟩ = some (.string ⟨z.1.toArray⟩) := by rw [cell_of_row wr (w.heap.size) n _ _ _ hS.blk]; exact strsK_at hz
            have hsl : w.heap.size < wr.heap.size := heap_lt hS.blk
            have CS := dsign_on tv R ts y z.1 wr hy
            have hRl := hy.ltR
            cases hiz : isR y z.1 with
            | false =>
              rw [hiz] at CS
              go_wp2_with fail
              refine CS.mono ?_
              rintro e w4 ⟨rfl, hb4⟩
              have k4 := KeepD.up hb4 hRl
              have hS4 := hS.kept k4
              have hI4 := hI.kept k4
              have h4 := hy.up hb4
              clear CS m0 hl
              go_wp2
              go_roundw
              case rel =>
                refine ⟨false, n + 1, y, g2, rfl, by simp, by omega, hk.trans k4, h4, hS4, hI4, .inl ⟨rfl, rfl, fun j hj z' hz' => ?_⟩⟩
                by_cases hjn : j = n
                · subst hjn
                  rw [hz] at hz'
                  injection hz' with hz'
                  rw [← hz']
                  exact hiz
                · exact hnone j (by omega) z' hz'
              case measure => simp only [leftI]; omega
            | true =>
              rw [hiz] at CS
              obtain ⟨s4, rfl, hi4⟩ := isR_ok hiz
              obtain ⟨g', x2, rfl, hpx, hl2⟩ := loopR_some hl hz hi4 hnone
              have hR4 : DOk tv R wr ts s4 := hy
              have hwf4 := hR4.2.2.2
              have hsl4 := PS.step_len hwf4 (PS.is_last hi4)
              have hfp := field_place
              clear hiz hi4 hnone hy
              go_wp2_with fail
              refine CS.mono ?_
              rintro e w4 ⟨rfl, hb4⟩
              have k4 := KeepD.up hb4 hRl
              have h4 := hR4.up hb4
              have hk4 := hk.trans k4
              have hS4 := hS.kept k4
              have hI4 := hI.kept k4
              have hRl4 := h4.ltR
              have CN := dnow_ok tv R ts s4 w4 h4
              clear CS m0 hR4 hk k4 hS hI hl
              go_wp2_with fail
              refine CN.mono ?_
              rintro e w5 ⟨rfl, hb5⟩
              have k5 := KeepD.up hb5 hRl4
              have h5 := h4.up hb5
              have hk5 := hk4.trans k5
              have hS5 := hS4.kept k5
              have hI5 := hI4.kept k5
              have CT := dstep_ok tv R ts s4 w5 h5
              clear CN h4 hk4 k5 hS4 hI4
              go_wp2_with fail
              refine CT.mono ?_
              intro e w6 h6
              obtain ⟨rfl, k6, h6⟩ := h6.st
              have h6 : DOk tv R w6 ts s4.step := h6
              have hk6 := hk5.trans k6
              have hS6 := hS5.kept k6
              have hI6 := hI5.kept k6
              have CE := HK s4.step w6 x2 h6 (px_mono tb (by omega) hpx)
              have hx2 : ∀ s', x2 = .ok s' → s'.rest.length + 1 ≤ s4.step.rest.length := by
                intro s' h
                subst h
                have haf := px_after tb h6.2.2.2 (show Md.ok (.lev (k + 1)) by simp only [Md.ok]; omega) hpx
                have hal := haf.len
                simp only [Md.strict] at hal
                omega
              clear CT hfp h5 hk5 k6 hS5 hI5 hpx
              go_wp2_with fail
              refine CE.mono ?_
              intro e w7 h7
              obtain ⟨rfl, k7, h7⟩ := h7.st
              have hk7 := hk6.trans k7
              have hS7 := hS6.kept k7
              have hI7 := hI6.kept k7
              have m1 : w7.cell? ⟨w.heap.size + 1, n, none⟩ = some (.int .i64 z.2) := by rw [cell_of_row w7 (w.heap.size + 1) n _ _ _ hI7.blk]; exact intsK_at hz
              have hsl7 : w.heap.size + 1 < w7.heap.size := heap_lt hI7.blk
              have CO := dnode_on tv R ts x2 (opN z.2) s4.now.place w7 h7
              have hlt2 : goesN (addR x2 (opN z.2) s4.now.place) < goesN (.ok s4) := by
                cases x2 with
                | bad e a => simp [goesN, addR]
                | ok s5 =>
                  have h1 := hx2 s5 rfl
                  simp only [addR]
                  cases hq : s5.add (opN z.2) s4.now.place with
                  | bad e a => simp [goesN]
                  | ok s6 =>
                    obtain ⟨e6, _⟩ := add_some hq
                    have e7 : s6.rest = s5.rest := by rw [e6]
                    simp only [goesN]
                    rw [e7]
                    omega
              generalize addR x2 (opN z.2) s4.now.place = y2 at *
              simp only [opN, vl0] at CO
              clear CE h6 hk6 k7 hS6 hI6 hx2
              go_wp2_with fail
              refine CO.mono ?_
              intro e w8 h8
              obtain ⟨rfl, k8, h8⟩ := h8.st
              have hk8 := hk7.trans k8
              have hS8 := hS7.kept k8
              have hI8 := hI7.kept k8
              clear CO m1 h7 hk7 k8 hS7 hI7
              go_wp2
              go_roundw
              case rel => exact ⟨true, n + 1, y2, g', rfl, by simp, by omega, hk8, h8, hS8, hI8, .inr ⟨rfl, by omega, hl2, hlt2⟩⟩
              case measure => simp only [leftI]; omega
          · have hn' : n = (sgn k).length := by omega
            subst hn'
            have hr := loopR_none hl (fun z hz => by
              obtain ⟨j, hj, e⟩ := List.mem_iff_getElem.1 hz
              exact hnone j hj z (by rw [List.getElem?_eq_getElem hj, e]))
            clear hnone hnL hl
            go_wp2
            go_roundw
            case rel => exact ⟨false, y, g, rfl, hk, hy, hS, hI, .inl ⟨rfl, hr.symm⟩⟩
            case measure => simp only [moreD]; omega
        · by_cases hnL : n < (sgn k).length
          · have hni : (n : Int) < ((sgn k).length : Int) := by omega
            go_wp2
            go_roundw
            case rel => exact ⟨true, y, g2, rfl, hk, hy, hS, hI, .inr ⟨rfl, hg2, hl2⟩⟩
            case measure => simp only [moreD]; omega
          · have hn' : n = (sgn k).length := by omega
            subst hn'
            go_wp2
            go_roundw
            case rel => exact ⟨true, y, g2, rfl, hk, hy, hS, hI, .inr ⟨rfl, hg2, hl2⟩⟩
            case measure => simp only [moreD]; omega
end Go.Proofs.YtiekhbagpmnboaaGreatDoor
