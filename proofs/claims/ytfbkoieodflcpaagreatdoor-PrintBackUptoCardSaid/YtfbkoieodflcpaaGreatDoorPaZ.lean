/-
  parse: the reader's row.
-/
import Derived.Test.YtfbkoieodflcpaaGreatDoorMg3
import Derived.Test.YtfbkoieodflcpaaGreatDoorRows
import Derived.Test.YtfbkoieodflcpaaGreatDoorMg0
import Derived.Test.YtfbkoieodflcpaaGreatDoorProg
import Derived.Test.YtfbkoieodflcpaaGreatDoorShelf
import Derived.Test.YtfbkoieodflcpaaGreatDoorMg4
import Derived.Test.YtfbkoieodflcpaaGreatDoorAddrC
import Derived.Test.YtfbkoieodflcpaaGreatDoorMg6
import Derived.Test.YtfbkoieodflcpaaGreatDoorValA
import Derived.Test.YtfbkoieodflcpaaGreatDoorValB
import Derived.Test.YtfbkoieodflcpaaGreatDoorMg9
import Derived.Test.YtfbkoieodflcpaaGreatDoorMg10
import Derived.Test.YtfbkoieodflcpaaGreatDoorPaP
import Derived.Test.YtfbkoieodflcpaaGreatDoorPaF
import Derived.Test.YtfbkoieodflcpaaGreatDoorPaW
import Derived.Test.YtfbkoieodflcpaaGreatDoorPaX
import Derived.Test.YtfbkoieodflcpaaGreatDoorPaY
import Derived.Test.YtfbkoieodflcpaaGreatDoorMg22
import Derived.BigRegion
import Derived.ScopeJumps
import Derived.WalkMore
import Derived.WalkSpells
import Derived.WalkLawsBesides
import Derived.StillTactics
import Derived.Laws.Pointers
import Derived.Deep.RegionHeld3
import Derived.Deep.QuietTactic
import Derived.BigQuiet
import Derived.RowKit3
import Derived.Lib.Hide
import Derived.Lib.OthersKept
import Derived.OwnWalk
import Derived.Lib.IndexLaws
import Derived.Lib.ItoaMem
import Derived.Lib.TrimByte
import Derived.Lib.SlTrimSet
import Derived.Lib.ParseIntB
import Derived.WalkKit
import Derived.ProofKit
import Derived.OpenShut
import Derived.Carry
import Derived.ChangeSame
import Derived.Deep.Draws
import Derived.Shelf.Strings.Builder1
import Derived.Shelf.Strings.Builder2
import Derived.Shelf.Strings.Trim
import Derived.Shelf.Small.Utf8
import Derived.Shelf.Small.Strs
import Derived.Shelf.Small.Wraps
import Derived.Shelf.Strings.BuilderF
import Derived.Shelf.Strings.BuilderK
import Derived.Shelf.Utf8.RuneCount
import Derived.Shelf.Strconv.Itoa0
import Derived.Shelf.Strconv.Itoa1
import Derived.Shelf.LaysM
import Derived.Shelf.Strconv.Itoa2
import Derived.Shelf.Strconv.Itoa3
import Derived.Ground.MpProg
import Derived.Shelf.Pu.ParseUintPublic10
import Derived.Shelf.Strings.Search1
import Derived.Shelf.Strings.Search2
import Derived.Shelf.Strings.Search3
import Derived.Shelf.Strings.Cut
import Derived.Shelf.Strings.Count
import Derived.Shelf.Strings.Shaped
import Derived.Shelf.Strings.Prefix
import Derived.Shelf.Strings.Split
import Derived.Shelf.Strings.Replace
import Derived.Shelf.Strings.SplitShaped
import Derived.Shelf.Unicode.Decode
import Derived.Shelf.Strings.Runes
import Derived.Shelf.Strings.RuneCount
import Derived.Shelf.Strings.AsciiSet
import Derived.Shelf.Unicode.DecodeSlow
import Derived.Shelf.Unicode.DecodeAny
import Derived.Shelf.Unicode.DecodeLast
import Derived.Lib.ItoaNum
import Derived.Maps.OwnSet
import Derived.Maps.AppendAt
import Derived.Deep.RegionLaw
import Derived.Deep.AppendLies
namespace Go.Proofs.YtfbkoieodflcpaaGreatDoor
open Go.RowKit

/-- the signs and operations of a row, as they lie -/
def sgRow (l : List (List UInt8 × Int)) : List Value := (l.map fun x => [.iface 9 (.string ⟨x.1.toArray⟩), .iface 3 (.int .i64 x.2)]).flatten
theorem sgRow_at (l : List (List UInt8 × Int)) (j : Nat) (x : List UInt8 × Int) (hx : l[j]? = some x) : (sgRow l)[j * 2]? = some (.iface 9 (.string ⟨x.1.toArray⟩)) ∧ (sgRow l)[j * 2 + 1]? = some (.iface 3 (.int .i64 x.2)) := by
  have h := fun (i : Nat) (u : Value) hu => flat_at (k := 2) (l.map fun x => [.iface 9 (.string ⟨x.1.toArray⟩), .iface 3 (.int .i64 x.2)]) (fun c hc => by obtain ⟨y, _, rfl⟩ := List.mem_map.1 hc; rfl) j [.iface 9 (.string ⟨x.1.toArray⟩), .iface 3 (.int .i64 x.2)] (by rw [List.getElem?_map, hx]; rfl) i u hu
  exact ⟨h 0 _ rfl, h 1 _ rfl⟩
def restLen (R : Nat) (w : World) : Nat := match w.cell? ⟨R, 0, none⟩ with | some (.slice _ n _) => n | _ => 0
theorem restLen_of {tv : TV} {R : Nat} {w : World} {s : PS} (h : RSt tv R w s) : restLen R w = s.rest.length := by
  obtain ⟨A, cap, N, h⟩ := h
  unfold restLen
  rw [cell_of_row w R 0 _ _ _ h.blk]
  rfl
theorem RSt.wf {tv : TV} {R : Nat} {w : World} {s : PS} (h : RSt tv R w s) : s.wf := by obtain ⟨A, cap, N, h⟩ := h; exact h.wf
theorem RSt.rl {tv : TV} {R : Nat} {w : World} {s : PS} (h : RSt tv R w s) : s.rest.length ≤ 100000000000 := by obtain ⟨A, cap, N, h⟩ := h; exact h.rl
theorem loop_some {tb : Tb} {g k : Nat} {s : PS} {r : PR} (h : px tb g (.loop k) s = some r) : ∃ g', g = g' + 1 ∧ ((s.sig (sgn k) = none ∧ r = .ok s) ∨ ∃ o, s.sig (sgn k) = some o ∧ ((∃ e a, px tb g' (.lev (k + 1)) s.step = some (.bad e a) ∧ r = .bad e a) ∨ ∃ s1, px tb g' (.lev (k + 1)) s.step = some (.ok s1) ∧ ((∃ e a, s1.add (opN o) s.now.place = .bad e a ∧ r = .bad e a) ∨ ∃ s2, s1.add (opN o) s.now.place = .ok s2 ∧ px tb g' (.loop k) s2 = some r))) := by
  cases g with
  | zero => cases h
  | succ g =>
    refine ⟨g, rfl, ?_⟩
    rw [px] at h
    split at h
    · rename_i hs
      injection h with h
      exact .inl ⟨hs, h.symm⟩
    · rename_i o hs
      refine .inr ⟨o, hs, ?_⟩
      rcases bindR_some h with h1 | ⟨s1, h1, h2⟩
      · exact .inl h1
      · refine .inr ⟨s1, h1, ?_⟩
        rcases bindR_some h2 with ⟨e, a, h3, h4⟩ | ⟨s2, h3, h4⟩
        · injection h3 with h3; exact .inl ⟨e, a, h3, h4⟩
        · injection h3 with h3; exact .inr ⟨s2, h3, h4⟩
theorem sig_drop (s : PS) (l : List (List UInt8 × Int)) (j : Nat) (x : List UInt8 × Int) (hx : l[j]? = some x) : s.sig (l.drop j) = if s.is x.1 then some x.2 else s.sig (l.drop (j + 1)) := by
  have h1 : l.drop j = x :: l.drop (j + 1) := by
    obtain ⟨hl, e⟩ := List.getElem?_eq_some_iff.1 hx
    rw [List.drop_eq_getElem_cons hl, e]
  rw [h1]
  unfold PS.sig
  rw [List.find?_cons]
  cases s.is x.1 <;> simp
/-- a scope whose label stands behind its first part: what holds at the label, from the first part and at every jump -/
theorem wp_scope_head {P : Program} {a : Act} {w : World} {Q : Exit → Act → World → Prop} {A rest : Code} (l : Nat) (J : Act → World → Prop) (μ : Act → World → Nat) (hf : findLabel (A.seq ((Code.label l).seq rest)) l = some (Code.skip.seq rest))
    (first : A.wp P (Exit.then J (Exit.jump l J Q)) a w)
    (pass : ∀ a w, J a w → rest.wp P (Exit.jump l (fun a' w' => J a' w' ∧ μ a' w' < μ a w) Q) a w) : (Code.scope (A.seq ((Code.label l).seq rest))).wp P Q a w := by
  refine wp_scope_jumps l J μ hf (wp_seq (wp_mono first fun e a w h => ?_)) fun a w hJ => wp_seq (wp_skip (pass a w hJ))
  cases e with
  | normal =>
    refine wp_seq (wp_label ?_)
    refine wp_mono (pass a w h) fun e a w he => ?_
    cases e with
    | goto l => exact ⟨he.1, he.2.1⟩
    | _ => exact he
  | _ => exact h
/-- where a row stands at its label -/
def RowJ (tb : Tb) (tv : TV) (R Sb : Nat) (F : FuncId) (first cap : Array Value) (Hd : World → Prop) (f k : Nat) (sgs : List (List UInt8 × Int)) (w : World) (r : PR) (a' : Act) (w' : World) : Prop :=
  ∃ (g : Nat) (s1 : PS) (u3 u4 u5 u6 u7 u8 u9 u10 u11 u12 u13 u14 u15 u16 u17 u18 u19 u20 u21 u22 u23 u24 u25 u26 u27 u28 u29 u30 u31 u32 u33 u34 u35 u36 u37 u38 u39 u40 u41 : Value), a' = { tmps := #[.pointer (some ⟨R, 0, none⟩), .func (.func F) first cap, .slice (some ⟨Sb, 0, none⟩) (sgs.length * 2) (sgs.length * 2), u3, u4, u5, u6, u7, u8, u9, u10, u11, u12, u13, u14, u15, u16, u17, u18, u19, u20, u21, u22, u23, u24, u25, u26, u27, u28, u29, u30, u31, u32, u33, u34, u35, u36, u37, u38, u39, u40, u41], defers := [] } ∧ g ≤ f ∧ px tb g (.loop k) s1 = some r ∧ KeepR R w w' ∧ RSt tv R w' s1 ∧ Hd w' ∧ Apart R w' Sb (sgRow sgs).toArray 20 (0, 0)
theorem assert_str (b : ByteArray) (w : World) : Sem.run Tryz.prog (Instr.typeAssert (.iface 9 (.string b)) 20 9 false) w = .ok (.string b) w := by kernel_rfl
theorem assert_int (b : Int) (w : World) : Sem.run Tryz.prog (Instr.typeAssert (.iface 3 (.int .i64 b)) 20 3 false) w = .ok (.int .i64 b) w := by kernel_rfl
set_option maxRecDepth 100000 in
set_option maxHeartbeats 4000000 in
theorem prow (k : Nat) (hk : k ≤ 3) (sgs : List (List UInt8 × Int)) (hsg : sgs = sgn k) (tb : Tb) (tv : TV) (R Sb : Nat) (F : FuncId) (first cap : Array Value) (hE : ∀ w, Sem.run Tryz.prog (callFunc F (first ++ cap)) w = .ok (.enter F (first ++ cap)) w) (Hd : World → Prop) (hHd : ∀ w w', Hd w → KeepR R w w' → Hd w') (f : Nat)
    (H : ∀ s w q, Hd w → RSt tv R w s → px tb f (.lev (k + 1)) s = some q → Calls Tryz.prog F (first ++ cap) w fun e w' => RRes tv R w q e w')
    (s : PS) (r : PR) (w : World) (h1 : bindR (px tb f (.lev (k + 1)) s) (px tb f (.loop k)) = some r) (hw : Hd w) (hR : RSt tv R w s) (hS : Apart R w Sb (sgRow sgs).toArray 20 (0, 0)) :
    Calls Tryz.prog 52 #[.pointer (some ⟨R, 0, none⟩), .func (.func F) first cap, .slice (some ⟨Sb, 0, none⟩) (sgs.length * 2) (sgs.length * 2)] w fun e w' => RRes tv R w r e w' := by
  have hn : sgs.length ≤ 6 := by rw [hsg]; unfold sgn; split <;> simp
  have hsgH := Lib.hid hsg
  clear hsg
  have hA1 := assert_str
  have hA2 := assert_int
  go_enter Tryz.func52, Tryz.ntmps52
  go_wp2
  refine wp_scope_head 0 (RowJ tb tv R Sb F first cap Hd f k sgs w r) (fun _ w' => restLen R w') rfl ?first ?pass
  case first =>
    have C := fun q => H s w q hw hR
    rcases bindR_some h1 with ⟨e1, a1, h2, rfl⟩ | ⟨s1, h2, h3⟩
    · have C1 := C _ h2
      clear C h2 h1 H
      go_wp2_with fail
      refine C1.mono ?_
      rintro e w1 ⟨k1, rfl⟩
      exact ⟨rfl, k1, rfl⟩
    · have C1 := C _ h2
      clear C h2 h1 H
      go_wp2_with fail
      refine C1.mono ?_
      rintro e w1 ⟨k1, rfl, hR1⟩
      go_wp2
      exact ⟨f, s1, _, _, _, _, _, _, _, _, _, _, _, _, _, _, _, _, _, _, _, _, _, _, _, _, _, _, _, _, _, _, _, _, _, _, _, _, _, _, _, rfl, Nat.le_refl _, h3, k1, hR1, hHd _ _ hw k1, hS.kept k1⟩
  case pass =>
    rintro a' w1 ⟨g, s1, u3, u4, u5, u6, u7, u8, u9, u10, u11, u12, u13, u14, u15, u16, u17, u18, u19, u20, u21, u22, u23, u24, u25, u26, u27, u28, u29, u30, u31, u32, u33, u34, u35, u36, u37, u38, u39, u40, u41, rfl, hg, hpx, hkp, hR1, hw1, hS1⟩
    obtain ⟨g', rfl, hcase⟩ := loop_some hpx
    rw [← hsgH.out] at hcase
    clear hpx h1 hR hw hS hsgH
    have hlen1 := restLen_of hR1
    go_wp2
    go_loopw [6] (fun i wr => ∃ j : Nat, j ≤ sgs.length ∧ i = .int .i64 ((j * 2 : Nat) : Int) ∧ s1.sig sgs = s1.sig (sgs.drop j) ∧ wr = w1) (fun i _ => sgs.length * 2 - (intOf i).toNat)
    case atStart => exact ⟨0, Nat.zero_le _, rfl, rfl, rfl⟩
    case round =>
      obtain ⟨j, hj, rfl, hsig, rfl⟩ := hrel
      by_cases hjn : j < sgs.length
      · obtain ⟨x, hx⟩ : ∃ x, sgs[j]? = some x := ⟨_, List.getElem?_eq_getElem hjn⟩
        obtain ⟨r0, r1⟩ := sgRow_at sgs j x hx
        have cs0 : wr.cell? ⟨Sb, j * 2, none⟩ = some (.iface 9 (.string ⟨x.1.toArray⟩)) := by rw [cell_of_row wr Sb _ _ _ _ hS1.blk]; simpa using r0
        have cs1 : wr.cell? ⟨Sb, j * 2 + 1, none⟩ = some (.iface 3 (.int .i64 x.2)) := by rw [cell_of_row wr Sb _ _ _ _ hS1.blk]; simpa using r1
        have hd := sig_drop s1 sgs j x hx
        rw [← hsig] at hd
        have CI := pis tv R s1 x.1 wr hR1
        have hlt : ((j * 2 : Nat) : Int) < ((sgs.length * 2 : Nat) : Int) := by omega
        have hlt2 : ((j * 2 : Nat) : Int) + 1 < ((sgs.length * 2 : Nat) : Int) := by omega
        have hge : (0 : Int) ≤ ((j * 2 : Nat) : Int) := by omega
        go_wp2_with fail
        refine CI.mono ?_
        rintro e w2 ⟨rfl, he2⟩
        have he2 := he2.symm
        subst he2
        cases hi : s1.is x.1 with
        | false =>
          rw [hi] at hd
          go_wp2
          go_roundw
          case rel => exact ⟨j + 1, by omega, by go_num, by rw [hsig, sig_drop s1 sgs j x hx, hi]; rfl, by first | rfl | trivial⟩
          case measure => simp [intOf]; omega
        | true =>
          rw [hi, if_pos rfl] at hd
          rw [hd] at hcase
          have hplace : wr.cell? ⟨R, 2, none⟩ = some (.int .i64 s1.now.place) := by
            obtain ⟨A, cap', N, h⟩ := hR1
            rw [cell_of_row wr R 2 _ _ _ h.blk]; rfl
          have CS := pstep tv R s1 wr hR1
          have hwf := hR1.wf
          have hsl := PS.step_len hwf (PS.is_last hi)
          clear CI hlt
          go_wp2_with fail
          refine CS.mono ?_
          rintro e w3 ⟨rfl, hR3, k3⟩
          have hw3 := hHd _ _ hw1 k3
          have hS3 := hS1.kept k3
          have hkp3 := hkp.trans k3
          clear CS hplace cs0 cs1
          have cs1 : w3.cell? ⟨Sb, j * 2 + 1, none⟩ = some (.iface 3 (.int .i64 x.2)) := by rw [cell_of_row w3 Sb _ _ _ _ hS3.blk]; simpa using r1
          have hR3w := hR3.wf
          have hlen3 := hR3.lt
          obtain ⟨o, ho, hcase⟩ : ∃ o, x.2 = o ∧ ((∃ e a, px tb g' (.lev (k + 1)) s1.step = some (.bad e a) ∧ r = .bad e a) ∨ ∃ s4, px tb g' (.lev (k + 1)) s1.step = some (.ok s4) ∧ ((∃ e a, s4.add (opN o) s1.now.place = .bad e a ∧ r = .bad e a) ∨ ∃ s2, s4.add (opN o) s1.now.place = .ok s2 ∧ px tb g' (.loop k) s2 = some r)) := by
            rcases hcase with ⟨h0, _⟩ | ⟨o, h0, h2⟩
            · cases h0
            · injection h0 with h0; exact ⟨o, h0, h2⟩
          subst ho
          have hgf : g' ≤ f := by omega
          have C := fun q hq => H s1.step w3 q hw3 hR3 (px_mono tb hgf hq)
          rcases hcase with ⟨e1, a1, h2, rfl⟩ | ⟨s4, h2, hcase⟩
          · have C1 := C _ h2
            clear C h2 hd
            go_wp2_with fail
            refine C1.mono ?_
            rintro e w4 ⟨k4, rfl⟩
            exact ⟨rfl, hkp3.trans k4, rfl⟩
          · have C1 := C _ h2
            have hk4 : Md.ok (.lev (k + 1)) := show k + 1 ≤ 4 by omega
            have haf := (px_after tb hR3w hk4 h2).len
            clear C h2 hd
            go_wp2_with fail
            refine C1.mono ?_
            rintro e w4 ⟨k4, rfl, hR4⟩
            have hw4 := hHd _ _ hw3 k4
            have hS4 := hS3.kept k4
            have hkp4 := hkp3.trans k4
            clear C1 cs1
            have cs1 : w4.cell? ⟨Sb, j * 2 + 1, none⟩ = some (.iface 3 (.int .i64 x.2)) := by rw [cell_of_row w4 Sb _ _ _ _ hS4.blk]; simpa using r1
            have CO := pop tv R s4 x.2 s1.now.place w4 hR4
            rcases hcase with ⟨e1, a1, h5, rfl⟩ | ⟨s2, h5, h6⟩
            · rw [h5] at CO
              clear h5
              go_wp2_with fail
              refine CO.mono ?_
              rintro e w5 ⟨k5, rfl⟩
              exact ⟨rfl, hkp4.trans k5, rfl⟩
            · rw [h5] at CO
              obtain ⟨e2, _⟩ := add_some h5
              clear h5
              go_wp2_with fail
              refine CO.mono ?_
              rintro e w5 ⟨k5, rfl, hR5⟩
              go_wp2
              go_step3
              refine ⟨rfl, ⟨g', s2, _, _, _, _, _, _, _, _, _, _, _, _, _, _, _, _, _, _, _, _, _, _, _, _, _, _, _, _, _, _, _, _, _, _, _, _, _, _, _, rfl, hgf, h6, hkp4.trans k5, hR5, hHd _ _ hw4 k5, hS4.kept k5⟩, ?_⟩
              rw [restLen_of hR5, e2]
              show s4.rest.length < _
              simp only [Md.strict] at haf
              omega
      · obtain rfl : j = sgs.length := by omega
        have hnone : s1.sig sgs = none := by rw [hsig, List.drop_length]; rfl
        rw [hnone] at hcase
        obtain ⟨_, rfl⟩ | ⟨o, ho, _⟩ := hcase
        · go_wp2
          simp only [Exit.jump]
          first | go_end0 | refine bodyPost_ret (results_none rfl _ _ _) rfl ?_
          exact ⟨hkp, rfl, hR1⟩
        · cases ho
end Go.Proofs.YtfbkoieodflcpaaGreatDoor
