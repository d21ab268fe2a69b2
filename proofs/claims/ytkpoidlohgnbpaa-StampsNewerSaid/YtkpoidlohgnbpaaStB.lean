/-
  stamps: the walk of StampsBelow.
-/
import Derived.Test.YtkpoidlohgnbpaaRows
import Derived.Test.YtkpoidlohgnbpaaBase
import Derived.Test.YtkpoidlohgnbpaaStK
import Derived.Test.YtkpoidlohgnbpaaAddrC
import Derived.Test.YtkpoidlohgnbpaaStC
import Derived.Test.YtkpoidlohgnbpaaStD
import Derived.Test.YtkpoidlohgnbpaaProg
import Derived.Test.YtkpoidlohgnbpaaShelf
import Derived.Test.YtkpoidlohgnbpaaStE
import Derived.Test.YtkpoidlohgnbpaaEq
import Derived.Test.YtkpoidlohgnbpaaStG
import Derived.Test.YtkpoidlohgnbpaaStF
import Derived.Test.YtkpoidlohgnbpaaStL
import Derived.Test.YtkpoidlohgnbpaaStH
import Derived.Test.YtkpoidlohgnbpaaStI
import Derived.Test.YtkpoidlohgnbpaaRowB
import Derived.Test.YtkpoidlohgnbpaaRdK
import Derived.WalkSpells
import Derived.WalkLawsBesides
import Derived.StillTactics
import Derived.Laws.Pointers
import Derived.Deep.RegionHeld3
import Derived.Deep.QuietTactic
import Derived.BigQuiet
import Derived.RowKit3
import Derived.Lib.Hide
import Derived.Lib.OthersKept
import Derived.OwnWalk
import Derived.Lib.IndexLaws
import Derived.Lib.ItoaMem
import Derived.WalkKit
import Derived.ProofKit
import Derived.OpenShut
import Derived.Carry
import Derived.ChangeSame
import Derived.Deep.Draws
import Derived.DeepKeys4
import Derived.Maps.OwnSet
import Derived.Maps.AppendAt
import Derived.Maps.RangeWalk
import Derived.IntWalk
import Derived.StillTailTactics
import Derived.Shelf.Small.Bits
import Derived.Shelf.Strconv.Itoa0
import Derived.Shelf.Sort.Plain
import Derived.Ground.Names2Prog
import Derived.Shelf.Slices.SearchI
import Derived.Shelf.Slices.In.SortNone
import Derived.Shelf.Slices.Empties
import Derived.Sort.OwnSorted
import Derived.Sort.OwnSortedInts
import Derived.RangeFuncBox
import Derived.Deep.Slices
import Derived.ChangeSlices
namespace Go.Proofs.Ytkpoidlohgnbpaa
open Go.RowKit Go.Maps

/-- a step -/
structure OL where
  kd : Int
  r1 : Int
  c1 : Int
  r2 : Int
  c2 : Int
def OL.cs (x : OL) : List Value := [.int .i64 x.kd, .int .i64 x.r1, .int .i64 x.c1, .int .i64 x.r2, .int .i64 x.c2]
def OL.ok (x : OL) : Prop := W64 (x.r1, x.c1) ∧ W64 (x.r2, x.c2)
section
open Go.ChangeShapes Go.WideShapes Go.Deep
variable {H : Type} {enc : TypeId × Value → H} {w : World} {sp : Nat → Bool} {held : Bool}
theorem rd_op (fuel : Nat) (us : List Value) (z : DataW H × List MemPlace) (h : DataW.trod enc Try.prog w 0 sp held fuel 32 us = some z) : ∃ x : OL, us = x.cs ∧ x.ok := by
  have g := readsAll_of_trod 6 32 [3, 3, 3, 3, 3] fuel us z (by kernel_rfl) h
  obtain ⟨_, _, rfl, g0, _, _, rfl, g1, _, _, rfl, g2, _, _, rfl, g3, _, _, rfl, g4, rfl⟩ := g
  obtain ⟨k, rfl, _⟩ := Reads1.i64 Try.underlying3 g0
  obtain ⟨a, rfl, ba⟩ := Reads1.i64 Try.underlying3 g1
  obtain ⟨b, rfl, bb⟩ := Reads1.i64 Try.underlying3 g2
  obtain ⟨c, rfl, bc⟩ := Reads1.i64 Try.underlying3 g3
  obtain ⟨d, rfl, bd⟩ := Reads1.i64 Try.underlying3 g4
  exact ⟨⟨k, a, b, c, d⟩, rfl, ⟨ba, bb⟩, ⟨bc, bd⟩⟩
set_option maxRecDepth 100000 in
theorem rd_ops {r : Reach} {b0 : Nat} {v : Value} {d : DataW H} {ps : List MemPlace} (hval : Value.okWide Try.prog w r b0 22 v) (h : DataW.Trod enc Try.prog w 0 sp held 22 v d ps) : ∃ (A : Option Addr) (l : List OL) (cap : Nat), v = .slice A l.length cap ∧ l.length ≤ cap ∧ cap ≤ maxLen ∧ RdB w w.heap.size A 5 (l.map OL.cs) ∧ (∀ x ∈ l, x.ok) ∧ (l = [] ∨ ∃ es sr, d = .slice es sr ∧ es.length = l.length) ∧ (A = none → l.length = 0 ∧ cap = 0) :=
  rd_argK 5 (by omega) OL.cs OL.ok (fun _ => rfl) Try.underlying22 (by kernel_rfl) rd_op hval h
end
set_option maxRecDepth 100000 in
set_option maxHeartbeats 1000000 in
theorem below_no (l : List OL) (_hl : l.length ≤ 3518437208883) (_hok : ∀ x ∈ l, x.ok) (M : Int) (w : World) (A : Option Addr) (cap : Nat) (_hR : RdB w w.heap.size A 5 (l.map OL.cs)) (hM : M < 2 ∨ 1099511627776 < M) : Calls Try.prog 4 #[.slice A l.length cap, .int .i64 M] w fun e w' => e = .returned (.bool true) ∧ Below w.heap.size w w' := by
  have hM' := Lib.hid hM
  have hmm : (decide (M < 2) || decide (1099511627776 < M)) = true := by simpa using hM
  clear hM _hR _hok
  by_cases h2 : M < 2
  all_goals
    go_enter Try.func4, Try.ntmps4
    go_wp2_with fail
    refine (new_no M hM'.out _).mono ?_
    rintro e w1 ⟨rfl, rfl⟩
    go_wp2_with fail
    refine (known_any _).mono ?_
    rintro e w1 ⟨rfl, hb⟩
    go_wp2
    go_ret
    exact ⟨by first | rfl | (congr 2; simp <;> omega), hb⟩
set_option maxRecDepth 100000 in
set_option maxHeartbeats 4000000 in
theorem below_yes (l : List OL) (hl : l.length ≤ 3518437208883) (hok : ∀ x ∈ l, x.ok) (M : Int) (w : World) (A : Option Addr) (cap : Nat) (hR : RdB w w.heap.size A 5 (l.map OL.cs)) (hM1 : 2 ≤ M) (hM2 : M ≤ 1099511627776) : Calls Try.prog 4 #[.slice A l.length cap, .int .i64 M] w fun e w' => e = .returned (.bool true) ∧ Below w.heap.size w w' := by
  have hR' := Lib.hid hR
  have hok' := Lib.hid hok
  clear hR hok
  go_enter Try.func4, Try.ntmps4
  go_wp2_with fail
  refine (new_yes M hM1 hM2 _).mono ?_
  rintro e w1 ⟨k, b, rfl, hk, hb, hcl, hbl⟩
  have hkb := Lib.hid (show ClkB w.heap.size w w1 k b 0 M 0 0 (fun _ => none) 0 from ⟨hcl, ClkInv.start (by omega), ⟨hk, hb⟩, hbl, Nat.le_refl _, by omega⟩)
  clear hcl
  go_wp2_with fail
  refine (known_any _).mono ?_
  rintro e w2 ⟨rfl, hb2⟩
  have hkb2 := Lib.hid (hkb.out.later hb2)
  clear hb2 hbl hkb
  go_wp2
  go_loopw [7] (fun i wr => ∃ (j b n : Nat) (L T : Int) (f : CF) (ch : Int), j ≤ l.length ∧ i = .int .i64 (j : Int) ∧ n ≤ j ∧ 0 ≤ T ∧ T ≤ j ∧ Hid (ClkB w.heap.size w wr k b n M L T f ch)) (fun i _ => l.length - (intOf i).toNat)
  case atStart => exact ⟨0, b, 0, 0, 0, _, 0, by omega, rfl, by omega, by omega, by omega, hkb2⟩
  case round =>
    clear hkb2
    obtain ⟨j, b, n, L, T, f, ch, hj, rfl, hn, hTa, hTb, hC⟩ := hrel
    by_cases hlt : j < l.length
    · have hg0 := hC.out.below
      obtain ⟨x, hx⟩ : ∃ x, l[j]? = some x := ⟨_, List.getElem?_eq_getElem hlt⟩
      obtain ⟨eb, eo, hA2, heb, hcell⟩ := (hR'.out.below hg0) j x.cs (by rw [List.getElem?_map, hx]; rfl)
      have hxo := hok'.out x (List.mem_of_getElem? hx)
      obtain ⟨kd, r1, c1, r2, c2⟩ := x
      have u0 : wr.cell? ⟨eb, eo + j * 5, none⟩ = some (.int .i64 kd) := by simpa using hcell 0 _ rfl
      have u1 : wr.cell? ⟨eb, eo + j * 5 + 1, none⟩ = some (.int .i64 r1) := by simpa using hcell 1 _ rfl
      have u2 : wr.cell? ⟨eb, eo + j * 5 + 1 + 1, none⟩ = some (.int .i64 c1) := by simpa using hcell 2 _ rfl
      have hW1 : W64 (r1, c1) := hxo.1
      clear hcell hxo
      obtain rfl : A = some ⟨eb, eo, none⟩ := hA2
      clear hg0 hx
      by_cases e0 : kd = 0
      · subst e0
        cases hm : mayB r1 c1
        · go_wp2_with fail
          refine (change_no r1 c1 hm _ _).mono ?_
          rintro e w2 ⟨rfl, hb2⟩
          have k2 := hC.out.later hb2
          have hL := k2.inv.last
          have hL0 : ¬ L < 0 := by omega
          have hL1 : ¬ M ≤ L := by omega
          have hT0 : ¬ T < 0 := by omega
          have hT1 : ¬ (j : Int) + 1 < T := by omega
          have k2' := Lib.hid k2
          clear k2 hb2 hL
          go_wp2_with (first
            | (go_at_call 13; refine (clast_any _ k2'.out.clock).mono ?_; rintro e w3 ⟨rfl, rfl⟩)
            | (go_at_call 14; refine (cturns_any _ k2'.out.clock).mono ?_; rintro e w3 ⟨rfl, rfl⟩))
          go_roundw
          case rel => exact ⟨j + 1, _, _, _, _, _, _, by omega, by go_num, by omega, by omega, by omega, k2'⟩
          case measure => simp [intOf]; omega
        · go_wp2_with fail
          refine (change_yes r1 c1 hm _ hC.out.clock (by omega) hC.out.inv (by omega) ⟨by omega, by omega⟩ ⟨hC.out.inv.ch_le, hC.out.cn⟩).mono ?_
          rintro e w2 hce
          obtain ⟨xx, f', L', T', ch', b', rfl, hst, k2, hTa, hTb⟩ := hC.out.change hm hce
          have hL := k2.inv.last
          have hL0 : ¬ L' < 0 := by omega
          have hL1 : ¬ M ≤ L' := by omega
          have hT0 : ¬ T' < 0 := by omega
          have hT1 : ¬ (j : Int) + 1 < T' := by omega
          have k2' := Lib.hid k2
          clear k2 hst hce hL
          go_wp2_with (first
            | (go_at_call 13; refine (clast_any _ k2'.out.clock).mono ?_; rintro e w3 ⟨rfl, rfl⟩)
            | (go_at_call 14; refine (cturns_any _ k2'.out.clock).mono ?_; rintro e w3 ⟨rfl, rfl⟩))
          go_roundw
          case rel => exact ⟨j + 1, _, _, _, _, _, _, by omega, by go_num, by omega, by omega, by omega, k2'⟩
          case measure => simp [intOf]; omega
      · by_cases e1 : kd = 1
        · subst e1
          cases hm : mayB r1 c1
          · go_wp2_with fail
            refine (see_no r1 c1 hm _ _).mono ?_
            rintro e w2 ⟨⟨v, rfl⟩, hb2⟩
            have k2 := hC.out.later hb2
            have hL := k2.inv.last
            have hL0 : ¬ L < 0 := by omega
            have hL1 : ¬ M ≤ L := by omega
            have hT0 : ¬ T < 0 := by omega
            have hT1 : ¬ (j : Int) + 1 < T := by omega
            have k2' := Lib.hid k2
            clear k2 hb2 hL
            go_wp2_with (first
              | (go_at_call 13; refine (clast_any _ k2'.out.clock).mono ?_; rintro e w3 ⟨rfl, rfl⟩)
              | (go_at_call 14; refine (cturns_any _ k2'.out.clock).mono ?_; rintro e w3 ⟨rfl, rfl⟩))
            go_roundw
            case rel => exact ⟨j + 1, _, _, _, _, _, _, by omega, by go_num, by omega, by omega, by omega, k2'⟩
            case measure => simp [intOf]; omega
          · go_wp2_with fail
            refine (see_yes r1 c1 hm _ hC.out.clock (by unfold maxLen; omega) hW1).mono ?_
            rintro e w2 hse
            obtain ⟨⟨v, rfl⟩, k2⟩ := hC.out.see hm hse
            have hL := k2.inv.last
            have hL0 : ¬ L < 0 := by omega
            have hL1 : ¬ M ≤ L := by omega
            have hT0 : ¬ T < 0 := by omega
            have hT1 : ¬ (j : Int) + 1 < T := by omega
            have k2' := Lib.hid k2
            clear k2 hse hL
            go_wp2_with (first
              | (go_at_call 13; refine (clast_any _ k2'.out.clock).mono ?_; rintro e w3 ⟨rfl, rfl⟩)
              | (go_at_call 14; refine (cturns_any _ k2'.out.clock).mono ?_; rintro e w3 ⟨rfl, rfl⟩))
            go_roundw
            case rel => exact ⟨j + 1, _, _, _, _, _, _, by omega, by go_num, by omega, by omega, by omega, k2'⟩
            case measure => simp [intOf]; omega
        · by_cases e2 : kd = 2
          · subst e2
            go_wp2_with fail
            refine (drop_any r1 c1 _ hC.out.clock hW1 ⟨hC.out.inv.ch_le, by have := hC.out.cn; omega⟩).mono ?_
            rintro e w2 hse
            obtain ⟨⟨v, rfl⟩, k2⟩ := hC.out.drop hW1 hse
            have hL := k2.inv.last
            have hL0 : ¬ L < 0 := by omega
            have hL1 : ¬ M ≤ L := by omega
            have hT0 : ¬ T < 0 := by omega
            have hT1 : ¬ (j : Int) + 1 < T := by omega
            have k2' := Lib.hid k2
            clear k2 hse hL
            go_wp2_with (first
              | (go_at_call 13; refine (clast_any _ k2'.out.clock).mono ?_; rintro e w3 ⟨rfl, rfl⟩)
              | (go_at_call 14; refine (cturns_any _ k2'.out.clock).mono ?_; rintro e w3 ⟨rfl, rfl⟩))
            go_roundw
            case rel => exact ⟨j + 1, _, _, _, _, _, _, by omega, by go_num, by omega, by omega, by omega, k2'⟩
            case measure => simp [intOf]; omega
          · have b0 : (kd == 0) = false := by simpa using e0
            have b1 : (kd == 1) = false := by simpa using e1
            have b2 : (kd == 2) = false := by simpa using e2
            clear e0 e1 e2
            have k2' := hC
            have hL := k2'.out.inv.last
            have hL0 : ¬ L < 0 := by omega
            have hL1 : ¬ M ≤ L := by omega
            have hT0 : ¬ T < 0 := by omega
            have hT1 : ¬ (j : Int) + 1 < T := by omega
            clear hL
            go_wp2_with (first
              | (go_at_call 13; refine (clast_any _ k2'.out.clock).mono ?_; rintro e w3 ⟨rfl, rfl⟩)
              | (go_at_call 14; refine (cturns_any _ k2'.out.clock).mono ?_; rintro e w3 ⟨rfl, rfl⟩))
            go_roundw
            case rel => exact ⟨j + 1, _, _, _, _, _, _, by omega, by go_num, by omega, by omega, by omega, k2'⟩
            case measure => simp [intOf]; omega
    · have hj' : j = l.length := by omega
      clear hlt hj
      subst hj'
      go_wp2
      have g5 := hC.out.below.size
      obtain ⟨wo, hwo⟩ : ∃ wo : World, wo = wr := ⟨_, rfl⟩
      rw [← hwo] at hC ⊢
      clear hwo g5
      clear wr
      go_loopw [8] (fun i wr => ∃ j2 : Nat, j2 ≤ l.length ∧ i = .int .i64 (j2 : Int) ∧ Hid (ClkB w.heap.size w wr k b n M L T f ch)) (fun i _ => l.length - (intOf i).toNat)
      case atStart => exact ⟨0, by omega, rfl, hC⟩
      case round =>
        clear hC
        obtain ⟨j2, hj2, rfl, hC⟩ := hrel
        by_cases hlt : j2 < l.length
        · have hg0 := hC.out.below
          obtain ⟨x, hx⟩ : ∃ x, l[j2]? = some x := ⟨_, List.getElem?_eq_getElem hlt⟩
          obtain ⟨eb, eo, hA2, heb, hcell⟩ := (hR'.out.below hg0) j2 x.cs (by rw [List.getElem?_map, hx]; rfl)
          have hxo := hok'.out x (List.mem_of_getElem? hx)
          obtain ⟨kd, r1, c1, r2, c2⟩ := x
          have u0 : wr.cell? ⟨eb, eo + j2 * 5, none⟩ = some (.int .i64 kd) := by simpa using hcell 0 _ rfl
          have u1 : wr.cell? ⟨eb, eo + j2 * 5 + 1, none⟩ = some (.int .i64 r1) := by simpa using hcell 1 _ rfl
          have u2 : wr.cell? ⟨eb, eo + j2 * 5 + 1 + 1, none⟩ = some (.int .i64 c1) := by simpa using hcell 2 _ rfl
          have hW1 : W64 (r1, c1) := hxo.1
          have hx' := Lib.hid hx
          clear hcell hxo u0 hx
          obtain rfl : A = some ⟨eb, eo, none⟩ := hA2
          obtain ⟨s1, s2, hs⟩ : ∃ s1 s2, getC f (r1, c1) = (s1, s2) := ⟨_, _, rfl⟩
          have hst := hC.out.inv.st (r1, c1)
          rw [hs] at hst
          simp only at hst
          have f1 : ¬ s1 < 0 := by omega
          have f2 : ¬ s2 < 0 := by omega
          have f3 : ¬ L < s1 := by omega
          have f4 : ¬ L < s2 := by omega
          have hs' := Lib.hid hs
          clear hg0 hs hst
          go_wp2_with fail
          refine (get_any r1 c1 _ hC.out.clock hW1).mono ?_
          rintro e w3 ⟨rfl, hb3⟩
          rw [hs'.out]
          have k4' := Lib.hid ((hC.out.later hb3).later (w' := w3.alloc (.cells #[.int .i64 s1, .int .i64 s2] 43)) ((Below.refl _ _).alloc (Nat.le_refl _) _))
          clear hb3 u1 u2
          go_wp2_with fail
          go_quiet ((go_at_call 13; exact Calls.quiet_of_same ((clast_any _ (k4'.out.clock.drewN _)).mono fun _ _ h => ⟨h.1, h.2.symm⟩)))
          have k5' := Lib.hid (k4'.out.later (w' := (w3.alloc (.cells #[.int .i64 s1, .int .i64 s2] 43)).drewN nq) (below_drewN (Below.refl _ _) _))
          have y0 : ((w3.alloc (.cells #[.int .i64 s1, .int .i64 s2] 43)).drewN nq).cell? ⟨w3.heap.size, 0, none⟩ = some (.int .i64 s1) := by simp
          have y1 : ((w3.alloc (.cells #[.int .i64 s1, .int .i64 s2] 43)).drewN nq).cell? ⟨w3.heap.size, 1, none⟩ = some (.int .i64 s2) := by simp
          have yz : w3.heap.size < ((w3.alloc (.cells #[.int .i64 s1, .int .i64 s2] 43)).drewN nq).heap.size := by simp
          clear k4'
          generalize (w3.alloc (.cells #[.int .i64 s1, .int .i64 s2] 43)).drewN nq = W at *
          go_wp2
          clear hC
          clear f1 f2 f3 f4
          go_loopw [11] (fun i wr => ∃ j3 : Nat, j3 ≤ j2 ∧ i = .int .i64 (j3 : Int) ∧ Hid (ClkB w.heap.size w wr k b n M L T f ch) ∧ w3.heap.size < wr.heap.size ∧ wr.cell? ⟨w3.heap.size, 0, none⟩ = some (.int .i64 s1) ∧ wr.cell? ⟨w3.heap.size, 1, none⟩ = some (.int .i64 s2)) (fun i _ => j2 - (intOf i).toNat)
          case atStart => exact ⟨0, by omega, rfl, k5', yz, y0, y1⟩
          case round =>
            clear y0 y1 yz k5'
            obtain ⟨j3, hj3, rfl, hC, yz, y0, y1⟩ := hrel
            by_cases hlt3 : j3 < j2
            · have hg0 := hC.out.below
              have hl3 : j3 < l.length := by omega
              obtain ⟨eb9, eo9, hA9, heb9, hcell9⟩ := (hR'.out.below hg0) j2 (OL.cs ⟨kd, r1, c1, r2, c2⟩) (by rw [List.getElem?_map, hx'.out]; rfl)
              injection hA9 with hA9
              injection hA9 with e1 e2 _
              subst e1 e2
              have v1 : wr.cell? ⟨eb, eo + j2 * 5 + 1, none⟩ = some (.int .i64 r1) := by simpa using hcell9 1 _ rfl
              have v2 : wr.cell? ⟨eb, eo + j2 * 5 + 1 + 1, none⟩ = some (.int .i64 c1) := by simpa using hcell9 2 _ rfl
              clear hcell9 heb9
              obtain ⟨z, hz⟩ : ∃ z, l[j3]? = some z := ⟨_, List.getElem?_eq_getElem hl3⟩
              obtain ⟨eb9, eo9, hA9, heb9, hcell9⟩ := (hR'.out.below hg0) j3 z.cs (by rw [List.getElem?_map, hz]; rfl)
              have hzo := hok'.out z (List.mem_of_getElem? hz)
              obtain ⟨kd3, r3, c3, r4, c4⟩ := z
              injection hA9 with hA9
              injection hA9 with e1 e2 _
              subst e1 e2
              have z1 : wr.cell? ⟨eb, eo + j3 * 5 + 1, none⟩ = some (.int .i64 r3) := by simpa using hcell9 1 _ rfl
              have z2 : wr.cell? ⟨eb, eo + j3 * 5 + 1 + 1, none⟩ = some (.int .i64 c3) := by simpa using hcell9 2 _ rfl
              have hW3 : W64 (r3, c3) := hzo.1
              have hebl : eb < wr.heap.size := by have := hg0.size; omega
              clear hcell9 hzo hz hg0
              obtain ⟨t1, t2, ht⟩ : ∃ t1 t2, getC f (r3, c3) = (t1, t2) := ⟨_, _, rfl⟩
              have hinj := hC.out.inv.inj (r1, c1) (r3, c3)
              rw [hs'.out, ht] at hinj
              simp only at hinj
              have ht' := Lib.hid ht
              have hinj' := Lib.hid hinj
              clear ht hinj
              go_wp2_with fail
              refine (get_any r3 c3 _ hC.out.clock hW3).mono ?_
              rintro e w4 ⟨rfl, hb4⟩
              rw [ht'.out]
              obtain ⟨hc4, hf4, hz4⟩ := bkeep hb4 wr.heap.size (Nat.le_refl _)
              have a1 : (w4.alloc (.cells #[.int .i64 t1, .int .i64 t2] 43)).cell? ⟨eb, eo + j2 * 5 + 1, none⟩ = some (.int .i64 r1) := cell_a1 ((hc4 _ _ (by omega)).trans v1) _
              have a2 : (w4.alloc (.cells #[.int .i64 t1, .int .i64 t2] 43)).cell? ⟨eb, eo + j2 * 5 + 1 + 1, none⟩ = some (.int .i64 c1) := cell_a1 ((hc4 _ _ (by omega)).trans v2) _
              have a3 : (w4.alloc (.cells #[.int .i64 t1, .int .i64 t2] 43)).cell? ⟨eb, eo + j3 * 5 + 1, none⟩ = some (.int .i64 r3) := cell_a1 ((hc4 _ _ (by omega)).trans z1) _
              have a4 : (w4.alloc (.cells #[.int .i64 t1, .int .i64 t2] 43)).cell? ⟨eb, eo + j3 * 5 + 1 + 1, none⟩ = some (.int .i64 c3) := cell_a1 ((hc4 _ _ (by omega)).trans z2) _
              have a5 : (w4.alloc (.cells #[.int .i64 t1, .int .i64 t2] 43)).cell? ⟨w3.heap.size, 0, none⟩ = some (.int .i64 s1) := cell_a1 ((hc4 _ _ (by omega)).trans y0) _
              have a6 : (w4.alloc (.cells #[.int .i64 t1, .int .i64 t2] 43)).cell? ⟨w3.heap.size, 1, none⟩ = some (.int .i64 s2) := cell_a1 ((hc4 _ _ (by omega)).trans y1) _
              have a7 : (w4.alloc (.cells #[.int .i64 t1, .int .i64 t2] 43)).cell? ⟨w4.heap.size, 0, none⟩ = some (.int .i64 t1) := by simp
              have a9 : w3.heap.size < (w4.alloc (.cells #[.int .i64 t1, .int .i64 t2] 43)).heap.size := by simp; omega
              have k4' := Lib.hid ((hC.out.later hb4).later (w' := w4.alloc (.cells #[.int .i64 t1, .int .i64 t2] 43)) ((Below.refl _ _).alloc (Nat.le_refl _) _))
              clear hb4 hc4 hf4 v1 v2 z1 z2
              go_upto_region 28 with (fail)
              generalize hW9 : w4.alloc (.cells #[.int .i64 t1, .int .i64 t2] 43) = W9 at *
              by_cases h0 : 0 < s1
              · by_cases h1 : s1 = t1
                · have hcc := hinj'.out h0 h1
                  injection hcc with hr hc
                  subst hr hc h1
                  have hce := cellEq_same r1 c1
                  have hin1 : (0 : Int) ≤ j2 := by omega
                  have hin2 : (j2 : Int) < l.length := by omega
                  have hin3 : (0 : Int) ≤ j3 := by omega
                  have hin4 : (j3 : Int) < l.length := by omega
                  go_quiet (fail)
                  go_wp2
                  go_roundw
                  case rel => exact ⟨j3 + 1, by omega, by go_num, Lib.hid (k4'.out.later (below_drewN (Below.refl _ _) _)), a9, a5, a6⟩
                  case measure => simp [intOf]; omega
                · have h1b : (s1 == t1) = false := by simpa using h1
                  clear h1
                  go_quiet (fail)
                  go_wp2
                  go_roundw
                  case rel => exact ⟨j3 + 1, by omega, by go_num, Lib.hid (k4'.out.later (below_drewN (Below.refl _ _) _)), a9, a5, a6⟩
                  case measure => simp [intOf]; omega
              · go_quiet (fail)
                go_wp2
                go_roundw
                case rel => exact ⟨j3 + 1, by omega, by go_num, Lib.hid (k4'.out.later (below_drewN (Below.refl _ _) _)), a9, a5, a6⟩
                case measure => simp [intOf]; omega
            · go_wp2
              go_roundw
              case rel => exact ⟨j2 + 1, by omega, by go_num, hC⟩
              case measure => simp [intOf]; omega
        · go_wp2
          go_ret
          exact ⟨rfl, hC.out.below⟩
theorem walk_StampsBelow (l : List OL) (hl : l.length ≤ 3518437208883) (hok : ∀ x ∈ l, x.ok) (M : Int) (_hM : -9223372036854775808 ≤ M ∧ M ≤ 9223372036854775807) (w : World) (A : Option Addr) (cap : Nat) (hR : RdB w w.heap.size A 5 (l.map OL.cs)) : Calls Try.prog 4 #[.slice A l.length cap, .int .i64 M] w fun e w' => e = .returned (.bool true) ∧ Below w.heap.size w w' := by
  by_cases h : M < 2 ∨ 1099511627776 < M
  · exact below_no l hl hok M w A cap hR h
  · exact below_yes l hl hok M w A cap hR (by omega) (by omega)
end Go.Proofs.Ytkpoidlohgnbpaa
