/-
  nums: LCM.
-/
import Derived.Test.YthobaffgllipfaaGreatRows
import Derived.Test.YthobaffgllipfaaGreatBase
import Derived.Test.YthobaffgllipfaaGreatMg3
import Derived.Test.YthobaffgllipfaaGreatValA
import Derived.Test.YthobaffgllipfaaGreatValB
import Derived.Test.YthobaffgllipfaaGreatDecS
import Derived.Test.YthobaffgllipfaaGreatValC
import Derived.Test.YthobaffgllipfaaGreatAddrC
import Derived.Test.YthobaffgllipfaaGreatMg9
import Derived.Test.YthobaffgllipfaaGreatMapK
import Derived.Test.YthobaffgllipfaaGreatDMod
import Derived.Test.YthobaffgllipfaaGreatDFlo
import Derived.Test.YthobaffgllipfaaGreatProg
import Derived.Test.YthobaffgllipfaaGreatMg12
import Derived.Test.YthobaffgllipfaaGreatDRnd
import Derived.Test.YthobaffgllipfaaGreatMg14
import Derived.Test.YthobaffgllipfaaGreatKnuth
import Derived.Test.YthobaffgllipfaaGreatDDiv
import Derived.Test.YthobaffgllipfaaGreatMg17
import Derived.Test.YthobaffgllipfaaGreatNDoA
import Derived.Test.YthobaffgllipfaaGreatNDoB
import Derived.Test.YthobaffgllipfaaGreatNDoC
import Derived.Test.YthobaffgllipfaaGreatMg21
import Derived.WalkSpells
import Derived.WalkLawsBesides
import Derived.StillTactics
import Derived.Laws.Pointers
import Derived.Deep.RegionHeld3
import Derived.Deep.QuietTactic
import Derived.BigQuiet
import Derived.RowKit3
import Derived.Lib.Hide
import Derived.Lib.OthersKept
import Derived.OwnWalk
import Derived.Lib.IndexLaws
import Derived.Lib.ItoaMem
import Derived.WalkKit
import Derived.ProofKit
import Derived.OpenShut
import Derived.Carry
import Derived.ChangeSame
import Derived.Deep.Draws
import Derived.Maps.OwnSet
import Derived.Maps.AppendAt
import Derived.Laws.BitsAllLaws
import Derived.Shelf.Small.Bits
import Derived.Shelf.Strconv.Itoa0
import Derived.Shelf.Bits.Mul64
import Derived.Lib.TrimByte
import Derived.Lib.Bytealg
import Derived.Lib.SlTrimSet
import Derived.Lib.ParseIntB
import Derived.Shelf.Strings.SlTrimAscii
import Derived.Lib.SmallJoins
import Derived.Deep.RegionWith
namespace Go.Proofs.YthobaffgllipfaaGreat
open Go.RowKit

def lcmFold (l : List Nat) : Nat := l.foldl Nat.lcm 1
def lcmL (l : List Int) : VL := if allWhole l = true then (if (wholesN l).any (fun y => ((0 : Int) == (y : Int))) = true then numL 0 else if 922337203685477 < lcmFold (wholesN l) then errL 2 else wholeL (lcmFold (wholesN l)) false) else errL 8
theorem lcm_fold_le : ∀ (l : List Nat) (a : Nat), 0 < a → (∀ x ∈ l, 0 < x) → a ≤ l.foldl Nat.lcm a
  | [], _, _, _ => Nat.le_refl _
  | x :: l, a, ha, h => by
    have hx := h x (by simp)
    have h1 : 0 < Nat.lcm a x := Nat.lcm_pos ha hx
    have h2 : a ≤ Nat.lcm a x := Nat.le_of_dvd h1 (Nat.dvd_lcm_left a x)
    exact Nat.le_trans h2 (lcm_fold_le l _ h1 (fun y hy => h y (by simp [hy])))
set_option maxRecDepth 100000 in
set_option maxHeartbeats 2000000 in
theorem do_LCM0 (l : List Int) (hl : ∀ x ∈ l, -9223372036854775807 ≤ x ∧ x ≤ 9223372036854775807) (hlen : l.length ≤ 1649267441664) (w : World) (gb cap : Nat) (hg : gb < w.heap.size) (hcap : l.length ≤ cap) (hc : ∀ j x, l[j]? = some x → w.cell? ⟨gb, j, none⟩ = some (.int .i64 x)) (hno : allWhole l = false) : Calls Tryz.prog 50 #[.slice (some ⟨gb, 0, none⟩) l.length cap] w fun e w' => e = .returned (.agg #[.int .i64 4, .int .i64 0, .string ⟨#[]⟩, .bool false, .int .i64 (errC 8)]) ∧ Below w.heap.size w w' := by
  have W' := Lib.hid (nwholes_any l hl hlen (w.alloc (.cells #[.int .i64 0, .int .i64 0, .string ⟨#[]⟩, .bool false, .int .i64 0] 26)) gb cap (by simp; omega) hcap (fun j x hx => (World.cell?_alloc_lt _ _ ⟨gb, j, none⟩ hg).trans (hc j x hx)))
  have hno' := Lib.hid hno
  clear hl hc hno
  go_enter Tryz.func50, Tryz.ntmps50
  go_wp2_with fail
  refine W'.out.mono ?_
  clear W'
  rintro e w1 hw1
  obtain rfl := hw1.no hno'.out
  have hb1 := hw1.bel
  clear hw1
  obtain ⟨hc, hf, hz⟩ := bkeep hb1 (w.heap.size + 1) (by simp)
  go_wp2_with (go_at_call 8; refine (verr_any 8 _).mono ?_; rintro e w1 ⟨rfl, hb⟩; obtain ⟨hc, hf, hz⟩ := bkeep hb (w.heap.size + 1) (by first | omega | (simp <;> omega)))
  skip
  refine bodyPost_ret (v := .agg #[.int .i64 4, .int .i64 0, .string ⟨#[]⟩, .bool false, .int .i64 (errC 8)]) ?_ rfl ⟨rfl, by first | assumption | (go_split_ands; first | assumption | ((repeat (first | (with_reducible exact Below.refl _ _) | (with_reducible refine Below.alloc ?_ (by first | omega | (dsimp only; omega) | (simp <;> omega)) _) | (with_reducible refine Below.setCell ?_ (by first | omega | (dsimp only; omega) | (simp <;> omega)) _) | (with_reducible refine Below.drew ?_) | (with_reducible refine below_drewN ?_ _) | (with_reducible refine Below.trans ?_ (Below.mono (by assumption) (by first | omega | (dsimp only; omega) | (simp <;> omega)))))); done)) | ((repeat (first | (with_reducible exact Below.refl _ _) | (with_reducible refine Below.alloc ?_ (by first | omega | (dsimp only; omega) | (simp <;> omega)) _) | (with_reducible refine Below.setCell ?_ (by first | omega | (dsimp only; omega) | (simp <;> omega)) _) | (with_reducible refine Below.drew ?_) | (with_reducible refine below_drewN ?_ _) | (with_reducible refine Below.trans ?_ (Below.mono (by assumption) (by first | omega | (dsimp only; omega) | (simp <;> omega)))))); done)⟩
  simp [results, Tryz.results50, go_sem, *]
set_option maxRecDepth 100000 in
set_option maxHeartbeats 2000000 in
theorem do_LCMz (l : List Int) (hl : ∀ x ∈ l, -9223372036854775807 ≤ x ∧ x ≤ 9223372036854775807) (hlen : l.length ≤ 1649267441664) (w : World) (gb cap : Nat) (hg : gb < w.heap.size) (hcap : l.length ≤ cap) (hc : ∀ j x, l[j]? = some x → w.cell? ⟨gb, j, none⟩ = some (.int .i64 x)) (h1 : 1 ≤ l.length) (hyes : allWhole l = true) (hany : (wholesN l).any (fun y => ((0 : Int) == (y : Int))) = true) : Calls Tryz.prog 50 #[.slice (some ⟨gb, 0, none⟩) l.length cap] w fun e w' => e = .returned (.agg #[.int .i64 (numT 0), .int .i64 (numN 0), .string ⟨#[]⟩, .bool false, .int .i64 (numF 0)]) ∧ Below w.heap.size w w' := by
  have W' := Lib.hid (nwholes_any l hl hlen (w.alloc (.cells #[.int .i64 0, .int .i64 0, .string ⟨#[]⟩, .bool false, .int .i64 0] 26)) gb cap (by simp; omega) hcap (fun j x hx => (World.cell?_alloc_lt _ _ ⟨gb, j, none⟩ hg).trans (hc j x hx)))
  have hyes' := Lib.hid hyes
  have hany' := Lib.hid hany
  clear hl hc hyes hany
  go_enter Tryz.func50, Tryz.ntmps50
  go_wp2_with fail
  refine W'.out.mono ?_
  clear W'
  rintro e w1 hw1
  obtain ⟨v, rfl, hown⟩ := hw1.yes hyes'.out
  have hb1 := hw1.bel
  clear hw1
  obtain ⟨g, cp, rfl, hgB, hgc, hcl⟩ := ownsRow_u64 hown (by omega)
  have hcl' := Lib.hid hcl
  have hglt : g < w1.heap.size := (hown.lt g rfl).2
  clear hcl hown
  obtain ⟨hc, hf, hz⟩ := bkeep hb1 (w.heap.size + 1) (by simp)
  have hlN : (wholesN l).length = l.length := by simp [wholesN]
  have hlN' := Lib.hid hlN
  clear hlN
  have hR : RdB w1 w1.heap.size (some ⟨g, 0, none⟩) 1 ((wholesN l).map fun (x : Nat) => [Value.int .u64 (x : Int)]) := fun i c hi => by
    rw [List.getElem?_map] at hi
    cases hx : (wholesN l)[i]? with
    | none => rw [hx] at hi; cases hi
    | some x =>
      rw [hx] at hi
      simp at hi
      subst hi
      refine ⟨g, 0, rfl, hglt, fun j u hj => ?_⟩
      rcases j with _ | j
      · simp at hj; subst hj
        have := hcl'.out i x hx
        simpa using this
      · simp at hj
  have CC := Lib.hid (cu_has (wholesN l) 0 (by rw [hlN'.out]; omega) true hany'.out w1 (some ⟨g, 0, none⟩) cp hR)
  rw [hlN'.out] at CC
  clear hR
  go_wp2_with fail
  refine CC.out.mono ?_
  clear CC
  rintro e w' ⟨rfl, rfl⟩
  go_wp2_with (go_at_call 32; refine (vnum_any 0 (by omega) _).mono ?_; rintro e w1 ⟨rfl, hb⟩; obtain ⟨hc, hf, hz⟩ := bkeep hb (w.heap.size + 1) (by first | omega | (simp <;> omega)))
  skip
  refine bodyPost_ret (v := .agg #[.int .i64 (numT 0), .int .i64 (numN 0), .string ⟨#[]⟩, .bool false, .int .i64 (numF 0)]) ?_ rfl ⟨rfl, by first | assumption | (go_split_ands; first | assumption | ((repeat (first | (with_reducible exact Below.refl _ _) | (with_reducible refine Below.alloc ?_ (by first | omega | (dsimp only; omega) | (simp <;> omega)) _) | (with_reducible refine Below.setCell ?_ (by first | omega | (dsimp only; omega) | (simp <;> omega)) _) | (with_reducible refine Below.drew ?_) | (with_reducible refine below_drewN ?_ _) | (with_reducible refine Below.trans ?_ (Below.mono (by assumption) (by first | omega | (dsimp only; omega) | (simp <;> omega)))))); done)) | ((repeat (first | (with_reducible exact Below.refl _ _) | (with_reducible refine Below.alloc ?_ (by first | omega | (dsimp only; omega) | (simp <;> omega)) _) | (with_reducible refine Below.setCell ?_ (by first | omega | (dsimp only; omega) | (simp <;> omega)) _) | (with_reducible refine Below.drew ?_) | (with_reducible refine below_drewN ?_ _) | (with_reducible refine Below.trans ?_ (Below.mono (by assumption) (by first | omega | (dsimp only; omega) | (simp <;> omega)))))); done)⟩
  simp [results, Tryz.results50, go_sem, *]
/-- what LCM answers where no number is nought -/
structure LcmAt (l : List Int) (w : World) (e : Ending) (w' : World) : Prop where
  big : 922337203685477 < lcmFold (wholesN l) → e = .returned (.agg #[.int .i64 4, .int .i64 0, .string ⟨#[]⟩, .bool false, .int .i64 (errC 2)])
  fit : ¬ 922337203685477 < lcmFold (wholesN l) → e = .returned (.agg #[.int .i64 (wholeL (lcmFold (wholesN l)) false).t, .int .i64 (wholeL (lcmFold (wholesN l)) false).n, .string (wholeL (lcmFold (wholesN l)) false).s, .bool (wholeL (lcmFold (wholesN l)) false).b, .int .i64 (wholeL (lcmFold (wholesN l)) false).c])
  bel : Below w.heap.size w w'
set_option maxRecDepth 100000 in
set_option maxHeartbeats 4000000 in
theorem do_LCM1 (l : List Int) (hl : ∀ x ∈ l, -9223372036854775807 ≤ x ∧ x ≤ 9223372036854775807) (hlen : l.length ≤ 1649267441664) (w : World) (gb cap : Nat) (hg : gb < w.heap.size) (hcap : l.length ≤ cap) (hc : ∀ j x, l[j]? = some x → w.cell? ⟨gb, j, none⟩ = some (.int .i64 x)) (h1 : 1 ≤ l.length) (hyes : allWhole l = true) (hany : (wholesN l).any (fun y => ((0 : Int) == (y : Int))) = false) (hsm : ∀ x ∈ wholesN l, x ≤ 922337203685477) : Calls Tryz.prog 50 #[.slice (some ⟨gb, 0, none⟩) l.length cap] w (LcmAt l w) := by
  have W' := Lib.hid (nwholes_any l hl hlen (w.alloc (.cells #[.int .i64 0, .int .i64 0, .string ⟨#[]⟩, .bool false, .int .i64 0] 26)) gb cap (by simp; omega) hcap (fun j x hx => (World.cell?_alloc_lt _ _ ⟨gb, j, none⟩ hg).trans (hc j x hx)))
  have hyes' := Lib.hid hyes
  have hany' := Lib.hid hany
  have hsm' := Lib.hid hsm
  have hpos : Hid (∀ x ∈ wholesN l, 0 < x) := Lib.hid (fun x hx => by
    rw [List.any_eq_false] at hany
    have := hany x hx
    simp at this
    omega)
  clear hl hc hyes hany hsm
  go_enter Tryz.func50, Tryz.ntmps50
  go_wp2_with fail
  refine W'.out.mono ?_
  clear W'
  rintro e w1 hw1
  obtain ⟨v, rfl, hown⟩ := hw1.yes hyes'.out
  have hb1 := hw1.bel
  clear hw1
  obtain ⟨g, cp, rfl, hgB, hgc, hcl⟩ := ownsRow_u64 hown (by omega)
  have hcl' := Lib.hid hcl
  have hglt : g < w1.heap.size := (hown.lt g rfl).2
  clear hcl hown
  obtain ⟨hc, hf, hz⟩ := bkeep hb1 (w.heap.size + 1) (by simp)
  have hlN : (wholesN l).length = l.length := by simp [wholesN]
  have hlN' := Lib.hid hlN
  clear hlN
  have hR : RdB w1 w1.heap.size (some ⟨g, 0, none⟩) 1 ((wholesN l).map fun (x : Nat) => [Value.int .u64 (x : Int)]) := fun i c hi => by
    rw [List.getElem?_map] at hi
    cases hx : (wholesN l)[i]? with
    | none => rw [hx] at hi; cases hi
    | some x =>
      rw [hx] at hi
      simp at hi
      subst hi
      refine ⟨g, 0, rfl, hglt, fun j u hj => ?_⟩
      rcases j with _ | j
      · simp at hj; subst hj
        have := hcl'.out i x hx
        simpa using this
      · simp at hj
  have CC := Lib.hid (cu_has (wholesN l) 0 (by rw [hlN'.out]; omega) false hany'.out w1 (some ⟨g, 0, none⟩) cp hR)
  rw [hlN'.out] at CC
  clear hR
  go_wp2_with fail
  refine CC.out.mono ?_
  clear CC
  rintro e w' ⟨rfl, rfl⟩
  go_wp2
  go_loop [5, 23] (fun mv i => ∃ k : Nat, k ≤ l.length ∧ i = .int .i64 (k : Int) ∧ ∃ d : Nat, Hid (((wholesN l).take k).foldl Nat.lcm 1 = d) ∧ (0 < d ∧ d ≤ 922337203685477) ∧ mv = .int .u64 (d : Int)) (fun _ i => l.length - (intOf i).toNat)
  case atStart => exact ⟨0, Nat.zero_le _, rfl, 1, Lib.hid rfl, by omega, rfl⟩
  case round =>
    obtain ⟨k, hk, rfl, d, hd, ⟨hd0, hdb⟩, rfl⟩ := hrel
    by_cases hlt : k < l.length
    · obtain ⟨x, hx⟩ : ∃ x, (wholesN l)[k]? = some x := ⟨_, List.getElem?_eq_getElem (by rw [hlN'.out]; exact hlt)⟩
      have hck : w1.cell? ⟨g, k, none⟩ = some (.int .u64 (x : Int)) := hcl'.out k x hx
      have hxm := List.mem_of_getElem? hx
      have hxb := hsm'.out x hxm
      have hxp := hpos.out x hxm
      have hts : ((wholesN l).take (k + 1)).foldl Nat.lcm 1 = Nat.lcm d x := by rw [List.take_add_one, hx, Option.toList_some, List.foldl_append, hd.out]; rfl
      have hsplit : lcmFold (wholesN l) = ((wholesN l).drop (k + 1)).foldl Nat.lcm (Nat.lcm d x) := by
        unfold lcmFold; rw [← hts, ← List.foldl_append, List.take_append_drop]
      have hge : Nat.lcm d x ≤ lcmFold (wholesN l) := by
        rw [hsplit]; exact lcm_fold_le _ _ (Nat.lcm_pos hd0 hxp) (fun y hy => hpos.out y (List.mem_of_mem_drop hy))
      have hkl : (k : Int) < (l.length : Int) := by omega
      obtain ⟨r, hr⟩ : ∃ r, Nat.gcd d x = r := ⟨_, rfl⟩
      have hrp : 0 < r := by rw [← hr]; exact Nat.gcd_pos_of_pos_left x hd0
      obtain ⟨q, hq⟩ : ∃ q, x / r = q := ⟨_, rfl⟩
      have hqx : q ≤ x := by rw [← hq]; exact Nat.div_le_self _ _
      have hdq : d * q = Nat.lcm d x := by
        rw [← hq, Nat.lcm, hr, Nat.mul_div_assoc]
        rw [← hr]; exact Nat.gcd_dvd_right d x
      have C' := Lib.hid (ngcd_any x d (by omega) (by omega) w1)
      rw [hr] at C'
      obtain ⟨y, hy⟩ : ∃ y, Nat.lcm d x = y := ⟨_, rfl⟩
      rw [hy] at hts hge hdq
      have hqb : q < 18446744073709551616 := by omega
      have hdb2 : d < 18446744073709551616 := by omega
      have C2 := Lib.hid (mul64_r (d : Int) d q (y / 18446744073709551616) (y % 18446744073709551616) rfl hdb2 hqb (by rw [hdq]) (by rw [hdq]) w1)
      obtain ⟨yh, hyh⟩ : ∃ yh, y / 18446744073709551616 = yh := ⟨_, rfl⟩
      obtain ⟨yl, hyl⟩ : ∃ yl, y % 18446744073709551616 = yl := ⟨_, rfl⟩
      rw [hyh, hyl] at C2
      have hy2 : y = yh * 18446744073709551616 + yl := by omega
      have hylb : yl < 18446744073709551616 := by omega
      have hyp : 0 < y := by rw [← hy]; exact Nat.lcm_pos hd0 hxp
      have hq1 : IntKind.u64.wrap ((x : Int).tdiv (r : Int)) = (q : Int) := by
        rw [Int.tdiv_eq_ediv_of_nonneg (by omega), ← Int.natCast_ediv, hq]; exact wrapN q |>.trans (by rw [Nat.mod_eq_of_lt (by omega)])
      have hq2 : (x : Int) / (r : Int) = (q : Int) := by rw [← Int.natCast_ediv, hq]
      have hr0 : ((r : Int) == 0) = false := by simp; omega
      have hr1 : ¬ r = 0 := by omega
      have hts' := Lib.hid hts
      have hge' := Lib.hid hge
      have hy2' := Lib.hid hy2
      clear hx hts hd hr hq hdq hyh hyl hge hsplit hy
      by_cases hbig : 922337203685477 < y
      · have hbig' := Lib.hid (show 922337203685477 < lcmFold (wholesN l) by have := hge'.out; omega)
        by_cases h0 : 0 < yh
        · have t1 : decide ((0 : Int) < (yh : Int)) = true := by simp; omega
          clear hy2 hbig
          go_wp2_with fail
          refine C'.out.mono ?_
          rintro e w' ⟨rfl, rfl⟩
          go_wp2_with fail
          refine C2.out.mono ?_
          rintro e w' ⟨rfl, rfl⟩
          go_wp2_with (go_at_call 8; refine (verr_any 2 _).mono ?_; rintro e w1 ⟨rfl, hb⟩; obtain ⟨hc, hf, hz⟩ := bkeep hb (w.heap.size + 1) (by first | omega | (simp <;> omega)))
          refine bodyPost_ret (v := .agg #[.int .i64 4, .int .i64 0, .string ⟨#[]⟩, .bool false, .int .i64 (errC 2)]) ?_ rfl ⟨fun _ => rfl, fun h => absurd hbig'.out h, by (repeat (first | (with_reducible exact Below.refl _ _) | (with_reducible refine Below.alloc ?_ (by first | omega | (dsimp only; omega) | (simp <;> omega)) _) | (with_reducible refine Below.setCell ?_ (by first | omega | (dsimp only; omega) | (simp <;> omega)) _) | (with_reducible refine Below.drew ?_) | (with_reducible refine below_drewN ?_ _) | (with_reducible refine Below.trans ?_ (Below.mono (by assumption) (by first | omega | (dsimp only; omega) | (simp <;> omega))))))⟩
          simp [results, Tryz.results50, go_sem, *]
        · obtain rfl : yh = 0 := by omega
          have hyl2 : 922337203685477 < yl := by omega
          clear hy2 hbig
          go_wp2_with fail
          refine C'.out.mono ?_
          rintro e w' ⟨rfl, rfl⟩
          go_wp2_with fail
          refine C2.out.mono ?_
          rintro e w' ⟨rfl, rfl⟩
          go_wp2_with (go_at_call 8; refine (verr_any 2 _).mono ?_; rintro e w1 ⟨rfl, hb⟩; obtain ⟨hc, hf, hz⟩ := bkeep hb (w.heap.size + 1) (by first | omega | (simp <;> omega)))
          refine bodyPost_ret (v := .agg #[.int .i64 4, .int .i64 0, .string ⟨#[]⟩, .bool false, .int .i64 (errC 2)]) ?_ rfl ⟨fun _ => rfl, fun h => absurd hbig'.out h, by (repeat (first | (with_reducible exact Below.refl _ _) | (with_reducible refine Below.alloc ?_ (by first | omega | (dsimp only; omega) | (simp <;> omega)) _) | (with_reducible refine Below.setCell ?_ (by first | omega | (dsimp only; omega) | (simp <;> omega)) _) | (with_reducible refine Below.drew ?_) | (with_reducible refine below_drewN ?_ _) | (with_reducible refine Below.trans ?_ (Below.mono (by assumption) (by first | omega | (dsimp only; omega) | (simp <;> omega))))))⟩
          simp [results, Tryz.results50, go_sem, *]
      · obtain rfl : yh = 0 := by omega
        obtain rfl : y = yl := by omega
        have hns : ¬ 922337203685477 < y := hbig
        clear hy2 hbig
        go_wp2_with fail
        refine C'.out.mono ?_
        rintro e w' ⟨rfl, rfl⟩
        go_wp2_with fail
        refine C2.out.mono ?_
        rintro e w' ⟨rfl, rfl⟩
        go_wp2_with fail
        go_round
        case rel => exact ⟨k + 1, by omega, by go_num, y, hts', by omega, rfl⟩
        case measure => simp [intOf]; omega
    · obtain rfl : k = l.length := by omega
      have hdG : lcmFold (wholesN l) = d := by rw [← hd.out, List.take_of_length_le (by rw [hlN'.out]; omega)]; rfl
      have hdG' := Lib.hid hdG
      clear hd hdG
      go_wp2_with (go_at_call 85; refine (whole_c (d : Int) d rfl (by omega) false _).mono ?_; rintro e w1 ⟨rfl, hb⟩; obtain ⟨hc, hf, hz⟩ := bkeep hb (w.heap.size + 1) (by first | omega | (simp <;> omega)))
      refine bodyPost_ret (v := .agg #[.int .i64 (wholeL d false).t, .int .i64 (wholeL d false).n, .string (wholeL d false).s, .bool (wholeL d false).b, .int .i64 (wholeL d false).c]) ?_ rfl ⟨fun h => absurd h (by rw [hdG'.out]; omega), fun _ => by rw [hdG'.out], by (repeat (first | (with_reducible exact Below.refl _ _) | (with_reducible refine Below.alloc ?_ (by first | omega | (dsimp only; omega) | (simp <;> omega)) _) | (with_reducible refine Below.setCell ?_ (by first | omega | (dsimp only; omega) | (simp <;> omega)) _) | (with_reducible refine Below.drew ?_) | (with_reducible refine below_drewN ?_ _) | (with_reducible refine Below.trans ?_ (Below.mono (by assumption) (by first | omega | (dsimp only; omega) | (simp <;> omega))))))⟩
      simp [results, Tryz.results50, go_sem, *]
end Go.Proofs.YthobaffgllipfaaGreat
