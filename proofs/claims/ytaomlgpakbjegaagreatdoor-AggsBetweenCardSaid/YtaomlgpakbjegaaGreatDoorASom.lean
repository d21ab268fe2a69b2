/-
  aggs: slices.Min, slices.Max, the median; functions of one number at least.
-/
import Derived.Test.YtaomlgpakbjegaaGreatDoorProg
import Derived.Test.YtaomlgpakbjegaaGreatDoorMg3
import Derived.Test.YtaomlgpakbjegaaGreatDoorRows
import Derived.Test.YtaomlgpakbjegaaGreatDoorBase
import Derived.Test.YtaomlgpakbjegaaGreatDoorRowB
import Derived.Test.YtaomlgpakbjegaaGreatDoorMg5
import Derived.Test.YtaomlgpakbjegaaGreatDoorValA
import Derived.Test.YtaomlgpakbjegaaGreatDoorValB
import Derived.Test.YtaomlgpakbjegaaGreatDoorValC
import Derived.Test.YtaomlgpakbjegaaGreatDoorAddrC
import Derived.Test.YtaomlgpakbjegaaGreatDoorMg10
import Derived.Test.YtaomlgpakbjegaaGreatDoorMapK
import Derived.Test.YtaomlgpakbjegaaGreatDoorShelf
import Derived.Test.YtaomlgpakbjegaaGreatDoorMg2
import Derived.Test.YtaomlgpakbjegaaGreatDoorMg12
import Derived.Test.YtaomlgpakbjegaaGreatDoorDPrint
import Derived.Test.YtaomlgpakbjegaaGreatDoorRPr
import Derived.Test.YtaomlgpakbjegaaGreatDoorKnuth
import Derived.Test.YtaomlgpakbjegaaGreatDoorDDiv
import Derived.Test.YtaomlgpakbjegaaGreatDoorDDig
import Derived.Test.YtaomlgpakbjegaaGreatDoorCutW
import Derived.Test.YtaomlgpakbjegaaGreatDoorDParse
import Derived.Test.YtaomlgpakbjegaaGreatDoorDecK
import Derived.Test.YtaomlgpakbjegaaGreatDoorDDivA
import Derived.Test.YtaomlgpakbjegaaGreatDoorValD
import Derived.Test.YtaomlgpakbjegaaGreatDoorMg23
import Derived.Test.YtaomlgpakbjegaaGreatDoorValL
import Derived.Test.YtaomlgpakbjegaaGreatDoorMg25
import Derived.Test.YtaomlgpakbjegaaGreatDoorAItm
import Derived.Test.YtaomlgpakbjegaaGreatDoorAAmo
import Derived.Test.YtaomlgpakbjegaaGreatDoorASum
import Derived.Test.YtaomlgpakbjegaaGreatDoorAFind
import Derived.Test.YtaomlgpakbjegaaGreatDoorACall
import Derived.Test.YtaomlgpakbjegaaGreatDoorACallB
import Derived.Test.YtaomlgpakbjegaaGreatDoorANum
import Derived.Test.YtaomlgpakbjegaaGreatDoorAVal
import Derived.Test.YtaomlgpakbjegaaGreatDoorALar
import Derived.Test.YtaomlgpakbjegaaGreatDoorAPlB
import Derived.Test.YtaomlgpakbjegaaGreatDoorAMea
import Derived.Lib.MinMax
import Derived.Lib.Slices
import Derived.WalkSpells
import Derived.WalkLawsBesides
import Derived.StillTactics
import Derived.Laws.Pointers
import Derived.Deep.RegionHeld3
import Derived.Deep.QuietTactic
import Derived.BigQuiet
import Derived.RowKit3
import Derived.Lib.Hide
import Derived.Lib.OthersKept
import Derived.OwnWalk
import Derived.Lib.IndexLaws
import Derived.Lib.ItoaMem
import Derived.Shelf.SlGeneric
import Derived.Shelf.SortM.Plain
import Derived.Shelf.SortM.SortNone
import Derived.Ground.SlgmProg
import Derived.WalkKit
import Derived.ProofKit
import Derived.OpenShut
import Derived.Carry
import Derived.ChangeSame
import Derived.Deep.Draws
import Derived.Maps.OwnSet
import Derived.Maps.AppendAt
import Derived.Laws.EntriesVeiled
import Derived.Laws.BitsAllLaws
import Derived.Shelf.Strings.Builder1
import Derived.Shelf.Strings.Builder2
import Derived.Shelf.Strings.OnBuilder
import Derived.Shelf.Strings.Trim
import Derived.Shelf.Small.Utf8
import Derived.Shelf.Small.Bits
import Derived.Shelf.Small.Strs
import Derived.Shelf.Small.Wraps
import Derived.Shelf.Strings.BuilderF
import Derived.Shelf.Strings.BuilderK
import Derived.Shelf.Strconv.Itoa0
import Derived.Shelf.Strconv.Itoa1
import Derived.Shelf.LaysM
import Derived.Shelf.Strconv.Itoa2
import Derived.Ground.MpProg
import Derived.Shelf.Pu.ParseUintPublic10
import Derived.Shelf.Strings.Search1
import Derived.Shelf.Strings.Search2
import Derived.Shelf.Strings.Search3
import Derived.Shelf.Strings.Cut
import Derived.Shelf.Strings.Shaped
import Derived.Shelf.Strings.Prefix
import Derived.Shelf.Strings.Runes
import Derived.Shelf.Strings.AsciiSet
import Derived.Shelf.Bits.Mul64
import Derived.Shelf.Strings.Repeat
import Derived.Shelf.Unicode.DecodeSlow
import Derived.Lib.TrimByte
import Derived.Lib.Bytealg
import Derived.Lib.SlTrimSet
import Derived.Lib.ParseIntB
import Derived.Shelf.Strings.SlTrimAscii
import Derived.Lib.SmallJoins
import Derived.Deep.RegionWith
import Derived.Laws.Externs
import Derived.IntWalk
import Derived.Sort.OwnSorted
import Derived.Sort.OwnSortedInts
import Derived.RangeFuncBox
import Derived.RangeFuncLeaves
import Derived.Shelf.Abstract
import Derived.OwnWalkIn
import Derived.TacticsInMore
import Derived.LoopNIn
import Derived.LoopIn
namespace Go.Proofs.YtaomlgpakbjegaaGreatDoor
open Go.RowKit

set_option maxRecDepth 100000 in
set_option maxHeartbeats 1000000 in
theorem amin_any (l : List Int) (h0 : l ≠ []) (hlen : l.length ≤ 2932031007402) (w : World) (A : Option Addr) (cap : Nat) (hR : RdI w A l) : Calls Tryz.prog 126 #[.slice A l.length cap] w fun e w' => e = .returned (.int .i64 (Lib.minOf l)) ∧ Below w.heap.size w w' := by
  have hn : 0 < l.length := List.length_pos_iff.2 h0
  obtain ⟨ab, ao, rfl, hab, hcell0⟩ := hR 0 [.int .i64 (l[0]'hn)] (by rw [List.getElem?_map, List.getElem?_eq_getElem hn]; rfl)
  have hc : ∀ j, j < l.length → w.cell? ⟨ab, ao + j, none⟩ = some (.int .i64 (l.getD j 0)) := fun j hj => by
    obtain ⟨ab2, ao2, hA3, _, hcell⟩ := hR j [.int .i64 (l[j]'hj)] (by rw [List.getElem?_map, List.getElem?_eq_getElem hj]; rfl)
    cases hA3
    have h9 := hcell 0 _ rfl
    rw [List.getD_eq_getElem?_getD, List.getElem?_eq_getElem hj]
    simpa using h9
  have h0c : w.cell? ⟨ab, ao, none⟩ = some (.int .i64 (l.getD 0 0)) := by have h9 := hc 0 hn; rwa [Nat.add_zero] at h9
  have hn1 : ¬ (l.length : Int) < 1 := by omega
  clear hR hcell0
  go_enter Tryz.func126, Tryz.ntmps126
  go_wp2
  go_loop [3, 4] (fun m i => ∃ k : Nat, 0 < k ∧ k ≤ l.length ∧ i = .int .i64 k ∧ m = .int .i64 (Lib.minOf (l.take k))) (fun _ i => l.length - (intOf i).toNat)
  case atStart => exact ⟨1, Nat.one_pos, hn, rfl, by rw [Lib.minOf_one]; simp [List.getD, List.getElem?_eq_getElem hn]⟩
  case round =>
    obtain ⟨k, hk0, hk, rfl, rfl⟩ := hrel
    by_cases hlt : k < l.length
    · have ck : w.cell? ⟨ab, ao + k, none⟩ = some (.int .i64 (l.getD k 0)) := hc k hlt
      have S : Hid (Lib.minOf (l.take (k + 1)) = min (Lib.minOf (l.take k)) (l.getD k 0)) := Lib.hid (Lib.minOf_step l k hk0 hlt)
      have hkl : (k : Int) < (l.length : Int) := by omega
      clear hc h0c
      generalize l.getD k 0 = y at *
      generalize Lib.minOf (l.take k) = m at *
      go_wp2
      exact ⟨⟨k + 1, Nat.succ_pos k, by omega, by go_num, by rw [S.out]⟩, by simp [intOf]; omega⟩
    · obtain rfl : k = l.length := by omega
      have hkl : ¬ (l.length : Int) < (l.length : Int) := by omega
      rw [List.take_length]
      clear hc h0c
      go_wp2
      go_ret
      exact ⟨rfl, Below.refl _ _⟩
set_option maxRecDepth 100000 in
set_option maxHeartbeats 1000000 in
theorem amax_any (l : List Int) (h0 : l ≠ []) (hlen : l.length ≤ 2932031007402) (w : World) (A : Option Addr) (cap : Nat) (hR : RdI w A l) : Calls Tryz.prog 127 #[.slice A l.length cap] w fun e w' => e = .returned (.int .i64 (Lib.maxOf l)) ∧ Below w.heap.size w w' := by
  have hn : 0 < l.length := List.length_pos_iff.2 h0
  obtain ⟨ab, ao, rfl, hab, hcell0⟩ := hR 0 [.int .i64 (l[0]'hn)] (by rw [List.getElem?_map, List.getElem?_eq_getElem hn]; rfl)
  have hc : ∀ j, j < l.length → w.cell? ⟨ab, ao + j, none⟩ = some (.int .i64 (l.getD j 0)) := fun j hj => by
    obtain ⟨ab2, ao2, hA3, _, hcell⟩ := hR j [.int .i64 (l[j]'hj)] (by rw [List.getElem?_map, List.getElem?_eq_getElem hj]; rfl)
    cases hA3
    have h9 := hcell 0 _ rfl
    rw [List.getD_eq_getElem?_getD, List.getElem?_eq_getElem hj]
    simpa using h9
  have h0c : w.cell? ⟨ab, ao, none⟩ = some (.int .i64 (l.getD 0 0)) := by have h9 := hc 0 hn; rwa [Nat.add_zero] at h9
  have hn1 : ¬ (l.length : Int) < 1 := by omega
  clear hR hcell0
  go_enter Tryz.func127, Tryz.ntmps127
  go_wp2
  go_loop [3, 4] (fun m i => ∃ k : Nat, 0 < k ∧ k ≤ l.length ∧ i = .int .i64 k ∧ m = .int .i64 (Lib.maxOf (l.take k))) (fun _ i => l.length - (intOf i).toNat)
  case atStart => exact ⟨1, Nat.one_pos, hn, rfl, by rw [Lib.maxOf_one]; simp [List.getD, List.getElem?_eq_getElem hn]⟩
  case round =>
    obtain ⟨k, hk0, hk, rfl, rfl⟩ := hrel
    by_cases hlt : k < l.length
    · have ck : w.cell? ⟨ab, ao + k, none⟩ = some (.int .i64 (l.getD k 0)) := hc k hlt
      have S : Hid (Lib.maxOf (l.take (k + 1)) = max (Lib.maxOf (l.take k)) (l.getD k 0)) := Lib.hid (Lib.maxOf_step l k hk0 hlt)
      have hkl : (k : Int) < (l.length : Int) := by omega
      clear hc h0c
      generalize l.getD k 0 = y at *
      generalize Lib.maxOf (l.take k) = m at *
      go_wp2
      exact ⟨⟨k + 1, Nat.succ_pos k, by omega, by go_num, by rw [S.out]⟩, by simp [intOf]; omega⟩
    · obtain rfl : k = l.length := by omega
      have hkl : ¬ (l.length : Int) < (l.length : Int) := by omega
      rw [List.take_length]
      clear hc h0c
      go_wp2
      go_ret
      exact ⟨rfl, Below.refl _ _⟩
theorem own_rdc {w : World} {B : Nat} {v : Value} {l : List Int} (h : OwnI w B v l) (h0 : l ≠ []) : ∃ b cap, v = .slice (some ⟨b, 0, none⟩) l.length cap ∧ b < w.heap.size ∧ l.length ≤ cap ∧ ∀ j, j < l.length → w.cell? ⟨b, j, none⟩ = some (.int .i64 (l.getD j 0)) := by
  have h9 := h
  unfold OwnI at h
  rcases h.2 with ⟨_, hz⟩ | ⟨g, cap, cur, rfl, hbase, hb, h1, h2, h3, h4⟩
  · exact absurd (List.eq_nil_of_length_eq_zero hz) h0
  · refine ⟨g, cap, rfl, (Array.getElem?_eq_some_iff.1 hb).1, h1, fun j hj => ?_⟩
    obtain ⟨A, cap', e, hr⟩ := own_rdi h9
    injection e with e
    subst e
    obtain ⟨ab2, ao2, hA3, _, hcell⟩ := hr j [.int .i64 (l[j]'hj)] (by rw [List.getElem?_map, List.getElem?_eq_getElem hj]; rfl)
    cases hA3
    have h8 := hcell 0 _ rfl
    rw [List.getD_eq_getElem?_getD, List.getElem?_eq_getElem hj]
    simpa using h8
set_option maxRecDepth 100000 in
set_option maxHeartbeats 2000000 in
theorem amedian_o (l : List Int) (hl : ∀ x ∈ l, -9223372036854775808 ≤ x ∧ x ≤ 9223372036854775807) (h0 : l ≠ []) (hlen : l.length ≤ 2932031007402) (k : Nat) (hk : l.length = 2 * k + 1) (w : World) (A : Option Addr) (cap : Nat) (hR : RdI w A l) : Calls Tryz.prog 129 #[.slice A l.length cap] w fun e w' => e = .returned (.int .i64 ((sortL l).getD k 0)) ∧ Below w.heap.size w w' := by
  have hn : 0 < l.length := List.length_pos_iff.2 h0
  obtain ⟨ab, ao, rfl, hab, hcell0⟩ := hR 0 [.int .i64 (l[0]'hn)] (by rw [List.getElem?_map, List.getElem?_eq_getElem hn]; rfl)
  have b0 : Below w.heap.size w (w.alloc (.cells #[.slice (some ⟨ab, ao, none⟩) l.length cap] 50)) := (Below.refl _ _).alloc (Nat.le_refl _) _
  have hc : ∀ j, j < l.length → (w.alloc (.cells #[.slice (some ⟨ab, ao, none⟩) l.length cap] 50)).cell? ⟨ab, ao + j, none⟩ = some (.int .i64 (l[j]?.getD 0)) := fun j hj => by
    obtain ⟨ab2, ao2, hA3, _, hcell⟩ := hR j [.int .i64 (l[j]'hj)] (by rw [List.getElem?_map, List.getElem?_eq_getElem hj]; rfl)
    cases hA3
    have h9 := hcell 0 _ rfl
    rw [b0.cell (p := ⟨ab, ao + j, none⟩) hab, List.getElem?_eq_getElem hj]
    simpa using h9
  have CS := sorted_any w.heap.size ab ao cap l hlen (w.alloc (.cells #[.slice (some ⟨ab, ao, none⟩) l.length cap] 50)) (by simp) (by simp; omega) hc
  have CS' := Lib.hid CS
  have hsl : (sortL l).length = l.length := sortL_len l
  have hl' := Lib.hid hl
  have hk' := Lib.hid hk
  clear hR hcell0 hc CS hl hk
  go_enter Tryz.func129, Tryz.ntmps129
  go_wp2_with fail
  refine (values_any _ _ _ _).mono ?_
  rintro e w1 ⟨rfl, rfl⟩
  go_wp2_with fail
  refine CS'.out.mono ?_
  clear CS'
  rintro e w2 ⟨⟨v, rfl, hown⟩, hb2⟩
  have hown' : OwnI w2 (w.alloc (.cells #[.slice (some ⟨ab, ao, none⟩) l.length cap] 50)).heap.size v (sortL l) := hown
  obtain ⟨gb, gcap, rfl, hgb, hgc, hcs⟩ := own_rdc hown' (by intro e9; rw [e9] at hsl; simp at hsl; omega)
  clear hown hown'
  rw [hsl] at hgc hcs ⊢
  have q2 : Below w.heap.size w w2 := b0.trans (hb2.mono (by simp))
  clear hb2 b0
  have hk := hk'.out
  have hq1 : (l.length : Int).tdiv 2 = (k : Int) := by rw [Int.tdiv_eq_ediv_of_nonneg (by omega)]; omega
  have hq2 : (l.length : Int) / 2 = (k : Int) := by omega
  have hr1 : (l.length : Int).tmod 2 = 1 := by rw [Int.tmod_eq_emod_of_nonneg (by omega)]; omega
  have hr2 : (l.length : Int) % 2 = 1 := by omega
  have hck : w2.cell? ⟨gb, k, none⟩ = some (.int .i64 ((sortL l).getD k 0)) := hcs k (by omega)
  have hkl : (k : Int) < (l.length : Int) := by omega
  have hk0 : (0 : Int) ≤ (k : Int) := by omega
  obtain ⟨y, hy⟩ : ∃ y, (sortL l).getD k 0 = y := ⟨_, rfl⟩
  rw [hy] at hck
  have hy' := Lib.hid hy
  clear hcs hsl hk hk' hy
  go_wp2
  go_ret
  exact ⟨by rw [hy'.out]; rfl, q2⟩
set_option maxRecDepth 100000 in
set_option maxHeartbeats 2000000 in
theorem amedian_e (l : List Int) (hl : ∀ x ∈ l, -9223372036854775808 ≤ x ∧ x ≤ 9223372036854775807) (h0 : l ≠ []) (hlen : l.length ≤ 2932031007402) (k : Nat) (hk : l.length = 2 * (k + 1)) (w : World) (A : Option Addr) (cap : Nat) (hR : RdI w A l) : Calls Tryz.prog 129 #[.slice A l.length cap] w fun e w' => e = .returned (.int .i64 (meanL [(sortL l).getD k 0, (sortL l).getD (k + 1) 0])) ∧ Below w.heap.size w w' := by
  have hn : 0 < l.length := List.length_pos_iff.2 h0
  obtain ⟨ab, ao, rfl, hab, hcell0⟩ := hR 0 [.int .i64 (l[0]'hn)] (by rw [List.getElem?_map, List.getElem?_eq_getElem hn]; rfl)
  have b0 : Below w.heap.size w (w.alloc (.cells #[.slice (some ⟨ab, ao, none⟩) l.length cap] 50)) := (Below.refl _ _).alloc (Nat.le_refl _) _
  have hc : ∀ j, j < l.length → (w.alloc (.cells #[.slice (some ⟨ab, ao, none⟩) l.length cap] 50)).cell? ⟨ab, ao + j, none⟩ = some (.int .i64 (l[j]?.getD 0)) := fun j hj => by
    obtain ⟨ab2, ao2, hA3, _, hcell⟩ := hR j [.int .i64 (l[j]'hj)] (by rw [List.getElem?_map, List.getElem?_eq_getElem hj]; rfl)
    cases hA3
    have h9 := hcell 0 _ rfl
    rw [b0.cell (p := ⟨ab, ao + j, none⟩) hab, List.getElem?_eq_getElem hj]
    simpa using h9
  have CS := sorted_any w.heap.size ab ao cap l hlen (w.alloc (.cells #[.slice (some ⟨ab, ao, none⟩) l.length cap] 50)) (by simp) (by simp; omega) hc
  have CS' := Lib.hid CS
  have hsl : (sortL l).length = l.length := sortL_len l
  have hl' := Lib.hid hl
  have hk' := Lib.hid hk
  clear hR hcell0 hc CS hl hk
  go_enter Tryz.func129, Tryz.ntmps129
  go_wp2_with fail
  refine (values_any _ _ _ _).mono ?_
  rintro e w1 ⟨rfl, rfl⟩
  go_wp2_with fail
  refine CS'.out.mono ?_
  clear CS'
  rintro e w2 ⟨⟨v, rfl, hown⟩, hb2⟩
  have hown' : OwnI w2 (w.alloc (.cells #[.slice (some ⟨ab, ao, none⟩) l.length cap] 50)).heap.size v (sortL l) := hown
  obtain ⟨gb, gcap, rfl, hgb, hgc, hcs⟩ := own_rdc hown' (by intro e9; rw [e9] at hsl; simp at hsl; omega)
  clear hown hown'
  rw [hsl] at hgc hcs ⊢
  have q2 : Below w.heap.size w w2 := b0.trans (hb2.mono (by simp))
  clear hb2 b0
  have hk := hk'.out
  have hq1 : (l.length : Int).tdiv 2 = (k : Int) + 1 := by rw [Int.tdiv_eq_ediv_of_nonneg (by omega)]; omega
  have hq2 : (l.length : Int) / 2 = (k : Int) + 1 := by omega
  have hr1 : (l.length : Int).tmod 2 = 0 := by rw [Int.tmod_eq_emod_of_nonneg (by omega)]; omega
  have hr2 : (l.length : Int) % 2 = 0 := by omega
  have hm0 := hl'.out _ (sortL_getD_mem (l := l) (i := k) (by omega))
  have hm1 := hl'.out _ (sortL_getD_mem (l := l) (i := k + 1) (by omega))
  have hck0 : w2.cell? ⟨gb, k, none⟩ = some (.int .i64 ((sortL l).getD k 0)) := hcs k (by omega)
  have hck1 : w2.cell? ⟨gb, k + 1, none⟩ = some (.int .i64 ((sortL l).getD (k + 1) 0)) := hcs (k + 1) (by omega)
  obtain ⟨y0, hy0⟩ : ∃ y, (sortL l).getD k 0 = y := ⟨_, rfl⟩
  obtain ⟨y1, hy1⟩ : ∃ y, (sortL l).getD (k + 1) 0 = y := ⟨_, rfl⟩
  rw [hy0] at hck0 hm0
  rw [hy1] at hck1 hm1
  have hy0' := Lib.hid hy0
  have hy1' := Lib.hid hy1
  clear hy0 hy1
  have CM : ∀ cap9 : Nat, Calls Tryz.prog 128 #[.slice (some ⟨gb, k, none⟩) 2 cap9] w2 fun e w' => e = .returned (.int .i64 (meanL [y0, y1])) ∧ Below w2.heap.size w2 w' := fun cap9 => amean_any [y0, y1] (by intro x hx; simp at hx; rcases hx with rfl | rfl; exact hm0; exact hm1) (by simp) (by simp) w2 (some ⟨gb, k, none⟩) cap9 (by
    intro i c hi
    refine ⟨gb, k, rfl, hgb, ?_⟩
    cases i with
    | zero => simp at hi; subst hi; intro j u hj; cases j with
      | zero => simp at hj; subst hj; simpa using hck0
      | succ j => simp at hj
    | succ i => cases i with
      | zero => simp at hi; subst hi; intro j u hj; cases j with
        | zero => simp at hj; subst hj; simpa using hck1
        | succ j => simp at hj
      | succ i => simp at hi)
  have CM' := Lib.hid CM
  have hkc : (k : Int) + 2 ≤ (gcap : Int) := by omega
  have hw1 : IntKind.i64.wrap ((k : Int) + 1 - 1) = (k : Int) := by rw [show (k : Int) + 1 - 1 = (k : Int) by omega]; exact IntWalk.i64_in _ (by omega)
  have hw2 : IntKind.i64.wrap ((k : Int) + 1 + 1) = (k : Int) + 2 := by rw [show (k : Int) + 1 + 1 = (k : Int) + 2 by omega]; exact IntWalk.i64_in _ (by omega)
  clear hcs hsl CM hm0 hm1 hck0 hck1 hk hk'
  go_wp2_with fail
  refine (CM'.out _).mono ?_
  clear CM'
  rintro e w3 ⟨rfl, hb3⟩
  go_wp2
  go_ret
  exact ⟨by rw [hy0'.out, hy1'.out]; rfl, q2.trans (hb3.mono q2.size)⟩
theorem amedian_any (l : List Int) (hl : ∀ x ∈ l, -9223372036854775808 ≤ x ∧ x ≤ 9223372036854775807) (h0 : l ≠ []) (hlen : l.length ≤ 2932031007402) (w : World) (A : Option Addr) (cap : Nat) (hR : RdI w A l) : Calls Tryz.prog 129 #[.slice A l.length cap] w fun e w' => e = .returned (.int .i64 (medianL l)) ∧ Below w.heap.size w w' := by
  have hn : 0 < l.length := List.length_pos_iff.2 h0
  unfold medianL
  by_cases h : l.length % 2 = 1
  · rw [if_pos h]; exact amedian_o l hl h0 hlen (l.length / 2) (by omega) w A cap hR
  · rw [if_neg h]
    have := amedian_e l hl h0 hlen (l.length / 2 - 1) (by omega) w A cap hR
    rw [show l.length / 2 - 1 + 1 = l.length / 2 by omega] at this
    exact this
/-- a function of one number at least -/
def someR (l : List Int) (r : Int) : VL := if l = [] then errL 6 else numL r
set_option maxRecDepth 100000 in
set_option maxHeartbeats 1000000 in
theorem agsome_no (w : World) (A : Option Addr) (cap pb : Nat) : Calls Tryz.prog 190 #[.slice A 0 cap, .pointer (some ⟨pb, 0, none⟩)] w fun e w' => e = .returned (.agg #[.int .i64 ((errL 6)).t, .int .i64 ((errL 6)).n, .string ((errL 6)).s, .bool ((errL 6)).b, .int .i64 ((errL 6)).c]) ∧ Below w.heap.size w w' := by
  go_enter Tryz.func190, Tryz.ntmps190
  go_wp2_with (go_at_call 40; refine (verr_any 6 _).mono ?_; rintro e w9 ⟨rfl, hb9⟩; obtain ⟨gc9, gf9, gz9⟩ := bkeep hb9 (w.heap.size + 1) (by first | omega | (simp <;> omega)))
  refine bodyPost_ret (v := .agg #[.int .i64 ((errL 6)).t, .int .i64 ((errL 6)).n, .string ((errL 6)).s, .bool ((errL 6)).b, .int .i64 ((errL 6)).c]) ?_ rfl ⟨rfl, by (repeat (first | (with_reducible exact Below.refl _ _) | (with_reducible refine Below.alloc ?_ (by first | omega | (dsimp only; omega) | (simp <;> omega)) _) | (with_reducible refine Below.setCell ?_ (by first | omega | (dsimp only; omega) | (simp <;> omega)) _) | (with_reducible refine Below.drew ?_) | (with_reducible refine below_drewN ?_ _) | (with_reducible refine Below.trans ?_ (Below.mono (by assumption) (by first | omega | (dsimp only; omega) | (simp <;> omega))))))⟩
  simp [results, Tryz.results190, go_sem, errL, *]
set_option maxRecDepth 100000 in
set_option maxHeartbeats 1000000 in
theorem agsome_yes (l : List Int) (h0 : l ≠ []) (w : World) (A : Option Addr) (cap pb g : Nat) (hbox : w.cell? ⟨pb, 0, none⟩ = some (.func (.func g) #[] #[])) (hgo : ∀ args w, Sem.run Tryz.prog (callFunc g args) w = .ok (.enter g args) w) (r : Int) (hr : -9223372036854775808 ≤ r ∧ r ≤ 9223372036854775807) (hC : Calls Tryz.prog g #[.slice A l.length cap] (w.alloc (.cells #[.int .i64 0, .int .i64 0, .string ⟨#[]⟩, .bool false, .int .i64 0] 26)) fun e w' => e = .returned (.int .i64 r) ∧ Below (w.alloc (.cells #[.int .i64 0, .int .i64 0, .string ⟨#[]⟩, .bool false, .int .i64 0] 26)).heap.size (w.alloc (.cells #[.int .i64 0, .int .i64 0, .string ⟨#[]⟩, .bool false, .int .i64 0] 26)) w') : Calls Tryz.prog 190 #[.slice A l.length cap, .pointer (some ⟨pb, 0, none⟩)] w fun e w' => e = .returned (.agg #[.int .i64 ((numL r)).t, .int .i64 ((numL r)).n, .string ((numL r)).s, .bool ((numL r)).b, .int .i64 ((numL r)).c]) ∧ Below w.heap.size w w' := by
  have hn : 0 < l.length := List.length_pos_iff.2 h0
  have hn0 : ¬ (l.length : Int) = 0 := by omega
  have hpl : pb < w.heap.size := World.block_lt_of_cell? _ _ hbox
  have hpn : pb ≠ w.heap.size := by omega
  have hC' := Lib.hid hC
  clear hC
  generalize l.length = N at *
  clear h0
  go_enter Tryz.func190, Tryz.ntmps190
  go_wp2_with fail
  refine hC'.out.mono ?_
  clear hC'
  rintro e w1 ⟨rfl, hb1⟩
  obtain ⟨gc1, gf1, gz1⟩ := bkeep hb1 (w.heap.size + 1) (by simp)
  have l1 : w.heap.size < w1.heap.size := by omega
  go_wp2_with (go_at_call 162; refine (vnum_any r hr _).mono ?_; rintro e w9 ⟨rfl, hb9⟩; obtain ⟨gc9, gf9, gz9⟩ := bkeep hb9 (w.heap.size + 1) (by first | omega | (simp <;> omega)))
  refine bodyPost_ret (v := .agg #[.int .i64 ((numL r)).t, .int .i64 ((numL r)).n, .string ((numL r)).s, .bool ((numL r)).b, .int .i64 ((numL r)).c]) ?_ rfl ⟨rfl, by (repeat (first | (with_reducible exact Below.refl _ _) | (with_reducible refine Below.alloc ?_ (by first | omega | (dsimp only; omega) | (simp <;> omega)) _) | (with_reducible refine Below.setCell ?_ (by first | omega | (dsimp only; omega) | (simp <;> omega)) _) | (with_reducible refine Below.drew ?_) | (with_reducible refine below_drewN ?_ _) | (with_reducible refine Below.trans ?_ (Below.mono (by assumption) (by first | omega | (dsimp only; omega) | (simp <;> omega))))))⟩
  simp [results, Tryz.results190, go_sem, numL, *]
theorem agsome_any (l : List Int) (w : World) (A : Option Addr) (cap pb g : Nat) (hR : RdI w A l) (hbox : w.cell? ⟨pb, 0, none⟩ = some (.func (.func g) #[] #[])) (hgo : ∀ args w, Sem.run Tryz.prog (callFunc g args) w = .ok (.enter g args) w) (r : Int) (hr : l ≠ [] → -9223372036854775808 ≤ r ∧ r ≤ 9223372036854775807) (hC : l ≠ [] → ∀ (w2 : World) (A2 : Option Addr) (cap2 : Nat), RdI w2 A2 l → Calls Tryz.prog g #[.slice A2 l.length cap2] w2 fun e w' => e = .returned (.int .i64 r) ∧ Below w2.heap.size w2 w') : Calls Tryz.prog 190 #[.slice A l.length cap, .pointer (some ⟨pb, 0, none⟩)] w fun e w' => e = .returned (.agg #[.int .i64 ((someR l r)).t, .int .i64 ((someR l r)).n, .string ((someR l r)).s, .bool ((someR l r)).b, .int .i64 ((someR l r)).c]) ∧ Below w.heap.size w w' := by
  unfold someR
  by_cases h : l = []
  · rw [if_pos h]
    subst h
    exact agsome_no w A cap pb
  · rw [if_neg h]
    exact agsome_yes l h w A cap pb g hbox hgo r (hr h) (hC h (w.alloc (.cells #[.int .i64 0, .int .i64 0, .string ⟨#[]⟩, .bool false, .int .i64 0] 26)) A cap (RdB.mono (RdB.below hR ((Below.refl _ _).alloc (Nat.le_refl _) _)) (by simp)))
end Go.Proofs.YtaomlgpakbjegaaGreatDoor
