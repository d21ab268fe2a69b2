/-
  aggs: the order of arguments; the law's faulty.
-/
import Derived.Test.YtaomlgpakbjegaaGreatDoorProg
import Derived.Test.YtaomlgpakbjegaaGreatDoorMg3
import Derived.Test.YtaomlgpakbjegaaGreatDoorRows
import Derived.Test.YtaomlgpakbjegaaGreatDoorBase
import Derived.Test.YtaomlgpakbjegaaGreatDoorMg4
import Derived.Test.YtaomlgpakbjegaaGreatDoorMg5
import Derived.Test.YtaomlgpakbjegaaGreatDoorValA
import Derived.Test.YtaomlgpakbjegaaGreatDoorValB
import Derived.Test.YtaomlgpakbjegaaGreatDoorValC
import Derived.Test.YtaomlgpakbjegaaGreatDoorAddrC
import Derived.Test.YtaomlgpakbjegaaGreatDoorMg10
import Derived.Test.YtaomlgpakbjegaaGreatDoorMapK
import Derived.Test.YtaomlgpakbjegaaGreatDoorMg12
import Derived.Test.YtaomlgpakbjegaaGreatDoorShelf
import Derived.Test.YtaomlgpakbjegaaGreatDoorMg2
import Derived.Test.YtaomlgpakbjegaaGreatDoorMg13
import Derived.Test.YtaomlgpakbjegaaGreatDoorDPrint
import Derived.Test.YtaomlgpakbjegaaGreatDoorRPr
import Derived.Test.YtaomlgpakbjegaaGreatDoorKnuth
import Derived.Test.YtaomlgpakbjegaaGreatDoorDDiv
import Derived.Test.YtaomlgpakbjegaaGreatDoorDDig
import Derived.Test.YtaomlgpakbjegaaGreatDoorCutW
import Derived.Test.YtaomlgpakbjegaaGreatDoorDParse
import Derived.Test.YtaomlgpakbjegaaGreatDoorDecK
import Derived.Test.YtaomlgpakbjegaaGreatDoorDDivA
import Derived.Test.YtaomlgpakbjegaaGreatDoorMg23
import Derived.Test.YtaomlgpakbjegaaGreatDoorValL
import Derived.Test.YtaomlgpakbjegaaGreatDoorAItm
import Derived.Test.YtaomlgpakbjegaaGreatDoorAAmo
import Derived.Test.YtaomlgpakbjegaaGreatDoorASum
import Derived.Test.YtaomlgpakbjegaaGreatDoorAFind
import Derived.Test.YtaomlgpakbjegaaGreatDoorACall
import Derived.Test.YtaomlgpakbjegaaGreatDoorACallB
import Derived.Test.YtaomlgpakbjegaaGreatDoorANum
import Derived.Test.YtaomlgpakbjegaaGreatDoorAVal
import Derived.Test.YtaomlgpakbjegaaGreatDoorALar
import Derived.Test.YtaomlgpakbjegaaGreatDoorAPlB
import Derived.Test.YtaomlgpakbjegaaGreatDoorAMea
import Derived.Test.YtaomlgpakbjegaaGreatDoorASom
import Derived.Test.YtaomlgpakbjegaaGreatDoorAArg
import Derived.Test.YtaomlgpakbjegaaGreatDoorACol
import Derived.Test.YtaomlgpakbjegaaGreatDoorMg39
import Derived.Test.YtaomlgpakbjegaaGreatDoorACnt
import Derived.Test.YtaomlgpakbjegaaGreatDoorACif
import Derived.Test.YtaomlgpakbjegaaGreatDoorAClo
import Derived.Test.YtaomlgpakbjegaaGreatDoorAKn
import Derived.Test.YtaomlgpakbjegaaGreatDoorAAtB
import Derived.WalkSpells
import Derived.WalkLawsBesides
import Derived.StillTactics
import Derived.Laws.Pointers
import Derived.Deep.RegionHeld3
import Derived.Deep.QuietTactic
import Derived.BigQuiet
import Derived.RowKit3
import Derived.Lib.Hide
import Derived.Lib.OthersKept
import Derived.OwnWalk
import Derived.Lib.IndexLaws
import Derived.Lib.ItoaMem
import Derived.Shelf.SlGeneric
import Derived.Shelf.SortM.Plain
import Derived.Shelf.SortM.SortNone
import Derived.Ground.SlgmProg
import Derived.WalkKit
import Derived.ProofKit
import Derived.OpenShut
import Derived.Carry
import Derived.ChangeSame
import Derived.Deep.Draws
import Derived.Maps.OwnSet
import Derived.Maps.AppendAt
import Derived.Laws.EntriesVeiled
import Derived.Laws.BitsAllLaws
import Derived.Shelf.Strings.Builder1
import Derived.Shelf.Strings.Builder2
import Derived.Shelf.Strings.OnBuilder
import Derived.Shelf.Strings.Trim
import Derived.Shelf.Small.Utf8
import Derived.Shelf.Small.Bits
import Derived.Shelf.Small.Strs
import Derived.Shelf.Small.Wraps
import Derived.Shelf.Strings.BuilderF
import Derived.Shelf.Strings.BuilderK
import Derived.Shelf.Strconv.Itoa0
import Derived.Shelf.Strconv.Itoa1
import Derived.Shelf.LaysM
import Derived.Shelf.Strconv.Itoa2
import Derived.Ground.MpProg
import Derived.Shelf.Pu.ParseUintPublic10
import Derived.Shelf.Strings.Search1
import Derived.Shelf.Strings.Search2
import Derived.Shelf.Strings.Search3
import Derived.Shelf.Strings.Cut
import Derived.Shelf.Strings.Shaped
import Derived.Shelf.Strings.Prefix
import Derived.Shelf.Strings.Runes
import Derived.Shelf.Strings.AsciiSet
import Derived.Shelf.Bits.Mul64
import Derived.Shelf.Strings.Repeat
import Derived.Shelf.Unicode.DecodeSlow
import Derived.Lib.TrimByte
import Derived.Lib.Bytealg
import Derived.Lib.SlTrimSet
import Derived.Lib.ParseIntB
import Derived.Shelf.Strings.SlTrimAscii
import Derived.Lib.SmallJoins
import Derived.Deep.RegionWith
import Derived.Laws.Externs
import Derived.IntWalk
import Derived.Sort.OwnSorted
import Derived.Sort.OwnSortedInts
import Derived.RangeFuncBox
import Derived.RangeFuncLeaves
import Derived.Shelf.Abstract
import Derived.OwnWalkIn
import Derived.TacticsInMore
import Derived.LoopNIn
import Derived.LoopIn
import Derived.Lib.Slices
import Derived.Lib.MinMax
import Derived.Deep.AppendLies
import Derived.Deep.RegionLaw
namespace Go.Proofs.YtaomlgpakbjegaaGreatDoor
open Go.RowKit

/-- a Fault among an argument -/
def fltX (x : AL) : Bool := decide (x.v.t = 4) || x.es.any (fun e => decide (e.v.t = 4))
theorem rev_items (l : List AL) : (itemsL l.reverse).Perm (itemsL l) := by
  unfold itemsL
  rw [← List.flatMap_def, ← List.flatMap_def]
  exact (List.reverse_perm l).flatMap_right _
theorem rev_nums (l : List AL) : (numsL (itemsL l.reverse)).Perm (numsL (itemsL l)) := (rev_items l).filterMap _
theorem no_fault {l : List AL} (h : l.any fltX = false) : (itemsL l).find? (fun v => decide (v.t = 4)) = none := by
  rw [List.find?_eq_none]
  intro v hv
  unfold itemsL at hv
  obtain ⟨L, hL, hvL⟩ := List.mem_flatten.1 hv
  obtain ⟨x, hx, rfl⟩ := List.mem_map.1 hL
  have h1 := List.any_eq_false.1 h x hx
  unfold fltX at h1
  simp only [Bool.or_eq_true, decide_eq_true_eq, List.any_eq_true, not_or, not_exists, not_and] at h1
  unfold itemsX at hvL
  rcases List.mem_append.1 hvL with h2 | h2
  · by_cases hm : x.many = true
    · rw [if_pos hm] at h2; cases h2
    · rw [if_neg hm] at h2; simp at h2; subst h2; simpa using h1.1
  · obtain ⟨e, he, rfl⟩ := List.mem_map.1 h2
    simpa using h1.2 e he
theorem fault_same {l : List AL} (h : l.any fltX = false) (r : VL) : faultR (itemsL l) r = r := by
  unfold faultR; rw [no_fault h]
theorem rev_any (l : List AL) : l.reverse.any fltX = l.any fltX := List.any_reverse
theorem items_len1 {l : List AL} (hy : l.all argMay = true) : (itemsL l).length ≤ l.length * 17179900001 := by
  induction l with
  | nil => simp [itemsL]
  | cons x l ih =>
    simp only [List.all_cons, Bool.and_eq_true] at hy
    have h1 := ih hy.2
    have h2 : (itemsX x).length ≤ 17179900001 := by
      unfold itemsX
      rw [List.length_append, List.length_map]
      by_cases hm : x.many = true
      · rw [if_pos hm]
        obtain ⟨m1, m2, m3⟩ := may_parts hm hy.1
        have := ent_len m1 m3
        simp only [List.length_nil]
        omega
      · rw [if_neg hm]
        have h3 := hy.1
        unfold argMay at h3
        rw [if_neg hm] at h3
        simp only [Bool.and_eq_true, decide_eq_true_eq] at h3
        rw [h3.1.2]
        simp
    show (([x] ++ l).map itemsX).flatten.length ≤ _
    simp only [List.singleton_append, List.map_cons, List.flatten_cons, List.length_append, List.length_cons]
    unfold itemsL at h1
    omega
theorem takes_x {name : ByteArray} (hk : aKd name = ⟨#[120]⟩) (bs : List Bool) : takesA name bs = (aKnown name && decide (aLo name ≤ (bs.length : Int)) && decide ((bs.length : Int) ≤ aHi name)) := by
  unfold takesA
  rw [hk, okL_yes ⟨#[120]⟩ bs (fun k x _ => by
    have : kAt ⟨#[120]⟩ k = 120 := by
      unfold kAt
      rw [show min k ((⟨#[120]⟩ : ByteArray).size - 1) = 0 from Nat.min_eq_right (Nat.zero_le _)]
      rfl
    rw [this]; rfl), Bool.and_true]
theorem call_rev {name : ByteArray} (hk : aKd name = ⟨#[120]⟩) {l : List AL} (hf : l.any fltX = false) (r : VL) : callA name l.reverse 0 r = callA name l 0 r := by
  have e1 : l.reverse.all argMay = l.all argMay := List.all_reverse
  have e2 : takesA name (l.reverse.map fun x => x.many) = takesA name (l.map fun x => x.many) := by
    rw [takes_x hk, takes_x hk]; simp
  have e3 : ∀ L : List AL, L.any fltX = false → callAS L r = r := by
    intro L hL
    unfold callAS
    rw [List.find?_eq_none.2 (by
      intro x hx
      have h1 := List.any_eq_false.1 hL x hx
      unfold fltX at h1
      simp only [Bool.or_eq_true, decide_eq_true_eq, not_or] at h1
      simpa using h1.1)]
  unfold callA
  rw [e1, e2, e3 _ hf, e3 _ (by rw [rev_any]; exact hf)]
/-- a call's answer, either way round -/
structure OrdAt (name : ByteArray) (l : List AL) (R : VL) : Prop where
  fw : ∀ (w : World) (v : Value), Tab w → ArgsC w v l → Calls Tryz.prog 27 #[.string name, v, .int .i64 0] w fun e w' => e = .returned (.agg #[.int .i64 (R).t, .int .i64 (R).n, .string (R).s, .bool (R).b, .int .i64 (R).c]) ∧ Below w.heap.size w w'
  bw : ∀ (w : World) (v : Value), Tab w → ArgsC w v l.reverse → Calls Tryz.prog 27 #[.string name, v, .int .i64 0] w fun e w' => e = .returned (.agg #[.int .i64 (R).t, .int .i64 (R).n, .string (R).s, .bool (R).b, .int .i64 (R).c]) ∧ Below w.heap.size w w'
theorem ord_of {name : ByteArray} (hs : name.size ≤ 16) (hk : aKd name = ⟨#[120]⟩) {l : List AL} (hl : l.length ≤ 16) (hf : l.any fltX = false) {r : VL} (h1 : DoA name l 0 r) (h2 : DoA name l.reverse 0 r) : ∃ R, OrdAt name l R := by
  refine ⟨callA name l 0 r, ⟨?_, ?_⟩⟩
  · rintro w v ht ⟨A, cap, rfl, hcap, hR, hin⟩
    exact acall_any name (by omega) l (by omega) 0 (by omega) r (mays_any l) (fun _ _ _ => h1) w ht A cap hcap hR hin
  · rintro w v ht ⟨A, cap, rfl, hcap, hR, hin⟩
    have := acall_any name (by omega) l.reverse (by rw [List.length_reverse]; omega) 0 (by omega) r (mays_any _) (fun _ _ _ => h2) w ht A cap hcap hR hin
    rwa [call_rev hk hf] at this
theorem some_perm {l l' : List Int} (h : l.Perm l') (r : Int) : someR l r = someR l' r := by
  unfold someR
  by_cases h0 : l = []
  · subst h0; rw [List.nil_perm.1 h]
  · rw [if_neg h0, if_neg (fun e => h0 (by subst e; exact List.perm_nil.1 h))]
theorem ord_SUM {l : List AL} (hl : l.length ≤ 16) (hy : l.all argMay = true) (hf : l.any fltX = false) : ∃ R, OrdAt ⟨#[83, 85, 77]⟩ l R := by
  have hN := items_len1 hy
  have hN2 : (itemsL l.reverse).length ≤ 2932031007402 := by rw [(rev_items l).length_eq]; omega
  have h1 := ata_SUM l hl (by omega) 0
  have h2 := ata_SUM l.reverse (by rw [List.length_reverse]; exact hl) hN2 0
  rw [fault_same hf] at h1
  rw [fault_same (by rw [rev_any]; exact hf)] at h2
  rw [sum_perm (rev_nums l)] at h2
  exact ord_of (by decide) (by decide +kernel) hl hf h1 h2
theorem ord_MIN {l : List AL} (hl : l.length ≤ 16) (hy : l.all argMay = true) (hf : l.any fltX = false) : ∃ R, OrdAt ⟨#[77, 73, 78]⟩ l R := by
  have hN := items_len1 hy
  have hN2 : (itemsL l.reverse).length ≤ 2932031007402 := by rw [(rev_items l).length_eq]; omega
  have h1 := ata_MIN l hl (by omega) 0
  have h2 := ata_MIN l.reverse (by rw [List.length_reverse]; exact hl) hN2 0
  rw [fault_same hf] at h1
  rw [fault_same (by rw [rev_any]; exact hf)] at h2
  rw [some_perm (rev_nums l), minOf_perm (rev_nums l)] at h2
  exact ord_of (by decide) (by decide +kernel) hl hf h1 h2
theorem ord_MAX {l : List AL} (hl : l.length ≤ 16) (hy : l.all argMay = true) (hf : l.any fltX = false) : ∃ R, OrdAt ⟨#[77, 65, 88]⟩ l R := by
  have hN := items_len1 hy
  have hN2 : (itemsL l.reverse).length ≤ 2932031007402 := by rw [(rev_items l).length_eq]; omega
  have h1 := ata_MAX l hl (by omega) 0
  have h2 := ata_MAX l.reverse (by rw [List.length_reverse]; exact hl) hN2 0
  rw [fault_same hf] at h1
  rw [fault_same (by rw [rev_any]; exact hf)] at h2
  rw [some_perm (rev_nums l), maxOf_perm (rev_nums l)] at h2
  exact ord_of (by decide) (by decide +kernel) hl hf h1 h2
theorem ord_AVG {l : List AL} (hl : l.length ≤ 16) (hy : l.all argMay = true) (hf : l.any fltX = false) : ∃ R, OrdAt ⟨#[65, 86, 71]⟩ l R := by
  have hN := items_len1 hy
  have hN2 : (itemsL l.reverse).length ≤ 2932031007402 := by rw [(rev_items l).length_eq]; omega
  have h1 := ata_AVG l hl (by omega) 0
  have h2 := ata_AVG l.reverse (by rw [List.length_reverse]; exact hl) hN2 0
  rw [fault_same hf] at h1
  rw [fault_same (by rw [rev_any]; exact hf)] at h2
  rw [some_perm (rev_nums l), meanL_perm (rev_nums l)] at h2
  exact ord_of (by decide) (by decide +kernel) hl hf h1 h2
theorem ord_MEDIAN {l : List AL} (hl : l.length ≤ 16) (hy : l.all argMay = true) (hf : l.any fltX = false) : ∃ R, OrdAt ⟨#[77, 69, 68, 73, 65, 78]⟩ l R := by
  have hN := items_len1 hy
  have hN2 : (itemsL l.reverse).length ≤ 2932031007402 := by rw [(rev_items l).length_eq]; omega
  have h1 := ata_MEDIAN l hl (by omega) 0
  have h2 := ata_MEDIAN l.reverse (by rw [List.length_reverse]; exact hl) hN2 0
  rw [fault_same hf] at h1
  rw [fault_same (by rw [rev_any]; exact hf)] at h2
  rw [some_perm (rev_nums l), medianL_perm (rev_nums l)] at h2
  exact ord_of (by decide) (by decide +kernel) hl hf h1 h2
theorem ord_COUNT {l : List AL} (hl : l.length ≤ 16) (hy : l.all argMay = true) (hf : l.any fltX = false) : ∃ R, OrdAt ⟨#[67, 79, 85, 78, 84]⟩ l R := by
  have hN := items_len1 hy
  have hN2 : (itemsL l.reverse).length ≤ 2932031007402 := by rw [(rev_items l).length_eq]; omega
  have h1 := ata_COUNT l hl (by omega) 0
  have h2 := ata_COUNT l.reverse (by rw [List.length_reverse]; exact hl) hN2 0
  rw [(rev_items l).countP_eq] at h2
  exact ord_of (by decide) (by decide +kernel) hl hf h1 h2
theorem ord_COUNTA {l : List AL} (hl : l.length ≤ 16) (hy : l.all argMay = true) (hf : l.any fltX = false) : ∃ R, OrdAt ⟨#[67, 79, 85, 78, 84, 65]⟩ l R := by
  have hN := items_len1 hy
  have hN2 : (itemsL l.reverse).length ≤ 2932031007402 := by rw [(rev_items l).length_eq]; omega
  have h1 := ata_COUNTA l hl (by omega) 0
  have h2 := ata_COUNTA l.reverse (by rw [List.length_reverse]; exact hl) hN2 0
  rw [(rev_items l).countP_eq] at h2
  exact ord_of (by decide) (by decide +kernel) hl hf h1 h2
/-- the names of these -/
def ordN : List ByteArray := [⟨#[83, 85, 77]⟩, ⟨#[77, 73, 78]⟩, ⟨#[77, 65, 88]⟩, ⟨#[65, 86, 71]⟩, ⟨#[77, 69, 68, 73, 65, 78]⟩, ⟨#[67, 79, 85, 78, 84]⟩, ⟨#[67, 79, 85, 78, 84, 65]⟩]
theorem ord_all {l : List AL} (hl : l.length ≤ 16) (hy : l.all argMay = true) (hf : l.any fltX = false) (k : Nat) (hk : k < 7) (nm : ByteArray) (hn : ordN[k]? = some nm) : ∃ R, OrdAt nm l R := by
  rcases k with _ | _ | _ | _ | _ | _ | _ | k
  · cases hn; exact ord_SUM hl hy hf
  · cases hn; exact ord_MIN hl hy hf
  · cases hn; exact ord_MAX hl hy hf
  · cases hn; exact ord_AVG hl hy hf
  · cases hn; exact ord_MEDIAN hl hy hf
  · cases hn; exact ord_COUNT hl hy hf
  · cases hn; exact ord_COUNTA hl hy hf
  · omega
set_option maxRecDepth 100000 in
set_option maxHeartbeats 2000000 in
theorem lflt_any (l : List AL) (hlen : l.length ≤ 1649267441664) (w : World) (A : Option Addr) (cap : Nat) (hR : RdB w w.heap.size A 11 (l.map AL.cs)) (hin : ∀ x ∈ l, x.In w w.heap.size) : Calls Tryz.prog 35 #[.slice A l.length cap] w fun e w' => e = .returned (.bool (l.any fltX)) ∧ w' = w := by
  have hR' := Lib.hid hR
  have hin' := Lib.hid hin
  clear hR hin
  go_enter Tryz.func35, Tryz.ntmps35
  go_wp2
  go_loopw [3] (fun i wr => ∃ k : Nat, k ≤ l.length ∧ i = .int .i64 (k : Int) ∧ Hid ((l.take k).any fltX = false) ∧ wr = w) (fun i _ => l.length - (intOf i).toNat)
  case atStart => exact ⟨0, Nat.zero_le _, rfl, Lib.hid rfl, rfl⟩
  case round =>
    obtain ⟨k, hk, rfl, hno, rfl⟩ := hrel
    by_cases hlt : k < l.length
    · obtain ⟨x, hx⟩ : ∃ x, l[k]? = some x := ⟨_, List.getElem?_eq_getElem hlt⟩
      have hxm := List.mem_of_getElem? hx
      obtain ⟨ab, ao, hA2, hab, hcell⟩ := hR'.out k x.cs (by rw [List.getElem?_map, hx]; rfl)
      obtain rfl : A = some ⟨ab, ao, none⟩ := hA2
      have hc1 : wr.cell? ⟨ab, ao + k * 11 + 1, none⟩ = some (.int .i64 x.v.t) := hcell 1 _ rfl
      have hc10 : wr.cell? ⟨ab, ao + k * 11 + 10, none⟩ = some (.slice x.A x.es.length x.cap) := hcell 10 _ rfl
      have hE := Lib.hid (hin'.out x hxm).2.1
      have hel := (hin'.out x hxm).2.2.2
      have hkl : (k : Int) < (l.length : Int) := by omega
      have hxm' := Lib.hid hxm
      have hts : Hid ((l.take (k + 1)).any fltX = fltX x) := Lib.hid (by rw [List.take_add_one, hx, List.any_append, hno.out]; simp)
      clear hx hcell hxm
      by_cases h4 : x.v.t = 4
      · have hyes : Hid (l.any fltX = true) := Lib.hid (List.any_eq_true.2 ⟨x, hxm'.out, by unfold fltX; rw [decide_eq_true h4, Bool.true_or]⟩)
        have h4b : (x.v.t == 4) = true := by simpa using h4
        go_wp2
        go_ret
        exact ⟨by rw [hyes.out]; rfl, rfl⟩
      · have h4b : (x.v.t == 4) = false := by simpa using h4
        go_wp2
        go_loopw [4] (fun i wq => ∃ j : Nat, j ≤ x.es.length ∧ i = .int .i64 (j : Int) ∧ Hid ((x.es.take j).any (fun e => decide (e.v.t = 4)) = false) ∧ wq = wr) (fun i _ => x.es.length - (intOf i).toNat)
        case atStart => exact ⟨0, Nat.zero_le _, rfl, Lib.hid rfl, rfl⟩
        case round =>
          obtain ⟨j, hj, rfl, hno2, rfl⟩ := hrel
          by_cases hlt2 : j < x.es.length
          · obtain ⟨y, hy⟩ : ∃ y, x.es[j]? = some y := ⟨_, List.getElem?_eq_getElem hlt2⟩
            have hym := List.mem_of_getElem? hy
            obtain ⟨eb, eo, hA3, heb, hcell⟩ := hE.out j y.cs (by rw [List.getElem?_map, hy]; rfl)
            rw [hA3] at hc10
            have he2 : wr.cell? ⟨eb, eo + j * 7 + 2, none⟩ = some (.int .i64 y.v.t) := hcell 2 _ rfl
            have hkl2 : (j : Int) < (x.es.length : Int) := by omega
            have hts2 : Hid ((x.es.take (j + 1)).any (fun e => decide (e.v.t = 4)) = decide (y.v.t = 4)) := Lib.hid (by rw [List.take_add_one, hy, List.any_append, hno2.out]; simp)
            have hym' := Lib.hid hym
            clear hy hcell hym hA3
            by_cases h5 : y.v.t = 4
            · have hyes : Hid (l.any fltX = true) := Lib.hid (List.any_eq_true.2 ⟨x, hxm'.out, by unfold fltX; rw [Bool.or_eq_true]; right; exact List.any_eq_true.2 ⟨y, hym'.out, by simpa using h5⟩⟩)
              have h5b : (y.v.t == 4) = true := by simpa using h5
              go_wp2
              go_ret
              exact ⟨by rw [hyes.out]; rfl, rfl⟩
            · have h5b : (y.v.t == 4) = false := by simpa using h5
              go_wp2
              go_roundw
              case rel => exact ⟨j + 1, by omega, by go_num, Lib.hid (by rw [hts2.out]; simpa using h5), (by first | rfl | trivial)⟩
              case measure => simp [intOf]; omega
          · obtain rfl : j = x.es.length := by omega
            have hkl2 : ¬ (x.es.length : Int) < (x.es.length : Int) := by omega
            rw [List.take_length] at hno2
            go_wp2
            go_roundw
            case rel => exact ⟨k + 1, by omega, by go_num, Lib.hid (by rw [hts.out]; unfold fltX; rw [decide_eq_false h4, hno2.out]; rfl), (by first | rfl | trivial)⟩
            case measure => simp [intOf]; omega
    · obtain rfl : k = l.length := by omega
      have hkl : ¬ (l.length : Int) < (l.length : Int) := by omega
      rw [List.take_length] at hno
      go_wp2
      go_ret
      exact ⟨by rw [hno.out]; rfl, rfl⟩
end Go.Proofs.YtaomlgpakbjegaaGreatDoor
