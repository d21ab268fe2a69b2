/-
  nums: Call.
-/
import Derived.Test.YthobaffgllipfaaGreatRows
import Derived.Test.YthobaffgllipfaaGreatBase
import Derived.Test.YthobaffgllipfaaGreatMapK
import Derived.Test.YthobaffgllipfaaGreatNFind
import Derived.Test.YthobaffgllipfaaGreatMg3
import Derived.Test.YthobaffgllipfaaGreatValA
import Derived.Test.YthobaffgllipfaaGreatValB
import Derived.Test.YthobaffgllipfaaGreatDecS
import Derived.Test.YthobaffgllipfaaGreatValC
import Derived.Test.YthobaffgllipfaaGreatAddrC
import Derived.Test.YthobaffgllipfaaGreatMg9
import Derived.Test.YthobaffgllipfaaGreatDMod
import Derived.Test.YthobaffgllipfaaGreatDFlo
import Derived.Test.YthobaffgllipfaaGreatProg
import Derived.Test.YthobaffgllipfaaGreatMg12
import Derived.Test.YthobaffgllipfaaGreatDRnd
import Derived.Test.YthobaffgllipfaaGreatMg14
import Derived.Test.YthobaffgllipfaaGreatKnuth
import Derived.Test.YthobaffgllipfaaGreatDDiv
import Derived.Test.YthobaffgllipfaaGreatMg17
import Derived.Test.YthobaffgllipfaaGreatNDoA
import Derived.Test.YthobaffgllipfaaGreatNDoB
import Derived.Test.YthobaffgllipfaaGreatNDoC
import Derived.Test.YthobaffgllipfaaGreatMg21
import Derived.Test.YthobaffgllipfaaGreatNCall
import Derived.Test.YthobaffgllipfaaGreatValL
import Derived.Test.YthobaffgllipfaaGreatNCallK
import Derived.Maps.AppendAt
import Derived.WalkSpells
import Derived.WalkLawsBesides
import Derived.StillTactics
import Derived.Laws.Pointers
import Derived.Deep.RegionHeld3
import Derived.Deep.QuietTactic
import Derived.BigQuiet
import Derived.RowKit3
import Derived.Lib.Hide
import Derived.Lib.OthersKept
import Derived.OwnWalk
import Derived.Lib.IndexLaws
import Derived.Lib.ItoaMem
import Derived.WalkKit
import Derived.ProofKit
import Derived.OpenShut
import Derived.Carry
import Derived.ChangeSame
import Derived.Deep.Draws
import Derived.Maps.OwnSet
import Derived.Laws.EntriesVeiled
import Derived.Laws.BitsAllLaws
import Derived.Shelf.Small.Bits
import Derived.Shelf.Strconv.Itoa0
import Derived.Shelf.Bits.Mul64
import Derived.Lib.TrimByte
import Derived.Lib.Bytealg
import Derived.Lib.SlTrimSet
import Derived.Lib.ParseIntB
import Derived.Shelf.Strings.SlTrimAscii
import Derived.Lib.SmallJoins
import Derived.Deep.RegionWith
namespace Go.Proofs.YthobaffgllipfaaGreat
open Go.RowKit

set_option maxRecDepth 100000 in
set_option maxHeartbeats 4000000 in
theorem ncall_any (name : ByteArray) (hs : name.size ≤ 9223372036854775807) (l : List AL) (hlen : l.length ≤ 1649267441664) (text : Int) (r : VL) (hM : MaysAt l) (hD : takesN name l.length (l.any fun x => (true == x.many)) = true → DoAt name (l.map fun x => x.v.asN) r) (w : World) (A : Option Addr) (cap : Nat) (hR : RdB w w.heap.size A 11 (l.map AL.cs)) (hin : ∀ x ∈ l, x.In w w.heap.size) :
    Calls Tryz.prog 4 #[.string name, .slice A l.length cap, .int .i64 text] w fun e w' => e = .returned (.agg #[.int .i64 (callR name l r).t, .int .i64 (callR name l r).n, .string (callR name l r).s, .bool (callR name l r).b, .int .i64 (callR name l r).c]) ∧ Below w.heap.size w w' := by
  obtain ⟨i0, hi, hz0, hz1, hz2⟩ := info_parts bool_info
  obtain ⟨j0, hj, hy0, hy1, hy2⟩ := info_parts i64_info
  have hR' := Lib.hid hR
  have hin' := Lib.hid hin
  clear hR hin
  have b0 : Below w.heap.size w (w.alloc (.cells #[.int .i64 0, .int .i64 0, .string ⟨#[]⟩, .bool false, .int .i64 0] 26)) := (Below.refl _ _).alloc (Nat.le_refl _) _
  go_enter Tryz.func4, Tryz.ntmps4
  go_wp2
  go_loopw [7, 21] (fun v i wr => ∃ k : Nat, k ≤ l.length ∧ i = .int .i64 (k : Int) ∧ Hid (∀ x ∈ l.take k, argMay x = true) ∧ wr.ownsRow (w.heap.size + 1) 4 1 v k ((l.take k).map fun x => Value.bool x.many) ∧ Below (w.heap.size + 1) (w.alloc (.cells #[.int .i64 0, .int .i64 0, .string ⟨#[]⟩, .bool false, .int .i64 0] 26)) wr) (fun _ i _ => l.length - (intOf i).toNat)
  case atStart => exact ⟨0, Nat.zero_le _, rfl, Lib.hid (by simp), World.ownsRow_nil _ _ _ _, Below.refl _ _⟩
  case round =>
    obtain ⟨k, hk, rfl, hall, hown, hbr⟩ := hrel
    have hzr := hbr.size
    simp only [World.size_alloc] at hzr
    have g0 : Below w.heap.size w wr := b0.trans (hbr.mono (by omega))
    have hr0 : wr.cell? ⟨w.heap.size, 0, none⟩ = some (.int .i64 0) := by rw [hbr.cell (by dsimp only; omega)]; simp
    have hs0 : wr.frozen? ⟨w.heap.size, 0, none⟩ = false := by rw [hbr.frozen (by dsimp only; omega)]; simp
    have hr1 : wr.cell? ⟨w.heap.size, 1, none⟩ = some (.int .i64 0) := by rw [hbr.cell (by dsimp only; omega)]; simp
    have hs1 : wr.frozen? ⟨w.heap.size, 1, none⟩ = false := by rw [hbr.frozen (by dsimp only; omega)]; simp
    have hr2 : wr.cell? ⟨w.heap.size, 2, none⟩ = some (.string ⟨#[]⟩) := by rw [hbr.cell (by dsimp only; omega)]; simp
    have hs2 : wr.frozen? ⟨w.heap.size, 2, none⟩ = false := by rw [hbr.frozen (by dsimp only; omega)]; simp
    have hr3 : wr.cell? ⟨w.heap.size, 3, none⟩ = some (.bool false) := by rw [hbr.cell (by dsimp only; omega)]; simp
    have hs3 : wr.frozen? ⟨w.heap.size, 3, none⟩ = false := by rw [hbr.frozen (by dsimp only; omega)]; simp
    have hr4 : wr.cell? ⟨w.heap.size, 4, none⟩ = some (.int .i64 0) := by rw [hbr.cell (by dsimp only; omega)]; simp
    have hs4 : wr.frozen? ⟨w.heap.size, 4, none⟩ = false := by rw [hbr.frozen (by dsimp only; omega)]; simp
    by_cases hlt : k < l.length
    · obtain ⟨x, hx⟩ : ∃ x, l[k]? = some x := ⟨_, List.getElem?_eq_getElem hlt⟩
      have hxm := List.mem_of_getElem? hx
      obtain ⟨ab, ao, hA2, hab, hcell⟩ := (hR'.out.below g0) k x.cs (by rw [List.getElem?_map, hx]; rfl)
      obtain rfl : A = some ⟨ab, ao, none⟩ := hA2
      have hc0 : wr.cell? ⟨ab, ao + k * 11, none⟩ = some (.bool x.many) := hcell 0 _ rfl
      have hc1 : wr.cell? ⟨ab, ao + k * 11 + 1, none⟩ = some (.int .i64 x.v.t) := hcell 1 _ rfl
      have hc2 : wr.cell? ⟨ab, ao + k * 11 + 2, none⟩ = some (.int .i64 x.v.n) := hcell 2 _ rfl
      have hc3 : wr.cell? ⟨ab, ao + k * 11 + 3, none⟩ = some (.string x.v.s) := hcell 3 _ rfl
      have hc4 : wr.cell? ⟨ab, ao + k * 11 + 4, none⟩ = some (.bool x.v.b) := hcell 4 _ rfl
      have hc5 : wr.cell? ⟨ab, ao + k * 11 + 5, none⟩ = some (.int .i64 x.v.c) := hcell 5 _ rfl
      have hc6 : wr.cell? ⟨ab, ao + k * 11 + 6, none⟩ = some (.int .i64 x.t) := hcell 6 _ rfl
      have hc7 : wr.cell? ⟨ab, ao + k * 11 + 7, none⟩ = some (.int .i64 x.l) := hcell 7 _ rfl
      have hc8 : wr.cell? ⟨ab, ao + k * 11 + 8, none⟩ = some (.int .i64 x.b) := hcell 8 _ rfl
      have hc9 : wr.cell? ⟨ab, ao + k * 11 + 9, none⟩ = some (.int .i64 x.r) := hcell 9 _ rfl
      have hc10 : wr.cell? ⟨ab, ao + k * 11 + 10, none⟩ = some (.slice x.A x.es.length x.cap) := hcell 10 _ rfl
      have hin : x.In wr w.heap.size := (hin'.out x hxm).below g0
      have habr : ab < wr.heap.size := by omega
      have hkl : (k : Int) < (l.length : Int) := by omega
      have hne : ab ≠ wr.heap.size := by omega
      have hne2 : w.heap.size ≠ wr.heap.size := by omega
      have hlr : w.heap.size < wr.heap.size := by omega
      have hlr2 : w.heap.size ≤ wr.heap.size := by omega
      have hlr3 : w.heap.size < wr.heap.size + 1 := by omega
      have hlr4 : ab ≤ wr.heap.size := by omega
      have hts : l.take (k + 1) = l.take k ++ [x] := by rw [List.take_add_one, hx]; rfl
      have hts' := Lib.hid hts
      have CM0 := hM.out x hxm
      have hxm' := Lib.hid hxm
      have hx' := Lib.hid hx
      cases hm : argMay x
      · simp only [hm] at CM0
        have CM := Lib.hid CM0
        have hcr : callR name l r = errL 8 := by unfold callR; rw [if_pos (by rw [List.all_eq_false]; exact ⟨x, hxm, by rw [hm]; simp⟩)]
        have hcr' := Lib.hid hcr
        clear hx hcell hts hxm CM0 hm hcr
        go_wp2_with fail
        refine (CM.out _ (((hin.mono (by omega)).below ((Below.refl _ _).alloc (Nat.le_refl _) _)).mono (by simp))).mono ?_
        rintro e w1 ⟨rfl, hb1⟩
        obtain ⟨hc, hf, hz⟩ := bkeep hb1 (wr.heap.size + 1) (by simp)
        go_wp2_with (go_at_call 8; refine (verr_any 8 _).mono ?_; rintro e w1 ⟨rfl, hb⟩; obtain ⟨hc, hf, hz⟩ := bkeep hb (wr.heap.size + 1) (by first | omega | (simp <;> omega)))
        refine bodyPost_ret (v := .agg #[.int .i64 4, .int .i64 0, .string ⟨#[]⟩, .bool false, .int .i64 (errC 8)]) ?_ rfl ⟨by rw [hcr'.out]; rfl, by (repeat (first | (with_reducible exact Below.refl _ _) | (with_reducible refine Below.alloc ?_ (by first | omega | (dsimp only; omega) | (simp <;> omega)) _) | (with_reducible refine Below.setCell ?_ (by first | omega | (dsimp only; omega) | (simp <;> omega)) _) | (with_reducible refine Below.drew ?_) | (with_reducible refine below_drewN ?_ _) | (with_reducible refine Below.trans ?_ (Below.mono (by assumption) (by first | omega | (dsimp only; omega) | (simp <;> omega))))))⟩
        simp [results, Tryz.results4, go_sem, *]
      · simp only [hm] at CM0
        have CM := Lib.hid CM0
        have hm' := Lib.hid hm
        clear hx hcell hts hxm CM0 hm
        go_wp2_with fail
        refine (CM.out _ (((hin.mono (by omega)).below ((Below.refl _ _).alloc (Nat.le_refl _) _)).mono (by simp))).mono ?_
        rintro e w1 ⟨rfl, hb1⟩
        obtain ⟨hc, hf, hz⟩ := bkeep hb1 (wr.heap.size + 1) (by simp)
        have hown1 := ownsRow_below (hown.alloc _) hb1
        have g1 : Below (w.heap.size + 1) (w.alloc (.cells #[.int .i64 0, .int .i64 0, .string ⟨#[]⟩, .bool false, .int .i64 0] 26)) w1 := (hbr.alloc hzr _).trans (hb1.mono (by simp; omega))
        go_wp2_with (at_builtin; refine wpList_append_own_at _ rfl _ _ 30 rfl (w.heap.size + 1) 4 i0 (.bool false) 1 1 Tryz.underlying30 hi hz0 hz1 hz2 rfl (by decide) _ _ _ rfl (hown1.alloc _) ⟨w1.heap.size, 0, none⟩ 1 1 [.bool x.many] rfl rfl (cell_one_new _ _ _) (by simp [Value.oneCell']) (by unfold maxLen; omega) (by omega) (by simp; omega) ?_; intro v' w2 hown2 hgrow2 hnil2 hloc2)
        go_roundw
        case rel =>
          refine ⟨k + 1, by omega, by go_num, Lib.hid (fun y hy => ?_), ?_, ?_⟩
          · rw [hts'.out] at hy
            rcases List.mem_append.1 hy with h | h
            · exact hall.out y h
            · simp at h; subst h; exact hm'.out
          · rw [hts'.out, List.map_append]; exact hown2
          · refine (g1.alloc (by omega) _).grown hgrow2 (by simp; omega) (fun j hj => ?_)
            exact (hown1.lt j hj).1
        case measure => simp [intOf]; omega
    · obtain rfl : k = l.length := by omega
      have htk : l.take l.length = l := List.take_length
      rw [htk] at hown hall
      clear htk
      have hall' := Lib.hid (show l.all argMay = true by rw [List.all_eq_true]; exact hall.out)
      clear hall
      obtain ⟨A2, cap2, rfl, hrd⟩ := ownsRow_rd hown
      have hrd2 : RdB wr wr.heap.size A2 1 ((l.map fun x => x.many).map fun (x : Bool) => [Value.bool x]) := by
        have e : ((l.map fun x => Value.bool x.many).map fun x => [x]) = ((l.map fun x => x.many).map fun (x : Bool) => [Value.bool x]) := by simp
        rw [← e]; exact hrd
      cases ht : takesN name l.length (l.any fun x => (true == x.many))
      · have CT := takes_any name hs (l.map fun x => x.many) (by simp; omega) false (by rw [List.length_map, List.any_map]; exact ht) wr A2 cap2 hrd2
        rw [List.length_map] at CT
        have CT' := Lib.hid CT
        have hcr : callR name l r = errL 8 := by unfold callR; rw [if_neg (by rw [hall'.out]; simp), if_pos ht]
        have hcr' := Lib.hid hcr
        have hlr : w.heap.size < wr.heap.size := by omega
        have hlr2 : w.heap.size ≤ wr.heap.size := by omega
        clear CT ht hrd hrd2 hown hcr
        go_wp2_with fail
        refine CT'.out.mono ?_
        clear CT'
        rintro e w1 ⟨rfl, hb1⟩
        obtain ⟨hc, hf, hz⟩ := bkeep hb1 wr.heap.size (by simp)
        go_wp2_with (go_at_call 8; refine (verr_any 8 _).mono ?_; rintro e w1 ⟨rfl, hb⟩; obtain ⟨hc, hf, hz⟩ := bkeep hb (wr.heap.size) (by first | omega | (simp <;> omega)))
        refine bodyPost_ret (v := .agg #[.int .i64 4, .int .i64 0, .string ⟨#[]⟩, .bool false, .int .i64 (errC 8)]) ?_ rfl ⟨by rw [hcr'.out]; rfl, by (repeat (first | (with_reducible exact Below.refl _ _) | (with_reducible refine Below.alloc ?_ (by first | omega | (dsimp only; omega) | (simp <;> omega)) _) | (with_reducible refine Below.setCell ?_ (by first | omega | (dsimp only; omega) | (simp <;> omega)) _) | (with_reducible refine Below.drew ?_) | (with_reducible refine below_drewN ?_ _) | (with_reducible refine Below.trans ?_ (Below.mono (by assumption) (by first | omega | (dsimp only; omega) | (simp <;> omega))))))⟩
        simp [results, Tryz.results4, go_sem, *]
      · have CT := takes_any name hs (l.map fun x => x.many) (by simp; omega) true (by rw [List.length_map, List.any_map]; exact ht) wr A2 cap2 hrd2
        rw [List.length_map] at CT
        have CT' := Lib.hid CT
        have hcr : callR name l r = callS l r := by unfold callR; rw [if_neg (by rw [hall'.out]; simp), if_neg (by rw [ht]; simp)]
        have hcr' := Lib.hid hcr
        have ht' := Lib.hid ht
        clear CT ht hrd hrd2 hown hcr
        go_wp2_with fail
        refine CT'.out.mono ?_
        clear CT'
        rintro e wt ⟨rfl, hbt⟩
        have gt : Below (w.heap.size + 1) (w.alloc (.cells #[.int .i64 0, .int .i64 0, .string ⟨#[]⟩, .bool false, .int .i64 0] 26)) wt := hbr.trans (hbt.mono (by omega))
        have hzt := gt.size
        simp only [World.size_alloc] at hzt
        clear hr0 hr1 hr2 hr3 hr4 hs0 hs1 hs2 hs3 hs4
        go_wp2
        go_loopw [42] (fun i wr => ∃ k : Nat, k ≤ l.length ∧ i = .int .i64 (k : Int) ∧ Hid (∀ x ∈ l.take k, ¬ x.v.t = 4) ∧ Below (w.heap.size + 1) (w.alloc (.cells #[.int .i64 0, .int .i64 0, .string ⟨#[]⟩, .bool false, .int .i64 0] 26)) wr) (fun i _ => l.length - (intOf i).toNat)
        case atStart => exact ⟨0, Nat.zero_le _, rfl, Lib.hid (by simp), gt⟩
        case round =>
          rename_i wr0 _ _ _
          obtain ⟨k, hk, rfl, hno, hbr⟩ := hrel
          have hzr := hbr.size
          simp only [World.size_alloc] at hzr
          have g0 : Below w.heap.size w wr := b0.trans (hbr.mono (by omega))
          have hr0 : wr.cell? ⟨w.heap.size, 0, none⟩ = some (.int .i64 0) := by rw [hbr.cell (by dsimp only; omega)]; simp
          have hs0 : wr.frozen? ⟨w.heap.size, 0, none⟩ = false := by rw [hbr.frozen (by dsimp only; omega)]; simp
          have hr1 : wr.cell? ⟨w.heap.size, 1, none⟩ = some (.int .i64 0) := by rw [hbr.cell (by dsimp only; omega)]; simp
          have hs1 : wr.frozen? ⟨w.heap.size, 1, none⟩ = false := by rw [hbr.frozen (by dsimp only; omega)]; simp
          have hr2 : wr.cell? ⟨w.heap.size, 2, none⟩ = some (.string ⟨#[]⟩) := by rw [hbr.cell (by dsimp only; omega)]; simp
          have hs2 : wr.frozen? ⟨w.heap.size, 2, none⟩ = false := by rw [hbr.frozen (by dsimp only; omega)]; simp
          have hr3 : wr.cell? ⟨w.heap.size, 3, none⟩ = some (.bool false) := by rw [hbr.cell (by dsimp only; omega)]; simp
          have hs3 : wr.frozen? ⟨w.heap.size, 3, none⟩ = false := by rw [hbr.frozen (by dsimp only; omega)]; simp
          have hr4 : wr.cell? ⟨w.heap.size, 4, none⟩ = some (.int .i64 0) := by rw [hbr.cell (by dsimp only; omega)]; simp
          have hs4 : wr.frozen? ⟨w.heap.size, 4, none⟩ = false := by rw [hbr.frozen (by dsimp only; omega)]; simp
          by_cases hlt : k < l.length
          · obtain ⟨x, hx⟩ : ∃ x, l[k]? = some x := ⟨_, List.getElem?_eq_getElem hlt⟩
            have hxm := List.mem_of_getElem? hx
            obtain ⟨ab, ao, hA2, hab, hcell⟩ := (hR'.out.below g0) k x.cs (by rw [List.getElem?_map, hx]; rfl)
            obtain rfl : A = some ⟨ab, ao, none⟩ := hA2
            have hc0 : wr.cell? ⟨ab, ao + k * 11, none⟩ = some (.bool x.many) := hcell 0 _ rfl
            have hc1 : wr.cell? ⟨ab, ao + k * 11 + 1, none⟩ = some (.int .i64 x.v.t) := hcell 1 _ rfl
            have hc2 : wr.cell? ⟨ab, ao + k * 11 + 2, none⟩ = some (.int .i64 x.v.n) := hcell 2 _ rfl
            have hc3 : wr.cell? ⟨ab, ao + k * 11 + 3, none⟩ = some (.string x.v.s) := hcell 3 _ rfl
            have hc4 : wr.cell? ⟨ab, ao + k * 11 + 4, none⟩ = some (.bool x.v.b) := hcell 4 _ rfl
            have hc5 : wr.cell? ⟨ab, ao + k * 11 + 5, none⟩ = some (.int .i64 x.v.c) := hcell 5 _ rfl
            have hc6 : wr.cell? ⟨ab, ao + k * 11 + 6, none⟩ = some (.int .i64 x.t) := hcell 6 _ rfl
            have hc7 : wr.cell? ⟨ab, ao + k * 11 + 7, none⟩ = some (.int .i64 x.l) := hcell 7 _ rfl
            have hc8 : wr.cell? ⟨ab, ao + k * 11 + 8, none⟩ = some (.int .i64 x.b) := hcell 8 _ rfl
            have hc9 : wr.cell? ⟨ab, ao + k * 11 + 9, none⟩ = some (.int .i64 x.r) := hcell 9 _ rfl
            have hc10 : wr.cell? ⟨ab, ao + k * 11 + 10, none⟩ = some (.slice x.A x.es.length x.cap) := hcell 10 _ rfl
            have hin : x.In wr w.heap.size := (hin'.out x hxm).below g0
            have habr : ab < wr.heap.size := by omega
            have hkl : (k : Int) < (l.length : Int) := by omega
            have hne : ab ≠ wr.heap.size := by omega
            have hne2 : w.heap.size ≠ wr.heap.size := by omega
            have hlr : w.heap.size < wr.heap.size := by omega
            have hlr2 : w.heap.size ≤ wr.heap.size := by omega
            have hlr3 : w.heap.size < wr.heap.size + 1 := by omega
            have hlr4 : ab ≤ wr.heap.size := by omega
            have hts : l.take (k + 1) = l.take k ++ [x] := by rw [List.take_add_one, hx]; rfl
            have hts' := Lib.hid hts
            have hx' := Lib.hid hx
            clear hx hcell hts hxm
            by_cases h4 : x.v.t = 4
            · have hcs : callS l r = x.v := by
                have : l.find? (fun x => decide (x.v.t = 4)) = some x := by
                  rw [List.find?_eq_some_iff_getElem]
                  exact ⟨by simpa using h4, k, hlt, (List.getElem?_eq_some_iff.1 hx'.out).2, fun j hj => by
                    simp
                    exact hno.out _ (List.mem_take_iff_getElem.2 ⟨j, by omega, rfl⟩)⟩
                unfold callS; rw [this]
              have hcs' := Lib.hid hcs
              clear hcs
              go_wp2
              refine bodyPost_ret (v := .agg #[.int .i64 x.v.t, .int .i64 x.v.n, .string x.v.s, .bool x.v.b, .int .i64 x.v.c]) ?_ rfl ⟨by rw [hcr'.out, hcs'.out], by (repeat (first | (with_reducible exact Below.refl _ _) | (with_reducible refine Below.alloc ?_ (by first | omega | (dsimp only; omega) | (simp <;> omega)) _) | (with_reducible refine Below.setCell ?_ (by first | omega | (dsimp only; omega) | (simp <;> omega)) _) | (with_reducible refine Below.drew ?_) | (with_reducible refine below_drewN ?_ _) | (with_reducible refine Below.trans ?_ (Below.mono (by assumption) (by first | omega | (dsimp only; omega) | (simp <;> omega))))))⟩
              simp [results, Tryz.results4, go_sem, *]
            · have h4b : (x.v.t == 4) = false := by simpa using h4
              have h4' := Lib.hid h4
              clear h4
              go_wp2
              go_roundw
              case rel =>
                refine ⟨k + 1, by omega, by go_num, Lib.hid (fun y hy => ?_), hbr.alloc (by omega) _⟩
                rw [hts'.out] at hy
                rcases List.mem_append.1 hy with h | h
                · exact hno.out y h
                · simp at h; subst h; exact h4'.out
              case measure => simp [intOf]; omega
          · obtain rfl : k = l.length := by omega
            rw [List.take_length] at hno
            have hfn : l.find? (fun x => decide (x.v.t = 4)) = none := by
              rw [List.find?_eq_none]; intro x hx; simpa using hno.out x hx
            have hcs : callS l r = callS2 l r := by unfold callS; rw [hfn]
            have hcs' := Lib.hid hcs
            clear hcs hfn hno hr0 hr1 hr2 hr3 hr4 hs0 hs1 hs2 hs3 hs4
            go_wp2
            go_loopw [12, 55] (fun v i wr => ∃ k : Nat, k ≤ l.length ∧ i = .int .i64 (k : Int) ∧ Hid (∀ x ∈ l.take k, x.v.asC = 0) ∧ wr.ownsRow (w.heap.size + 1) 2 1 v k ((l.take k).map fun x => Value.int .i64 x.v.asN) ∧ Below (w.heap.size + 1) (w.alloc (.cells #[.int .i64 0, .int .i64 0, .string ⟨#[]⟩, .bool false, .int .i64 0] 26)) wr) (fun _ i _ => l.length - (intOf i).toNat)
            case atStart => exact ⟨0, Nat.zero_le _, rfl, Lib.hid (by simp), World.ownsRow_nil _ _ _ _, hbr⟩
            case round =>
              obtain ⟨k, hk, rfl, hno, hown, hbr⟩ := hrel
              have hzr := hbr.size
              simp only [World.size_alloc] at hzr
              have g0 : Below w.heap.size w wr := b0.trans (hbr.mono (by omega))
              have hr0 : wr.cell? ⟨w.heap.size, 0, none⟩ = some (.int .i64 0) := by rw [hbr.cell (by dsimp only; omega)]; simp
              have hs0 : wr.frozen? ⟨w.heap.size, 0, none⟩ = false := by rw [hbr.frozen (by dsimp only; omega)]; simp
              have hr1 : wr.cell? ⟨w.heap.size, 1, none⟩ = some (.int .i64 0) := by rw [hbr.cell (by dsimp only; omega)]; simp
              have hs1 : wr.frozen? ⟨w.heap.size, 1, none⟩ = false := by rw [hbr.frozen (by dsimp only; omega)]; simp
              have hr2 : wr.cell? ⟨w.heap.size, 2, none⟩ = some (.string ⟨#[]⟩) := by rw [hbr.cell (by dsimp only; omega)]; simp
              have hs2 : wr.frozen? ⟨w.heap.size, 2, none⟩ = false := by rw [hbr.frozen (by dsimp only; omega)]; simp
              have hr3 : wr.cell? ⟨w.heap.size, 3, none⟩ = some (.bool false) := by rw [hbr.cell (by dsimp only; omega)]; simp
              have hs3 : wr.frozen? ⟨w.heap.size, 3, none⟩ = false := by rw [hbr.frozen (by dsimp only; omega)]; simp
              have hr4 : wr.cell? ⟨w.heap.size, 4, none⟩ = some (.int .i64 0) := by rw [hbr.cell (by dsimp only; omega)]; simp
              have hs4 : wr.frozen? ⟨w.heap.size, 4, none⟩ = false := by rw [hbr.frozen (by dsimp only; omega)]; simp
              by_cases hlt : k < l.length
              · obtain ⟨x, hx⟩ : ∃ x, l[k]? = some x := ⟨_, List.getElem?_eq_getElem hlt⟩
                have hxm := List.mem_of_getElem? hx
                obtain ⟨ab, ao, hA2, hab, hcell⟩ := (hR'.out.below g0) k x.cs (by rw [List.getElem?_map, hx]; rfl)
                obtain rfl : A = some ⟨ab, ao, none⟩ := hA2
                have hc0 : wr.cell? ⟨ab, ao + k * 11, none⟩ = some (.bool x.many) := hcell 0 _ rfl
                have hc1 : wr.cell? ⟨ab, ao + k * 11 + 1, none⟩ = some (.int .i64 x.v.t) := hcell 1 _ rfl
                have hc2 : wr.cell? ⟨ab, ao + k * 11 + 2, none⟩ = some (.int .i64 x.v.n) := hcell 2 _ rfl
                have hc3 : wr.cell? ⟨ab, ao + k * 11 + 3, none⟩ = some (.string x.v.s) := hcell 3 _ rfl
                have hc4 : wr.cell? ⟨ab, ao + k * 11 + 4, none⟩ = some (.bool x.v.b) := hcell 4 _ rfl
                have hc5 : wr.cell? ⟨ab, ao + k * 11 + 5, none⟩ = some (.int .i64 x.v.c) := hcell 5 _ rfl
                have hc6 : wr.cell? ⟨ab, ao + k * 11 + 6, none⟩ = some (.int .i64 x.t) := hcell 6 _ rfl
                have hc7 : wr.cell? ⟨ab, ao + k * 11 + 7, none⟩ = some (.int .i64 x.l) := hcell 7 _ rfl
                have hc8 : wr.cell? ⟨ab, ao + k * 11 + 8, none⟩ = some (.int .i64 x.b) := hcell 8 _ rfl
                have hc9 : wr.cell? ⟨ab, ao + k * 11 + 9, none⟩ = some (.int .i64 x.r) := hcell 9 _ rfl
                have hc10 : wr.cell? ⟨ab, ao + k * 11 + 10, none⟩ = some (.slice x.A x.es.length x.cap) := hcell 10 _ rfl
                have hin : x.In wr w.heap.size := (hin'.out x hxm).below g0
                have habr : ab < wr.heap.size := by omega
                have hkl : (k : Int) < (l.length : Int) := by omega
                have hne : ab ≠ wr.heap.size := by omega
                have hne2 : w.heap.size ≠ wr.heap.size := by omega
                have hlr : w.heap.size < wr.heap.size := by omega
                have hlr2 : w.heap.size ≤ wr.heap.size := by omega
                have hlr3 : w.heap.size < wr.heap.size + 1 := by omega
                have hlr4 : ab ≤ wr.heap.size := by omega
                have hts : l.take (k + 1) = l.take k ++ [x] := by rw [List.take_add_one, hx]; rfl
                have hts' := Lib.hid hts
                have hx' := Lib.hid hx
                obtain ⟨nn, hnn⟩ : ∃ nn, x.v.asN = nn := ⟨_, rfl⟩
                obtain ⟨cc, hcc⟩ : ∃ cc, x.v.asC = cc := ⟨_, rfl⟩
                have CN0 := asnum_any x.v hin.1
                simp only [hnn, hcc] at CN0
                have CN := Lib.hid CN0
                have hnn' := Lib.hid hnn
                have hcc' := Lib.hid hcc
                clear hx hcell hts hxm CN0 hnn hcc
                by_cases hc0 : cc = 0
                · subst hc0
                  go_wp2_with fail
                  refine (CN.out _).mono ?_
                  rintro e w1 ⟨rfl, hb1⟩
                  have hown1 := ownsRow_below (hown.alloc _) hb1
                  have g1 : Below (w.heap.size + 1) (w.alloc (.cells #[.int .i64 0, .int .i64 0, .string ⟨#[]⟩, .bool false, .int .i64 0] 26)) w1 := (hbr.alloc (by omega) _).trans (hb1.mono (by simp; omega))
                  have hz1' := g1.size
                  simp only [World.size_alloc] at hz1'
                  go_wp2_with (at_builtin; refine wpList_append_own_at _ rfl _ _ 39 rfl (w.heap.size + 1) 2 j0 (.int .i64 0) 1 8 Tryz.underlying39 hj hy0 hy1 hy2 rfl (by decide) _ _ _ rfl (hown1.alloc _) ⟨w1.heap.size, 0, none⟩ 1 1 [.int .i64 nn] rfl rfl (cell_one_new _ _ _) (by simp [Value.oneCell']) (by unfold maxLen; omega) (by omega) (by simp; omega) ?_; intro v' w2 hown2 hgrow2 hnil2 hloc2)
                  go_roundw
                  case rel =>
                    refine ⟨k + 1, by omega, by go_num, Lib.hid (fun y hy => ?_), ?_, ?_⟩
                    · rw [hts'.out] at hy
                      rcases List.mem_append.1 hy with h | h
                      · exact hno.out y h
                      · simp at h; subst h; exact hcc'.out
                    · rw [hts'.out, List.map_append, List.map_cons, hnn'.out]; exact hown2
                    · refine (g1.alloc (by omega) _).grown hgrow2 (by simp; omega) (fun j hj => ?_)
                      exact (hown1.lt j hj).1
                  case measure => simp [intOf]; omega
                · have hcs2 : callS2 l r = errL cc := by
                    have : l.find? (fun x => decide (x.v.asC ≠ 0)) = some x := by
                      rw [List.find?_eq_some_iff_getElem]
                      exact ⟨by rw [hcc'.out]; simpa using hc0, k, hlt, (List.getElem?_eq_some_iff.1 hx'.out).2, fun j hj => by
                        simp
                        exact hno.out _ (List.mem_take_iff_getElem.2 ⟨j, by omega, rfl⟩)⟩
                    unfold callS2; rw [this, ← hcc'.out]
                  have hcs2' := Lib.hid hcs2
                  have hcb : (cc != 0) = true := by simpa using hc0
                  clear hcs2 hc0
                  go_wp2_with fail
                  refine (CN.out _).mono ?_
                  rintro e w1 ⟨rfl, hb1⟩
                  obtain ⟨hc, hf, hz⟩ := bkeep hb1 (wr.heap.size + 1) (by simp)
                  go_wp2_with (go_at_call 8; refine (verr_any cc _).mono ?_; rintro e w1 ⟨rfl, hb⟩; obtain ⟨hc, hf, hz⟩ := bkeep hb (wr.heap.size + 1) (by first | omega | (simp <;> omega)))
                  refine bodyPost_ret (v := .agg #[.int .i64 4, .int .i64 0, .string ⟨#[]⟩, .bool false, .int .i64 (errC cc)]) ?_ rfl ⟨by rw [hcr'.out, hcs'.out, hcs2'.out]; rfl, by (repeat (first | (with_reducible exact Below.refl _ _) | (with_reducible refine Below.alloc ?_ (by first | omega | (dsimp only; omega) | (simp <;> omega)) _) | (with_reducible refine Below.setCell ?_ (by first | omega | (dsimp only; omega) | (simp <;> omega)) _) | (with_reducible refine Below.drew ?_) | (with_reducible refine below_drewN ?_ _) | (with_reducible refine Below.trans ?_ (Below.mono (by assumption) (by first | omega | (dsimp only; omega) | (simp <;> omega))))))⟩
                  simp [results, Tryz.results4, go_sem, *]
              · obtain rfl : k = l.length := by omega
                rw [List.take_length] at hno hown
                have hcs2 : callS2 l r = r := by
                  have : l.find? (fun x => decide (x.v.asC ≠ 0)) = none := by
                    rw [List.find?_eq_none]; intro x hx; simpa using hno.out x hx
                  unfold callS2; rw [this]
                have hcs2' := Lib.hid hcs2
                have CF := Lib.hid (find_any name hs wr)
                have hl1 : 1 ≤ l.length := takesN_pos ht'.out
                obtain ⟨gb, gc, rfl, hgB, hgc, hcl⟩ := ownsRow_i64 (l := l.map fun x => x.v.asN) (by rw [List.map_map]; exact hown) (by omega)
                have hgl : gb < wr.heap.size := (hown.lt gb rfl).2
                have hcl' := Lib.hid hcl
                clear hcs2 hno hown hcl
                go_wp2_with fail
                refine CF.out.mono ?_
                clear CF
                rintro e wf ⟨b0', b1', b2', lo, mo, d, rfl, hlk, hbf, hd0, hd1, hd2⟩
                have hfm := nForm hlk
                have hdo := (hD ht'.out).out
                have hzf := hbf.size
                have hcf : ∀ (j : Nat) (x : Int), (l.map fun x => x.v.asN)[j]? = some x → wf.cell? ⟨gb, j, none⟩ = some (.int .i64 x) := fun j x hx => (hbf.cell (p := ⟨gb, j, none⟩) hgl).trans (hcl'.out j x hx)
                obtain ⟨g, c, rfl, hgo, _⟩ := (hD ht'.out).out wf b0' b1' b2' lo mo d hlk (cell_lt hd0) (cell_lt hd1) (cell_lt hd2) hd0 hd1 hd2 gb gc (by omega) (by simpa using hgc) hcf
                have CD : ∀ o, Hid (Calls Tryz.prog g (#[.slice (some ⟨gb, 0, none⟩) l.length gc] ++ c) (wf.alloc o) fun e w' => e = .returned (.agg #[.int .i64 (r).t, .int .i64 (r).n, .string (r).s, .bool (r).b, .int .i64 (r).c]) ∧ Below (wf.alloc o).heap.size (wf.alloc o) w') := fun o => Lib.hid (by
                  obtain ⟨g2, c2, he, _, C⟩ := (hD ht'.out).out (wf.alloc o) b0' b1' b2' lo mo _ hlk (by have := cell_lt hd0; simp; omega) (by have := cell_lt hd1; simp; omega) (by have := cell_lt hd2; simp; omega) ((World.cell?_alloc_lt _ _ ⟨b0', 0, none⟩ (cell_lt hd0)).trans hd0) ((World.cell?_alloc_lt _ _ ⟨b1', 0, none⟩ (cell_lt hd1)).trans hd1) ((World.cell?_alloc_lt _ _ ⟨b2', 0, none⟩ (cell_lt hd2)).trans hd2) gb gc (by simp; omega) (by simpa using hgc) (fun j x hx => (World.cell?_alloc_lt _ _ ⟨gb, j, none⟩ (by dsimp only; omega)).trans (hcf j x hx))
                  injection he with h1 _ h3
                  injection h1 with h1
                  subst h1; subst h3
                  simpa using C)
                obtain ⟨hc, hf, hz⟩ := bkeep hbf wr.heap.size (by simp)
                have gf : Below w.heap.size w wf := g0.trans (hbf.mono (by omega))
                have hlw : w.heap.size < wr.heap.size := by omega
                have hlw2 : w.heap.size < wf.heap.size := by omega
                have hlw3 : w.heap.size ≤ wf.heap.size := by omega
                clear hlk hd0 hd1 hd2 hcf hfm hdo
                go_wp2_with fail
                refine (CD _).out.mono ?_
                rintro e wd ⟨rfl, hbd⟩
                obtain ⟨hc2, hf2, hz2⟩ := bkeep hbd wf.heap.size (by simp)
                go_wp2
                refine bodyPost_ret (v := .agg #[.int .i64 (r).t, .int .i64 (r).n, .string (r).s, .bool (r).b, .int .i64 (r).c]) ?_ rfl ⟨by rw [hcr'.out, hcs'.out, hcs2'.out], by (repeat (first | (with_reducible exact Below.refl _ _) | (with_reducible refine Below.alloc ?_ (by first | omega | (dsimp only; omega) | (simp <;> omega)) _) | (with_reducible refine Below.setCell ?_ (by first | omega | (dsimp only; omega) | (simp <;> omega)) _) | (with_reducible refine Below.drew ?_) | (with_reducible refine below_drewN ?_ _) | (with_reducible refine Below.trans ?_ (Below.mono (by assumption) (by first | omega | (dsimp only; omega) | (simp <;> omega))))))⟩
                simp [results, Tryz.results4, go_sem, *]
end Go.Proofs.YthobaffgllipfaaGreat
