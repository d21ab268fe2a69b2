/-
  the laws of aggs: number, single, column.
-/
import Derived.Test.YtaomlgpakbjegaaGreatDoorProg
import Derived.Test.YtaomlgpakbjegaaGreatDoorShelfB
import Derived.Test.YtaomlgpakbjegaaGreatDoorRows
import Derived.Test.YtaomlgpakbjegaaGreatDoorBase
import Derived.Test.YtaomlgpakbjegaaGreatDoorRowB
import Derived.Test.YtaomlgpakbjegaaGreatDoorMg4
import Derived.Test.YtaomlgpakbjegaaGreatDoorValA
import Derived.Test.YtaomlgpakbjegaaGreatDoorValB
import Derived.Test.YtaomlgpakbjegaaGreatDoorValC
import Derived.Test.YtaomlgpakbjegaaGreatDoorAddrC
import Derived.Test.YtaomlgpakbjegaaGreatDoorAddrI
import Derived.Test.YtaomlgpakbjegaaGreatDoorMapK
import Derived.Test.YtaomlgpakbjegaaGreatDoorArgK
import Derived.Test.YtaomlgpakbjegaaGreatDoorDFlo
import Derived.Test.YtaomlgpakbjegaaGreatDoorMg1
import Derived.Test.YtaomlgpakbjegaaGreatDoorMg15
import Derived.Test.YtaomlgpakbjegaaGreatDoorValL
import Derived.Test.YtaomlgpakbjegaaGreatDoorNCallK
import Derived.Test.YtaomlgpakbjegaaGreatDoorAItm
import Derived.Test.YtaomlgpakbjegaaGreatDoorAAmo
import Derived.Test.YtaomlgpakbjegaaGreatDoorASum
import Derived.Test.YtaomlgpakbjegaaGreatDoorAFind
import Derived.Test.YtaomlgpakbjegaaGreatDoorACall
import Derived.Test.YtaomlgpakbjegaaGreatDoorACallB
import Derived.Test.YtaomlgpakbjegaaGreatDoorANum
import Derived.Test.YtaomlgpakbjegaaGreatDoorAInt
import Derived.Test.YtaomlgpakbjegaaGreatDoorALar
import Derived.Deep.AppendLies
import Derived.Deep.RegionLaw
import Derived.Maps.AppendAt
import Derived.IntWalk
import Derived.WalkSpells
import Derived.WalkLawsBesides
import Derived.StillTactics
import Derived.Laws.Pointers
import Derived.Deep.RegionHeld3
import Derived.Deep.QuietTactic
import Derived.BigQuiet
import Derived.RowKit3
import Derived.Lib.Hide
import Derived.Lib.OthersKept
import Derived.OwnWalk
import Derived.Lib.IndexLaws
import Derived.Lib.ItoaMem
import Derived.Shelf.SlGeneric
import Derived.Shelf.SortM.Plain
import Derived.Shelf.SortM.SortNone
import Derived.Ground.SlgmProg
import Derived.WalkKit
import Derived.ProofKit
import Derived.OpenShut
import Derived.Carry
import Derived.ChangeSame
import Derived.Deep.Draws
import Derived.Maps.OwnSet
import Derived.Laws.EntriesVeiled
import Derived.Laws.BitsAllLaws
import Derived.Shelf.Strings.Builder1
import Derived.Shelf.Strings.Builder2
import Derived.Shelf.Strings.OnBuilder
import Derived.Shelf.Strings.Trim
import Derived.Shelf.Small.Utf8
import Derived.Shelf.Small.Bits
import Derived.Shelf.Small.Strs
import Derived.Shelf.Small.Wraps
import Derived.Shelf.Strings.BuilderF
import Derived.Shelf.Strings.BuilderK
import Derived.Shelf.Strconv.Itoa0
import Derived.Shelf.Strconv.Itoa1
import Derived.Shelf.LaysM
import Derived.Shelf.Strconv.Itoa2
import Derived.Ground.MpProg
import Derived.Shelf.Pu.ParseUintPublic10
import Derived.Shelf.Strings.Search1
import Derived.Shelf.Strings.Search2
import Derived.Shelf.Strings.Search3
import Derived.Shelf.Strings.Cut
import Derived.Shelf.Strings.Shaped
import Derived.Shelf.Strings.Prefix
import Derived.Shelf.Strings.Runes
import Derived.Shelf.Strings.AsciiSet
import Derived.Shelf.Bits.Mul64
import Derived.Shelf.Strings.Repeat
import Derived.Shelf.Unicode.DecodeSlow
import Derived.Lib.TrimByte
import Derived.Lib.Bytealg
import Derived.Lib.SlTrimSet
import Derived.Lib.ParseIntB
import Derived.Shelf.Strings.SlTrimAscii
import Derived.Lib.SmallJoins
import Derived.Deep.RegionWith
import Derived.Laws.Externs
import Derived.Sort.OwnSorted
import Derived.Sort.OwnSortedInts
namespace Go.Proofs.YtaomlgpakbjegaaGreatDoor
open Go.RowKit

theorem ent_info : (Tryz.prog.info? 59).map (fun i => (i.zero, i.size, i.bytes)) = some (some (.agg #[.int .i64 0, .int .i64 0, .int .i64 0, .int .i64 0, .string ⟨#[]⟩, .bool false, .int .i64 0]), 7, 64) := by kernel_rfl
set_option maxHeartbeats 1000000 in
theorem lnumber_any (x : Int) (w : World) : Calls Tryz.prog 37 #[.int .i64 x] w fun e w' => e = .returned (.agg #[.int .i64 1, .int .i64 x, .string ⟨#[]⟩, .bool false, .int .i64 0]) ∧ Below w.heap.size w w' := by
  go_enter Tryz.func37, Tryz.ntmps37
  go_wp2
  refine bodyPost_ret (v := .agg #[.int .i64 1, .int .i64 x, .string ⟨#[]⟩, .bool false, .int .i64 0]) ?_ rfl ⟨rfl, by (repeat (first | (with_reducible exact Below.refl _ _) | (with_reducible refine Below.alloc ?_ (by first | omega | (dsimp only; omega) | (simp <;> omega)) _) | (with_reducible refine Below.setCell ?_ (by first | omega | (dsimp only; omega) | (simp <;> omega)) _) | (with_reducible refine Below.drew ?_) | (with_reducible refine below_drewN ?_ _) | (with_reducible refine Below.trans ?_ (Below.mono (by assumption) (by first | omega | (dsimp only; omega) | (simp <;> omega))))))⟩
  simp [results, Tryz.results37, go_sem, *]
set_option maxHeartbeats 1000000 in
theorem lsingle_any (t n : Int) (s : ByteArray) (b : Bool) (c : Int) (w : World) : Calls Tryz.prog 38 #[.agg #[.int .i64 t, .int .i64 n, .string s, .bool b, .int .i64 c]] w fun e w' => e = .returned (.agg #[.bool false, .int .i64 t, .int .i64 n, .string s, .bool b, .int .i64 c, .int .i64 0, .int .i64 0, .int .i64 0, .int .i64 0, .slice none 0 0]) ∧ Below w.heap.size w w' := by
  go_enter Tryz.func38, Tryz.ntmps38
  go_wp2
  refine bodyPost_ret (v := .agg #[.bool false, .int .i64 t, .int .i64 n, .string s, .bool b, .int .i64 c, .int .i64 0, .int .i64 0, .int .i64 0, .int .i64 0, .slice none 0 0]) ?_ rfl ⟨rfl, by (repeat (first | (with_reducible exact Below.refl _ _) | (with_reducible refine Below.alloc ?_ (by first | omega | (dsimp only; omega) | (simp <;> omega)) _) | (with_reducible refine Below.setCell ?_ (by first | omega | (dsimp only; omega) | (simp <;> omega)) _) | (with_reducible refine Below.drew ?_) | (with_reducible refine below_drewN ?_ _) | (with_reducible refine Below.trans ?_ (Below.mono (by assumption) (by first | omega | (dsimp only; omega) | (simp <;> omega))))))⟩
  simp [results, Tryz.results38, go_sem, *]
/-- a number that may be -/
def okN (x : Int) : Int := if x = -9223372036854775808 then 0 else x
/-- the entries of a column -/
def colE (l : List Int) : List EL := l.mapIdx fun i x => ⟨(i : Int) + 1, 1, ⟨1, okN x, ⟨#[]⟩, false, 0⟩⟩
def eRow (l : List EL) : List Value := (l.map EL.cs).flatten
theorem colE_len (l : List Int) : (colE l).length = l.length := by simp [colE]
theorem colE_snoc (l : List Int) (x : Int) : colE (l ++ [x]) = colE l ++ [⟨(l.length : Int) + 1, 1, ⟨1, okN x, ⟨#[]⟩, false, 0⟩⟩] := by
  unfold colE; rw [List.mapIdx_append]; simp
theorem eRow_app (a b : List EL) : eRow (a ++ b) = eRow a ++ eRow b := by simp [eRow]
/-- a column -/
structure ColAt (l : List Int) (w : World) (e : Ending) (w' : World) : Prop where
  out : ∃ v, e = .returned (.agg #[.bool true, .int .i64 0, .int .i64 0, .string ⟨#[]⟩, .bool false, .int .i64 0, .int .i64 1, .int .i64 1, .int .i64 (max 1 (l.length : Int)), .int .i64 1, v]) ∧ w'.ownsRow w.heap.size 59 7 v l.length (eRow (colE l))
  bel : Below w.heap.size w w'
theorem own_form {w : World} {B size n : Nat} {e : TypeId} {v : Value} {xs : List Value} (h : w.ownsRow B e size v n xs) : ∃ A cap, v = .slice A n cap := by
  rcases h.2 with ⟨rfl, rfl⟩ | ⟨g, cap, _, rfl, _⟩
  · exact ⟨_, _, rfl⟩
  · exact ⟨_, _, rfl⟩
theorem row_set {w : World} {b j : Nat} {cs : Array Value} {t : TypeId} {v : Value} (h : w.heap[b]? = some (.cells cs t (0, 0))) : (w.setCell ⟨b, j, none⟩ v).heap[b]? = some (.cells (cs.setIfInBounds j v) t (0, 0)) := by
  simp [World.setCell, Array.getElem?_modify, h]
set_option maxRecDepth 100000 in
set_option maxHeartbeats 8000000 in
theorem lcolumn_any (l : List Int) (hlen : l.length ≤ 4096) (w : World) (A : Option Addr) (cap : Nat) (hR : RdI w A l) : Calls Tryz.prog 36 #[.slice A l.length cap] w (ColAt l w) := by
  obtain ⟨i0, hi, hz0, hz1, hz2⟩ := info_parts ent_info
  have hR' := Lib.hid hR
  clear hR
  have b0 : Below w.heap.size w (w.alloc (.cells #[.bool false, .int .i64 0, .int .i64 0, .string ⟨#[]⟩, .bool false, .int .i64 0, .int .i64 0, .int .i64 0, .int .i64 0, .int .i64 0, .slice none 0 0] 38)) := (Below.refl _ _).alloc (Nat.le_refl _) _
  go_enter Tryz.func36, Tryz.ntmps36
  go_wp2
  go_loopw [4] (fun i wr => ∃ (k : Nat) (v : Value), k ≤ l.length ∧ i = .int .i64 (k : Int) ∧ wr.heap[w.heap.size + 1]? = some (.cells #[.bool true, .int .i64 0, .int .i64 0, .string ⟨#[]⟩, .bool false, .int .i64 0, .int .i64 1, .int .i64 1, .int .i64 (max 1 (k : Int)), .int .i64 1, v] 38 (0, 0)) ∧ wr.ownsRow (w.heap.size + 2) 59 7 v k (eRow (colE (l.take k))) ∧ Below (w.heap.size + 1) (w.alloc (.cells #[.bool false, .int .i64 0, .int .i64 0, .string ⟨#[]⟩, .bool false, .int .i64 0, .int .i64 0, .int .i64 0, .int .i64 0, .int .i64 0, .slice none 0 0] 38)) wr ∧ w.heap.size + 2 ≤ wr.heap.size) (fun i _ => l.length - (intOf i).toNat)
  case atStart =>
    have h9 := heap_alloc_new (w.alloc (.cells #[.bool false, .int .i64 0, .int .i64 0, .string ⟨#[]⟩, .bool false, .int .i64 0, .int .i64 0, .int .i64 0, .int .i64 0, .int .i64 0, .slice none 0 0] 38)) (.cells #[.bool true, .int .i64 0, .int .i64 0, .string ⟨#[]⟩, .bool false, .int .i64 0, .int .i64 1, .int .i64 1, .int .i64 1, .int .i64 1, .slice none 0 0] 38)
    simp only [World.size_alloc] at h9
    exact ⟨0, .slice none 0 0, Nat.zero_le _, rfl, h9, World.ownsRow_nil _ _ _ _, (Below.refl _ _).alloc (by simp) _, by simp⟩
  case round =>
    obtain ⟨k, v, hk, rfl, hrow, hown, hbr, hz⟩ := hrel
    have g0 : Below w.heap.size w wr := b0.trans (hbr.mono (by omega))
    have hcell := fun j => blk_cell hrow j
    have hfr := fun j => blk_frozen hrow j
    have e8 : wr.cell? ⟨w.heap.size + 1, 8, none⟩ = some (.int .i64 (max 1 (k : Int))) := hcell 8
    have e10 : wr.cell? ⟨w.heap.size + 1, 10, none⟩ = some v := hcell 10
    have f8 := hfr 8
    have f10 := hfr 10
    by_cases hlt : k < l.length
    · obtain ⟨x, hx⟩ : ∃ x, l[k]? = some x := ⟨_, List.getElem?_eq_getElem hlt⟩
      obtain ⟨ab, ao, hA2, hab, hcl⟩ := (hR'.out.below g0) k [.int .i64 x] (by rw [List.getElem?_map, hx]; rfl)
      obtain rfl : A = some ⟨ab, ao, none⟩ := hA2
      have hck : wr.cell? ⟨ab, ao + k, none⟩ = some (.int .i64 x) := by simpa using hcl 0 _ rfl
      have hkl : (k : Int) < (l.length : Int) := by omega
      have hk4 : (k : Int) < 4096 := by omega
      have hne : ab ≠ w.heap.size + 1 := by omega
      have hts : Hid (colE (l.take (k + 1)) = colE (l.take k) ++ [⟨(k : Int) + 1, 1, ⟨1, okN x, ⟨#[]⟩, false, 0⟩⟩]) := Lib.hid (by
        rw [List.take_add_one, hx]
        have h9 := colE_snoc (l.take k) x
        rw [List.length_take, Nat.min_eq_left (by omega)] at h9
        exact h9)
      clear hx hcl hcell hfr
      by_cases hm : x = -9223372036854775808
      · have hyx : okN x = 0 := by unfold okN; rw [if_pos hm]
        rw [hyx] at hts
        go_wp2_with fail
        clear hyx hm hck
        have hrow2 : (wr.setCell ⟨w.heap.size + 1, 8, none⟩ (.int .i64 ((k : Int) + 1))).heap[w.heap.size + 1]? = some (.cells #[.bool true, .int .i64 0, .int .i64 0, .string ⟨#[]⟩, .bool false, .int .i64 0, .int .i64 1, .int .i64 1, .int .i64 ((k : Int) + 1), .int .i64 1, v] 38 (0, 0)) := row_set hrow
        have hown2 : (wr.setCell ⟨w.heap.size + 1, 8, none⟩ (.int .i64 ((k : Int) + 1))).ownsRow (w.heap.size + 2) 59 7 v k (eRow (colE (l.take k))) := own_set hown _ _ (by simp)
        have hbr2 : Below (w.heap.size + 1) (w.alloc (.cells #[.bool false, .int .i64 0, .int .i64 0, .string ⟨#[]⟩, .bool false, .int .i64 0, .int .i64 0, .int .i64 0, .int .i64 0, .int .i64 0, .slice none 0 0] 38)) (wr.setCell ⟨w.heap.size + 1, 8, none⟩ (.int .i64 ((k : Int) + 1))) := hbr.setCell (p := ⟨w.heap.size + 1, 8, none⟩) (Nat.le_refl _) _
        have hz2' : w.heap.size + 2 ≤ (wr.setCell ⟨w.heap.size + 1, 8, none⟩ (.int .i64 ((k : Int) + 1))).heap.size := by simp; omega
        clear hrow hown hbr e8 e10 f8 f10 g0
        generalize (wr.setCell ⟨w.heap.size + 1, 8, none⟩ (.int .i64 ((k : Int) + 1))) = wq at *
        have q10 : wq.cell? ⟨w.heap.size + 1, 10, none⟩ = some v := blk_cell hrow2 10
        have hlq : w.heap.size + 1 < wq.heap.size := by omega
        have hwk : IntKind.i64.wrap ((k : Int) + 1) = (k : Int) + 1 := IntWalk.i64_in _ (by omega)
        refine wp_region_noPanic ?_
        refine wp_region_held_drew (S := fun _ => True) (by kernel_rfl) trivial (fun hHeld => ?_)
        refine wpAnyH_take (i := 0) (oi := ⟨_, _, _, _, _, _⟩) (v := ?v1) rfl (by kernel_rfl) (by kernel_rfl) (by kernel_rfl) (fun _ _ _ h => h) (Or.inl ⟨by rfl, ?hy1⟩) trivial ?rest1
        case hy1 => (intro w2 hSw; go_simp; first | done | with_reducible rfl)
        try simp only [Act.put, List.setIfInBounds_toArray, List.set_cons_zero, List.set_cons_succ]
        refine wpAnyH_take (i := 2) (oi := ⟨_, _, _, _, _, _⟩) (v := ?v2) rfl (by kernel_rfl) (by kernel_rfl) (by kernel_rfl) (fun _ _ _ h => h) (Or.inl ⟨by rfl, ?hy2⟩) trivial ?rest2
        case hy2 => (intro w2 hSw; go_simp; first | done | with_reducible rfl)
        try simp only [Act.put, List.setIfInBounds_toArray, List.set_cons_zero, List.set_cons_succ]
        refine wpAnyH_take (i := 3) (oi := ⟨_, _, _, _, _, _⟩) (v := ?v3) rfl (by kernel_rfl) (by kernel_rfl) (by kernel_rfl) (fun _ _ _ h => h) (Or.inl ⟨by rfl, ?hy3⟩) trivial ?rest3
        case hy3 => (intro w2 hSw; go_simp; first | done | with_reducible rfl)
        try simp only [Act.put, List.setIfInBounds_toArray, List.set_cons_zero, List.set_cons_succ]
        refine wpAnyH_take (i := 4) (oi := ⟨_, _, _, _, _, _⟩) (v := ?v4) rfl (by kernel_rfl) (by kernel_rfl) (by kernel_rfl) (fun _ _ _ h => h) (Or.inl ⟨by rfl, ?hy4⟩) trivial ?rest4
        case hy4 => (intro w2 hSw; go_simp; first | done | with_reducible rfl)
        try simp only [Act.put, List.setIfInBounds_toArray, List.set_cons_zero, List.set_cons_succ]
        refine wpAnyH_take (i := 5) (oi := ⟨_, _, _, _, _, _⟩) (v := ?v5) rfl (by kernel_rfl) (by kernel_rfl) (by kernel_rfl) (fun _ _ _ h => h) (Or.inl ⟨by rfl, ?hy5⟩) trivial ?rest5
        case hy5 => (intro w2 hSw; go_simp; first | done | with_reducible rfl)
        try simp only [Act.put, List.setIfInBounds_toArray, List.set_cons_zero, List.set_cons_succ]
        refine wpAnyH_ready (rs := [1, 6]) (by kernel_rfl) (by simp) ?_
        refine AllReadyH.cons (o := ⟨_, _, _, _, _, _⟩) rfl (fun K hK => ?_) (AllReadyH.cons (o := ⟨_, _, _, _, _, _⟩) rfl (fun K hK => ?_) AllReadyH.nil)
        · go_simp
          refine hK.out _ _ trivial (fun _ => ?_)
          clear hK K
          try simp only [Act.put, List.setIfInBounds_toArray, List.set_cons_zero, List.set_cons_succ]
          refine wpAnyH_ready (rs := [6]) (by kernel_rfl) (by simp) ?_
          refine AllReadyH.cons (o := ⟨_, _, _, _, _, _⟩) rfl (fun K hK => ?_) AllReadyH.nil
          go_simp
          refine (lnumber_any 0 _).mono ?_
          rintro e w1 ⟨rfl, hb0⟩
          have hb : Below wq.heap.size wq w1 := ((Below.refl wq.heap.size wq).drew).trans hb0
          have hown3 := ownsRow_below hown2 hb
          have hrow3 := (hb.block (w.heap.size + 1) hlq).trans hrow2
          have g10 := (hb.cell (p := ⟨w.heap.size + 1, 10, none⟩) hlq).trans q10
          have hb3 := hbr2.trans (hb.mono (show w.heap.size + 1 ≤ wq.heap.size by omega))
          have hl1 : w.heap.size + 1 < w1.heap.size := Nat.lt_of_lt_of_le hlq hb.size
          refine hK.out _ _ trivial (fun _ => ?_)
          clear hK K
          try simp only [Act.put, List.setIfInBounds_toArray, List.set_cons_zero, List.set_cons_succ]
          refine wpAnyH_take (i := 7) (oi := ⟨_, _, _, _, _, _⟩) (v := ?v6) rfl (by kernel_rfl) (by kernel_rfl) (by kernel_rfl) (fun _ _ _ h => h) (Or.inl ⟨by rfl, ?hy6⟩) trivial ?rest6
          case hy6 => (intro w2 hSw; go_simp; first | done | with_reducible rfl)
          try simp only [Act.put, List.setIfInBounds_toArray, List.set_cons_zero, List.set_cons_succ]
          refine wpAnyH_ready (rs := [8]) (by kernel_rfl) (by simp) ?_
          refine AllReadyH.cons (o := ⟨_, _, _, _, _, _⟩) rfl (fun K hK => ?_) AllReadyH.nil
          go_simp
          refine hK.out _ _ trivial (fun _ => ?_)
          clear hK K
          try simp only [Act.put, List.setIfInBounds_toArray, List.set_cons_zero, List.set_cons_succ]
          refine wpAnyH_ready (rs := [9]) (by kernel_rfl) (by simp) ?_
          refine AllReadyH.cons (o := ⟨_, _, _, _, _, _⟩) rfl (fun K hK => ?_) AllReadyH.nil
          refine step_append_lies _ (by rfl) _ _ _ (by rfl) (w.heap.size + 2) 59 i0 _ 7 64 Tryz.underlying36 hi hz0 hz1 hz2 rfl (by omega) v k _ (by rfl) (hown3.alloc _) ⟨w1.heap.size, 0, none⟩ 1 1 [.int .i64 ((k : Int) + 1), .int .i64 1, .int .i64 1, .int .i64 0, .string ⟨#[]⟩, .bool false, .int .i64 0] (by rfl) (by rfl) (World.news_of_block (cs := #[.int .i64 ((k : Int) + 1), .int .i64 1, .int .i64 1, .int .i64 0, .string ⟨#[]⟩, .bool false, .int .i64 0]) (t := 59) (fr := (0, 0)) (heap_alloc_new w1 _)) (by simp [Value.oneCell']) (by omega) (by unfold maxLen; omega) (by omega) (by simp; omega) (w1.heap.size + 1) (by simp) ?_
          intro gg cap5 w5 hown5 hgrow5 hat5 hlt5
          have hrw5 := (hgrow5.block (w.heap.size + 1) (by simp; omega) (fun e => by have := (hown3.lt _ (by first | exact e | exact e.symm)).1; omega)).trans ((Lib.alloc_old w1 _ _ hl1).trans hrow3)
          have g5 : w5.cell? ⟨w.heap.size + 1, 10, none⟩ = some v := blk_cell hrw5 10
          have f5 := blk_frozen hrw5 10
          have hb5 : Below (w.heap.size + 1) (w.alloc (.cells #[.bool false, .int .i64 0, .int .i64 0, .string ⟨#[]⟩, .bool false, .int .i64 0, .int .i64 0, .int .i64 0, .int .i64 0, .int .i64 0, .slice none 0 0] 38)) w5 := (hb3.alloc (by omega) _).grown hgrow5 (by simp; omega) (fun q hq => by have := (hown3.lt q hq).1; omega)
          have hz5 : w.heap.size + 2 ≤ w5.heap.size := by (have := hgrow5.size; simp at this; omega)
          refine hK.out _ _ trivial (fun _ => ?_)
          clear hK K
          try simp only [Act.put, List.setIfInBounds_toArray, List.set_cons_zero, List.set_cons_succ]
          refine wpAnyH_take (i := 10) (oi := ⟨_, _, _, _, _, _⟩) (v := ?v7) rfl (by kernel_rfl) (by kernel_rfl) (by kernel_rfl) (fun _ _ _ h => h) (Or.inl ⟨by rfl, ?hy7⟩) trivial ?rest7
          case hy7 => (intro w2 hSw; go_simp; first | done | with_reducible rfl)
          try simp only [Act.put, List.setIfInBounds_toArray, List.set_cons_zero, List.set_cons_succ]
          refine wpAnyH_ready (rs := [11]) (by kernel_rfl) (by simp) ?_
          refine AllReadyH.cons (o := ⟨_, _, _, _, _, _⟩) rfl (fun K hK => ?_) AllReadyH.nil
          go_simp
          refine hK.out _ _ trivial (fun _ => ?_)
          clear hK K
          try simp only [Act.put, List.setIfInBounds_toArray, List.set_cons_zero, List.set_cons_succ]
          refine wpAnyH_done (by kernel_rfl) ?_ _
          refine NoPanic.normal ?_
          go_wp2
          exact ⟨⟨k + 1, _, by omega, by go_num, by rw [show max 1 (((k + 1 : Nat)) : Int) = (k : Int) + 1 by omega]; exact row_set hrw5, by rw [hts.out, eRow_app]; exact own_set hown5 _ _ (by simp), hb5.setCell (p := ⟨w.heap.size + 1, 10, none⟩) (Nat.le_refl _) _, by simp; omega⟩, by simp [intOf]; omega⟩
        · go_simp
          refine (lnumber_any 0 _).mono ?_
          rintro e w1 ⟨rfl, hb0⟩
          have hb : Below wq.heap.size wq w1 := ((Below.refl wq.heap.size wq).drew).trans hb0
          have hown3 := ownsRow_below hown2 hb
          have hrow3 := (hb.block (w.heap.size + 1) hlq).trans hrow2
          have g10 := (hb.cell (p := ⟨w.heap.size + 1, 10, none⟩) hlq).trans q10
          have hb3 := hbr2.trans (hb.mono (show w.heap.size + 1 ≤ wq.heap.size by omega))
          have hl1 : w.heap.size + 1 < w1.heap.size := Nat.lt_of_lt_of_le hlq hb.size
          refine hK.out _ _ trivial (fun _ => ?_)
          clear hK K
          try simp only [Act.put, List.setIfInBounds_toArray, List.set_cons_zero, List.set_cons_succ]
          refine wpAnyH_take (i := 7) (oi := ⟨_, _, _, _, _, _⟩) (v := ?v8) rfl (by kernel_rfl) (by kernel_rfl) (by kernel_rfl) (fun _ _ _ h => h) (Or.inl ⟨by rfl, ?hy8⟩) trivial ?rest8
          case hy8 => (intro w2 hSw; go_simp; first | done | with_reducible rfl)
          try simp only [Act.put, List.setIfInBounds_toArray, List.set_cons_zero, List.set_cons_succ]
          refine wpAnyH_ready (rs := [1, 8]) (by kernel_rfl) (by simp) ?_
          refine AllReadyH.cons (o := ⟨_, _, _, _, _, _⟩) rfl (fun K hK => ?_) (AllReadyH.cons (o := ⟨_, _, _, _, _, _⟩) rfl (fun K hK => ?_) AllReadyH.nil)
          · go_simp
            refine hK.out _ _ trivial (fun _ => ?_)
            clear hK K
            try simp only [Act.put, List.setIfInBounds_toArray, List.set_cons_zero, List.set_cons_succ]
            refine wpAnyH_ready (rs := [8]) (by kernel_rfl) (by simp) ?_
            refine AllReadyH.cons (o := ⟨_, _, _, _, _, _⟩) rfl (fun K hK => ?_) AllReadyH.nil
            go_simp
            refine hK.out _ _ trivial (fun _ => ?_)
            clear hK K
            try simp only [Act.put, List.setIfInBounds_toArray, List.set_cons_zero, List.set_cons_succ]
            refine wpAnyH_ready (rs := [9]) (by kernel_rfl) (by simp) ?_
            refine AllReadyH.cons (o := ⟨_, _, _, _, _, _⟩) rfl (fun K hK => ?_) AllReadyH.nil
            refine step_append_lies _ (by rfl) _ _ _ (by rfl) (w.heap.size + 2) 59 i0 _ 7 64 Tryz.underlying36 hi hz0 hz1 hz2 rfl (by omega) v k _ (by rfl) (hown3.alloc _) ⟨w1.heap.size, 0, none⟩ 1 1 [.int .i64 ((k : Int) + 1), .int .i64 1, .int .i64 1, .int .i64 0, .string ⟨#[]⟩, .bool false, .int .i64 0] (by rfl) (by rfl) (World.news_of_block (cs := #[.int .i64 ((k : Int) + 1), .int .i64 1, .int .i64 1, .int .i64 0, .string ⟨#[]⟩, .bool false, .int .i64 0]) (t := 59) (fr := (0, 0)) (heap_alloc_new w1 _)) (by simp [Value.oneCell']) (by omega) (by unfold maxLen; omega) (by omega) (by simp; omega) (w1.heap.size + 1) (by simp) ?_
            intro gg cap5 w5 hown5 hgrow5 hat5 hlt5
            have hrw5 := (hgrow5.block (w.heap.size + 1) (by simp; omega) (fun e => by have := (hown3.lt _ (by first | exact e | exact e.symm)).1; omega)).trans ((Lib.alloc_old w1 _ _ hl1).trans hrow3)
            have g5 : w5.cell? ⟨w.heap.size + 1, 10, none⟩ = some v := blk_cell hrw5 10
            have f5 := blk_frozen hrw5 10
            have hb5 : Below (w.heap.size + 1) (w.alloc (.cells #[.bool false, .int .i64 0, .int .i64 0, .string ⟨#[]⟩, .bool false, .int .i64 0, .int .i64 0, .int .i64 0, .int .i64 0, .int .i64 0, .slice none 0 0] 38)) w5 := (hb3.alloc (by omega) _).grown hgrow5 (by simp; omega) (fun q hq => by have := (hown3.lt q hq).1; omega)
            have hz5 : w.heap.size + 2 ≤ w5.heap.size := by (have := hgrow5.size; simp at this; omega)
            refine hK.out _ _ trivial (fun _ => ?_)
            clear hK K
            try simp only [Act.put, List.setIfInBounds_toArray, List.set_cons_zero, List.set_cons_succ]
            refine wpAnyH_take (i := 10) (oi := ⟨_, _, _, _, _, _⟩) (v := ?v9) rfl (by kernel_rfl) (by kernel_rfl) (by kernel_rfl) (fun _ _ _ h => h) (Or.inl ⟨by rfl, ?hy9⟩) trivial ?rest9
            case hy9 => (intro w2 hSw; go_simp; first | done | with_reducible rfl)
            try simp only [Act.put, List.setIfInBounds_toArray, List.set_cons_zero, List.set_cons_succ]
            refine wpAnyH_ready (rs := [11]) (by kernel_rfl) (by simp) ?_
            refine AllReadyH.cons (o := ⟨_, _, _, _, _, _⟩) rfl (fun K hK => ?_) AllReadyH.nil
            go_simp
            refine hK.out _ _ trivial (fun _ => ?_)
            clear hK K
            try simp only [Act.put, List.setIfInBounds_toArray, List.set_cons_zero, List.set_cons_succ]
            refine wpAnyH_done (by kernel_rfl) ?_ _
            refine NoPanic.normal ?_
            go_wp2
            exact ⟨⟨k + 1, _, by omega, by go_num, by rw [show max 1 (((k + 1 : Nat)) : Int) = (k : Int) + 1 by omega]; exact row_set hrw5, by rw [hts.out, eRow_app]; exact own_set hown5 _ _ (by simp), hb5.setCell (p := ⟨w.heap.size + 1, 10, none⟩) (Nat.le_refl _) _, by simp; omega⟩, by simp [intOf]; omega⟩
          · go_simp
            refine hK.out _ _ trivial (fun _ => ?_)
            clear hK K
            try simp only [Act.put, List.setIfInBounds_toArray, List.set_cons_zero, List.set_cons_succ]
            refine wpAnyH_ready (rs := [1]) (by kernel_rfl) (by simp) ?_
            refine AllReadyH.cons (o := ⟨_, _, _, _, _, _⟩) rfl (fun K hK => ?_) AllReadyH.nil
            go_simp
            refine hK.out _ _ trivial (fun _ => ?_)
            clear hK K
            try simp only [Act.put, List.setIfInBounds_toArray, List.set_cons_zero, List.set_cons_succ]
            refine wpAnyH_ready (rs := [9]) (by kernel_rfl) (by simp) ?_
            refine AllReadyH.cons (o := ⟨_, _, _, _, _, _⟩) rfl (fun K hK => ?_) AllReadyH.nil
            refine step_append_lies _ (by rfl) _ _ _ (by rfl) (w.heap.size + 2) 59 i0 _ 7 64 Tryz.underlying36 hi hz0 hz1 hz2 rfl (by omega) v k _ (by rfl) (hown3.alloc _) ⟨w1.heap.size, 0, none⟩ 1 1 [.int .i64 ((k : Int) + 1), .int .i64 1, .int .i64 1, .int .i64 0, .string ⟨#[]⟩, .bool false, .int .i64 0] (by rfl) (by rfl) (World.news_of_block (cs := #[.int .i64 ((k : Int) + 1), .int .i64 1, .int .i64 1, .int .i64 0, .string ⟨#[]⟩, .bool false, .int .i64 0]) (t := 59) (fr := (0, 0)) (heap_alloc_new w1 _)) (by simp [Value.oneCell']) (by omega) (by unfold maxLen; omega) (by omega) (by simp; omega) (w1.heap.size + 1) (by simp) ?_
            intro gg cap5 w5 hown5 hgrow5 hat5 hlt5
            have hrw5 := (hgrow5.block (w.heap.size + 1) (by simp; omega) (fun e => by have := (hown3.lt _ (by first | exact e | exact e.symm)).1; omega)).trans ((Lib.alloc_old w1 _ _ hl1).trans hrow3)
            have g5 : w5.cell? ⟨w.heap.size + 1, 10, none⟩ = some v := blk_cell hrw5 10
            have f5 := blk_frozen hrw5 10
            have hb5 : Below (w.heap.size + 1) (w.alloc (.cells #[.bool false, .int .i64 0, .int .i64 0, .string ⟨#[]⟩, .bool false, .int .i64 0, .int .i64 0, .int .i64 0, .int .i64 0, .int .i64 0, .slice none 0 0] 38)) w5 := (hb3.alloc (by omega) _).grown hgrow5 (by simp; omega) (fun q hq => by have := (hown3.lt q hq).1; omega)
            have hz5 : w.heap.size + 2 ≤ w5.heap.size := by (have := hgrow5.size; simp at this; omega)
            refine hK.out _ _ trivial (fun _ => ?_)
            clear hK K
            try simp only [Act.put, List.setIfInBounds_toArray, List.set_cons_zero, List.set_cons_succ]
            refine wpAnyH_take (i := 10) (oi := ⟨_, _, _, _, _, _⟩) (v := ?v10) rfl (by kernel_rfl) (by kernel_rfl) (by kernel_rfl) (fun _ _ _ h => h) (Or.inl ⟨by rfl, ?hy10⟩) trivial ?rest10
            case hy10 => (intro w2 hSw; go_simp; first | done | with_reducible rfl)
            try simp only [Act.put, List.setIfInBounds_toArray, List.set_cons_zero, List.set_cons_succ]
            refine wpAnyH_ready (rs := [11]) (by kernel_rfl) (by simp) ?_
            refine AllReadyH.cons (o := ⟨_, _, _, _, _, _⟩) rfl (fun K hK => ?_) AllReadyH.nil
            go_simp
            refine hK.out _ _ trivial (fun _ => ?_)
            clear hK K
            try simp only [Act.put, List.setIfInBounds_toArray, List.set_cons_zero, List.set_cons_succ]
            refine wpAnyH_done (by kernel_rfl) ?_ _
            refine NoPanic.normal ?_
            go_wp2
            exact ⟨⟨k + 1, _, by omega, by go_num, by rw [show max 1 (((k + 1 : Nat)) : Int) = (k : Int) + 1 by omega]; exact row_set hrw5, by rw [hts.out, eRow_app]; exact own_set hown5 _ _ (by simp), hb5.setCell (p := ⟨w.heap.size + 1, 10, none⟩) (Nat.le_refl _) _, by simp; omega⟩, by simp [intOf]; omega⟩
      · have hyx : okN x = x := by unfold okN; rw [if_neg hm]
        rw [hyx] at hts
        go_wp2_with fail
        generalize hyg : x = y at hts ⊢
        clear hyg hyx hm hck
        have hrow2 : (wr.setCell ⟨w.heap.size + 1, 8, none⟩ (.int .i64 ((k : Int) + 1))).heap[w.heap.size + 1]? = some (.cells #[.bool true, .int .i64 0, .int .i64 0, .string ⟨#[]⟩, .bool false, .int .i64 0, .int .i64 1, .int .i64 1, .int .i64 ((k : Int) + 1), .int .i64 1, v] 38 (0, 0)) := row_set hrow
        have hown2 : (wr.setCell ⟨w.heap.size + 1, 8, none⟩ (.int .i64 ((k : Int) + 1))).ownsRow (w.heap.size + 2) 59 7 v k (eRow (colE (l.take k))) := own_set hown _ _ (by simp)
        have hbr2 : Below (w.heap.size + 1) (w.alloc (.cells #[.bool false, .int .i64 0, .int .i64 0, .string ⟨#[]⟩, .bool false, .int .i64 0, .int .i64 0, .int .i64 0, .int .i64 0, .int .i64 0, .slice none 0 0] 38)) (wr.setCell ⟨w.heap.size + 1, 8, none⟩ (.int .i64 ((k : Int) + 1))) := hbr.setCell (p := ⟨w.heap.size + 1, 8, none⟩) (Nat.le_refl _) _
        have hz2' : w.heap.size + 2 ≤ (wr.setCell ⟨w.heap.size + 1, 8, none⟩ (.int .i64 ((k : Int) + 1))).heap.size := by simp; omega
        clear hrow hown hbr e8 e10 f8 f10 g0
        generalize (wr.setCell ⟨w.heap.size + 1, 8, none⟩ (.int .i64 ((k : Int) + 1))) = wq at *
        have q10 : wq.cell? ⟨w.heap.size + 1, 10, none⟩ = some v := blk_cell hrow2 10
        have hlq : w.heap.size + 1 < wq.heap.size := by omega
        have hwk : IntKind.i64.wrap ((k : Int) + 1) = (k : Int) + 1 := IntWalk.i64_in _ (by omega)
        refine wp_region_noPanic ?_
        refine wp_region_held_drew (S := fun _ => True) (by kernel_rfl) trivial (fun hHeld => ?_)
        refine wpAnyH_take (i := 0) (oi := ⟨_, _, _, _, _, _⟩) (v := ?v11) rfl (by kernel_rfl) (by kernel_rfl) (by kernel_rfl) (fun _ _ _ h => h) (Or.inl ⟨by rfl, ?hy11⟩) trivial ?rest11
        case hy11 => (intro w2 hSw; go_simp; first | done | with_reducible rfl)
        try simp only [Act.put, List.setIfInBounds_toArray, List.set_cons_zero, List.set_cons_succ]
        refine wpAnyH_take (i := 2) (oi := ⟨_, _, _, _, _, _⟩) (v := ?v12) rfl (by kernel_rfl) (by kernel_rfl) (by kernel_rfl) (fun _ _ _ h => h) (Or.inl ⟨by rfl, ?hy12⟩) trivial ?rest12
        case hy12 => (intro w2 hSw; go_simp; first | done | with_reducible rfl)
        try simp only [Act.put, List.setIfInBounds_toArray, List.set_cons_zero, List.set_cons_succ]
        refine wpAnyH_take (i := 3) (oi := ⟨_, _, _, _, _, _⟩) (v := ?v13) rfl (by kernel_rfl) (by kernel_rfl) (by kernel_rfl) (fun _ _ _ h => h) (Or.inl ⟨by rfl, ?hy13⟩) trivial ?rest13
        case hy13 => (intro w2 hSw; go_simp; first | done | with_reducible rfl)
        try simp only [Act.put, List.setIfInBounds_toArray, List.set_cons_zero, List.set_cons_succ]
        refine wpAnyH_take (i := 4) (oi := ⟨_, _, _, _, _, _⟩) (v := ?v14) rfl (by kernel_rfl) (by kernel_rfl) (by kernel_rfl) (fun _ _ _ h => h) (Or.inl ⟨by rfl, ?hy14⟩) trivial ?rest14
        case hy14 => (intro w2 hSw; go_simp; first | done | with_reducible rfl)
        try simp only [Act.put, List.setIfInBounds_toArray, List.set_cons_zero, List.set_cons_succ]
        refine wpAnyH_take (i := 5) (oi := ⟨_, _, _, _, _, _⟩) (v := ?v15) rfl (by kernel_rfl) (by kernel_rfl) (by kernel_rfl) (fun _ _ _ h => h) (Or.inl ⟨by rfl, ?hy15⟩) trivial ?rest15
        case hy15 => (intro w2 hSw; go_simp; first | done | with_reducible rfl)
        try simp only [Act.put, List.setIfInBounds_toArray, List.set_cons_zero, List.set_cons_succ]
        refine wpAnyH_ready (rs := [1, 6]) (by kernel_rfl) (by simp) ?_
        refine AllReadyH.cons (o := ⟨_, _, _, _, _, _⟩) rfl (fun K hK => ?_) (AllReadyH.cons (o := ⟨_, _, _, _, _, _⟩) rfl (fun K hK => ?_) AllReadyH.nil)
        · go_simp
          refine hK.out _ _ trivial (fun _ => ?_)
          clear hK K
          try simp only [Act.put, List.setIfInBounds_toArray, List.set_cons_zero, List.set_cons_succ]
          refine wpAnyH_ready (rs := [6]) (by kernel_rfl) (by simp) ?_
          refine AllReadyH.cons (o := ⟨_, _, _, _, _, _⟩) rfl (fun K hK => ?_) AllReadyH.nil
          go_simp
          refine (lnumber_any y _).mono ?_
          rintro e w1 ⟨rfl, hb0⟩
          have hb : Below wq.heap.size wq w1 := ((Below.refl wq.heap.size wq).drew).trans hb0
          have hown3 := ownsRow_below hown2 hb
          have hrow3 := (hb.block (w.heap.size + 1) hlq).trans hrow2
          have g10 := (hb.cell (p := ⟨w.heap.size + 1, 10, none⟩) hlq).trans q10
          have hb3 := hbr2.trans (hb.mono (show w.heap.size + 1 ≤ wq.heap.size by omega))
          have hl1 : w.heap.size + 1 < w1.heap.size := Nat.lt_of_lt_of_le hlq hb.size
          refine hK.out _ _ trivial (fun _ => ?_)
          clear hK K
          try simp only [Act.put, List.setIfInBounds_toArray, List.set_cons_zero, List.set_cons_succ]
          refine wpAnyH_take (i := 7) (oi := ⟨_, _, _, _, _, _⟩) (v := ?v16) rfl (by kernel_rfl) (by kernel_rfl) (by kernel_rfl) (fun _ _ _ h => h) (Or.inl ⟨by rfl, ?hy16⟩) trivial ?rest16
          case hy16 => (intro w2 hSw; go_simp; first | done | with_reducible rfl)
          try simp only [Act.put, List.setIfInBounds_toArray, List.set_cons_zero, List.set_cons_succ]
          refine wpAnyH_ready (rs := [8]) (by kernel_rfl) (by simp) ?_
          refine AllReadyH.cons (o := ⟨_, _, _, _, _, _⟩) rfl (fun K hK => ?_) AllReadyH.nil
          go_simp
          refine hK.out _ _ trivial (fun _ => ?_)
          clear hK K
          try simp only [Act.put, List.setIfInBounds_toArray, List.set_cons_zero, List.set_cons_succ]
          refine wpAnyH_ready (rs := [9]) (by kernel_rfl) (by simp) ?_
          refine AllReadyH.cons (o := ⟨_, _, _, _, _, _⟩) rfl (fun K hK => ?_) AllReadyH.nil
          refine step_append_lies _ (by rfl) _ _ _ (by rfl) (w.heap.size + 2) 59 i0 _ 7 64 Tryz.underlying36 hi hz0 hz1 hz2 rfl (by omega) v k _ (by rfl) (hown3.alloc _) ⟨w1.heap.size, 0, none⟩ 1 1 [.int .i64 ((k : Int) + 1), .int .i64 1, .int .i64 1, .int .i64 y, .string ⟨#[]⟩, .bool false, .int .i64 0] (by rfl) (by rfl) (World.news_of_block (cs := #[.int .i64 ((k : Int) + 1), .int .i64 1, .int .i64 1, .int .i64 y, .string ⟨#[]⟩, .bool false, .int .i64 0]) (t := 59) (fr := (0, 0)) (heap_alloc_new w1 _)) (by simp [Value.oneCell']) (by omega) (by unfold maxLen; omega) (by omega) (by simp; omega) (w1.heap.size + 1) (by simp) ?_
          intro gg cap5 w5 hown5 hgrow5 hat5 hlt5
          have hrw5 := (hgrow5.block (w.heap.size + 1) (by simp; omega) (fun e => by have := (hown3.lt _ (by first | exact e | exact e.symm)).1; omega)).trans ((Lib.alloc_old w1 _ _ hl1).trans hrow3)
          have g5 : w5.cell? ⟨w.heap.size + 1, 10, none⟩ = some v := blk_cell hrw5 10
          have f5 := blk_frozen hrw5 10
          have hb5 : Below (w.heap.size + 1) (w.alloc (.cells #[.bool false, .int .i64 0, .int .i64 0, .string ⟨#[]⟩, .bool false, .int .i64 0, .int .i64 0, .int .i64 0, .int .i64 0, .int .i64 0, .slice none 0 0] 38)) w5 := (hb3.alloc (by omega) _).grown hgrow5 (by simp; omega) (fun q hq => by have := (hown3.lt q hq).1; omega)
          have hz5 : w.heap.size + 2 ≤ w5.heap.size := by (have := hgrow5.size; simp at this; omega)
          refine hK.out _ _ trivial (fun _ => ?_)
          clear hK K
          try simp only [Act.put, List.setIfInBounds_toArray, List.set_cons_zero, List.set_cons_succ]
          refine wpAnyH_take (i := 10) (oi := ⟨_, _, _, _, _, _⟩) (v := ?v17) rfl (by kernel_rfl) (by kernel_rfl) (by kernel_rfl) (fun _ _ _ h => h) (Or.inl ⟨by rfl, ?hy17⟩) trivial ?rest17
          case hy17 => (intro w2 hSw; go_simp; first | done | with_reducible rfl)
          try simp only [Act.put, List.setIfInBounds_toArray, List.set_cons_zero, List.set_cons_succ]
          refine wpAnyH_ready (rs := [11]) (by kernel_rfl) (by simp) ?_
          refine AllReadyH.cons (o := ⟨_, _, _, _, _, _⟩) rfl (fun K hK => ?_) AllReadyH.nil
          go_simp
          refine hK.out _ _ trivial (fun _ => ?_)
          clear hK K
          try simp only [Act.put, List.setIfInBounds_toArray, List.set_cons_zero, List.set_cons_succ]
          refine wpAnyH_done (by kernel_rfl) ?_ _
          refine NoPanic.normal ?_
          go_wp2
          exact ⟨⟨k + 1, _, by omega, by go_num, by rw [show max 1 (((k + 1 : Nat)) : Int) = (k : Int) + 1 by omega]; exact row_set hrw5, by rw [hts.out, eRow_app]; exact own_set hown5 _ _ (by simp), hb5.setCell (p := ⟨w.heap.size + 1, 10, none⟩) (Nat.le_refl _) _, by simp; omega⟩, by simp [intOf]; omega⟩
        · go_simp
          refine (lnumber_any y _).mono ?_
          rintro e w1 ⟨rfl, hb0⟩
          have hb : Below wq.heap.size wq w1 := ((Below.refl wq.heap.size wq).drew).trans hb0
          have hown3 := ownsRow_below hown2 hb
          have hrow3 := (hb.block (w.heap.size + 1) hlq).trans hrow2
          have g10 := (hb.cell (p := ⟨w.heap.size + 1, 10, none⟩) hlq).trans q10
          have hb3 := hbr2.trans (hb.mono (show w.heap.size + 1 ≤ wq.heap.size by omega))
          have hl1 : w.heap.size + 1 < w1.heap.size := Nat.lt_of_lt_of_le hlq hb.size
          refine hK.out _ _ trivial (fun _ => ?_)
          clear hK K
          try simp only [Act.put, List.setIfInBounds_toArray, List.set_cons_zero, List.set_cons_succ]
          refine wpAnyH_take (i := 7) (oi := ⟨_, _, _, _, _, _⟩) (v := ?v18) rfl (by kernel_rfl) (by kernel_rfl) (by kernel_rfl) (fun _ _ _ h => h) (Or.inl ⟨by rfl, ?hy18⟩) trivial ?rest18
          case hy18 => (intro w2 hSw; go_simp; first | done | with_reducible rfl)
          try simp only [Act.put, List.setIfInBounds_toArray, List.set_cons_zero, List.set_cons_succ]
          refine wpAnyH_ready (rs := [1, 8]) (by kernel_rfl) (by simp) ?_
          refine AllReadyH.cons (o := ⟨_, _, _, _, _, _⟩) rfl (fun K hK => ?_) (AllReadyH.cons (o := ⟨_, _, _, _, _, _⟩) rfl (fun K hK => ?_) AllReadyH.nil)
          · go_simp
            refine hK.out _ _ trivial (fun _ => ?_)
            clear hK K
            try simp only [Act.put, List.setIfInBounds_toArray, List.set_cons_zero, List.set_cons_succ]
            refine wpAnyH_ready (rs := [8]) (by kernel_rfl) (by simp) ?_
            refine AllReadyH.cons (o := ⟨_, _, _, _, _, _⟩) rfl (fun K hK => ?_) AllReadyH.nil
            go_simp
            refine hK.out _ _ trivial (fun _ => ?_)
            clear hK K
            try simp only [Act.put, List.setIfInBounds_toArray, List.set_cons_zero, List.set_cons_succ]
            refine wpAnyH_ready (rs := [9]) (by kernel_rfl) (by simp) ?_
            refine AllReadyH.cons (o := ⟨_, _, _, _, _, _⟩) rfl (fun K hK => ?_) AllReadyH.nil
            refine step_append_lies _ (by rfl) _ _ _ (by rfl) (w.heap.size + 2) 59 i0 _ 7 64 Tryz.underlying36 hi hz0 hz1 hz2 rfl (by omega) v k _ (by rfl) (hown3.alloc _) ⟨w1.heap.size, 0, none⟩ 1 1 [.int .i64 ((k : Int) + 1), .int .i64 1, .int .i64 1, .int .i64 y, .string ⟨#[]⟩, .bool false, .int .i64 0] (by rfl) (by rfl) (World.news_of_block (cs := #[.int .i64 ((k : Int) + 1), .int .i64 1, .int .i64 1, .int .i64 y, .string ⟨#[]⟩, .bool false, .int .i64 0]) (t := 59) (fr := (0, 0)) (heap_alloc_new w1 _)) (by simp [Value.oneCell']) (by omega) (by unfold maxLen; omega) (by omega) (by simp; omega) (w1.heap.size + 1) (by simp) ?_
            intro gg cap5 w5 hown5 hgrow5 hat5 hlt5
            have hrw5 := (hgrow5.block (w.heap.size + 1) (by simp; omega) (fun e => by have := (hown3.lt _ (by first | exact e | exact e.symm)).1; omega)).trans ((Lib.alloc_old w1 _ _ hl1).trans hrow3)
            have g5 : w5.cell? ⟨w.heap.size + 1, 10, none⟩ = some v := blk_cell hrw5 10
            have f5 := blk_frozen hrw5 10
            have hb5 : Below (w.heap.size + 1) (w.alloc (.cells #[.bool false, .int .i64 0, .int .i64 0, .string ⟨#[]⟩, .bool false, .int .i64 0, .int .i64 0, .int .i64 0, .int .i64 0, .int .i64 0, .slice none 0 0] 38)) w5 := (hb3.alloc (by omega) _).grown hgrow5 (by simp; omega) (fun q hq => by have := (hown3.lt q hq).1; omega)
            have hz5 : w.heap.size + 2 ≤ w5.heap.size := by (have := hgrow5.size; simp at this; omega)
            refine hK.out _ _ trivial (fun _ => ?_)
            clear hK K
            try simp only [Act.put, List.setIfInBounds_toArray, List.set_cons_zero, List.set_cons_succ]
            refine wpAnyH_take (i := 10) (oi := ⟨_, _, _, _, _, _⟩) (v := ?v19) rfl (by kernel_rfl) (by kernel_rfl) (by kernel_rfl) (fun _ _ _ h => h) (Or.inl ⟨by rfl, ?hy19⟩) trivial ?rest19
            case hy19 => (intro w2 hSw; go_simp; first | done | with_reducible rfl)
            try simp only [Act.put, List.setIfInBounds_toArray, List.set_cons_zero, List.set_cons_succ]
            refine wpAnyH_ready (rs := [11]) (by kernel_rfl) (by simp) ?_
            refine AllReadyH.cons (o := ⟨_, _, _, _, _, _⟩) rfl (fun K hK => ?_) AllReadyH.nil
            go_simp
            refine hK.out _ _ trivial (fun _ => ?_)
            clear hK K
            try simp only [Act.put, List.setIfInBounds_toArray, List.set_cons_zero, List.set_cons_succ]
            refine wpAnyH_done (by kernel_rfl) ?_ _
            refine NoPanic.normal ?_
            go_wp2
            exact ⟨⟨k + 1, _, by omega, by go_num, by rw [show max 1 (((k + 1 : Nat)) : Int) = (k : Int) + 1 by omega]; exact row_set hrw5, by rw [hts.out, eRow_app]; exact own_set hown5 _ _ (by simp), hb5.setCell (p := ⟨w.heap.size + 1, 10, none⟩) (Nat.le_refl _) _, by simp; omega⟩, by simp [intOf]; omega⟩
          · go_simp
            refine hK.out _ _ trivial (fun _ => ?_)
            clear hK K
            try simp only [Act.put, List.setIfInBounds_toArray, List.set_cons_zero, List.set_cons_succ]
            refine wpAnyH_ready (rs := [1]) (by kernel_rfl) (by simp) ?_
            refine AllReadyH.cons (o := ⟨_, _, _, _, _, _⟩) rfl (fun K hK => ?_) AllReadyH.nil
            go_simp
            refine hK.out _ _ trivial (fun _ => ?_)
            clear hK K
            try simp only [Act.put, List.setIfInBounds_toArray, List.set_cons_zero, List.set_cons_succ]
            refine wpAnyH_ready (rs := [9]) (by kernel_rfl) (by simp) ?_
            refine AllReadyH.cons (o := ⟨_, _, _, _, _, _⟩) rfl (fun K hK => ?_) AllReadyH.nil
            refine step_append_lies _ (by rfl) _ _ _ (by rfl) (w.heap.size + 2) 59 i0 _ 7 64 Tryz.underlying36 hi hz0 hz1 hz2 rfl (by omega) v k _ (by rfl) (hown3.alloc _) ⟨w1.heap.size, 0, none⟩ 1 1 [.int .i64 ((k : Int) + 1), .int .i64 1, .int .i64 1, .int .i64 y, .string ⟨#[]⟩, .bool false, .int .i64 0] (by rfl) (by rfl) (World.news_of_block (cs := #[.int .i64 ((k : Int) + 1), .int .i64 1, .int .i64 1, .int .i64 y, .string ⟨#[]⟩, .bool false, .int .i64 0]) (t := 59) (fr := (0, 0)) (heap_alloc_new w1 _)) (by simp [Value.oneCell']) (by omega) (by unfold maxLen; omega) (by omega) (by simp; omega) (w1.heap.size + 1) (by simp) ?_
            intro gg cap5 w5 hown5 hgrow5 hat5 hlt5
            have hrw5 := (hgrow5.block (w.heap.size + 1) (by simp; omega) (fun e => by have := (hown3.lt _ (by first | exact e | exact e.symm)).1; omega)).trans ((Lib.alloc_old w1 _ _ hl1).trans hrow3)
            have g5 : w5.cell? ⟨w.heap.size + 1, 10, none⟩ = some v := blk_cell hrw5 10
            have f5 := blk_frozen hrw5 10
            have hb5 : Below (w.heap.size + 1) (w.alloc (.cells #[.bool false, .int .i64 0, .int .i64 0, .string ⟨#[]⟩, .bool false, .int .i64 0, .int .i64 0, .int .i64 0, .int .i64 0, .int .i64 0, .slice none 0 0] 38)) w5 := (hb3.alloc (by omega) _).grown hgrow5 (by simp; omega) (fun q hq => by have := (hown3.lt q hq).1; omega)
            have hz5 : w.heap.size + 2 ≤ w5.heap.size := by (have := hgrow5.size; simp at this; omega)
            refine hK.out _ _ trivial (fun _ => ?_)
            clear hK K
            try simp only [Act.put, List.setIfInBounds_toArray, List.set_cons_zero, List.set_cons_succ]
            refine wpAnyH_take (i := 10) (oi := ⟨_, _, _, _, _, _⟩) (v := ?v20) rfl (by kernel_rfl) (by kernel_rfl) (by kernel_rfl) (fun _ _ _ h => h) (Or.inl ⟨by rfl, ?hy20⟩) trivial ?rest20
            case hy20 => (intro w2 hSw; go_simp; first | done | with_reducible rfl)
            try simp only [Act.put, List.setIfInBounds_toArray, List.set_cons_zero, List.set_cons_succ]
            refine wpAnyH_ready (rs := [11]) (by kernel_rfl) (by simp) ?_
            refine AllReadyH.cons (o := ⟨_, _, _, _, _, _⟩) rfl (fun K hK => ?_) AllReadyH.nil
            go_simp
            refine hK.out _ _ trivial (fun _ => ?_)
            clear hK K
            try simp only [Act.put, List.setIfInBounds_toArray, List.set_cons_zero, List.set_cons_succ]
            refine wpAnyH_done (by kernel_rfl) ?_ _
            refine NoPanic.normal ?_
            go_wp2
            exact ⟨⟨k + 1, _, by omega, by go_num, by rw [show max 1 (((k + 1 : Nat)) : Int) = (k : Int) + 1 by omega]; exact row_set hrw5, by rw [hts.out, eRow_app]; exact own_set hown5 _ _ (by simp), hb5.setCell (p := ⟨w.heap.size + 1, 10, none⟩) (Nat.le_refl _) _, by simp; omega⟩, by simp [intOf]; omega⟩
    · obtain rfl : k = l.length := by omega
      rw [List.take_length] at hown
      obtain ⟨vA, vc, hvf⟩ := own_form hown
      subst hvf
      have e0 : wr.cell? ⟨w.heap.size + 1, 0, none⟩ = some (.bool true) := hcell 0
      have e1 : wr.cell? ⟨w.heap.size + 1, 1, none⟩ = some (.int .i64 0) := hcell 1
      have e2 : wr.cell? ⟨w.heap.size + 1, 2, none⟩ = some (.int .i64 0) := hcell 2
      have e3 : wr.cell? ⟨w.heap.size + 1, 3, none⟩ = some (.string ⟨#[]⟩) := hcell 3
      have e4 : wr.cell? ⟨w.heap.size + 1, 4, none⟩ = some (.bool false) := hcell 4
      have e5 : wr.cell? ⟨w.heap.size + 1, 5, none⟩ = some (.int .i64 0) := hcell 5
      have e6 : wr.cell? ⟨w.heap.size + 1, 6, none⟩ = some (.int .i64 1) := hcell 6
      have e7 : wr.cell? ⟨w.heap.size + 1, 7, none⟩ = some (.int .i64 1) := hcell 7
      have e8 : wr.cell? ⟨w.heap.size + 1, 8, none⟩ = some (.int .i64 (max 1 (l.length : Int))) := hcell 8
      have e9 : wr.cell? ⟨w.heap.size + 1, 9, none⟩ = some (.int .i64 1) := hcell 9
      have e10 : wr.cell? ⟨w.heap.size + 1, 10, none⟩ = some (.slice vA l.length vc) := hcell 10
      have f0 := hfr 0
      have f1 := hfr 1
      have f2 := hfr 2
      have f3 := hfr 3
      have f4 := hfr 4
      have f5 := hfr 5
      have f6 := hfr 6
      have f7 := hfr 7
      have f8 := hfr 8
      have f9 := hfr 9
      have f10 := hfr 10
      have hrR : wr.heap[w.heap.size]? = some (.cells #[.bool false, .int .i64 0, .int .i64 0, .string ⟨#[]⟩, .bool false, .int .i64 0, .int .i64 0, .int .i64 0, .int .i64 0, .int .i64 0, .slice none 0 0] 38 (0, 0)) := (hbr.block w.heap.size (by omega)).trans (blk_new w _ _)
      have r0 : wr.cell? ⟨w.heap.size, 0, none⟩ = some (.bool false) := blk_cell hrR 0
      have r1 : wr.cell? ⟨w.heap.size, 1, none⟩ = some (.int .i64 0) := blk_cell hrR 1
      have r2 : wr.cell? ⟨w.heap.size, 2, none⟩ = some (.int .i64 0) := blk_cell hrR 2
      have r3 : wr.cell? ⟨w.heap.size, 3, none⟩ = some (.string ⟨#[]⟩) := blk_cell hrR 3
      have r4 : wr.cell? ⟨w.heap.size, 4, none⟩ = some (.bool false) := blk_cell hrR 4
      have r5 : wr.cell? ⟨w.heap.size, 5, none⟩ = some (.int .i64 0) := blk_cell hrR 5
      have r6 : wr.cell? ⟨w.heap.size, 6, none⟩ = some (.int .i64 0) := blk_cell hrR 6
      have r7 : wr.cell? ⟨w.heap.size, 7, none⟩ = some (.int .i64 0) := blk_cell hrR 7
      have r8 : wr.cell? ⟨w.heap.size, 8, none⟩ = some (.int .i64 0) := blk_cell hrR 8
      have r9 : wr.cell? ⟨w.heap.size, 9, none⟩ = some (.int .i64 0) := blk_cell hrR 9
      have r10 : wr.cell? ⟨w.heap.size, 10, none⟩ = some (.slice none 0 0) := blk_cell hrR 10
      have s0 := blk_frozen hrR 0
      have s1 := blk_frozen hrR 1
      have s2 := blk_frozen hrR 2
      have s3 := blk_frozen hrR 3
      have s4 := blk_frozen hrR 4
      have s5 := blk_frozen hrR 5
      have s6 := blk_frozen hrR 6
      have s7 := blk_frozen hrR 7
      have s8 := blk_frozen hrR 8
      have s9 := blk_frozen hrR 9
      have s10 := blk_frozen hrR 10
      clear hcell hfr
      have hown' := Lib.hid hown
      clear hrow hrR hown
      go_wp2
      refine bodyPost_ret (v := .agg #[.bool true, .int .i64 0, .int .i64 0, .string ⟨#[]⟩, .bool false, .int .i64 0, .int .i64 1, .int .i64 1, .int .i64 (max 1 (l.length : Int)), .int .i64 1, .slice vA l.length vc]) ?_ rfl ⟨⟨_, rfl, ?_⟩, by (repeat (first | (with_reducible exact Below.refl _ _) | (with_reducible refine Below.alloc ?_ (by first | omega | (dsimp only; omega) | (simp <;> omega)) _) | (with_reducible refine Below.setCell ?_ (by first | omega | (dsimp only; omega) | (simp <;> omega)) _) | (with_reducible refine Below.drew ?_) | (with_reducible refine below_drewN ?_ _) | (with_reducible refine Below.trans ?_ (Below.mono (by assumption) (by first | omega | (dsimp only; omega) | (simp <;> omega))))))⟩
      · simp [results, Tryz.results36, go_sem, *]
      · exact ownsRow_base (own_set (own_set (own_set (own_set (own_set (own_set (own_set (own_set (own_set (own_set (own_set hown'.out _ _ (by dsimp only; omega)) _ _ (by dsimp only; omega)) _ _ (by dsimp only; omega)) _ _ (by dsimp only; omega)) _ _ (by dsimp only; omega)) _ _ (by dsimp only; omega)) _ _ (by dsimp only; omega)) _ _ (by dsimp only; omega)) _ _ (by dsimp only; omega)) _ _ (by dsimp only; omega)) _ _ (by dsimp only; omega)) (by omega)
end Go.Proofs.YtaomlgpakbjegaaGreatDoor
