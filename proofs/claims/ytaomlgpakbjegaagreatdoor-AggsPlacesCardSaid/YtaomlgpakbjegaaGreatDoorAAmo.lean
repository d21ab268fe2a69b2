/-
  aggs: among.
-/
import Derived.Test.YtaomlgpakbjegaaGreatDoorRows
import Derived.Test.YtaomlgpakbjegaaGreatDoorBase
import Derived.Test.YtaomlgpakbjegaaGreatDoorRowB
import Derived.Test.YtaomlgpakbjegaaGreatDoorMg4
import Derived.Test.YtaomlgpakbjegaaGreatDoorValA
import Derived.Test.YtaomlgpakbjegaaGreatDoorValB
import Derived.Test.YtaomlgpakbjegaaGreatDoorValC
import Derived.Test.YtaomlgpakbjegaaGreatDoorAddrC
import Derived.Test.YtaomlgpakbjegaaGreatDoorAddrI
import Derived.Test.YtaomlgpakbjegaaGreatDoorMapK
import Derived.Test.YtaomlgpakbjegaaGreatDoorArgK
import Derived.Test.YtaomlgpakbjegaaGreatDoorDFlo
import Derived.Test.YtaomlgpakbjegaaGreatDoorProg
import Derived.Test.YtaomlgpakbjegaaGreatDoorMg1
import Derived.Test.YtaomlgpakbjegaaGreatDoorMg15
import Derived.Test.YtaomlgpakbjegaaGreatDoorValL
import Derived.Test.YtaomlgpakbjegaaGreatDoorNCallK
import Derived.Maps.AppendAt
import Derived.WalkSpells
import Derived.WalkLawsBesides
import Derived.StillTactics
import Derived.Laws.Pointers
import Derived.Deep.RegionHeld3
import Derived.Deep.QuietTactic
import Derived.BigQuiet
import Derived.RowKit3
import Derived.Lib.Hide
import Derived.Lib.OthersKept
import Derived.OwnWalk
import Derived.Lib.IndexLaws
import Derived.Lib.ItoaMem
import Derived.WalkKit
import Derived.ProofKit
import Derived.OpenShut
import Derived.Carry
import Derived.ChangeSame
import Derived.Deep.Draws
import Derived.Maps.OwnSet
import Derived.Laws.EntriesVeiled
import Derived.Laws.BitsAllLaws
import Derived.Shelf.Strings.Builder1
import Derived.Shelf.Strings.Builder2
import Derived.Shelf.Strings.OnBuilder
import Derived.Shelf.Strings.Trim
import Derived.Shelf.Small.Utf8
import Derived.Shelf.Small.Bits
import Derived.Shelf.Small.Strs
import Derived.Shelf.Small.Wraps
import Derived.Shelf.Strings.BuilderF
import Derived.Shelf.Strings.BuilderK
import Derived.Shelf.Strconv.Itoa0
import Derived.Shelf.Strconv.Itoa1
import Derived.Shelf.LaysM
import Derived.Shelf.Strconv.Itoa2
import Derived.Ground.MpProg
import Derived.Shelf.Pu.ParseUintPublic10
import Derived.Shelf.Strings.Search1
import Derived.Shelf.Strings.Search2
import Derived.Shelf.Strings.Search3
import Derived.Shelf.Strings.Cut
import Derived.Shelf.Strings.Shaped
import Derived.Shelf.Strings.Prefix
import Derived.Shelf.Strings.Runes
import Derived.Shelf.Strings.AsciiSet
import Derived.Shelf.Bits.Mul64
import Derived.Shelf.Strings.Repeat
import Derived.Shelf.Unicode.DecodeSlow
import Derived.Ground.SlgmProg
import Derived.Shelf.SortM.Plain
import Derived.Shelf.SortM.SortNone
import Derived.Lib.TrimByte
import Derived.Lib.Bytealg
import Derived.Lib.SlTrimSet
import Derived.Lib.ParseIntB
import Derived.Shelf.Strings.SlTrimAscii
import Derived.Lib.SmallJoins
import Derived.Deep.RegionWith
namespace Go.Proofs.YtaomlgpakbjegaaGreatDoor
open Go.RowKit

theorem i64_info' : (Tryz.prog.info? 2).map (fun i => (i.zero, i.size, i.bytes)) = some (some (.int .i64 0), 1, 8) := by kernel_rfl
/-- the numbers among some -/
def numsL (l : List VL) : List Int := l.filterMap fun v => if v.t = 1 then some v.n else none
theorem numsL_snoc (l : List VL) (x : VL) : numsL (l ++ [x]) = numsL l ++ (if x.t = 1 then [x.n] else []) := by
  unfold numsL; rw [List.filterMap_append]; congr 1
  by_cases h : x.t = 1 <;> simp [h]
theorem numsL_len (l : List VL) : (numsL l).length ≤ l.length := List.length_filterMap_le _ _
/-- a row of numbers -/
def OwnI (w : World) (B : Nat) (v : Value) (l : List Int) : Prop := w.ownsRow B 2 1 v l.length (l.map (Value.int .i64))
/-- what 'among' answers -/
structure AmongAt (l : List VL) (w : World) (e : Ending) (w' : World) : Prop where
  bad : ∀ x, l.find? (fun v => decide (v.t = 4)) = some x → e = .returned (.tuple #[.slice none 0 0, .agg #[.int .i64 x.t, .int .i64 x.n, .string x.s, .bool x.b, .int .i64 x.c]])
  good : l.find? (fun v => decide (v.t = 4)) = none → ∃ v, e = .returned (.tuple #[v, .agg #[.int .i64 0, .int .i64 0, .string ⟨#[]⟩, .bool false, .int .i64 0]]) ∧ OwnI w' w.heap.size v (numsL l)
  bel : Below w.heap.size w w'
theorem own_set {w : World} {B size n : Nat} {e : TypeId} {v : Value} {xs : List Value} (h : w.ownsRow B e size v n xs) (p : Addr) (u : Value) (hp : p.block < B) : (w.setCell p u).ownsRow B e size v n xs := by
  obtain ⟨h1, h2⟩ := h
  refine ⟨h1, ?_⟩
  rcases h2 with h2 | ⟨g, cap, cur, hv, hB, hh, hr⟩
  · exact .inl h2
  · exact .inr ⟨g, cap, cur, hv, hB, (Below.heap_setCell _ _ _ _ (by omega)).trans hh, hr⟩
theorem find_snoc_none (l : List VL) (k : Nat) (x : VL) (hx : l[k]? = some x) (h : ∀ y ∈ l.take k, ¬ y.t = 4) (h4 : x.t = 4) : l.find? (fun v => decide (v.t = 4)) = some x := by
  rw [List.find?_eq_some_iff_getElem]
  exact ⟨by simpa using h4, k, (List.getElem?_eq_some_iff.1 hx).1, (List.getElem?_eq_some_iff.1 hx).2, fun j hj => by
    simp
    exact h _ (List.mem_take_iff_getElem.2 ⟨j, by have := (List.getElem?_eq_some_iff.1 hx).1; omega, rfl⟩)⟩
set_option maxRecDepth 100000 in
set_option maxHeartbeats 4000000 in
theorem aamong_any (l : List VL) (hlen : l.length ≤ 2932031007402) (w : World) (A : Option Addr) (cap : Nat) (hR : RdB w w.heap.size A 5 (l.map VL.cs)) : Calls Tryz.prog 186 #[.slice A l.length cap] w (AmongAt l w) := by
  obtain ⟨i0, hi, hz0, hz1, hz2⟩ := info_parts i64_info'
  have hR' := Lib.hid hR
  clear hR
  have b0 : Below w.heap.size w (w.alloc (.cells #[.int .i64 0, .int .i64 0, .string ⟨#[]⟩, .bool false, .int .i64 0] 26)) := (Below.refl _ _).alloc (Nat.le_refl _) _
  go_enter Tryz.func186, Tryz.ntmps186
  go_wp2
  go_loopw [4, 9] (fun v i wr => ∃ k : Nat, k ≤ l.length ∧ i = .int .i64 (k : Int) ∧ Hid (∀ y ∈ l.take k, ¬ y.t = 4) ∧ OwnI wr (w.heap.size + 1) v (numsL (l.take k)) ∧ Below (w.heap.size + 1) (w.alloc (.cells #[.int .i64 0, .int .i64 0, .string ⟨#[]⟩, .bool false, .int .i64 0] 26)) wr) (fun _ i _ => l.length - (intOf i).toNat)
  case atStart => exact ⟨0, Nat.zero_le _, rfl, Lib.hid (by simp), World.ownsRow_nil _ _ _ _, Below.refl _ _⟩
  case round =>
    obtain ⟨k, hk, rfl, hno, hown, hbr⟩ := hrel
    have hzr := hbr.size
    simp only [World.size_alloc] at hzr
    have g0 : Below w.heap.size w wr := b0.trans (hbr.mono (by omega))
    have hr0 : wr.cell? ⟨w.heap.size, 0, none⟩ = some (.int .i64 0) := by rw [hbr.cell (by dsimp only; omega)]; simp
    have hs0 : wr.frozen? ⟨w.heap.size, 0, none⟩ = false := by rw [hbr.frozen (by dsimp only; omega)]; simp
    have hr1 : wr.cell? ⟨w.heap.size, 1, none⟩ = some (.int .i64 0) := by rw [hbr.cell (by dsimp only; omega)]; simp
    have hs1 : wr.frozen? ⟨w.heap.size, 1, none⟩ = false := by rw [hbr.frozen (by dsimp only; omega)]; simp
    have hr2 : wr.cell? ⟨w.heap.size, 2, none⟩ = some (.string ⟨#[]⟩) := by rw [hbr.cell (by dsimp only; omega)]; simp
    have hs2 : wr.frozen? ⟨w.heap.size, 2, none⟩ = false := by rw [hbr.frozen (by dsimp only; omega)]; simp
    have hr3 : wr.cell? ⟨w.heap.size, 3, none⟩ = some (.bool false) := by rw [hbr.cell (by dsimp only; omega)]; simp
    have hs3 : wr.frozen? ⟨w.heap.size, 3, none⟩ = false := by rw [hbr.frozen (by dsimp only; omega)]; simp
    have hr4 : wr.cell? ⟨w.heap.size, 4, none⟩ = some (.int .i64 0) := by rw [hbr.cell (by dsimp only; omega)]; simp
    have hs4 : wr.frozen? ⟨w.heap.size, 4, none⟩ = false := by rw [hbr.frozen (by dsimp only; omega)]; simp
    have hlr : w.heap.size < wr.heap.size := by omega
    have hnr : w.heap.size ≠ wr.heap.size := by omega
    by_cases hlt : k < l.length
    · obtain ⟨x, hx⟩ : ∃ x, l[k]? = some x := ⟨_, List.getElem?_eq_getElem hlt⟩
      obtain ⟨ab, ao, hA2, hab, hcell⟩ := (hR'.out.below g0) k x.cs (by rw [List.getElem?_map, hx]; rfl)
      obtain rfl : A = some ⟨ab, ao, none⟩ := hA2
      have hc0 : wr.cell? ⟨ab, ao + k * 5, none⟩ = some (.int .i64 x.t) := hcell 0 _ rfl
      have hc1 : wr.cell? ⟨ab, ao + k * 5 + 1, none⟩ = some (.int .i64 x.n) := hcell 1 _ rfl
      have hc2 : wr.cell? ⟨ab, ao + k * 5 + 2, none⟩ = some (.string x.s) := hcell 2 _ rfl
      have hc3 : wr.cell? ⟨ab, ao + k * 5 + 3, none⟩ = some (.bool x.b) := hcell 3 _ rfl
      have hc4 : wr.cell? ⟨ab, ao + k * 5 + 4, none⟩ = some (.int .i64 x.c) := hcell 4 _ rfl
      have habr : ab < wr.heap.size := by omega
      have hkl : (k : Int) < (l.length : Int) := by omega
      have hne : ab ≠ wr.heap.size := by omega
      have hts : l.take (k + 1) = l.take k ++ [x] := by rw [List.take_add_one, hx]; rfl
      have hts' := Lib.hid hts
      have hx' := Lib.hid hx
      clear hx hcell hts
      by_cases h4 : x.t = 4
      · have hf := Lib.hid (find_snoc_none l k x hx'.out hno.out h4)
        clear hx' hts'
        obtain ⟨xt, xn, xs, xb, xc⟩ := x
        dsimp only at h4 hc0 hc1 hc2 hc3 hc4
        subst h4
        have hr5 : ResAt (wr.alloc (.cells #[.int .i64 4, .int .i64 xn, .string xs, .bool xb, .int .i64 xc] 26)) w.heap.size 5 := by
          have h9 := ResAt.new5 w (.int .i64 0) (.int .i64 0) (.string ⟨#[]⟩) (.bool false) (.int .i64 0) 26
          exact ((h9.below hbr (by omega)).below ((Below.refl _ _).alloc (Nat.le_refl _) _) hlr)
        have yx0 : (wr.alloc (.cells #[.int .i64 4, .int .i64 xn, .string xs, .bool xb, .int .i64 xc] 26)).cell? ⟨wr.heap.size, 0, none⟩ = some (.int .i64 4) := by simp
        have yx1 : (wr.alloc (.cells #[.int .i64 4, .int .i64 xn, .string xs, .bool xb, .int .i64 xc] 26)).cell? ⟨wr.heap.size, 1, none⟩ = some (.int .i64 xn) := by simp
        have yx2 : (wr.alloc (.cells #[.int .i64 4, .int .i64 xn, .string xs, .bool xb, .int .i64 xc] 26)).cell? ⟨wr.heap.size, 2, none⟩ = some (.string xs) := by simp
        have yx3 : (wr.alloc (.cells #[.int .i64 4, .int .i64 xn, .string xs, .bool xb, .int .i64 xc] 26)).cell? ⟨wr.heap.size, 3, none⟩ = some (.bool xb) := by simp
        have yx4 : (wr.alloc (.cells #[.int .i64 4, .int .i64 xn, .string xs, .bool xb, .int .i64 xc] 26)).cell? ⟨wr.heap.size, 4, none⟩ = some (.int .i64 xc) := by simp
        have g1 : Below w.heap.size w (wr.alloc (.cells #[.int .i64 4, .int .i64 xn, .string xs, .bool xb, .int .i64 xc] 26)) := g0.alloc (by omega) _
        have z1 : wr.heap.size < (wr.alloc (.cells #[.int .i64 4, .int .i64 xn, .string xs, .bool xb, .int .i64 xc] 26)).heap.size := by simp
        have z2 : w.heap.size + 1 ≤ (wr.alloc (.cells #[.int .i64 4, .int .i64 xn, .string xs, .bool xb, .int .i64 xc] 26)).heap.size := by simp; omega
        clear hno hown hr0 hs0 hr1 hs1 hr2 hs2 hr3 hs3 hr4 hs4 b0 hbr
        go_wp2_with fail
        clear hc0 hc1 hc2 hc3 hc4 habr hne hab hR' g0
        generalize (wr.alloc (.cells #[.int .i64 4, .int .i64 xn, .string xs, .bool xb, .int .i64 xc] 26)) = w2 at *
        first | (go_loud (go_region_held3 (fun w' => w'.cell? ⟨wr.heap.size, 0, none⟩ = some (.int .i64 4) ∧ w'.cell? ⟨wr.heap.size, 1, none⟩ = some (.int .i64 xn) ∧ w'.cell? ⟨wr.heap.size, 2, none⟩ = some (.string xs) ∧ w'.cell? ⟨wr.heap.size, 3, none⟩ = some (.bool xb) ∧ w'.cell? ⟨wr.heap.size, 4, none⟩ = some (.int .i64 xc) ∧ ResAt w' (w.heap.size) 5 ∧ Below w.heap.size w w' ∧ w.heap.size + 1 ≤ w'.heap.size)
          (first | (go_split_ands; exact ⟨(by simp [go_sem, *]), (by simp [go_sem, *]), (by simp [go_sem, *]), (by simp [go_sem, *]), (by simp [go_sem, *]), (by first | (with_reducible exact ResAt.drew (ResAt.new5 _ _ _ _ _ _ _)) | (repeat (first | (with_reducible assumption) | (with_reducible refine ResAt.setCell ?_ _ _) | (with_reducible refine ResAt.drew ?_)))), (by (repeat (first | (with_reducible exact Below.refl _ _) | (with_reducible refine Below.alloc ?_ (by first | omega | (dsimp only; omega) | (simp <;> omega)) _) | (with_reducible refine Below.setCell ?_ (by first | omega | (dsimp only; omega) | (simp <;> omega)) _) | (with_reducible refine Below.drew ?_) | (with_reducible refine below_drewN ?_ _) | (with_reducible refine Below.trans ?_ (Below.mono (by assumption) (by first | omega | (dsimp only; omega) | (simp <;> omega))))))), (by first | (simp; done) | (simp; omega))⟩) | (exact ⟨(by simp [go_sem, *]), (by simp [go_sem, *]), (by simp [go_sem, *]), (by simp [go_sem, *]), (by simp [go_sem, *]), (by first | (with_reducible exact ResAt.drew (ResAt.new5 _ _ _ _ _ _ _)) | (repeat (first | (with_reducible assumption) | (with_reducible refine ResAt.setCell ?_ _ _) | (with_reducible refine ResAt.drew ?_)))), (by (repeat (first | (with_reducible exact Below.refl _ _) | (with_reducible refine Below.alloc ?_ (by first | omega | (dsimp only; omega) | (simp <;> omega)) _) | (with_reducible refine Below.setCell ?_ (by first | omega | (dsimp only; omega) | (simp <;> omega)) _) | (with_reducible refine Below.drew ?_) | (with_reducible refine below_drewN ?_ _) | (with_reducible refine Below.trans ?_ (Below.mono (by assumption) (by first | omega | (dsimp only; omega) | (simp <;> omega))))))), (by first | (simp; done) | (simp; omega))⟩) | (go_split_ands; exact ⟨(by rw [hb.cell (by dsimp only; omega)]; assumption), (by rw [hb.cell (by dsimp only; omega)]; assumption), (by rw [hb.cell (by dsimp only; omega)]; assumption), (by rw [hb.cell (by dsimp only; omega)]; assumption), (by rw [hb.cell (by dsimp only; omega)]; assumption), (ResAt.below (by assumption) hb (by omega)), (Below.trans (by assumption) (hb.mono (by omega))), (by have := hb.size; omega)⟩))
          (first | fail))) | fail "region"
        go_split_ands
        go_wp2
        refine bodyPost_ret (v := .tuple #[.slice none 0 0, .agg #[.int .i64 4, .int .i64 xn, .string xs, .bool xb, .int .i64 xc]]) ?_ rfl ⟨fun y hy => by rw [hf.out] at hy; cases hy; rfl, fun hn => (by rw [hf.out] at hn; cases hn), by first | assumption | (go_split_ands; assumption) | (repeat (first | (with_reducible exact Below.refl _ _) | (with_reducible refine Below.alloc ?_ (by first | omega | (dsimp only; omega) | (simp <;> omega)) _) | (with_reducible refine Below.setCell ?_ (by first | omega | (dsimp only; omega) | (simp <;> omega)) _) | (with_reducible refine Below.drew ?_) | (with_reducible refine below_drewN ?_ _) | (with_reducible refine Below.trans ?_ (Below.mono (by assumption) (by first | omega | (dsimp only; omega) | (simp <;> omega))))))⟩
        simp [results, Tryz.results186, go_sem, *]
      · have h4b : (x.t == 4) = false := by simpa using h4
        by_cases h1 : x.t = 1
        · have hnl : numsL (l.take (k + 1)) = numsL (l.take k) ++ [x.n] := by rw [hts'.out, numsL_snoc, if_pos h1]
          have hnl' := Lib.hid hnl
          have hln := numsL_len (l.take k)
          rw [List.length_take] at hln
          have hno2 : Hid (∀ y ∈ l.take (k + 1), ¬ y.t = 4) := Lib.hid (fun y hy => by
            rw [hts'.out] at hy
            rcases List.mem_append.1 hy with h | h
            · exact hno.out y h
            · simp at h; subst h; exact h4)
          have h1b : (x.t == 1) = true := by simpa using h1
          have hown1 := hown.alloc (.cells #[.int .i64 x.t, .int .i64 x.n, .string x.s, .bool x.b, .int .i64 x.c] 26)
          have hvg := cell_one_new (wr.alloc (.cells #[.int .i64 x.t, .int .i64 x.n, .string x.s, .bool x.b, .int .i64 x.c] 26)) (.int .i64 x.n) 2
          rw [World.size_alloc] at hvg
          clear hnl hno h4 h1 hown
          go_wp2_with (at_builtin; go_loud (refine wpList_append_own_at _ rfl _ _ 50 rfl (w.heap.size + 1) 2 i0 (.int .i64 0) 1 8 Tryz.underlying50 hi hz0 hz1 hz2 rfl (by decide) _ _ _ rfl (hown1.alloc _) ⟨wr.heap.size + 1, 0, none⟩ 1 1 [.int .i64 x.n] rfl rfl hvg (by simp [Value.oneCell']) (by unfold maxLen; omega) (by omega) (by simp; omega) ?_); intro v' w5 hown5 hgrow5 _ _)
          have hbr5 : Below (w.heap.size + 1) (w.alloc (.cells #[.int .i64 0, .int .i64 0, .string ⟨#[]⟩, .bool false, .int .i64 0] 26)) w5 := ((hbr.alloc (by omega) (.cells #[.int .i64 x.t, .int .i64 x.n, .string x.s, .bool x.b, .int .i64 x.c] 26)).alloc (by simp; omega) (.cells #[.int .i64 x.n] 2)).grown hgrow5 (by simp; omega) (fun q hq => (hown1.lt q hq).1)
          go_roundw
          case rel => exact ⟨k + 1, by omega, by go_num, hno2, by rw [hnl'.out]; unfold OwnI; rw [List.map_append, List.length_append]; exact hown5, hbr5⟩
          case measure => simp [intOf]; omega
        · have hnl : numsL (l.take (k + 1)) = numsL (l.take k) := by rw [hts'.out, numsL_snoc, if_neg h1, List.append_nil]
          have hnl' := Lib.hid hnl
          have hno2 : Hid (∀ y ∈ l.take (k + 1), ¬ y.t = 4) := Lib.hid (fun y hy => by
            rw [hts'.out] at hy
            rcases List.mem_append.1 hy with h | h
            · exact hno.out y h
            · simp at h; subst h; exact h4)
          have h1b : (x.t == 1) = false := by simpa using h1
          have hown1 := hown.alloc (.cells #[.int .i64 x.t, .int .i64 x.n, .string x.s, .bool x.b, .int .i64 x.c] 26)
          have hbr5 : Below (w.heap.size + 1) (w.alloc (.cells #[.int .i64 0, .int .i64 0, .string ⟨#[]⟩, .bool false, .int .i64 0] 26)) (wr.alloc (.cells #[.int .i64 x.t, .int .i64 x.n, .string x.s, .bool x.b, .int .i64 x.c] 26)) := hbr.alloc (by omega) (.cells #[.int .i64 x.t, .int .i64 x.n, .string x.s, .bool x.b, .int .i64 x.c] 26)
          clear hnl hno h4 h1 hown
          go_wp2
          go_roundw
          case rel => exact ⟨k + 1, by omega, by go_num, hno2, by rw [hnl'.out]; exact hown1, hbr5⟩
          case measure => simp [intOf]; omega
    · obtain rfl : k = l.length := by omega
      rw [List.take_length] at hown hno
      have hfn : Hid (l.find? (fun v => decide (v.t = 4)) = none) := Lib.hid (by
        rw [List.find?_eq_none]; intro y hy; simpa using hno.out y hy)
      have hown' := Lib.hid hown
      clear hno hown
      go_wp2
      refine bodyPost_ret (v := .tuple #[u4, .agg #[.int .i64 0, .int .i64 0, .string ⟨#[]⟩, .bool false, .int .i64 0]]) ?_ rfl ⟨fun y hy => (by rw [hfn.out] at hy; cases hy), fun _ => ⟨_, rfl, ?_⟩, by (repeat (first | (with_reducible exact Below.refl _ _) | (with_reducible refine Below.alloc ?_ (by first | omega | (dsimp only; omega) | (simp <;> omega)) _) | (with_reducible refine Below.setCell ?_ (by first | omega | (dsimp only; omega) | (simp <;> omega)) _) | (with_reducible refine Below.drew ?_) | (with_reducible refine below_drewN ?_ _) | (with_reducible refine Below.trans ?_ (Below.mono (by assumption) (by first | omega | (dsimp only; omega) | (simp <;> omega))))))⟩
      · simp [results, Tryz.results186, go_sem, *]
      · exact ownsRow_base (own_set (own_set (own_set (own_set (own_set hown'.out _ _ (by simp)) _ _ (by simp)) _ _ (by simp)) _ _ (by simp)) _ _ (by simp)) (by omega)
end Go.Proofs.YtaomlgpakbjegaaGreatDoor
