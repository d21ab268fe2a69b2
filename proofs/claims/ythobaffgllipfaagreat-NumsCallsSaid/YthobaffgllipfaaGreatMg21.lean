/-
  nums: GCD, LCM; nums: slices.Contains.
-/
import Derived.Test.YthobaffgllipfaaGreatRows
import Derived.Test.YthobaffgllipfaaGreatBase
import Derived.Test.YthobaffgllipfaaGreatMg3
import Derived.Test.YthobaffgllipfaaGreatValA
import Derived.Test.YthobaffgllipfaaGreatValB
import Derived.Test.YthobaffgllipfaaGreatDecS
import Derived.Test.YthobaffgllipfaaGreatValC
import Derived.Test.YthobaffgllipfaaGreatAddrC
import Derived.Test.YthobaffgllipfaaGreatMg9
import Derived.Test.YthobaffgllipfaaGreatMapK
import Derived.Test.YthobaffgllipfaaGreatDMod
import Derived.Test.YthobaffgllipfaaGreatDFlo
import Derived.Test.YthobaffgllipfaaGreatProg
import Derived.Test.YthobaffgllipfaaGreatMg12
import Derived.Test.YthobaffgllipfaaGreatDRnd
import Derived.Test.YthobaffgllipfaaGreatMg14
import Derived.Test.YthobaffgllipfaaGreatKnuth
import Derived.Test.YthobaffgllipfaaGreatDDiv
import Derived.Test.YthobaffgllipfaaGreatMg17
import Derived.Test.YthobaffgllipfaaGreatNDoA
import Derived.Test.YthobaffgllipfaaGreatNDoB
import Derived.Test.YthobaffgllipfaaGreatNDoC
import Derived.Maps.AppendAt
import Derived.Deep.RegionWith
import Derived.WalkSpells
import Derived.WalkLawsBesides
import Derived.StillTactics
import Derived.Laws.Pointers
import Derived.Deep.RegionHeld3
import Derived.Deep.QuietTactic
import Derived.BigQuiet
import Derived.RowKit3
import Derived.Lib.Hide
import Derived.Lib.OthersKept
import Derived.OwnWalk
import Derived.Lib.IndexLaws
import Derived.Lib.ItoaMem
import Derived.WalkKit
import Derived.ProofKit
import Derived.OpenShut
import Derived.Carry
import Derived.ChangeSame
import Derived.Deep.Draws
import Derived.Maps.OwnSet
import Derived.Laws.BitsAllLaws
import Derived.Shelf.Small.Bits
import Derived.Shelf.Strconv.Itoa0
import Derived.Shelf.Bits.Mul64
import Derived.Lib.TrimByte
import Derived.Lib.Bytealg
import Derived.Lib.SlTrimSet
import Derived.Lib.ParseIntB
import Derived.Shelf.Strings.SlTrimAscii
import Derived.Lib.SmallJoins
namespace Go.Proofs.YthobaffgllipfaaGreat
open Go.RowKit

def wholesN (l : List Int) : List Nat := l.map fun x => x.natAbs / 10000
def allWhole (l : List Int) : Bool := l.all wholeB
theorem whole_abs (x : Int) (hx : -9223372036854775808 ≤ x ∧ x ≤ 9223372036854775807) (h : wholeB x = true) : (wholeV x).natAbs = x.natAbs / 10000 ∧ wholeV x ≠ -9223372036854775808 := by
  unfold wholeB at h
  simp at h
  unfold wholeV
  rw [if_pos ⟨h.1, h.2⟩]
  have h3 : (x.tdiv 10000).natAbs = x.natAbs / 10000 := Int.natAbs_tdiv x 10000
  refine ⟨h3, ?_⟩
  omega
/-- what becomes of the sizes -/
structure WholesAt (l : List Int) (w : World) (e : Ending) (w' : World) : Prop where
  no : allWhole l = false → e = .returned (.tuple #[.slice none 0 0, .bool false])
  yes : allWhole l = true → ∃ v, e = .returned (.tuple #[v, .bool true]) ∧ w'.ownsRow w.heap.size 76 1 v l.length ((wholesN l).map fun (n : Nat) => Value.int .u64 (n : Int))
  bel : Below w.heap.size w w'
set_option maxRecDepth 100000 in
set_option maxHeartbeats 2000000 in
theorem nwholes_any (l : List Int) (hl : ∀ x ∈ l, -9223372036854775807 ≤ x ∧ x ≤ 9223372036854775807) (hlen : l.length ≤ 1649267441664) (w : World) (gb cap : Nat) (hg : gb < w.heap.size) (_hcap : l.length ≤ cap) (hc : ∀ j x, l[j]? = some x → w.cell? ⟨gb, j, none⟩ = some (.int .i64 x)) : Calls Tryz.prog 89 #[.slice (some ⟨gb, 0, none⟩) l.length cap] w (WholesAt l w) := by
  obtain ⟨i0, hi, hz0, hz1, hz2⟩ := info_parts u64_info
  have hl' := Lib.hid hl
  have hc' := Lib.hid hc
  clear hl hc
  go_enter Tryz.func89, Tryz.ntmps89
  go_wp2
  go_loopw [4, 11] (fun v i wr => ∃ k : Nat, k ≤ l.length ∧ i = .int .i64 (k : Int) ∧ Hid (∀ x ∈ l.take k, wholeB x = true) ∧ wr.ownsRow w.heap.size 76 1 v k ((wholesN (l.take k)).map fun (n : Nat) => Value.int .u64 (n : Int)) ∧ Below w.heap.size w wr) (fun _ i _ => l.length - (intOf i).toNat)
  case atStart => exact ⟨0, Nat.zero_le _, rfl, Lib.hid (by simp), World.ownsRow_nil _ _ _ _, Below.refl _ _⟩
  case round =>
    obtain ⟨k, hk, rfl, hall, hown, hbr⟩ := hrel
    have hzr := hbr.size
    by_cases hlt : k < l.length
    · obtain ⟨x, hx⟩ : ∃ x, l[k]? = some x := ⟨_, List.getElem?_eq_getElem hlt⟩
      have hck : wr.cell? ⟨gb, k, none⟩ = some (.int .i64 x) := (hbr.cell (by dsimp only; omega)).trans (hc'.out k x hx)
      have hxb := hl'.out x (List.mem_of_getElem? hx)
      have hts : l.take (k + 1) = l.take k ++ [x] := by rw [List.take_add_one, hx]; rfl
      have hts' := Lib.hid hts
      have hgr : gb < wr.heap.size := by omega
      have hx' := Lib.hid hx
      clear hx hts
      have hkl : (k : Int) < (l.length : Int) := by omega
      cases hw : wholeB x
      · have H := whole_any x (by omega) wr
        rw [hw] at H
        have H' := Lib.hid H
        have hw' := Lib.hid hw
        clear H hw
        go_wp2_with fail
        refine H'.out.mono ?_
        rintro e w' ⟨rfl, rfl⟩
        go_wp2
        go_ret2
        have hno : allWhole l = false := by
          unfold allWhole; rw [List.all_eq_false]
          exact ⟨x, List.mem_of_getElem? hx'.out, by rw [hw'.out]; simp⟩
        exact ⟨fun _ => rfl, fun h => (by rw [hno] at h; cases h), hbr⟩
      · have H := whole_any x (by omega) wr
        rw [hw] at H
        have H' := Lib.hid H
        have hab := whole_abs x (by omega) hw
        have hvi := wholeV_in x (by omega)
        have hw' := Lib.hid hw
        clear H hw
        obtain ⟨v, hv⟩ : ∃ v, wholeV x = v := ⟨_, rfl⟩
        rw [hv] at H' hab hvi
        obtain ⟨m, hm⟩ : ∃ m, x.natAbs / 10000 = m := ⟨_, rfl⟩
        rw [hm] at hab
        have hm' := Lib.hid hm
        have hab' := Lib.hid hab.1
        have hne := hab.2
        clear hm hv hab
        go_wp2_with fail
        refine H'.out.mono ?_
        rintro e w' ⟨rfl, rfl⟩
        go_wp2_with fail
        refine (nsize_any v hvi hne m hab'.out _).mono ?_
        rintro e w' ⟨rfl, rfl⟩
        go_wp2_with (at_builtin; refine wpList_append_own_at _ rfl _ _ 97 rfl w.heap.size 76 i0 (.int .u64 0) 1 8 Tryz.underlying97 hi hz0 hz1 hz2 rfl (by decide) _ _ _ rfl (hown.alloc _) ⟨wr.heap.size, 0, none⟩ 1 1 [.int .u64 (m : Int)] rfl rfl (cell_one_new _ _ _) (by simp [Value.oneCell']) (by unfold maxLen; omega) (by omega) (by simp; omega) ?_; intro v' w1 hown1 hgrow1 hnil1 hloc1)
        go_roundw
        case rel =>
          refine ⟨k + 1, by omega, by go_num, Lib.hid (fun y hy => ?_), ?_, ?_⟩
          · rw [hts'.out] at hy
            rcases List.mem_append.1 hy with h | h
            · exact hall.out y h
            · simp at h; subst h; exact hw'.out
          · rw [hts'.out]
            have e : (wholesN (l.take k ++ [x])).map (fun (n : Nat) => Value.int .u64 (n : Int)) = (wholesN (l.take k)).map (fun (n : Nat) => Value.int .u64 (n : Int)) ++ [.int .u64 (m : Int)] := by simp [wholesN, ← hm'.out]
            rw [e]; exact hown1
          · refine (hbr.alloc hzr _).grown hgrow1 (by simp; omega) (fun j hj => ?_)
            exact (hown.lt j hj).1
        case measure => simp [intOf]; omega
    · obtain rfl : k = l.length := by omega
      go_wp2
      go_ret2
      have htk : l.take l.length = l := List.take_length
      have hyes : allWhole l = true := by
        unfold allWhole; rw [List.all_eq_true]
        intro x hx; exact hall.out x (by rw [htk]; exact hx)
      rw [htk] at hown
      exact ⟨fun h => (by rw [hyes] at h; cases h), fun _ => ⟨_, rfl, hown⟩, hbr⟩
def gcdL (l : List Int) : VL := if allWhole l = true then wholeL ((wholesN l).foldl Nat.gcd 0) false else errL 8
theorem ownsRow_u64 {w : World} {B : Nat} {v : Value} {l : List Nat} {n : Nat} (h : w.ownsRow B 76 1 v n (l.map fun (n : Nat) => Value.int .u64 (n : Int))) (hn : 0 < n) : ∃ g cap, v = .slice (some ⟨g, 0, none⟩) n cap ∧ B ≤ g ∧ n ≤ cap ∧ ∀ (j x : Nat), l[j]? = some x → w.cell? ⟨g, j, none⟩ = some (.int .u64 (x : Int)) := by
  obtain ⟨h1, h2⟩ := h
  rcases h2 with ⟨_, rfl⟩ | ⟨g, cap, cur, rfl, hB, hh, hnc, hm, hs, ht⟩
  · omega
  · refine ⟨g, cap, rfl, hB, hnc, fun j x hx => ?_⟩
    have hj : j < l.length := (List.getElem?_eq_some_iff.1 hx).1
    have hlen : l.length = n := by simpa using h1
    rw [cell_of_row w g j cur _ (0, 0) hh, ← Array.getElem?_toList]
    have : (cur.toList.take (n * 1))[j]? = some (.int .u64 (x : Int)) := by rw [ht, List.getElem?_map, hx]; rfl
    rw [List.getElem?_take] at this
    rw [if_pos (by omega)] at this
    exact this
set_option maxRecDepth 100000 in
set_option maxHeartbeats 2000000 in
theorem do_GCD0 (l : List Int) (hl : ∀ x ∈ l, -9223372036854775807 ≤ x ∧ x ≤ 9223372036854775807) (hlen : l.length ≤ 1649267441664) (w : World) (gb cap : Nat) (hg : gb < w.heap.size) (hcap : l.length ≤ cap) (hc : ∀ j x, l[j]? = some x → w.cell? ⟨gb, j, none⟩ = some (.int .i64 x)) (hno : allWhole l = false) : Calls Tryz.prog 49 #[.slice (some ⟨gb, 0, none⟩) l.length cap] w fun e w' => e = .returned (.agg #[.int .i64 4, .int .i64 0, .string ⟨#[]⟩, .bool false, .int .i64 (errC 8)]) ∧ Below w.heap.size w w' := by
  have W' := Lib.hid (nwholes_any l hl hlen (w.alloc (.cells #[.int .i64 0, .int .i64 0, .string ⟨#[]⟩, .bool false, .int .i64 0] 26)) gb cap (by simp; omega) hcap (fun j x hx => (World.cell?_alloc_lt _ _ ⟨gb, j, none⟩ hg).trans (hc j x hx)))
  have hno' := Lib.hid hno
  clear hl hc hno
  go_enter Tryz.func49, Tryz.ntmps49
  go_wp2_with fail
  refine W'.out.mono ?_
  clear W'
  rintro e w1 hw1
  obtain rfl := hw1.no hno'.out
  have hb1 := hw1.bel
  clear hw1
  obtain ⟨hc, hf, hz⟩ := bkeep hb1 (w.heap.size + 1) (by simp)
  go_wp2_with (go_at_call 8; refine (verr_any 8 _).mono ?_; rintro e w1 ⟨rfl, hb⟩; obtain ⟨hc, hf, hz⟩ := bkeep hb (w.heap.size + 1) (by first | omega | (simp <;> omega)))
  skip
  refine bodyPost_ret (v := .agg #[.int .i64 4, .int .i64 0, .string ⟨#[]⟩, .bool false, .int .i64 (errC 8)]) ?_ rfl ⟨rfl, by first | assumption | (go_split_ands; first | assumption | ((repeat (first | (with_reducible exact Below.refl _ _) | (with_reducible refine Below.alloc ?_ (by first | omega | (dsimp only; omega) | (simp <;> omega)) _) | (with_reducible refine Below.setCell ?_ (by first | omega | (dsimp only; omega) | (simp <;> omega)) _) | (with_reducible refine Below.drew ?_) | (with_reducible refine below_drewN ?_ _) | (with_reducible refine Below.trans ?_ (Below.mono (by assumption) (by first | omega | (dsimp only; omega) | (simp <;> omega)))))); done)) | ((repeat (first | (with_reducible exact Below.refl _ _) | (with_reducible refine Below.alloc ?_ (by first | omega | (dsimp only; omega) | (simp <;> omega)) _) | (with_reducible refine Below.setCell ?_ (by first | omega | (dsimp only; omega) | (simp <;> omega)) _) | (with_reducible refine Below.drew ?_) | (with_reducible refine below_drewN ?_ _) | (with_reducible refine Below.trans ?_ (Below.mono (by assumption) (by first | omega | (dsimp only; omega) | (simp <;> omega)))))); done)⟩
  simp [results, Tryz.results49, go_sem, *]
set_option maxRecDepth 100000 in
set_option maxHeartbeats 2000000 in
theorem do_GCD1 (l : List Int) (hl : ∀ x ∈ l, -9223372036854775807 ≤ x ∧ x ≤ 9223372036854775807) (hlen : l.length ≤ 1649267441664) (w : World) (gb cap : Nat) (hg : gb < w.heap.size) (hcap : l.length ≤ cap) (hc : ∀ j x, l[j]? = some x → w.cell? ⟨gb, j, none⟩ = some (.int .i64 x)) (h1 : 1 ≤ l.length) (hyes : allWhole l = true) (G : Nat) (hG : (wholesN l).foldl Nat.gcd 0 = G) (hsm : ∀ x ∈ wholesN l, x < 18446744073709551616) : Calls Tryz.prog 49 #[.slice (some ⟨gb, 0, none⟩) l.length cap] w fun e w' => e = .returned (.agg #[.int .i64 (wholeL G false).t, .int .i64 (wholeL G false).n, .string (wholeL G false).s, .bool (wholeL G false).b, .int .i64 (wholeL G false).c]) ∧ Below w.heap.size w w' := by
  have W' := Lib.hid (nwholes_any l hl hlen (w.alloc (.cells #[.int .i64 0, .int .i64 0, .string ⟨#[]⟩, .bool false, .int .i64 0] 26)) gb cap (by simp; omega) hcap (fun j x hx => (World.cell?_alloc_lt _ _ ⟨gb, j, none⟩ hg).trans (hc j x hx)))
  have hyes' := Lib.hid hyes
  have hG' := Lib.hid hG
  have hsm' := Lib.hid hsm
  clear hl hc hyes hG hsm
  go_enter Tryz.func49, Tryz.ntmps49
  go_wp2_with fail
  refine W'.out.mono ?_
  clear W'
  rintro e w1 hw1
  obtain ⟨v, rfl, hown⟩ := hw1.yes hyes'.out
  have hb1 := hw1.bel
  clear hw1
  obtain ⟨g, cp, rfl, hgB, hgc, hcl⟩ := ownsRow_u64 hown (by omega)
  have hcl' := Lib.hid hcl
  have hglt : g < w1.heap.size := (hown.lt g rfl).2
  clear hcl hown
  obtain ⟨hc, hf, hz⟩ := bkeep hb1 (w.heap.size + 1) (by simp)
  have hlN : (wholesN l).length = l.length := by simp [wholesN]
  have hlN' := Lib.hid hlN
  clear hlN
  go_wp2
  go_loop [5, 18] (fun gv i => ∃ k : Nat, k ≤ l.length ∧ i = .int .i64 (k : Int) ∧ ∃ d : Nat, Hid (((wholesN l).take k).foldl Nat.gcd 0 = d) ∧ d < 18446744073709551616 ∧ gv = .int .u64 (d : Int)) (fun _ i => l.length - (intOf i).toNat)
  case atStart => exact ⟨0, Nat.zero_le _, rfl, 0, Lib.hid rfl, by omega, rfl⟩
  case round =>
    obtain ⟨k, hk, rfl, d, hd, hdb, rfl⟩ := hrel
    by_cases hlt : k < l.length
    · obtain ⟨x, hx⟩ : ∃ x, (wholesN l)[k]? = some x := ⟨_, List.getElem?_eq_getElem (by rw [hlN'.out]; exact hlt)⟩
      have hck : w1.cell? ⟨g, k, none⟩ = some (.int .u64 (x : Int)) := hcl'.out k x hx
      have hxb := hsm'.out x (List.mem_of_getElem? hx)
      have hts : ((wholesN l).take (k + 1)).foldl Nat.gcd 0 = Nat.gcd d x := by rw [List.take_add_one, hx, Option.toList_some, List.foldl_append, hd.out]; rfl
      have hgl : Nat.gcd d x < 18446744073709551616 := by
        rcases Nat.eq_zero_or_pos d with h | h
        · subst h; rw [Nat.gcd_zero_left]; exact hxb
        · exact Nat.lt_of_le_of_lt (Nat.gcd_le_left x h) hdb
      have hts' := Lib.hid hts
      have hkl : (k : Int) < (l.length : Int) := by omega
      have C := Lib.hid (ngcd_any x d hdb hxb w1)
      obtain ⟨r, hr⟩ : ∃ r, Nat.gcd d x = r := ⟨_, rfl⟩
      rw [hr] at C hts' hgl
      clear hx hts hr hd
      go_wp2_with fail
      refine C.out.mono ?_
      rintro e w' ⟨rfl, rfl⟩
      go_wp2_with fail
      go_round
      case rel => exact ⟨k + 1, by omega, by go_num, r, hts', hgl, rfl⟩
      case measure => simp [intOf]; omega
    · obtain rfl : k = l.length := by omega
      have hdG : d = G := by rw [← hd.out, ← hG'.out, List.take_of_length_le (by rw [hlN'.out]; omega)]
      subst hdG
      clear hd
      go_wp2_with (go_at_call 85; refine (whole_c (d : Int) d rfl (by omega) false _).mono ?_; rintro e w1 ⟨rfl, hb⟩; obtain ⟨hc, hf, hz⟩ := bkeep hb (w.heap.size + 1) (by first | omega | (simp <;> omega)))
      skip
      refine bodyPost_ret (v := .agg #[.int .i64 (wholeL d false).t, .int .i64 (wholeL d false).n, .string (wholeL d false).s, .bool (wholeL d false).b, .int .i64 (wholeL d false).c]) ?_ rfl ⟨rfl, by first | assumption | (go_split_ands; first | assumption | ((repeat (first | (with_reducible exact Below.refl _ _) | (with_reducible refine Below.alloc ?_ (by first | omega | (dsimp only; omega) | (simp <;> omega)) _) | (with_reducible refine Below.setCell ?_ (by first | omega | (dsimp only; omega) | (simp <;> omega)) _) | (with_reducible refine Below.drew ?_) | (with_reducible refine below_drewN ?_ _) | (with_reducible refine Below.trans ?_ (Below.mono (by assumption) (by first | omega | (dsimp only; omega) | (simp <;> omega)))))); done)) | ((repeat (first | (with_reducible exact Below.refl _ _) | (with_reducible refine Below.alloc ?_ (by first | omega | (dsimp only; omega) | (simp <;> omega)) _) | (with_reducible refine Below.setCell ?_ (by first | omega | (dsimp only; omega) | (simp <;> omega)) _) | (with_reducible refine Below.drew ?_) | (with_reducible refine below_drewN ?_ _) | (with_reducible refine Below.trans ?_ (Below.mono (by assumption) (by first | omega | (dsimp only; omega) | (simp <;> omega)))))); done)⟩
      simp [results, Tryz.results49, go_sem, *]

end Go.Proofs.YthobaffgllipfaaGreat
namespace Go.Proofs.YthobaffgllipfaaGreat
open Go.RowKit

/-- an index of a list, or -1 -/
structure cbAt (l : List Bool) (v : Bool) (w : World) (e : Ending) (w' : World) : Prop where
  out : ∃ r : Int, e = .returned (.int .i64 r) ∧ decide (0 ≤ r) = l.any (fun y => (v == y))
  same : w = w'
set_option maxHeartbeats 1000000 in
theorem cb_idx (l : List Bool) (v : Bool) (hlen : l.length ≤ 9223372036854775807) (w : World) (A : Option Addr) (cap : Nat) (hA : RdB w w.heap.size A 1 (l.map fun (x : Bool) => [.bool x])) : Calls Tryz.prog 78 #[.slice A l.length cap, .bool v] w (cbAt l v w) := by
  have hA' := Lib.hid hA
  clear hA
  go_enter Tryz.func78, Tryz.ntmps78
  go_wp2
  go_loop [8] (fun i => ∃ k : Nat, k ≤ l.length ∧ i = .int .i64 (k : Int) ∧ Hid ((l.take k).any (fun y => (v == y)) = false)) (fun i => l.length - (intOf i).toNat)
  case atStart => exact ⟨0, Nat.zero_le _, rfl, Lib.hid rfl⟩
  case round =>
    obtain ⟨k, hk, rfl, hno⟩ := hrel
    by_cases hlt : k < l.length
    · obtain ⟨x, hx⟩ : ∃ x, l[k]? = some x := ⟨_, List.getElem?_eq_getElem hlt⟩
      obtain ⟨b, o, rfl, hb, hcell⟩ := hA'.out k [.bool x] (by rw [List.getElem?_map, hx]; rfl)
      have hck : w.cell? ⟨b, o + k, none⟩ = some (.bool x) := by simpa using hcell 0 _ rfl
      have hts : (l.take (k + 1)).any (fun y => (v == y)) = (v == x) := by rw [List.take_add_one, hx, Option.toList_some, List.any_append, hno.out]; simp
      have hts' := Lib.hid hts
      have hmem := Lib.hid (List.mem_of_getElem? hx)
      have hkl : (k : Int) < (l.length : Int) := by omega
      clear hx hcell hts
      cases heq : (v == x)
      · rw [heq] at hts'
        have hq : ((v == x)) = false := heq
        go_wp2
        go_round
        case rel => exact ⟨k + 1, by omega, by go_num, hts'⟩
        case measure => simp [intOf]; omega
      · have heq' := Lib.hid heq
        have hq : ((v == x)) = true := heq
        go_wp2
        go_ret
        exact ⟨⟨_, rfl, by rw [eq_comm, show decide (0 ≤ (k : Int)) = true by simp, List.any_eq_true]; exact ⟨x, hmem.out, heq'.out⟩⟩, rfl⟩
    · obtain rfl : k = l.length := by omega
      go_wp2
      go_ret
      have := hno.out
      rw [List.take_length] at this
      exact ⟨⟨_, rfl, by rw [this]; rfl⟩, rfl⟩
set_option maxHeartbeats 1000000 in
theorem cb_has (l : List Bool) (v : Bool) (hlen : l.length ≤ 9223372036854775807) (z : Bool) (hz : l.any (fun y => (v == y)) = z) (w : World) (A : Option Addr) (cap : Nat) (hA : RdB w w.heap.size A 1 (l.map fun (x : Bool) => [.bool x])) : Calls Tryz.prog 29 #[.slice A l.length cap, .bool v] w fun e w' => e = .returned (.bool z) ∧ w = w' := by
  have C := Lib.hid (cb_idx l v hlen w A cap hA)
  have hz' := Lib.hid hz
  clear hA hz
  go_enter Tryz.func29, Tryz.ntmps29
  go_wp2_with fail
  refine C.out.mono ?_
  clear C
  rintro e w' ⟨⟨r, rfl, hr⟩, rfl⟩
  have hr' := Lib.hid hr
  clear hr
  go_wp2
  go_ret
  exact ⟨ret_b (by rw [hr'.out, hz'.out]), rfl⟩
/-- an index of a list, or -1 -/
structure cuAt (l : List Nat) (v : Nat) (w : World) (e : Ending) (w' : World) : Prop where
  out : ∃ r : Int, e = .returned (.int .i64 r) ∧ decide (0 ≤ r) = l.any (fun y => ((v : Int) == (y : Int)))
  same : w = w'
set_option maxHeartbeats 1000000 in
theorem cu_idx (l : List Nat) (v : Nat) (hlen : l.length ≤ 9223372036854775807) (w : World) (A : Option Addr) (cap : Nat) (hA : RdB w w.heap.size A 1 (l.map fun (x : Nat) => [.int .u64 (x : Int)])) : Calls Tryz.prog 110 #[.slice A l.length cap, .int .u64 (v : Int)] w (cuAt l v w) := by
  have hA' := Lib.hid hA
  clear hA
  go_enter Tryz.func110, Tryz.ntmps110
  go_wp2
  go_loop [8] (fun i => ∃ k : Nat, k ≤ l.length ∧ i = .int .i64 (k : Int) ∧ Hid ((l.take k).any (fun y => ((v : Int) == (y : Int))) = false)) (fun i => l.length - (intOf i).toNat)
  case atStart => exact ⟨0, Nat.zero_le _, rfl, Lib.hid rfl⟩
  case round =>
    obtain ⟨k, hk, rfl, hno⟩ := hrel
    by_cases hlt : k < l.length
    · obtain ⟨x, hx⟩ : ∃ x, l[k]? = some x := ⟨_, List.getElem?_eq_getElem hlt⟩
      obtain ⟨b, o, rfl, hb, hcell⟩ := hA'.out k [.int .u64 (x : Int)] (by rw [List.getElem?_map, hx]; rfl)
      have hck : w.cell? ⟨b, o + k, none⟩ = some (.int .u64 (x : Int)) := by simpa using hcell 0 _ rfl
      have hts : (l.take (k + 1)).any (fun y => ((v : Int) == (y : Int))) = ((v : Int) == (x : Int)) := by rw [List.take_add_one, hx, Option.toList_some, List.any_append, hno.out]; simp
      have hts' := Lib.hid hts
      have hmem := Lib.hid (List.mem_of_getElem? hx)
      have hkl : (k : Int) < (l.length : Int) := by omega
      clear hx hcell hts
      cases heq : ((v : Int) == (x : Int))
      · rw [heq] at hts'
        have hq : (((v : Int) == (x : Int))) = false := heq
        go_wp2
        go_round
        case rel => exact ⟨k + 1, by omega, by go_num, hts'⟩
        case measure => simp [intOf]; omega
      · have heq' := Lib.hid heq
        have hq : (((v : Int) == (x : Int))) = true := heq
        go_wp2
        go_ret
        exact ⟨⟨_, rfl, by rw [eq_comm, show decide (0 ≤ (k : Int)) = true by simp, List.any_eq_true]; exact ⟨x, hmem.out, heq'.out⟩⟩, rfl⟩
    · obtain rfl : k = l.length := by omega
      go_wp2
      go_ret
      have := hno.out
      rw [List.take_length] at this
      exact ⟨⟨_, rfl, by rw [this]; rfl⟩, rfl⟩
set_option maxHeartbeats 1000000 in
theorem cu_has (l : List Nat) (v : Nat) (hlen : l.length ≤ 9223372036854775807) (z : Bool) (hz : l.any (fun y => ((v : Int) == (y : Int))) = z) (w : World) (A : Option Addr) (cap : Nat) (hA : RdB w w.heap.size A 1 (l.map fun (x : Nat) => [.int .u64 (x : Int)])) : Calls Tryz.prog 91 #[.slice A l.length cap, .int .u64 (v : Int)] w fun e w' => e = .returned (.bool z) ∧ w = w' := by
  have C := Lib.hid (cu_idx l v hlen w A cap hA)
  have hz' := Lib.hid hz
  clear hA hz
  go_enter Tryz.func91, Tryz.ntmps91
  go_wp2_with fail
  refine C.out.mono ?_
  clear C
  rintro e w' ⟨⟨r, rfl, hr⟩, rfl⟩
  have hr' := Lib.hid hr
  clear hr
  go_wp2
  go_ret
  exact ⟨ret_b (by rw [hr'.out, hz'.out]), rfl⟩
end Go.Proofs.YthobaffgllipfaaGreat
