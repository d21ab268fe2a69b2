/-
  nums: each function behind its name: the whole table.
-/
import Derived.Test.YthobaffgllipfaaGreatRows
import Derived.Test.YthobaffgllipfaaGreatBase
import Derived.Test.YthobaffgllipfaaGreatMapK
import Derived.Test.YthobaffgllipfaaGreatNFind
import Derived.Test.YthobaffgllipfaaGreatMg3
import Derived.Test.YthobaffgllipfaaGreatValA
import Derived.Test.YthobaffgllipfaaGreatValB
import Derived.Test.YthobaffgllipfaaGreatDecS
import Derived.Test.YthobaffgllipfaaGreatValC
import Derived.Test.YthobaffgllipfaaGreatAddrC
import Derived.Test.YthobaffgllipfaaGreatMg9
import Derived.Test.YthobaffgllipfaaGreatDMod
import Derived.Test.YthobaffgllipfaaGreatDFlo
import Derived.Test.YthobaffgllipfaaGreatProg
import Derived.Test.YthobaffgllipfaaGreatMg12
import Derived.Test.YthobaffgllipfaaGreatDRnd
import Derived.Test.YthobaffgllipfaaGreatMg14
import Derived.Test.YthobaffgllipfaaGreatKnuth
import Derived.Test.YthobaffgllipfaaGreatDDiv
import Derived.Test.YthobaffgllipfaaGreatMg17
import Derived.Test.YthobaffgllipfaaGreatNDoA
import Derived.Test.YthobaffgllipfaaGreatNDoB
import Derived.Test.YthobaffgllipfaaGreatNDoC
import Derived.Test.YthobaffgllipfaaGreatMg21
import Derived.Test.YthobaffgllipfaaGreatNCall
import Derived.Test.YthobaffgllipfaaGreatValL
import Derived.Test.YthobaffgllipfaaGreatNCallK
import Derived.Test.YthobaffgllipfaaGreatNCallB
import Derived.Test.YthobaffgllipfaaGreatNDoF
import Derived.Test.YthobaffgllipfaaGreatMg27
import Derived.Test.YthobaffgllipfaaGreatNDoQ
import Derived.Test.YthobaffgllipfaaGreatNDoP
import Derived.Test.YthobaffgllipfaaGreatNDoAt2
import Derived.Test.YthobaffgllipfaaGreatDPowB
import Derived.Test.YthobaffgllipfaaGreatDPowC
import Derived.Deep.RegionWith
import Derived.WalkSpells
import Derived.WalkLawsBesides
import Derived.StillTactics
import Derived.Laws.Pointers
import Derived.Deep.RegionHeld3
import Derived.Deep.QuietTactic
import Derived.BigQuiet
import Derived.RowKit3
import Derived.Lib.Hide
import Derived.Lib.OthersKept
import Derived.OwnWalk
import Derived.Lib.IndexLaws
import Derived.Lib.ItoaMem
import Derived.WalkKit
import Derived.ProofKit
import Derived.OpenShut
import Derived.Carry
import Derived.ChangeSame
import Derived.Deep.Draws
import Derived.Maps.OwnSet
import Derived.Maps.AppendAt
import Derived.Laws.EntriesVeiled
import Derived.Laws.BitsAllLaws
import Derived.Shelf.Small.Bits
import Derived.Shelf.Strconv.Itoa0
import Derived.Shelf.Bits.Mul64
import Derived.Lib.TrimByte
import Derived.Lib.Bytealg
import Derived.Lib.SlTrimSet
import Derived.Lib.ParseIntB
import Derived.Shelf.Strings.SlTrimAscii
import Derived.Lib.SmallJoins
import Derived.Laws.Externs
namespace Go.Proofs.YthobaffgllipfaaGreat
open Go.RowKit

theorem powerV_in (x n : Int) : -9223372036854775808 ≤ powerV x n ∧ powerV x n ≤ 9223372036854775807 := by
  unfold powerV
  split
  · omega
  · split
    · omega
    · split
      · omega
      · split
        · omega
        · exact exV_in _
set_option maxRecDepth 100000 in
set_option maxHeartbeats 1000000 in
theorem do_POWER2 (x : Int) (hx : -9223372036854775807 ≤ x ∧ x ≤ 9223372036854775807) (y : Int) (hy : -9223372036854775807 ≤ y ∧ y ≤ 9223372036854775807) (pb : Nat) (v : Int) (h : wholeB y = true) (hv : wholeV y = v) (w : World) (gb cap : Nat) (hg : gb < w.heap.size) (_hcap : 2 ≤ cap) (c0 : w.cell? ⟨gb, 0, none⟩ = some (.int .i64 x)) (c1 : w.cell? ⟨gb, 1, none⟩ = some (.int .i64 y)) (hp : pb < w.heap.size) (cp : w.cell? ⟨pb, 0, none⟩ = some (.func (.func 46) #[] #[])) : Calls Tryz.prog 80 #[.slice (some ⟨gb, 0, none⟩) 2 cap, .pointer (some ⟨pb, 0, none⟩)] w fun e w' => e = .returned (.agg #[.int .i64 (toldL (powerV x v) (powerC x v)).t, .int .i64 (toldL (powerV x v) (powerC x v)).n, .string (toldL (powerV x v) (powerC x v)).s, .bool (toldL (powerV x v) (powerC x v)).b, .int .i64 (toldL (powerV x v) (powerC x v)).c]) ∧ Below w.heap.size w w' := by
  have hne : gb ≠ w.heap.size := by omega
  have hpb : pb ≠ w.heap.size := by omega
  have hvb : -9223372036854775808 ≤ v ∧ v ≤ 9223372036854775807 := by rw [← hv]; exact wholeV_in y (by omega)
  have hw : IntKind.i64.wrap v = v := IntWalk.i64_in _ (by omega)
  have HW : ∀ w2, Hid (Calls Tryz.prog 81 #[.int .i64 y] w2 fun e w' => e = .returned (.tuple #[.int .i64 v, .bool true]) ∧ w2 = w') := fun w2 => Lib.hid (by have H := whole_any y (by omega) w2; rw [h, hv] at H; exact H)
  clear h hv
  go_enter Tryz.func80, Tryz.ntmps80
  go_wp2_with fail
  refine (HW _).out.mono ?_
  rintro e w' ⟨rfl, rfl⟩
  clear HW
  go_wp2_with fail
  first | (go_loud (go_region_held3 (fun w' => w'.cell? ⟨gb, 0, none⟩ = some (.int .i64 x) ∧ w'.cell? ⟨gb, 1, none⟩ = some (.int .i64 y) ∧ w'.cell? ⟨pb, 0, none⟩ = some (.func (.func 46) #[] #[]) ∧ ResAt w' (w.heap.size) 5 ∧ Below w.heap.size w w' ∧ w.heap.size + 1 ≤ w'.heap.size)
    (first | (go_split_ands; exact ⟨(by simp [go_sem, *]), (by simp [go_sem, *]), (by simp [go_sem, *]), (by first | (with_reducible exact ResAt.drew (ResAt.new5 _ _ _ _ _ _ _)) | (repeat (first | (with_reducible assumption) | (with_reducible refine ResAt.setCell ?_ _ _) | (with_reducible refine ResAt.drew ?_)))), (by (repeat (first | (with_reducible exact Below.refl _ _) | (with_reducible refine Below.alloc ?_ (by first | omega | (dsimp only; omega) | (simp <;> omega)) _) | (with_reducible refine Below.setCell ?_ (by first | omega | (dsimp only; omega) | (simp <;> omega)) _) | (with_reducible refine Below.drew ?_) | (with_reducible refine below_drewN ?_ _) | (with_reducible refine Below.trans ?_ (Below.mono (by assumption) (by first | omega | (dsimp only; omega) | (simp <;> omega))))))), (by first | (simp; done) | (simp; omega))⟩) | (exact ⟨(by simp [go_sem, *]), (by simp [go_sem, *]), (by simp [go_sem, *]), (by first | (with_reducible exact ResAt.drew (ResAt.new5 _ _ _ _ _ _ _)) | (repeat (first | (with_reducible assumption) | (with_reducible refine ResAt.setCell ?_ _ _) | (with_reducible refine ResAt.drew ?_)))), (by (repeat (first | (with_reducible exact Below.refl _ _) | (with_reducible refine Below.alloc ?_ (by first | omega | (dsimp only; omega) | (simp <;> omega)) _) | (with_reducible refine Below.setCell ?_ (by first | omega | (dsimp only; omega) | (simp <;> omega)) _) | (with_reducible refine Below.drew ?_) | (with_reducible refine below_drewN ?_ _) | (with_reducible refine Below.trans ?_ (Below.mono (by assumption) (by first | omega | (dsimp only; omega) | (simp <;> omega))))))), (by first | (simp; done) | (simp; omega))⟩) | (go_split_ands; exact ⟨(by rw [hb.cell (by dsimp only; omega)]; assumption), (by rw [hb.cell (by dsimp only; omega)]; assumption), (by rw [hb.cell (by dsimp only; omega)]; assumption), (ResAt.below (by assumption) hb (by omega)), (Below.trans (by assumption) (hb.mono (by omega))), (by have := hb.size; omega)⟩))
    (first | (go_at_call 46; refine (power_any x v (by omega) _).mono ?_; rintro e w1 ⟨rfl, hb⟩) | (go_at_call 35; refine (told_c (powerV x v) (powerV_in x v) (powerC x v) _).mono ?_; rintro e w1 ⟨rfl, hb⟩)))) | fail "region"
  go_split_ands
  go_wp2
  try simp only [resAt_setCell] at *
  refine bodyPost_ret (v := .agg #[.int .i64 (toldL (powerV x v) (powerC x v)).t, .int .i64 (toldL (powerV x v) (powerC x v)).n, .string (toldL (powerV x v) (powerC x v)).s, .bool (toldL (powerV x v) (powerC x v)).b, .int .i64 (toldL (powerV x v) (powerC x v)).c]) ?_ rfl ⟨rfl, by first | assumption | (go_split_ands; first | assumption | ((repeat (first | (with_reducible exact Below.refl _ _) | (with_reducible refine Below.alloc ?_ (by first | omega | (dsimp only; omega) | (simp <;> omega)) _) | (with_reducible refine Below.setCell ?_ (by first | omega | (dsimp only; omega) | (simp <;> omega)) _) | (with_reducible refine Below.drew ?_) | (with_reducible refine below_drewN ?_ _) | (with_reducible refine Below.trans ?_ (Below.mono (by assumption) (by first | omega | (dsimp only; omega) | (simp <;> omega)))))); done)) | ((repeat (first | (with_reducible exact Below.refl _ _) | (with_reducible refine Below.alloc ?_ (by first | omega | (dsimp only; omega) | (simp <;> omega)) _) | (with_reducible refine Below.setCell ?_ (by first | omega | (dsimp only; omega) | (simp <;> omega)) _) | (with_reducible refine Below.drew ?_) | (with_reducible refine below_drewN ?_ _) | (with_reducible refine Below.trans ?_ (Below.mono (by assumption) (by first | omega | (dsimp only; omega) | (simp <;> omega)))))); done)⟩
  simp [results, Tryz.results80, go_sem, *]
set_option maxRecDepth 100000 in
theorem at_TRUNC2 (x : Int) (hx : -9223372036854775807 ≤ x ∧ x ≤ 9223372036854775807) (y : Int) (hy : -9223372036854775807 ≤ y ∧ y ≤ 9223372036854775807) : DoAt ⟨#[84, 82, 85, 78, 67]⟩ [x, y] (if wholeB y = true then toldL (truncV x (wholeV y)) (0) else errL 8) := ⟨fun w b0 b1 b2 lo mo d h hb0 hb1 hb2 hc0 hc1 hc2 gb cap hg hcap hc => by
  have e : lookL nZero (nTab b0 b1 b2) ⟨#[84, 82, 85, 78, 67]⟩ = .agg #[.int .i64 1, .int .i64 2, .func (.func 80) #[] #[.pointer (some ⟨b0, 0, none⟩)]] := by kernel_rfl
  have hd := third_of (e.symm.trans h)
  cases hw : wholeB y
  · rw [if_neg (by simp)]
    exact ⟨80, #[.pointer (some ⟨b0, 0, none⟩)], hd.symm, fun _ _ => by simp [go_sem], do_PLno x hx y hy b0 _ hw rfl w gb cap hg hcap (hc 0 x rfl) (hc 1 y rfl)⟩
  · rw [if_pos rfl]
    exact ⟨80, #[.pointer (some ⟨b0, 0, none⟩)], hd.symm, fun _ _ => by simp [go_sem], do_TRUNC2 x hx y hy b0 _ hw rfl w gb cap hg hcap (hc 0 x rfl) (hc 1 y rfl) hb0 hc0⟩⟩
set_option maxRecDepth 100000 in
theorem at_ROUND2 (x : Int) (hx : -9223372036854775807 ≤ x ∧ x ≤ 9223372036854775807) (y : Int) (hy : -9223372036854775807 ≤ y ∧ y ≤ 9223372036854775807) : DoAt ⟨#[82, 79, 85, 78, 68]⟩ [x, y] (if wholeB y = true then toldL (roundV x (wholeV y)) (roundC x (wholeV y)) else errL 8) := ⟨fun w b0 b1 b2 lo mo d h hb0 hb1 hb2 hc0 hc1 hc2 gb cap hg hcap hc => by
  have e : lookL nZero (nTab b0 b1 b2) ⟨#[82, 79, 85, 78, 68]⟩ = .agg #[.int .i64 1, .int .i64 2, .func (.func 80) #[] #[.pointer (some ⟨b1, 0, none⟩)]] := by kernel_rfl
  have hd := third_of (e.symm.trans h)
  cases hw : wholeB y
  · rw [if_neg (by simp)]
    exact ⟨80, #[.pointer (some ⟨b1, 0, none⟩)], hd.symm, fun _ _ => by simp [go_sem], do_PLno x hx y hy b1 _ hw rfl w gb cap hg hcap (hc 0 x rfl) (hc 1 y rfl)⟩
  · rw [if_pos rfl]
    exact ⟨80, #[.pointer (some ⟨b1, 0, none⟩)], hd.symm, fun _ _ => by simp [go_sem], do_ROUND2 x hx y hy b1 _ hw rfl w gb cap hg hcap (hc 0 x rfl) (hc 1 y rfl) hb1 hc1⟩⟩
set_option maxRecDepth 100000 in
theorem at_POWER (x : Int) (hx : -9223372036854775807 ≤ x ∧ x ≤ 9223372036854775807) (y : Int) (hy : -9223372036854775807 ≤ y ∧ y ≤ 9223372036854775807) : DoAt ⟨#[80, 79, 87, 69, 82]⟩ [x, y] (if wholeB y = true then toldL (powerV x (wholeV y)) (powerC x (wholeV y)) else errL 8) := ⟨fun w b0 b1 b2 lo mo d h hb0 hb1 hb2 hc0 hc1 hc2 gb cap hg hcap hc => by
  have e : lookL nZero (nTab b0 b1 b2) ⟨#[80, 79, 87, 69, 82]⟩ = .agg #[.int .i64 2, .int .i64 2, .func (.func 80) #[] #[.pointer (some ⟨b2, 0, none⟩)]] := by kernel_rfl
  have hd := third_of (e.symm.trans h)
  cases hw : wholeB y
  · rw [if_neg (by simp)]
    exact ⟨80, #[.pointer (some ⟨b2, 0, none⟩)], hd.symm, fun _ _ => by simp [go_sem], do_PLno x hx y hy b2 _ hw rfl w gb cap hg hcap (hc 0 x rfl) (hc 1 y rfl)⟩
  · rw [if_pos rfl]
    exact ⟨80, #[.pointer (some ⟨b2, 0, none⟩)], hd.symm, fun _ _ => by simp [go_sem], do_POWER2 x hx y hy b2 _ hw rfl w gb cap hg hcap (hc 0 x rfl) (hc 1 y rfl) hb2 hc2⟩⟩
theorem do_LCM (l : List Int) (hl : ∀ x ∈ l, -9223372036854775807 ≤ x ∧ x ≤ 9223372036854775807) (hlen : l.length ≤ 1649267441664) (h1 : 1 ≤ l.length) (w : World) (gb cap : Nat) (hg : gb < w.heap.size) (hcap : l.length ≤ cap) (hc : ∀ (j : Nat) (x : Int), l[j]? = some x → w.cell? ⟨gb, j, none⟩ = some (.int .i64 x)) : Calls Tryz.prog 50 #[.slice (some ⟨gb, 0, none⟩) l.length cap] w fun e w' => e = .returned (.agg #[.int .i64 (lcmL l).t, .int .i64 (lcmL l).n, .string (lcmL l).s, .bool (lcmL l).b, .int .i64 (lcmL l).c]) ∧ Below w.heap.size w w' := by
  unfold lcmL
  have hb : ∀ x ∈ wholesN l, x ≤ 922337203685477 := fun x hx => by
    unfold wholesN at hx
    obtain ⟨y, hy, rfl⟩ := List.mem_map.1 hx
    have := hl y hy
    omega
  cases h : allWhole l
  · rw [if_neg (by simp)]; exact do_LCM0 l hl hlen w gb cap hg hcap hc h
  · rw [if_pos rfl]
    cases ha : (wholesN l).any (fun y => ((0 : Int) == (y : Int)))
    · rw [if_neg (by simp)]
      refine (do_LCM1 l hl hlen w gb cap hg hcap hc h1 h ha hb).mono fun e w' hh => ?_
      by_cases h3 : 922337203685477 < lcmFold (wholesN l)
      · rw [if_pos h3]; exact ⟨hh.big h3, hh.bel⟩
      · rw [if_neg h3]; exact ⟨hh.fit h3, hh.bel⟩
    · rw [if_pos rfl]; exact do_LCMz l hl hlen w gb cap hg hcap hc h1 h ha
set_option maxRecDepth 100000 in
theorem at_LCM (l : List Int) (hl : ∀ x ∈ l, -9223372036854775807 ≤ x ∧ x ≤ 9223372036854775807) (hlen : l.length ≤ 1649267441664) (h1 : 1 ≤ l.length) : DoAt ⟨#[76, 67, 77]⟩ l (lcmL l) := ⟨fun w b0 b1 b2 lo mo d h hb0 hb1 hb2 hc0 hc1 hc2 gb cap hg hcap hc => by
  have e : lookL nZero (nTab b0 b1 b2) ⟨#[76, 67, 77]⟩ = .agg #[.int .i64 1, .int .i64 16, .func (.func 50) #[] #[]] := by kernel_rfl
  have hd := third_of (e.symm.trans h)
  exact ⟨50, #[], hd.symm, fun _ _ => by simp [go_sem], do_LCM l hl hlen h1 w gb cap hg hcap hc⟩⟩
/-- what the called function answers -/
def doF (s : ByteArray) (l : List Int) (x y z : Int) : VL :=
  if s = ⟨#[65, 66, 83]⟩ then (numL (max x (-x)))
  else if s = ⟨#[83, 73, 71, 78]⟩ then (signL x)
  else if s = ⟨#[73, 78, 84]⟩ then (toldL (floorV x) (floorC x))
  else if s = ⟨#[84, 82, 85, 78, 67]⟩ then (if l.length = 1 then toldL (truncV x 0) 0 else if wholeB y = true then toldL (truncV x (wholeV y)) 0 else errL 8)
  else if s = ⟨#[82, 79, 85, 78, 68]⟩ then (if l.length = 1 then toldL (roundV x 0) (roundC x 0) else if wholeB y = true then toldL (roundV x (wholeV y)) (roundC x (wholeV y)) else errL 8)
  else if s = ⟨#[70, 76, 79, 79, 82]⟩ then (toldL (nfloorV x y) (nfloorC x y))
  else if s = ⟨#[67, 69, 73, 76]⟩ then (toldL (-(nfloorV (-x) y)) (nfloorC (-x) y))
  else if s = ⟨#[77, 79, 68]⟩ then (toldL (modV x y) (modC x y))
  else if s = ⟨#[81, 85, 79, 84]⟩ then (quotL x y)
  else if s = ⟨#[80, 79, 87, 69, 82]⟩ then (if wholeB y = true then toldL (powerV x (wholeV y)) (powerC x (wholeV y)) else errL 8)
  else if s = ⟨#[83, 81, 82, 84]⟩ then (toldL (sqrtV x) (sqrtC x))
  else if s = ⟨#[71, 67, 68]⟩ then (gcdL l)
  else if s = ⟨#[76, 67, 77]⟩ then (lcmL l)
  else if s = ⟨#[70, 65, 67, 84]⟩ then (factL x)
  else if s = ⟨#[67, 76, 65, 77, 80]⟩ then (clampL x y z)
  else if s = ⟨#[79, 68, 68]⟩ then (oddL x)
  else errL 8
def doR (s : ByteArray) (l : List Int) : VL := doF s l (l.getD 0 0) (l.getD 1 0) (l.getD 2 0)
theorem hasL_mem (s : ByteArray) : ∀ l : List (ByteArray × Value), hasL l s = true → ∃ p ∈ l, s = p.1
  | [], h => by simp [hasL] at h
  | (k, x) :: l, h => by
    unfold hasL at h
    by_cases e : s = k
    · exact ⟨(k, x), by simp, e⟩
    · simp only [e, decide_false, Bool.false_or] at h
      obtain ⟨p, hp, he⟩ := hasL_mem s l h
      exact ⟨p, List.mem_cons_of_mem _ hp, he⟩
theorem nKnown_cases {s : ByteArray} (h : nKnown s = true) : s = ⟨#[79, 68, 68]⟩ ∨ s = ⟨#[67, 76, 65, 77, 80]⟩ ∨ s = ⟨#[70, 65, 67, 84]⟩ ∨ s = ⟨#[76, 67, 77]⟩ ∨ s = ⟨#[71, 67, 68]⟩ ∨ s = ⟨#[83, 81, 82, 84]⟩ ∨ s = ⟨#[80, 79, 87, 69, 82]⟩ ∨ s = ⟨#[81, 85, 79, 84]⟩ ∨ s = ⟨#[77, 79, 68]⟩ ∨ s = ⟨#[67, 69, 73, 76]⟩ ∨ s = ⟨#[70, 76, 79, 79, 82]⟩ ∨ s = ⟨#[82, 79, 85, 78, 68]⟩ ∨ s = ⟨#[84, 82, 85, 78, 67]⟩ ∨ s = ⟨#[73, 78, 84]⟩ ∨ s = ⟨#[83, 73, 71, 78]⟩ ∨ s = ⟨#[65, 66, 83]⟩ := by
  obtain ⟨p, hp, rfl⟩ := hasL_mem s _ h
  unfold nTab at hp
  simp only [List.mem_cons, List.not_mem_nil, or_false] at hp
  rcases hp with rfl | rfl | rfl | rfl | rfl | rfl | rfl | rfl | rfl | rfl | rfl | rfl | rfl | rfl | rfl | rfl <;> simp
theorem takesN_known {s : ByteArray} {n : Nat} {z : Bool} (h : takesN s n z = true) : nKnown s = true ∧ nLo s ≤ (n : Int) ∧ (n : Int) ≤ nMo s := by
  unfold takesN at h
  simp at h
  exact ⟨h.1.1.1, h.1.1.2, h.1.2⟩
theorem len1 {l : List Int} (h : l.length = 1) : ∃ x, l = [x] := by
  match l, h with
  | [x], _ => exact ⟨x, rfl⟩
theorem len2 {l : List Int} (h : l.length = 2) : ∃ x y, l = [x, y] := by
  match l, h with
  | [x, y], _ => exact ⟨x, y, rfl⟩
theorem len3 {l : List Int} (h : l.length = 3) : ∃ x y z, l = [x, y, z] := by
  match l, h with
  | [x, y, z], _ => exact ⟨x, y, z, rfl⟩
theorem doAt_ODD (l : List Int) (hl : ∀ x ∈ l, -9223372036854775807 ≤ x ∧ x ≤ 9223372036854775807) (h1 : (1 : Int) ≤ (l.length : Int)) (h2 : (l.length : Int) ≤ 1) : DoAt ⟨#[79, 68, 68]⟩ l (doR ⟨#[79, 68, 68]⟩ l) := by
  obtain ⟨x, rfl⟩ := len1 (l := l) (by omega)
  exact at_ODD x (hl x (by simp))
theorem doAt_CLAMP (l : List Int) (hl : ∀ x ∈ l, -9223372036854775807 ≤ x ∧ x ≤ 9223372036854775807) (h1 : (3 : Int) ≤ (l.length : Int)) (h2 : (l.length : Int) ≤ 3) : DoAt ⟨#[67, 76, 65, 77, 80]⟩ l (doR ⟨#[67, 76, 65, 77, 80]⟩ l) := by
  obtain ⟨x, y, z, rfl⟩ := len3 (l := l) (by omega)
  exact at_CLAMP x (hl x (by simp)) y (hl y (by simp)) z (hl z (by simp))
theorem doAt_FACT (l : List Int) (hl : ∀ x ∈ l, -9223372036854775807 ≤ x ∧ x ≤ 9223372036854775807) (h1 : (1 : Int) ≤ (l.length : Int)) (h2 : (l.length : Int) ≤ 1) : DoAt ⟨#[70, 65, 67, 84]⟩ l (doR ⟨#[70, 65, 67, 84]⟩ l) := by
  obtain ⟨x, rfl⟩ := len1 (l := l) (by omega)
  exact at_FACT x (hl x (by simp))
theorem doAt_LCM (l : List Int) (hl : ∀ x ∈ l, -9223372036854775807 ≤ x ∧ x ≤ 9223372036854775807) (h1 : (1 : Int) ≤ (l.length : Int)) (h2 : (l.length : Int) ≤ 16) : DoAt ⟨#[76, 67, 77]⟩ l (doR ⟨#[76, 67, 77]⟩ l) := by
  exact at_LCM l hl (by omega) (by omega)
theorem doAt_GCD (l : List Int) (hl : ∀ x ∈ l, -9223372036854775807 ≤ x ∧ x ≤ 9223372036854775807) (h1 : (1 : Int) ≤ (l.length : Int)) (h2 : (l.length : Int) ≤ 16) : DoAt ⟨#[71, 67, 68]⟩ l (doR ⟨#[71, 67, 68]⟩ l) := by
  exact at_GCD l hl (by omega) (by omega)
theorem doAt_SQRT (l : List Int) (hl : ∀ x ∈ l, -9223372036854775807 ≤ x ∧ x ≤ 9223372036854775807) (h1 : (1 : Int) ≤ (l.length : Int)) (h2 : (l.length : Int) ≤ 1) : DoAt ⟨#[83, 81, 82, 84]⟩ l (doR ⟨#[83, 81, 82, 84]⟩ l) := by
  obtain ⟨x, rfl⟩ := len1 (l := l) (by omega)
  exact at_SQRT x (hl x (by simp))
theorem doAt_POWER (l : List Int) (hl : ∀ x ∈ l, -9223372036854775807 ≤ x ∧ x ≤ 9223372036854775807) (h1 : (2 : Int) ≤ (l.length : Int)) (h2 : (l.length : Int) ≤ 2) : DoAt ⟨#[80, 79, 87, 69, 82]⟩ l (doR ⟨#[80, 79, 87, 69, 82]⟩ l) := by
  obtain ⟨x, y, rfl⟩ := len2 (l := l) (by omega)
  exact at_POWER x (hl x (by simp)) y (hl y (by simp))
theorem doAt_QUOT (l : List Int) (hl : ∀ x ∈ l, -9223372036854775807 ≤ x ∧ x ≤ 9223372036854775807) (h1 : (2 : Int) ≤ (l.length : Int)) (h2 : (l.length : Int) ≤ 2) : DoAt ⟨#[81, 85, 79, 84]⟩ l (doR ⟨#[81, 85, 79, 84]⟩ l) := by
  obtain ⟨x, y, rfl⟩ := len2 (l := l) (by omega)
  exact at_QUOT x (hl x (by simp)) y (hl y (by simp))
theorem doAt_MOD (l : List Int) (hl : ∀ x ∈ l, -9223372036854775807 ≤ x ∧ x ≤ 9223372036854775807) (h1 : (2 : Int) ≤ (l.length : Int)) (h2 : (l.length : Int) ≤ 2) : DoAt ⟨#[77, 79, 68]⟩ l (doR ⟨#[77, 79, 68]⟩ l) := by
  obtain ⟨x, y, rfl⟩ := len2 (l := l) (by omega)
  exact at_MOD x (hl x (by simp)) y (hl y (by simp))
theorem doAt_CEIL (l : List Int) (hl : ∀ x ∈ l, -9223372036854775807 ≤ x ∧ x ≤ 9223372036854775807) (h1 : (2 : Int) ≤ (l.length : Int)) (h2 : (l.length : Int) ≤ 2) : DoAt ⟨#[67, 69, 73, 76]⟩ l (doR ⟨#[67, 69, 73, 76]⟩ l) := by
  obtain ⟨x, y, rfl⟩ := len2 (l := l) (by omega)
  exact at_CEIL x (hl x (by simp)) y (hl y (by simp))
theorem doAt_FLOOR (l : List Int) (hl : ∀ x ∈ l, -9223372036854775807 ≤ x ∧ x ≤ 9223372036854775807) (h1 : (2 : Int) ≤ (l.length : Int)) (h2 : (l.length : Int) ≤ 2) : DoAt ⟨#[70, 76, 79, 79, 82]⟩ l (doR ⟨#[70, 76, 79, 79, 82]⟩ l) := by
  obtain ⟨x, y, rfl⟩ := len2 (l := l) (by omega)
  exact at_FLOOR x (hl x (by simp)) y (hl y (by simp))
theorem doAt_ROUND (l : List Int) (hl : ∀ x ∈ l, -9223372036854775807 ≤ x ∧ x ≤ 9223372036854775807) (h1 : (1 : Int) ≤ (l.length : Int)) (h2 : (l.length : Int) ≤ 2) : DoAt ⟨#[82, 79, 85, 78, 68]⟩ l (doR ⟨#[82, 79, 85, 78, 68]⟩ l) := by
  by_cases h : l.length = 1
  · obtain ⟨x, rfl⟩ := len1 (l := l) (by omega)
    exact at_ROUND1 x (hl x (by simp))
  · obtain ⟨x, y, rfl⟩ := len2 (l := l) (by omega)
    exact at_ROUND2 x (hl x (by simp)) y (hl y (by simp))
theorem doAt_TRUNC (l : List Int) (hl : ∀ x ∈ l, -9223372036854775807 ≤ x ∧ x ≤ 9223372036854775807) (h1 : (1 : Int) ≤ (l.length : Int)) (h2 : (l.length : Int) ≤ 2) : DoAt ⟨#[84, 82, 85, 78, 67]⟩ l (doR ⟨#[84, 82, 85, 78, 67]⟩ l) := by
  by_cases h : l.length = 1
  · obtain ⟨x, rfl⟩ := len1 (l := l) (by omega)
    exact at_TRUNC1 x (hl x (by simp))
  · obtain ⟨x, y, rfl⟩ := len2 (l := l) (by omega)
    exact at_TRUNC2 x (hl x (by simp)) y (hl y (by simp))
theorem doAt_INT (l : List Int) (hl : ∀ x ∈ l, -9223372036854775807 ≤ x ∧ x ≤ 9223372036854775807) (h1 : (1 : Int) ≤ (l.length : Int)) (h2 : (l.length : Int) ≤ 1) : DoAt ⟨#[73, 78, 84]⟩ l (doR ⟨#[73, 78, 84]⟩ l) := by
  obtain ⟨x, rfl⟩ := len1 (l := l) (by omega)
  exact at_INT x (hl x (by simp))
theorem doAt_SIGN (l : List Int) (hl : ∀ x ∈ l, -9223372036854775807 ≤ x ∧ x ≤ 9223372036854775807) (h1 : (1 : Int) ≤ (l.length : Int)) (h2 : (l.length : Int) ≤ 1) : DoAt ⟨#[83, 73, 71, 78]⟩ l (doR ⟨#[83, 73, 71, 78]⟩ l) := by
  obtain ⟨x, rfl⟩ := len1 (l := l) (by omega)
  exact at_SIGN x (hl x (by simp))
theorem doAt_ABS (l : List Int) (hl : ∀ x ∈ l, -9223372036854775807 ≤ x ∧ x ≤ 9223372036854775807) (h1 : (1 : Int) ≤ (l.length : Int)) (h2 : (l.length : Int) ≤ 1) : DoAt ⟨#[65, 66, 83]⟩ l (doR ⟨#[65, 66, 83]⟩ l) := by
  obtain ⟨x, rfl⟩ := len1 (l := l) (by omega)
  exact at_ABS x (hl x (by simp))
theorem doAt_all (s : ByteArray) (l : List Int) (hl : ∀ x ∈ l, -9223372036854775807 ≤ x ∧ x ≤ 9223372036854775807) {z : Bool} (h : takesN s l.length z = true) : DoAt s l (doR s l) := by
  obtain ⟨h0, h1, h2⟩ := takesN_known h
  rcases nKnown_cases h0 with rfl | rfl | rfl | rfl | rfl | rfl | rfl | rfl | rfl | rfl | rfl | rfl | rfl | rfl | rfl | rfl
  · exact doAt_ODD l hl h1 h2
  · exact doAt_CLAMP l hl h1 h2
  · exact doAt_FACT l hl h1 h2
  · exact doAt_LCM l hl h1 h2
  · exact doAt_GCD l hl h1 h2
  · exact doAt_SQRT l hl h1 h2
  · exact doAt_POWER l hl h1 h2
  · exact doAt_QUOT l hl h1 h2
  · exact doAt_MOD l hl h1 h2
  · exact doAt_CEIL l hl h1 h2
  · exact doAt_FLOOR l hl h1 h2
  · exact doAt_ROUND l hl h1 h2
  · exact doAt_TRUNC l hl h1 h2
  · exact doAt_INT l hl h1 h2
  · exact doAt_SIGN l hl h1 h2
  · exact doAt_ABS l hl h1 h2
end Go.Proofs.YthobaffgllipfaaGreat
