/-
  stamps: the rank of a number.
-/
import Derived.Test.YtkpoidlohgnbpaaRows
import Derived.Test.YtkpoidlohgnbpaaBase
import Derived.Test.YtkpoidlohgnbpaaStK
import Derived.Test.YtkpoidlohgnbpaaAddrC
import Derived.Test.YtkpoidlohgnbpaaStC
import Derived.Test.YtkpoidlohgnbpaaStD
import Derived.Test.YtkpoidlohgnbpaaProg
import Derived.Test.YtkpoidlohgnbpaaShelf
import Derived.WalkSpells
import Derived.WalkLawsBesides
import Derived.StillTactics
import Derived.Laws.Pointers
import Derived.Deep.RegionHeld3
import Derived.Deep.QuietTactic
import Derived.BigQuiet
import Derived.RowKit3
import Derived.Lib.Hide
import Derived.Lib.OthersKept
import Derived.OwnWalk
import Derived.Lib.IndexLaws
import Derived.Lib.ItoaMem
import Derived.WalkKit
import Derived.ProofKit
import Derived.OpenShut
import Derived.Carry
import Derived.ChangeSame
import Derived.Deep.Draws
import Derived.DeepKeys4
import Derived.Maps.OwnSet
import Derived.Maps.AppendAt
import Derived.Maps.RangeWalk
import Derived.IntWalk
import Derived.StillTailTactics
import Derived.Shelf.Small.Bits
import Derived.Shelf.Strconv.Itoa0
import Derived.Shelf.Sort.Plain
import Derived.Ground.Names2Prog
import Derived.Shelf.Slices.SearchI
import Derived.Shelf.Slices.In.SortNone
import Derived.Shelf.Slices.Empties
namespace Go.Proofs.Ytkpoidlohgnbpaa
open Go.RowKit Go.Maps

/-- how many of some numbers are not above x -/
def rkL (zs : List Int) (x : Int) : Nat := zs.countP fun y => decide (y ≤ x)
theorem rkL_split (x : Int) : ∀ zs : List Int, zs.Nodup → rkL zs x = zs.countP (fun y => decide (y < x)) + if zs.contains x then 1 else 0
  | [], _ => by simp [rkL]
  | y :: zs, h => by
    obtain ⟨h1, h2⟩ := List.nodup_cons.1 h
    have ih := rkL_split x zs h2
    unfold rkL at ih ⊢
    rw [List.countP_cons, List.countP_cons, ih]
    by_cases e : y = x
    · subst e
      simp [h1]
    · have e2 : (y :: zs).contains x = zs.contains x := by simp [Ne.symm e]
      rw [e2]
      by_cases h3 : y < x
      · have : y ≤ x := by omega
        simp [h3, this]; omega
      · have : ¬ y ≤ x := by omega
        simp [h3, this]
/-- where a slice of numbers lies that a variable holds -/
def NumsAt (w : World) (p : Nat) (zs : List Int) : Prop :=
  (w.cell? ⟨p, 0, none⟩ = some (.slice none 0 0) ∧ zs = []) ∨ ∃ g cap, w.cell? ⟨p, 0, none⟩ = some (.slice (some ⟨g, 0, none⟩) zs.length cap) ∧ g < w.heap.size ∧ ∀ j, j < zs.length → w.cell? ⟨g, 0 + j, none⟩ = some (.int .i64 (zs.getD j 0))
theorem NumsAt.below {w w' : World} {p B : Nat} {zs : List Int} (h : NumsAt w p zs) (hb : Below B w w') (hp : p < B) (hg : ∀ g cap, w.cell? ⟨p, 0, none⟩ = some (.slice (some ⟨g, 0, none⟩) zs.length cap) → g < B) : NumsAt w' p zs := by
  rcases h with ⟨h1, h2⟩ | ⟨g, cap, h1, h2, h3⟩
  · exact .inl ⟨(hb.cell (p := ⟨p, 0, none⟩) hp).trans h1, h2⟩
  · exact .inr ⟨g, cap, (hb.cell (p := ⟨p, 0, none⟩) hp).trans h1, Nat.lt_of_lt_of_le h2 hb.size, fun j hj => (hb.cell (p := ⟨g, _, none⟩) (hg g cap h1)).trans (h3 j hj)⟩
set_option maxRecDepth 100000 in
set_option maxHeartbeats 1000000 in
theorem rank_some (x : Int) (zs : List Int) (hs : zs.Pairwise (· ≤ ·)) (hn : zs.Nodup) (hl : zs.length < 4611686018427387904) (w : World) (p g cap : Nat) (hc0 : w.cell? ⟨p, 0, none⟩ = some (.slice (some ⟨g, 0, none⟩) zs.length cap)) (hc : ∀ j, j < zs.length → w.cell? ⟨g, 0 + j, none⟩ = some (.int .i64 (zs.getD j 0))) : Calls Try.prog 20 #[.int .i64 x, .pointer (some ⟨p, 0, none⟩)] w fun e w' => e = .returned (.int .i64 (rkL zs x : Nat)) ∧ ∃ q, w' = w.drewN q := by
  have C := Try.slices_BinarySearch_int g 0 zs.length cap zs x w (Nat.le_refl _) hl hc (by rw [List.take_length]; exact hs)
  rw [List.take_length] at C
  have hsp := rkL_split x zs hn
  have hcl : zs.countP (fun y => decide (y < x)) ≤ zs.length := List.countP_le_length
  obtain ⟨a, ha⟩ : ∃ a, zs.countP (fun y => decide (y < x)) = a := ⟨_, rfl⟩
  rw [ha] at C hsp hcl
  cases hz : zs.contains x
  · rw [hz] at C hsp
    have C' := Lib.hid C
    have hsp' := Lib.hid hsp
    clear C hsp hc
    go_enter Try.func20, Try.ntmps20
    go_wp2_with fail
    refine C'.out.mono ?_
    rintro e w' ⟨rfl, q, rfl⟩
    go_wp2
    go_ret
    exact ⟨by rw [hsp'.out]; rfl, q, rfl⟩
  · rw [hz] at C hsp
    have C' := Lib.hid C
    have hsp' := Lib.hid hsp
    clear C hsp hc
    go_enter Try.func20, Try.ntmps20
    go_wp2_with fail
    refine C'.out.mono ?_
    rintro e w' ⟨rfl, q, rfl⟩
    go_wp2
    go_ret
    exact ⟨by rw [hsp'.out]; simp, q, rfl⟩
set_option maxHeartbeats 1000000 in
theorem rank_none (x : Int) (w : World) (p : Nat) (hc0 : w.cell? ⟨p, 0, none⟩ = some (.slice none 0 0)) : Calls Try.prog 20 #[.int .i64 x, .pointer (some ⟨p, 0, none⟩)] w fun e w' => e = .returned (.int .i64 0) ∧ w' = w := by
  go_enter Try.func20, Try.ntmps20
  go_wp2_with fail
  refine (Try.slices_BinarySearch_int_empty none 0 x _).mono ?_
  rintro e w' ⟨rfl, rfl⟩
  go_wp2
  go_ret
  exact ⟨rfl, rfl⟩
theorem rank_any (x : Int) (zs : List Int) (hs : zs.Pairwise (· ≤ ·)) (hn : zs.Nodup) (hl : zs.length < 4611686018427387904) (w : World) (p : Nat) (h : NumsAt w p zs) : Calls Try.prog 20 #[.int .i64 x, .pointer (some ⟨p, 0, none⟩)] w fun e w' => e = .returned (.int .i64 (rkL zs x : Nat)) ∧ ∃ q, w' = w.drewN q := by
  rcases h with ⟨h1, rfl⟩ | ⟨g, cap, h1, _, h3⟩
  · exact (rank_none x w p h1).mono fun e w' ⟨h2, h3⟩ => ⟨h2, 0, by rw [h3]; rfl⟩
  · exact rank_some x zs hs hn hl w p g cap h1 h3
end Go.Proofs.Ytkpoidlohgnbpaa
