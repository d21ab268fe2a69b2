/-
  Package value: the document's names of codes.
-/
import Derived.Test.YtfbkoieodflcpaaGreatDoorRows
import Derived.Test.YtfbkoieodflcpaaGreatDoorBase
import Derived.Test.YtfbkoieodflcpaaGreatDoorDecA
import Derived.Test.YtfbkoieodflcpaaGreatDoorValA
import Derived.Test.YtfbkoieodflcpaaGreatDoorValB
import Derived.Test.YtfbkoieodflcpaaGreatDoorMg9
import Derived.WalkSpells
import Derived.WalkLawsBesides
import Derived.StillTactics
import Derived.Laws.Pointers
import Derived.Deep.RegionHeld3
import Derived.Deep.QuietTactic
import Derived.BigQuiet
import Derived.RowKit3
import Derived.Lib.Hide
import Derived.Lib.OthersKept
import Derived.OwnWalk
import Derived.Lib.IndexLaws
import Derived.Lib.ItoaMem
import Derived.WalkKit
import Derived.ProofKit
import Derived.OpenShut
import Derived.Carry
import Derived.ChangeSame
import Derived.Deep.Draws
namespace Go.Proofs.YtfbkoieodflcpaaGreatDoor
open Go.RowKit

set_option maxHeartbeats 1000000 in
theorem rnames_any (w : World) : Calls Tryz.prog 113 #[] w fun e w' => e = .returned (.slice (some ⟨w.heap.size, 0, none⟩) 8 8) ∧ w'.cell? ⟨w.heap.size, 0, none⟩ = some (.string (⟨#[35, 67, 89, 67, 76, 69, 33]⟩)) ∧ w'.cell? ⟨w.heap.size, 1, none⟩ = some (.string (⟨#[35, 78, 85, 77, 33]⟩)) ∧ w'.cell? ⟨w.heap.size, 2, none⟩ = some (.string (⟨#[35, 68, 73, 86, 33]⟩)) ∧ w'.cell? ⟨w.heap.size, 3, none⟩ = some (.string (⟨#[35, 84, 89, 80, 69, 33]⟩)) ∧ w'.cell? ⟨w.heap.size, 4, none⟩ = some (.string (⟨#[35, 82, 65, 78, 71, 69, 33]⟩)) ∧ w'.cell? ⟨w.heap.size, 5, none⟩ = some (.string (⟨#[35, 77, 73, 83, 83, 33]⟩)) ∧ w'.cell? ⟨w.heap.size, 6, none⟩ = some (.string (⟨#[35, 76, 79, 78, 71, 33]⟩)) ∧ w'.cell? ⟨w.heap.size, 7, none⟩ = some (.string (⟨#[35, 65, 82, 71, 33]⟩)) ∧ w.heap.size < w'.heap.size ∧ Below w.heap.size w w' := by
  go_enter Tryz.func113, Tryz.ntmps113
  go_wp2
  go_ret
  refine ⟨rfl, ?_, ?_, ?_, ?_, ?_, ?_, ?_, ?_, ?_, by (repeat (first | (with_reducible exact Below.refl _ _) | (with_reducible refine Below.alloc ?_ (by first | omega | (dsimp only; omega) | (simp <;> omega)) _) | (with_reducible refine Below.setCell ?_ (by first | omega | (dsimp only; omega) | (simp <;> omega)) _) | (with_reducible refine Below.drew ?_) | (with_reducible refine below_drewN ?_ _) | (with_reducible refine Below.trans ?_ (Below.mono (by assumption) (by first | omega | (dsimp only; omega) | (simp <;> omega))))))⟩ <;> simp [go_sem]
set_option maxHeartbeats 400000 in
theorem rname_out (c : Int) (h : c < 1 ∨ 8 < c) (w : World) :
    Calls Tryz.prog 77 #[.int .i64 c] w
      fun e w' => e = .returned (.string (codeName c)) ∧ Below w.heap.size w w' := by
  have hn := Lib.hid (codeName_no (c := c) (by omega))
  go_enter Tryz.func77, Tryz.ntmps77
  rcases h with h | h
  all_goals go_wp2
  all_goals go_ret
  all_goals exact ⟨by rw [hn.out]; rfl, Below.refl _ _⟩
set_option maxRecDepth 100000 in
set_option maxHeartbeats 400000 in
theorem rname_1  (w : World) :
    Calls Tryz.prog 77 #[.int .i64 1] w
      fun e w' => e = .returned (.string (⟨#[35, 67, 89, 67, 76, 69, 33]⟩)) ∧ Below w.heap.size w w' := by
  go_enter Tryz.func77, Tryz.ntmps77
  go_wp2_with (go_at_call 113; refine (rnames_any _).mono ?_; rintro e w1 ⟨rfl, h0, h1, h2, h3, h4, h5, h6, h7, hz, hb⟩)
  go_ret
  exact ⟨rfl, hb⟩
set_option maxRecDepth 100000 in
set_option maxHeartbeats 400000 in
theorem rname_2  (w : World) :
    Calls Tryz.prog 77 #[.int .i64 2] w
      fun e w' => e = .returned (.string (⟨#[35, 78, 85, 77, 33]⟩)) ∧ Below w.heap.size w w' := by
  go_enter Tryz.func77, Tryz.ntmps77
  go_wp2_with (go_at_call 113; refine (rnames_any _).mono ?_; rintro e w1 ⟨rfl, h0, h1, h2, h3, h4, h5, h6, h7, hz, hb⟩)
  go_ret
  exact ⟨rfl, hb⟩
set_option maxRecDepth 100000 in
set_option maxHeartbeats 400000 in
theorem rname_3  (w : World) :
    Calls Tryz.prog 77 #[.int .i64 3] w
      fun e w' => e = .returned (.string (⟨#[35, 68, 73, 86, 33]⟩)) ∧ Below w.heap.size w w' := by
  go_enter Tryz.func77, Tryz.ntmps77
  go_wp2_with (go_at_call 113; refine (rnames_any _).mono ?_; rintro e w1 ⟨rfl, h0, h1, h2, h3, h4, h5, h6, h7, hz, hb⟩)
  go_ret
  exact ⟨rfl, hb⟩
set_option maxRecDepth 100000 in
set_option maxHeartbeats 400000 in
theorem rname_4  (w : World) :
    Calls Tryz.prog 77 #[.int .i64 4] w
      fun e w' => e = .returned (.string (⟨#[35, 84, 89, 80, 69, 33]⟩)) ∧ Below w.heap.size w w' := by
  go_enter Tryz.func77, Tryz.ntmps77
  go_wp2_with (go_at_call 113; refine (rnames_any _).mono ?_; rintro e w1 ⟨rfl, h0, h1, h2, h3, h4, h5, h6, h7, hz, hb⟩)
  go_ret
  exact ⟨rfl, hb⟩
set_option maxRecDepth 100000 in
set_option maxHeartbeats 400000 in
theorem rname_5  (w : World) :
    Calls Tryz.prog 77 #[.int .i64 5] w
      fun e w' => e = .returned (.string (⟨#[35, 82, 65, 78, 71, 69, 33]⟩)) ∧ Below w.heap.size w w' := by
  go_enter Tryz.func77, Tryz.ntmps77
  go_wp2_with (go_at_call 113; refine (rnames_any _).mono ?_; rintro e w1 ⟨rfl, h0, h1, h2, h3, h4, h5, h6, h7, hz, hb⟩)
  go_ret
  exact ⟨rfl, hb⟩
set_option maxRecDepth 100000 in
set_option maxHeartbeats 400000 in
theorem rname_6  (w : World) :
    Calls Tryz.prog 77 #[.int .i64 6] w
      fun e w' => e = .returned (.string (⟨#[35, 77, 73, 83, 83, 33]⟩)) ∧ Below w.heap.size w w' := by
  go_enter Tryz.func77, Tryz.ntmps77
  go_wp2_with (go_at_call 113; refine (rnames_any _).mono ?_; rintro e w1 ⟨rfl, h0, h1, h2, h3, h4, h5, h6, h7, hz, hb⟩)
  go_ret
  exact ⟨rfl, hb⟩
set_option maxRecDepth 100000 in
set_option maxHeartbeats 400000 in
theorem rname_7  (w : World) :
    Calls Tryz.prog 77 #[.int .i64 7] w
      fun e w' => e = .returned (.string (⟨#[35, 76, 79, 78, 71, 33]⟩)) ∧ Below w.heap.size w w' := by
  go_enter Tryz.func77, Tryz.ntmps77
  go_wp2_with (go_at_call 113; refine (rnames_any _).mono ?_; rintro e w1 ⟨rfl, h0, h1, h2, h3, h4, h5, h6, h7, hz, hb⟩)
  go_ret
  exact ⟨rfl, hb⟩
set_option maxRecDepth 100000 in
set_option maxHeartbeats 400000 in
theorem rname_8  (w : World) :
    Calls Tryz.prog 77 #[.int .i64 8] w
      fun e w' => e = .returned (.string (⟨#[35, 65, 82, 71, 33]⟩)) ∧ Below w.heap.size w w' := by
  go_enter Tryz.func77, Tryz.ntmps77
  go_wp2_with (go_at_call 113; refine (rnames_any _).mono ?_; rintro e w1 ⟨rfl, h0, h1, h2, h3, h4, h5, h6, h7, hz, hb⟩)
  go_ret
  exact ⟨rfl, hb⟩
theorem rcode_any (c : Int) (w : World) : Calls Tryz.prog 77 #[.int .i64 c] w fun e w' => e = .returned (.string (codeName c)) ∧ Below w.heap.size w w' := by
  by_cases h : c < 1 ∨ 8 < c
  · exact rname_out c h w
  · have : c = 1 ∨ c = 2 ∨ c = 3 ∨ c = 4 ∨ c = 5 ∨ c = 6 ∨ c = 7 ∨ c = 8 := by omega
    rcases this with rfl | rfl | rfl | rfl | rfl | rfl | rfl | rfl
    · exact rname_1 w
    · exact rname_2 w
    · exact rname_3 w
    · exact rname_4 w
    · exact rname_5 w
    · exact rname_6 w
    · exact rname_7 w
    · exact rname_8 w
end Go.Proofs.YtfbkoieodflcpaaGreatDoor
