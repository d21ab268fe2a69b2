/-
  The walk of the law of order.
-/
import Derived.Test.YtjnjklcnccfgaaaDoorLDOrdW
import Derived.WalkSpells
import Derived.WalkLawsBesides
import Derived.StillTactics
import Derived.Laws.Pointers
import Derived.Deep.RegionHeld3
import Derived.Deep.QuietTactic
import Derived.BigQuiet
import Derived.RowKit3
import Derived.Lib.Hide
import Derived.Lib.OthersKept
import Derived.OwnWalk
import Derived.Lib.IndexLaws
import Derived.Lib.ItoaMem
namespace Go.Proofs.YtjnjklcnccfgaaaDoor
open Go.RowKit

theorem order_le (a b p : Int) (ha : -9223372036854775808 ≤ a ∧ a ≤ 9223372036854775807) (hb : -9223372036854775808 ≤ b ∧ b ≤ 9223372036854775807) (hp : -9223372036854775808 ≤ p ∧ p ≤ 9223372036854775807) (hab : a ≤ b) (w : World) (ht : Tab w) : Calls Tryd.prog 16 #[.int .i64 a, .int .i64 b, .int .i64 p] w fun e w' => e = .returned (.bool true) ∧ Below w.heap.size w w' := by
  have hx := round_range a p ha
  by_cases hc : roundC a p = 0
  · have hag := round_again a p hc
    by_cases hd : roundC b p = 0
    · by_cases hfc : floorC a = 0
      · by_cases hfd : floorC b = 0
        · by_cases hsc : sqrtC a = 0
          · exact order_221 a b p ha hb hp hab _ _ hx (Lib.hid ⟨rfl, hc⟩) (Lib.hid ⟨rfl, hd⟩) (Lib.hid hag) (round_mono a b p hab hc hd) _ _ (Lib.hid ⟨rfl, hfc⟩) (Lib.hid ⟨rfl, hfd⟩) (by rw [floor_zero a hfc, floor_zero b hfd]; omega) (by rw [floor_zero a hfc]; omega) (by rw [floor_zero a hfc]; omega) _ _ (Lib.hid ⟨rfl, hsc⟩) (Lib.hid ⟨rfl, (sqrt_zero a b ha hb hab hsc).1⟩) (sqrt_zero a b ha hb hab hsc).2.1 (sqrt_zero a b ha hb hab hsc).2.2 w ht
          · exact order_220 a b p ha hb hp hab _ _ hx (Lib.hid ⟨rfl, hc⟩) (Lib.hid ⟨rfl, hd⟩) (Lib.hid hag) (round_mono a b p hab hc hd) _ _ (Lib.hid ⟨rfl, hfc⟩) (Lib.hid ⟨rfl, hfd⟩) (by rw [floor_zero a hfc, floor_zero b hfd]; omega) (by rw [floor_zero a hfc]; omega) (by rw [floor_zero a hfc]; omega) _ _ _ _ (Lib.hid ⟨rfl, rfl⟩) (Lib.hid ⟨rfl, rfl⟩) (by simpa using hsc) w ht
        · by_cases hsc : sqrtC a = 0
          · exact order_211 a b p ha hb hp hab _ _ hx (Lib.hid ⟨rfl, hc⟩) (Lib.hid ⟨rfl, hd⟩) (Lib.hid hag) (round_mono a b p hab hc hd) _ _ _ (Lib.hid ⟨rfl, hfc⟩) (Lib.hid ⟨rfl, rfl⟩) (by simpa using hfd) (by rw [floor_zero a hfc]; omega) (by rw [floor_zero a hfc]; omega) _ _ (Lib.hid ⟨rfl, hsc⟩) (Lib.hid ⟨rfl, (sqrt_zero a b ha hb hab hsc).1⟩) (sqrt_zero a b ha hb hab hsc).2.1 (sqrt_zero a b ha hb hab hsc).2.2 w ht
          · exact order_210 a b p ha hb hp hab _ _ hx (Lib.hid ⟨rfl, hc⟩) (Lib.hid ⟨rfl, hd⟩) (Lib.hid hag) (round_mono a b p hab hc hd) _ _ _ (Lib.hid ⟨rfl, hfc⟩) (Lib.hid ⟨rfl, rfl⟩) (by simpa using hfd) (by rw [floor_zero a hfc]; omega) (by rw [floor_zero a hfc]; omega) _ _ _ _ (Lib.hid ⟨rfl, rfl⟩) (Lib.hid ⟨rfl, rfl⟩) (by simpa using hsc) w ht
      · by_cases hsc : sqrtC a = 0
        · exact order_201 a b p ha hb hp hab _ _ hx (Lib.hid ⟨rfl, hc⟩) (Lib.hid ⟨rfl, hd⟩) (Lib.hid hag) (round_mono a b p hab hc hd) _ _ _ _ (Lib.hid ⟨rfl, rfl⟩) (Lib.hid ⟨rfl, rfl⟩) (by simpa using hfc) _ _ (Lib.hid ⟨rfl, hsc⟩) (Lib.hid ⟨rfl, (sqrt_zero a b ha hb hab hsc).1⟩) (sqrt_zero a b ha hb hab hsc).2.1 (sqrt_zero a b ha hb hab hsc).2.2 w ht
        · exact order_200 a b p ha hb hp hab _ _ hx (Lib.hid ⟨rfl, hc⟩) (Lib.hid ⟨rfl, hd⟩) (Lib.hid hag) (round_mono a b p hab hc hd) _ _ _ _ (Lib.hid ⟨rfl, rfl⟩) (Lib.hid ⟨rfl, rfl⟩) (by simpa using hfc) _ _ _ _ (Lib.hid ⟨rfl, rfl⟩) (Lib.hid ⟨rfl, rfl⟩) (by simpa using hsc) w ht
    · by_cases hfc : floorC a = 0
      · by_cases hfd : floorC b = 0
        · by_cases hsc : sqrtC a = 0
          · exact order_121 a b p ha hb hp hab _ _ _ hx (Lib.hid ⟨rfl, hc⟩) (Lib.hid ⟨rfl, rfl⟩) (Lib.hid hag) (by simpa using hd) _ _ (Lib.hid ⟨rfl, hfc⟩) (Lib.hid ⟨rfl, hfd⟩) (by rw [floor_zero a hfc, floor_zero b hfd]; omega) (by rw [floor_zero a hfc]; omega) (by rw [floor_zero a hfc]; omega) _ _ (Lib.hid ⟨rfl, hsc⟩) (Lib.hid ⟨rfl, (sqrt_zero a b ha hb hab hsc).1⟩) (sqrt_zero a b ha hb hab hsc).2.1 (sqrt_zero a b ha hb hab hsc).2.2 w ht
          · exact order_120 a b p ha hb hp hab _ _ _ hx (Lib.hid ⟨rfl, hc⟩) (Lib.hid ⟨rfl, rfl⟩) (Lib.hid hag) (by simpa using hd) _ _ (Lib.hid ⟨rfl, hfc⟩) (Lib.hid ⟨rfl, hfd⟩) (by rw [floor_zero a hfc, floor_zero b hfd]; omega) (by rw [floor_zero a hfc]; omega) (by rw [floor_zero a hfc]; omega) _ _ _ _ (Lib.hid ⟨rfl, rfl⟩) (Lib.hid ⟨rfl, rfl⟩) (by simpa using hsc) w ht
        · by_cases hsc : sqrtC a = 0
          · exact order_111 a b p ha hb hp hab _ _ _ hx (Lib.hid ⟨rfl, hc⟩) (Lib.hid ⟨rfl, rfl⟩) (Lib.hid hag) (by simpa using hd) _ _ _ (Lib.hid ⟨rfl, hfc⟩) (Lib.hid ⟨rfl, rfl⟩) (by simpa using hfd) (by rw [floor_zero a hfc]; omega) (by rw [floor_zero a hfc]; omega) _ _ (Lib.hid ⟨rfl, hsc⟩) (Lib.hid ⟨rfl, (sqrt_zero a b ha hb hab hsc).1⟩) (sqrt_zero a b ha hb hab hsc).2.1 (sqrt_zero a b ha hb hab hsc).2.2 w ht
          · exact order_110 a b p ha hb hp hab _ _ _ hx (Lib.hid ⟨rfl, hc⟩) (Lib.hid ⟨rfl, rfl⟩) (Lib.hid hag) (by simpa using hd) _ _ _ (Lib.hid ⟨rfl, hfc⟩) (Lib.hid ⟨rfl, rfl⟩) (by simpa using hfd) (by rw [floor_zero a hfc]; omega) (by rw [floor_zero a hfc]; omega) _ _ _ _ (Lib.hid ⟨rfl, rfl⟩) (Lib.hid ⟨rfl, rfl⟩) (by simpa using hsc) w ht
      · by_cases hsc : sqrtC a = 0
        · exact order_101 a b p ha hb hp hab _ _ _ hx (Lib.hid ⟨rfl, hc⟩) (Lib.hid ⟨rfl, rfl⟩) (Lib.hid hag) (by simpa using hd) _ _ _ _ (Lib.hid ⟨rfl, rfl⟩) (Lib.hid ⟨rfl, rfl⟩) (by simpa using hfc) _ _ (Lib.hid ⟨rfl, hsc⟩) (Lib.hid ⟨rfl, (sqrt_zero a b ha hb hab hsc).1⟩) (sqrt_zero a b ha hb hab hsc).2.1 (sqrt_zero a b ha hb hab hsc).2.2 w ht
        · exact order_100 a b p ha hb hp hab _ _ _ hx (Lib.hid ⟨rfl, hc⟩) (Lib.hid ⟨rfl, rfl⟩) (Lib.hid hag) (by simpa using hd) _ _ _ _ (Lib.hid ⟨rfl, rfl⟩) (Lib.hid ⟨rfl, rfl⟩) (by simpa using hfc) _ _ _ _ (Lib.hid ⟨rfl, rfl⟩) (Lib.hid ⟨rfl, rfl⟩) (by simpa using hsc) w ht
  · by_cases hfc : floorC a = 0
    · by_cases hfd : floorC b = 0
      · by_cases hsc : sqrtC a = 0
        · exact order_021 a b p ha hb hp hab _ _ _ _ _ _ hx (Lib.hid ⟨rfl, rfl⟩) (Lib.hid ⟨rfl, rfl⟩) (Lib.hid ⟨rfl, rfl⟩) (by simpa using hc) _ _ (Lib.hid ⟨rfl, hfc⟩) (Lib.hid ⟨rfl, hfd⟩) (by rw [floor_zero a hfc, floor_zero b hfd]; omega) (by rw [floor_zero a hfc]; omega) (by rw [floor_zero a hfc]; omega) _ _ (Lib.hid ⟨rfl, hsc⟩) (Lib.hid ⟨rfl, (sqrt_zero a b ha hb hab hsc).1⟩) (sqrt_zero a b ha hb hab hsc).2.1 (sqrt_zero a b ha hb hab hsc).2.2 w ht
        · exact order_020 a b p ha hb hp hab _ _ _ _ _ _ hx (Lib.hid ⟨rfl, rfl⟩) (Lib.hid ⟨rfl, rfl⟩) (Lib.hid ⟨rfl, rfl⟩) (by simpa using hc) _ _ (Lib.hid ⟨rfl, hfc⟩) (Lib.hid ⟨rfl, hfd⟩) (by rw [floor_zero a hfc, floor_zero b hfd]; omega) (by rw [floor_zero a hfc]; omega) (by rw [floor_zero a hfc]; omega) _ _ _ _ (Lib.hid ⟨rfl, rfl⟩) (Lib.hid ⟨rfl, rfl⟩) (by simpa using hsc) w ht
      · by_cases hsc : sqrtC a = 0
        · exact order_011 a b p ha hb hp hab _ _ _ _ _ _ hx (Lib.hid ⟨rfl, rfl⟩) (Lib.hid ⟨rfl, rfl⟩) (Lib.hid ⟨rfl, rfl⟩) (by simpa using hc) _ _ _ (Lib.hid ⟨rfl, hfc⟩) (Lib.hid ⟨rfl, rfl⟩) (by simpa using hfd) (by rw [floor_zero a hfc]; omega) (by rw [floor_zero a hfc]; omega) _ _ (Lib.hid ⟨rfl, hsc⟩) (Lib.hid ⟨rfl, (sqrt_zero a b ha hb hab hsc).1⟩) (sqrt_zero a b ha hb hab hsc).2.1 (sqrt_zero a b ha hb hab hsc).2.2 w ht
        · exact order_010 a b p ha hb hp hab _ _ _ _ _ _ hx (Lib.hid ⟨rfl, rfl⟩) (Lib.hid ⟨rfl, rfl⟩) (Lib.hid ⟨rfl, rfl⟩) (by simpa using hc) _ _ _ (Lib.hid ⟨rfl, hfc⟩) (Lib.hid ⟨rfl, rfl⟩) (by simpa using hfd) (by rw [floor_zero a hfc]; omega) (by rw [floor_zero a hfc]; omega) _ _ _ _ (Lib.hid ⟨rfl, rfl⟩) (Lib.hid ⟨rfl, rfl⟩) (by simpa using hsc) w ht
    · by_cases hsc : sqrtC a = 0
      · exact order_001 a b p ha hb hp hab _ _ _ _ _ _ hx (Lib.hid ⟨rfl, rfl⟩) (Lib.hid ⟨rfl, rfl⟩) (Lib.hid ⟨rfl, rfl⟩) (by simpa using hc) _ _ _ _ (Lib.hid ⟨rfl, rfl⟩) (Lib.hid ⟨rfl, rfl⟩) (by simpa using hfc) _ _ (Lib.hid ⟨rfl, hsc⟩) (Lib.hid ⟨rfl, (sqrt_zero a b ha hb hab hsc).1⟩) (sqrt_zero a b ha hb hab hsc).2.1 (sqrt_zero a b ha hb hab hsc).2.2 w ht
      · exact order_000 a b p ha hb hp hab _ _ _ _ _ _ hx (Lib.hid ⟨rfl, rfl⟩) (Lib.hid ⟨rfl, rfl⟩) (Lib.hid ⟨rfl, rfl⟩) (by simpa using hc) _ _ _ _ (Lib.hid ⟨rfl, rfl⟩) (Lib.hid ⟨rfl, rfl⟩) (by simpa using hfc) _ _ _ _ (Lib.hid ⟨rfl, rfl⟩) (Lib.hid ⟨rfl, rfl⟩) (by simpa using hsc) w ht
set_option maxHeartbeats 1000000 in
theorem walk_DecOrder (a : Int) (ha : -9223372036854775808 ≤ a ∧ a ≤ 9223372036854775807) (b : Int) (hb : -9223372036854775808 ≤ b ∧ b ≤ 9223372036854775807) (p : Int) (hp : -9223372036854775808 ≤ p ∧ p ≤ 9223372036854775807) (w : World) (ht : Tab w) : Calls Tryd.prog 16 #[.int .i64 a, .int .i64 b, .int .i64 p] w fun e w' => e = .returned (.bool true) ∧ Below w.heap.size w w' := by
  by_cases h : a ≤ b
  · exact order_le a b p ha hb hp h w ht
  · have C := Lib.hid (order_le b a p hb ha hp (by omega) w ht)
    go_enter Tryd.func16, Tryd.ntmps16
    go_wp2_with fail
    refine C.out.mono ?_
    rintro e w1 ⟨rfl, hb1⟩
    go_wp2
    go_ret
    exact ⟨rfl, hb1⟩
end Go.Proofs.YtjnjklcnccfgaaaDoor
