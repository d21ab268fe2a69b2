/-
  The walk of the law of the ring.
-/
import Derived.Test.YtjnjklcnccfgaaaDoorLDRinW
import Derived.WalkSpells
import Derived.WalkLawsBesides
import Derived.StillTactics
import Derived.Laws.Pointers
import Derived.Deep.RegionHeld3
import Derived.Deep.QuietTactic
import Derived.BigQuiet
import Derived.RowKit3
import Derived.Lib.Hide
import Derived.Lib.OthersKept
import Derived.OwnWalk
import Derived.Lib.IndexLaws
import Derived.Lib.ItoaMem
namespace Go.Proofs.YtjnjklcnccfgaaaDoor
open Go.RowKit

theorem walk_DecRing (a : Int) (ha : -9223372036854775808 ≤ a ∧ a ≤ 9223372036854775807) (b : Int) (hb : -9223372036854775808 ≤ b ∧ b ≤ 9223372036854775807) (c : Int) (hc : -9223372036854775808 ≤ c ∧ c ≤ 9223372036854775807) (w : World) (ht : Tab w) : Calls Tryd.prog 12 #[.int .i64 a, .int .i64 b, .int .i64 c] w fun e w' => e = .returned (.bool true) ∧ Below w.heap.size w w' := by
  have hnr : -9223372036854775808 ≤ negV b ∧ negV b ≤ 9223372036854775807 := by unfold negV; split <;> omega
  have hng : negC b = 0 → addV a (negV b) = subV a b ∧ addC a (negV b) = subC a b := by
    intro h
    have hb0 : b ≠ -9223372036854775808 := by unfold negC at h; split at h <;> omega
    rw [show negV b = -b from if_neg hb0]
    have := sub_eq (a := a) hb.2 hb0
    exact ⟨this.1.symm, this.2.symm⟩
  have hz : a ≠ -9223372036854775808 → subV a a = 0 ∧ subC a a = 0 := by
    intro h
    have hh : ¬ (a = -9223372036854775808 ∨ a = -9223372036854775808) := by omega
    unfold subV subC
    rw [if_neg hh, if_neg hh, Int.sub_self]
    exact ⟨by decide, by decide⟩
  by_cases he : addC a b = 0
  · by_cases hk : addC b c = 0
    · by_cases hl : negC b = 0
      · by_cases hq : a = -9223372036854775808
        · exact ring_211 a b c ha hb hc _ _ (Lib.hid ⟨rfl, he⟩) (Lib.hid ⟨(add_comm' a b).1, (by rw [(add_comm' a b).2]; exact he)⟩) (Lib.hid ⟨rfl, hk⟩) (add_range a b) (add_range b c) _ _ (Lib.hid ⟨rfl, rfl⟩) (Lib.hid (mul_comm' a b)) _ _ (Lib.hid ⟨rfl, rfl⟩) (Lib.hid (add_assoc' he hk)) _ _ _ (Lib.hid ⟨rfl, hl⟩) hnr (Lib.hid ⟨rfl, rfl⟩) (Lib.hid (hng hl)) _ _ (Lib.hid ⟨rfl, if_pos (.inl hq)⟩) (Lib.hid ⟨rfl, if_pos (.inl hq)⟩) (by simpa using hq) w ht
        · exact ring_210 a b c ha hb hc _ _ (Lib.hid ⟨rfl, he⟩) (Lib.hid ⟨(add_comm' a b).1, (by rw [(add_comm' a b).2]; exact he)⟩) (Lib.hid ⟨rfl, hk⟩) (add_range a b) (add_range b c) _ _ (Lib.hid ⟨rfl, rfl⟩) (Lib.hid (mul_comm' a b)) _ _ (Lib.hid ⟨rfl, rfl⟩) (Lib.hid (add_assoc' he hk)) _ _ _ (Lib.hid ⟨rfl, hl⟩) hnr (Lib.hid ⟨rfl, rfl⟩) (Lib.hid (hng hl)) (Lib.hid (hz hq)) (Lib.hid (mul_one' a ha hq)) (by simpa using hq) w ht
      · by_cases hq : a = -9223372036854775808
        · exact ring_201 a b c ha hb hc _ _ (Lib.hid ⟨rfl, he⟩) (Lib.hid ⟨(add_comm' a b).1, (by rw [(add_comm' a b).2]; exact he)⟩) (Lib.hid ⟨rfl, hk⟩) (add_range a b) (add_range b c) _ _ (Lib.hid ⟨rfl, rfl⟩) (Lib.hid (mul_comm' a b)) _ _ (Lib.hid ⟨rfl, rfl⟩) (Lib.hid (add_assoc' he hk)) _ _ _ _ (Lib.hid ⟨rfl, rfl⟩) hnr (Lib.hid ⟨rfl, rfl⟩) (by simpa using hl) _ _ (Lib.hid ⟨rfl, if_pos (.inl hq)⟩) (Lib.hid ⟨rfl, if_pos (.inl hq)⟩) (by simpa using hq) w ht
        · exact ring_200 a b c ha hb hc _ _ (Lib.hid ⟨rfl, he⟩) (Lib.hid ⟨(add_comm' a b).1, (by rw [(add_comm' a b).2]; exact he)⟩) (Lib.hid ⟨rfl, hk⟩) (add_range a b) (add_range b c) _ _ (Lib.hid ⟨rfl, rfl⟩) (Lib.hid (mul_comm' a b)) _ _ (Lib.hid ⟨rfl, rfl⟩) (Lib.hid (add_assoc' he hk)) _ _ _ _ (Lib.hid ⟨rfl, rfl⟩) hnr (Lib.hid ⟨rfl, rfl⟩) (by simpa using hl) (Lib.hid (hz hq)) (Lib.hid (mul_one' a ha hq)) (by simpa using hq) w ht
    · by_cases hl : negC b = 0
      · by_cases hq : a = -9223372036854775808
        · exact ring_111 a b c ha hb hc _ _ _ (Lib.hid ⟨rfl, he⟩) (Lib.hid ⟨(add_comm' a b).1, (by rw [(add_comm' a b).2]; exact he)⟩) (Lib.hid ⟨rfl, rfl⟩) (add_range a b) (add_range b c) (by simpa using hk) _ _ (Lib.hid ⟨rfl, rfl⟩) (Lib.hid (mul_comm' a b)) _ _ _ (Lib.hid ⟨rfl, hl⟩) hnr (Lib.hid ⟨rfl, rfl⟩) (Lib.hid (hng hl)) _ _ (Lib.hid ⟨rfl, if_pos (.inl hq)⟩) (Lib.hid ⟨rfl, if_pos (.inl hq)⟩) (by simpa using hq) w ht
        · exact ring_110 a b c ha hb hc _ _ _ (Lib.hid ⟨rfl, he⟩) (Lib.hid ⟨(add_comm' a b).1, (by rw [(add_comm' a b).2]; exact he)⟩) (Lib.hid ⟨rfl, rfl⟩) (add_range a b) (add_range b c) (by simpa using hk) _ _ (Lib.hid ⟨rfl, rfl⟩) (Lib.hid (mul_comm' a b)) _ _ _ (Lib.hid ⟨rfl, hl⟩) hnr (Lib.hid ⟨rfl, rfl⟩) (Lib.hid (hng hl)) (Lib.hid (hz hq)) (Lib.hid (mul_one' a ha hq)) (by simpa using hq) w ht
      · by_cases hq : a = -9223372036854775808
        · exact ring_101 a b c ha hb hc _ _ _ (Lib.hid ⟨rfl, he⟩) (Lib.hid ⟨(add_comm' a b).1, (by rw [(add_comm' a b).2]; exact he)⟩) (Lib.hid ⟨rfl, rfl⟩) (add_range a b) (add_range b c) (by simpa using hk) _ _ (Lib.hid ⟨rfl, rfl⟩) (Lib.hid (mul_comm' a b)) _ _ _ _ (Lib.hid ⟨rfl, rfl⟩) hnr (Lib.hid ⟨rfl, rfl⟩) (by simpa using hl) _ _ (Lib.hid ⟨rfl, if_pos (.inl hq)⟩) (Lib.hid ⟨rfl, if_pos (.inl hq)⟩) (by simpa using hq) w ht
        · exact ring_100 a b c ha hb hc _ _ _ (Lib.hid ⟨rfl, he⟩) (Lib.hid ⟨(add_comm' a b).1, (by rw [(add_comm' a b).2]; exact he)⟩) (Lib.hid ⟨rfl, rfl⟩) (add_range a b) (add_range b c) (by simpa using hk) _ _ (Lib.hid ⟨rfl, rfl⟩) (Lib.hid (mul_comm' a b)) _ _ _ _ (Lib.hid ⟨rfl, rfl⟩) hnr (Lib.hid ⟨rfl, rfl⟩) (by simpa using hl) (Lib.hid (hz hq)) (Lib.hid (mul_one' a ha hq)) (by simpa using hq) w ht
  · by_cases hl : negC b = 0
    · by_cases hq : a = -9223372036854775808
      · exact ring_011 a b c ha hb hc _ _ _ _ (Lib.hid ⟨rfl, rfl⟩) (Lib.hid ⟨(add_comm' a b).1, (add_comm' a b).2⟩) (Lib.hid ⟨rfl, rfl⟩) (add_range a b) (add_range b c) (by simpa using he) _ _ (Lib.hid ⟨rfl, rfl⟩) (Lib.hid (mul_comm' a b)) _ _ _ (Lib.hid ⟨rfl, hl⟩) hnr (Lib.hid ⟨rfl, rfl⟩) (Lib.hid (hng hl)) _ _ (Lib.hid ⟨rfl, if_pos (.inl hq)⟩) (Lib.hid ⟨rfl, if_pos (.inl hq)⟩) (by simpa using hq) w ht
      · exact ring_010 a b c ha hb hc _ _ _ _ (Lib.hid ⟨rfl, rfl⟩) (Lib.hid ⟨(add_comm' a b).1, (add_comm' a b).2⟩) (Lib.hid ⟨rfl, rfl⟩) (add_range a b) (add_range b c) (by simpa using he) _ _ (Lib.hid ⟨rfl, rfl⟩) (Lib.hid (mul_comm' a b)) _ _ _ (Lib.hid ⟨rfl, hl⟩) hnr (Lib.hid ⟨rfl, rfl⟩) (Lib.hid (hng hl)) (Lib.hid (hz hq)) (Lib.hid (mul_one' a ha hq)) (by simpa using hq) w ht
    · by_cases hq : a = -9223372036854775808
      · exact ring_001 a b c ha hb hc _ _ _ _ (Lib.hid ⟨rfl, rfl⟩) (Lib.hid ⟨(add_comm' a b).1, (add_comm' a b).2⟩) (Lib.hid ⟨rfl, rfl⟩) (add_range a b) (add_range b c) (by simpa using he) _ _ (Lib.hid ⟨rfl, rfl⟩) (Lib.hid (mul_comm' a b)) _ _ _ _ (Lib.hid ⟨rfl, rfl⟩) hnr (Lib.hid ⟨rfl, rfl⟩) (by simpa using hl) _ _ (Lib.hid ⟨rfl, if_pos (.inl hq)⟩) (Lib.hid ⟨rfl, if_pos (.inl hq)⟩) (by simpa using hq) w ht
      · exact ring_000 a b c ha hb hc _ _ _ _ (Lib.hid ⟨rfl, rfl⟩) (Lib.hid ⟨(add_comm' a b).1, (add_comm' a b).2⟩) (Lib.hid ⟨rfl, rfl⟩) (add_range a b) (add_range b c) (by simpa using he) _ _ (Lib.hid ⟨rfl, rfl⟩) (Lib.hid (mul_comm' a b)) _ _ _ _ (Lib.hid ⟨rfl, rfl⟩) hnr (Lib.hid ⟨rfl, rfl⟩) (by simpa using hl) (Lib.hid (hz hq)) (Lib.hid (mul_one' a ha hq)) (by simpa using hq) w ht
end Go.Proofs.YtjnjklcnccfgaaaDoor
