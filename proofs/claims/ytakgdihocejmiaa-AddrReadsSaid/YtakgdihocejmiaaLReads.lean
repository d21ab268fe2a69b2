/-
  The law's own walk: AddrReads.
-/
import Derived.Test.YtakgdihocejmiaaRPRect
import Derived.Test.YtakgdihocejmiaaEq
import Derived.WalkSpells
import Derived.WalkLawsBesides
import Derived.StillTactics
import Derived.Laws.Pointers
import Derived.Deep.RegionHeld3
import Derived.Deep.QuietTactic
import Derived.BigQuiet
import Derived.RowKit3
import Derived.Lib.Hide
import Derived.Lib.OthersKept
import Derived.OwnWalk
import Derived.Lib.IndexLaws
namespace Go.Proofs.Ytakgdihocejmiaa
open Go.RowKit

set_option maxHeartbeats 4000000 in
theorem walk_AddrReads_t (l : List UInt8) (hm : l.length ≤ 9223372036854775807) (w : World) : Calls Try.prog 9 #[.string ⟨l.toArray⟩] w fun e w' => e = .returned (.bool true) ∧ Below w.heap.size w w' := by
  have e1 := cellEq_same (pRow l) (pCol l)
  have e2 := rectEq_same (qT l) (qL l) (qB l) (qR l)
  have e3 : pRow [66, 50] = 2 := by decide
  have e4 : pCol [66, 50] = 2 := by decide
  have e5 : pOk [66, 50] = true := by decide
  have e6 : cellEq 2 2 2 2 = true := by decide
  go_enter Try.func9, Try.ntmps9
  go_wp2_with fail
  refine (pcall l hm _).mono ?_
  rintro e w1 ⟨rfl, hb1⟩
  have z1 := hb1.size
  go_wp2_with fail
  refine (rparse_t l hm _).mono ?_
  rintro e w2 ⟨rfl, hb2⟩
  obtain ⟨hc2, hf2, hz2⟩ := bkeep hb2 (w1.heap.size + 1) (by simp)
  have y1 : w1.heap.size < w2.heap.size := by omega
  go_wp2_with fail
  refine (prect_any l hm _).mono ?_
  rintro e w3 ⟨rfl, hb3⟩
  obtain ⟨hc3, hf3, hz3⟩ := bkeep hb3 (w2.heap.size + 1) (by simp)
  go_wp2_with fail
  refine (rprect_any l hm _).mono ?_
  rintro e w4 ⟨rfl, hb4⟩
  obtain ⟨hc4, hf4, hz4⟩ := bkeep hb4 (w3.heap.size + 1) (by simp)
  have y3 : w3.heap.size < w4.heap.size := by omega
  have y4 : w3.heap.size < w4.heap.size + 1 := by omega
  go_wp2_with fail
  refine (pcall [66, 50] (by decide) _).mono ?_
  rintro e w5 ⟨rfl, hb5⟩
  obtain ⟨hc5, hf5, hz5⟩ := bkeep hb5 (w4.heap.size + 1) (by simp)
  have y5 : w3.heap.size < w5.heap.size := by omega
  have y6 : w4.heap.size < w5.heap.size := by omega
  go_wp2
  go_ret
  exact ⟨rfl, by (repeat (first | (with_reducible exact Below.refl _ _) | (with_reducible refine Below.alloc ?_ (by first | omega | (dsimp only; omega) | (simp <;> omega)) _) | (with_reducible refine Below.setCell ?_ (by first | omega | (dsimp only; omega) | (simp <;> omega)) _) | (with_reducible refine Below.drew ?_) | (with_reducible refine below_drewN ?_ _) | (with_reducible refine Below.trans ?_ (Below.mono (by assumption) (by first | omega | (dsimp only; omega) | (simp <;> omega))))))⟩
theorem walk_AddrReads (s : ByteArray) (hm : s.size ≤ maxLen) (w : World) : Calls Try.prog 9 #[.string s] w fun e w' => e = .returned (.bool true) ∧ Below w.heap.size w w' := by
  have h := walk_AddrReads_t s.data.toList (by simpa [maxLen] using hm) w
  simpa using h
end Go.Proofs.Ytakgdihocejmiaa
