/-
  Contracts of Cut, and of the document's own.
-/
import Derived.Test.YtakgdihocejmiaaAddrS
import Derived.WalkSpells
import Derived.WalkLawsBesides
import Derived.StillTactics
import Derived.Laws.Pointers
import Derived.Deep.RegionHeld3
import Derived.Deep.QuietTactic
import Derived.BigQuiet
import Derived.RowKit3
import Derived.Lib.Hide
namespace Go.Proofs.Ytakgdihocejmiaa
open Go.RowKit

set_option maxHeartbeats 1000000 in
theorem cut0 (a b m n : Int) (hm : -9223372036854775808 ≤ m ∧ m ≤ 9223372036854775807) (hn : -9223372036854775808 ≤ n ∧ n ≤ 9223372036854775807) (h1 : mayB a b = true) (h2 : 0 < m) (h3 : 0 < n) (w : World) :
    Calls Try.prog 20 #[.agg #[.int .i64 a, .int .i64 b], .int .i64 m, .int .i64 n] w
      fun e w' => e = .returned (.agg #[.int .i64 (cuT a b m n), .int .i64 (cuL a b m n), .int .i64 (cuB a b m n), .int .i64 (cuR a b m n)]) ∧ Below w.heap.size w w' := by
  obtain ⟨hm0, hm1⟩ := hm
  obtain ⟨hn0, hn1⟩ := hn
  obtain ⟨m1, m2, m3, m4⟩ := may_of h1
  go_enter Try.func20, Try.ntmps20
  go_wp2_with (go_at_call 14; refine (may_any _ _ _).mono ?_; rintro e w1 ⟨rfl, hb⟩; obtain ⟨hc, hf, hz⟩ := bkeep hb (w.heap.size + 2) (by first | omega | (simp <;> omega)))
  all_goals refine bodyPost_ret (v := .agg #[.int .i64 (cuT a b m n), .int .i64 (cuL a b m n), .int .i64 (cuB a b m n), .int .i64 (cuR a b m n)]) ?_ rfl ⟨rfl, by (repeat (first | (with_reducible exact Below.refl _ _) | (with_reducible refine Below.alloc ?_ (by first | omega | (dsimp only; omega) | (simp <;> omega)) _) | (with_reducible refine Below.setCell ?_ (by first | omega | (dsimp only; omega) | (simp <;> omega)) _) | (with_reducible refine Below.drew ?_) | (with_reducible refine below_drewN ?_ _) | (with_reducible refine Below.trans ?_ (Below.mono (by assumption) (by first | omega | (dsimp only; omega) | (simp <;> omega))))))⟩
  all_goals simp [results, Try.results20, go_sem, cuT, cuL, cuB, cuR, cutOk, *]
  all_goals try omega
set_option maxHeartbeats 1000000 in
theorem cut1 (a b m n : Int) (hm : -9223372036854775808 ≤ m ∧ m ≤ 9223372036854775807) (hn : -9223372036854775808 ≤ n ∧ n ≤ 9223372036854775807) (h1 : mayB a b = true) (h2 : 0 < m) (h3 : n ≤ 0) (w : World) :
    Calls Try.prog 20 #[.agg #[.int .i64 a, .int .i64 b], .int .i64 m, .int .i64 n] w
      fun e w' => e = .returned (.agg #[.int .i64 (cuT a b m n), .int .i64 (cuL a b m n), .int .i64 (cuB a b m n), .int .i64 (cuR a b m n)]) ∧ Below w.heap.size w w' := by
  obtain ⟨hm0, hm1⟩ := hm
  obtain ⟨hn0, hn1⟩ := hn
  obtain ⟨m1, m2, m3, m4⟩ := may_of h1
  go_enter Try.func20, Try.ntmps20
  go_wp2_with (go_at_call 14; refine (may_any _ _ _).mono ?_; rintro e w1 ⟨rfl, hb⟩; obtain ⟨hc, hf, hz⟩ := bkeep hb (w.heap.size + 2) (by first | omega | (simp <;> omega)))
  all_goals refine bodyPost_ret (v := .agg #[.int .i64 (cuT a b m n), .int .i64 (cuL a b m n), .int .i64 (cuB a b m n), .int .i64 (cuR a b m n)]) ?_ rfl ⟨rfl, by (repeat (first | (with_reducible exact Below.refl _ _) | (with_reducible refine Below.alloc ?_ (by first | omega | (dsimp only; omega) | (simp <;> omega)) _) | (with_reducible refine Below.setCell ?_ (by first | omega | (dsimp only; omega) | (simp <;> omega)) _) | (with_reducible refine Below.drew ?_) | (with_reducible refine below_drewN ?_ _) | (with_reducible refine Below.trans ?_ (Below.mono (by assumption) (by first | omega | (dsimp only; omega) | (simp <;> omega))))))⟩
  all_goals simp [results, Try.results20, go_sem, cuT, cuL, cuB, cuR, cutOk, *]
  all_goals try omega
set_option maxHeartbeats 1000000 in
theorem cut2 (a b m n : Int) (hm : -9223372036854775808 ≤ m ∧ m ≤ 9223372036854775807) (hn : -9223372036854775808 ≤ n ∧ n ≤ 9223372036854775807) (h1 : mayB a b = true) (h2 : m ≤ 0) (w : World) :
    Calls Try.prog 20 #[.agg #[.int .i64 a, .int .i64 b], .int .i64 m, .int .i64 n] w
      fun e w' => e = .returned (.agg #[.int .i64 (cuT a b m n), .int .i64 (cuL a b m n), .int .i64 (cuB a b m n), .int .i64 (cuR a b m n)]) ∧ Below w.heap.size w w' := by
  obtain ⟨hm0, hm1⟩ := hm
  obtain ⟨hn0, hn1⟩ := hn
  obtain ⟨m1, m2, m3, m4⟩ := may_of h1
  go_enter Try.func20, Try.ntmps20
  go_wp2_with (go_at_call 14; refine (may_any _ _ _).mono ?_; rintro e w1 ⟨rfl, hb⟩; obtain ⟨hc, hf, hz⟩ := bkeep hb (w.heap.size + 2) (by first | omega | (simp <;> omega)))
  all_goals refine bodyPost_ret (v := .agg #[.int .i64 (cuT a b m n), .int .i64 (cuL a b m n), .int .i64 (cuB a b m n), .int .i64 (cuR a b m n)]) ?_ rfl ⟨rfl, by (repeat (first | (with_reducible exact Below.refl _ _) | (with_reducible refine Below.alloc ?_ (by first | omega | (dsimp only; omega) | (simp <;> omega)) _) | (with_reducible refine Below.setCell ?_ (by first | omega | (dsimp only; omega) | (simp <;> omega)) _) | (with_reducible refine Below.drew ?_) | (with_reducible refine below_drewN ?_ _) | (with_reducible refine Below.trans ?_ (Below.mono (by assumption) (by first | omega | (dsimp only; omega) | (simp <;> omega))))))⟩
  all_goals simp [results, Try.results20, go_sem, cuT, cuL, cuB, cuR, cutOk, *]
  all_goals try omega
set_option maxHeartbeats 1000000 in
theorem cut3 (a b m n : Int) (hm : -9223372036854775808 ≤ m ∧ m ≤ 9223372036854775807) (hn : -9223372036854775808 ≤ n ∧ n ≤ 9223372036854775807) (h1 : mayB a b = false) (w : World) :
    Calls Try.prog 20 #[.agg #[.int .i64 a, .int .i64 b], .int .i64 m, .int .i64 n] w
      fun e w' => e = .returned (.agg #[.int .i64 (cuT a b m n), .int .i64 (cuL a b m n), .int .i64 (cuB a b m n), .int .i64 (cuR a b m n)]) ∧ Below w.heap.size w w' := by
  obtain ⟨hm0, hm1⟩ := hm
  obtain ⟨hn0, hn1⟩ := hn
  go_enter Try.func20, Try.ntmps20
  go_wp2_with (go_at_call 14; refine (may_any _ _ _).mono ?_; rintro e w1 ⟨rfl, hb⟩; obtain ⟨hc, hf, hz⟩ := bkeep hb (w.heap.size + 2) (by first | omega | (simp <;> omega)))
  all_goals refine bodyPost_ret (v := .agg #[.int .i64 (cuT a b m n), .int .i64 (cuL a b m n), .int .i64 (cuB a b m n), .int .i64 (cuR a b m n)]) ?_ rfl ⟨rfl, by (repeat (first | (with_reducible exact Below.refl _ _) | (with_reducible refine Below.alloc ?_ (by first | omega | (dsimp only; omega) | (simp <;> omega)) _) | (with_reducible refine Below.setCell ?_ (by first | omega | (dsimp only; omega) | (simp <;> omega)) _) | (with_reducible refine Below.drew ?_) | (with_reducible refine below_drewN ?_ _) | (with_reducible refine Below.trans ?_ (Below.mono (by assumption) (by first | omega | (dsimp only; omega) | (simp <;> omega))))))⟩
  all_goals simp [results, Try.results20, go_sem, cuT, cuL, cuB, cuR, cutOk, *]
  all_goals try omega
theorem cut_any (a b m n : Int) (hm : -9223372036854775808 ≤ m ∧ m ≤ 9223372036854775807) (hn : -9223372036854775808 ≤ n ∧ n ≤ 9223372036854775807) (w : World) :
    Calls Try.prog 20 #[.agg #[.int .i64 a, .int .i64 b], .int .i64 m, .int .i64 n] w
      fun e w' => e = .returned (.agg #[.int .i64 (cuT a b m n), .int .i64 (cuL a b m n), .int .i64 (cuB a b m n), .int .i64 (cuR a b m n)]) ∧ Below w.heap.size w w' := by
  cases h1 : mayB a b
  · exact cut3 a b m n hm hn h1 w
  · by_cases h2 : 0 < m
    · by_cases h3 : 0 < n
      · exact cut0 a b m n hm hn h1 h2 h3 w
      · exact cut1 a b m n hm hn h1 h2 (by omega) w
    · exact cut2 a b m n hm hn h1 (by omega) w
set_option maxHeartbeats 1000000 in
theorem rcut0 (a b m n : Int) (hm : -9223372036854775808 ≤ m ∧ m ≤ 9223372036854775807) (hn : -9223372036854775808 ≤ n ∧ n ≤ 9223372036854775807) (h1 : mayB a b = true) (h2 : 0 < m) (h3 : 0 < n) (w : World) :
    Calls Try.prog 21 #[.agg #[.int .i64 a, .int .i64 b], .int .i64 m, .int .i64 n] w
      fun e w' => e = .returned (.agg #[.int .i64 (cuT a b m n), .int .i64 (cuL a b m n), .int .i64 (cuB a b m n), .int .i64 (cuR a b m n)]) ∧ Below w.heap.size w w' := by
  obtain ⟨hm0, hm1⟩ := hm
  obtain ⟨hn0, hn1⟩ := hn
  obtain ⟨m1, m2, m3, m4⟩ := may_of h1
  go_enter Try.func21, Try.ntmps21
  go_wp2_with (go_at_call 15; refine (rmay_any _ _ _).mono ?_; rintro e w1 ⟨rfl, hb⟩; obtain ⟨hc, hf, hz⟩ := bkeep hb (w.heap.size + 2) (by first | omega | (simp <;> omega)))
  all_goals refine bodyPost_ret (v := .agg #[.int .i64 (cuT a b m n), .int .i64 (cuL a b m n), .int .i64 (cuB a b m n), .int .i64 (cuR a b m n)]) ?_ rfl ⟨rfl, by (repeat (first | (with_reducible exact Below.refl _ _) | (with_reducible refine Below.alloc ?_ (by first | omega | (dsimp only; omega) | (simp <;> omega)) _) | (with_reducible refine Below.setCell ?_ (by first | omega | (dsimp only; omega) | (simp <;> omega)) _) | (with_reducible refine Below.drew ?_) | (with_reducible refine below_drewN ?_ _) | (with_reducible refine Below.trans ?_ (Below.mono (by assumption) (by first | omega | (dsimp only; omega) | (simp <;> omega))))))⟩
  all_goals simp [results, Try.results21, go_sem, cuT, cuL, cuB, cuR, cutOk, *]
  all_goals try omega
set_option maxHeartbeats 1000000 in
theorem rcut1 (a b m n : Int) (hm : -9223372036854775808 ≤ m ∧ m ≤ 9223372036854775807) (hn : -9223372036854775808 ≤ n ∧ n ≤ 9223372036854775807) (h1 : mayB a b = true) (h2 : 0 < m) (h3 : n ≤ 0) (w : World) :
    Calls Try.prog 21 #[.agg #[.int .i64 a, .int .i64 b], .int .i64 m, .int .i64 n] w
      fun e w' => e = .returned (.agg #[.int .i64 (cuT a b m n), .int .i64 (cuL a b m n), .int .i64 (cuB a b m n), .int .i64 (cuR a b m n)]) ∧ Below w.heap.size w w' := by
  obtain ⟨hm0, hm1⟩ := hm
  obtain ⟨hn0, hn1⟩ := hn
  obtain ⟨m1, m2, m3, m4⟩ := may_of h1
  go_enter Try.func21, Try.ntmps21
  go_wp2_with (go_at_call 15; refine (rmay_any _ _ _).mono ?_; rintro e w1 ⟨rfl, hb⟩; obtain ⟨hc, hf, hz⟩ := bkeep hb (w.heap.size + 2) (by first | omega | (simp <;> omega)))
  all_goals refine bodyPost_ret (v := .agg #[.int .i64 (cuT a b m n), .int .i64 (cuL a b m n), .int .i64 (cuB a b m n), .int .i64 (cuR a b m n)]) ?_ rfl ⟨rfl, by (repeat (first | (with_reducible exact Below.refl _ _) | (with_reducible refine Below.alloc ?_ (by first | omega | (dsimp only; omega) | (simp <;> omega)) _) | (with_reducible refine Below.setCell ?_ (by first | omega | (dsimp only; omega) | (simp <;> omega)) _) | (with_reducible refine Below.drew ?_) | (with_reducible refine below_drewN ?_ _) | (with_reducible refine Below.trans ?_ (Below.mono (by assumption) (by first | omega | (dsimp only; omega) | (simp <;> omega))))))⟩
  all_goals simp [results, Try.results21, go_sem, cuT, cuL, cuB, cuR, cutOk, *]
  all_goals try omega
set_option maxHeartbeats 1000000 in
theorem rcut2 (a b m n : Int) (hm : -9223372036854775808 ≤ m ∧ m ≤ 9223372036854775807) (hn : -9223372036854775808 ≤ n ∧ n ≤ 9223372036854775807) (h1 : mayB a b = true) (h2 : m ≤ 0) (w : World) :
    Calls Try.prog 21 #[.agg #[.int .i64 a, .int .i64 b], .int .i64 m, .int .i64 n] w
      fun e w' => e = .returned (.agg #[.int .i64 (cuT a b m n), .int .i64 (cuL a b m n), .int .i64 (cuB a b m n), .int .i64 (cuR a b m n)]) ∧ Below w.heap.size w w' := by
  obtain ⟨hm0, hm1⟩ := hm
  obtain ⟨hn0, hn1⟩ := hn
  obtain ⟨m1, m2, m3, m4⟩ := may_of h1
  go_enter Try.func21, Try.ntmps21
  go_wp2_with (go_at_call 15; refine (rmay_any _ _ _).mono ?_; rintro e w1 ⟨rfl, hb⟩; obtain ⟨hc, hf, hz⟩ := bkeep hb (w.heap.size + 2) (by first | omega | (simp <;> omega)))
  all_goals refine bodyPost_ret (v := .agg #[.int .i64 (cuT a b m n), .int .i64 (cuL a b m n), .int .i64 (cuB a b m n), .int .i64 (cuR a b m n)]) ?_ rfl ⟨rfl, by (repeat (first | (with_reducible exact Below.refl _ _) | (with_reducible refine Below.alloc ?_ (by first | omega | (dsimp only; omega) | (simp <;> omega)) _) | (with_reducible refine Below.setCell ?_ (by first | omega | (dsimp only; omega) | (simp <;> omega)) _) | (with_reducible refine Below.drew ?_) | (with_reducible refine below_drewN ?_ _) | (with_reducible refine Below.trans ?_ (Below.mono (by assumption) (by first | omega | (dsimp only; omega) | (simp <;> omega))))))⟩
  all_goals simp [results, Try.results21, go_sem, cuT, cuL, cuB, cuR, cutOk, *]
  all_goals try omega
set_option maxHeartbeats 1000000 in
theorem rcut3 (a b m n : Int) (hm : -9223372036854775808 ≤ m ∧ m ≤ 9223372036854775807) (hn : -9223372036854775808 ≤ n ∧ n ≤ 9223372036854775807) (h1 : mayB a b = false) (w : World) :
    Calls Try.prog 21 #[.agg #[.int .i64 a, .int .i64 b], .int .i64 m, .int .i64 n] w
      fun e w' => e = .returned (.agg #[.int .i64 (cuT a b m n), .int .i64 (cuL a b m n), .int .i64 (cuB a b m n), .int .i64 (cuR a b m n)]) ∧ Below w.heap.size w w' := by
  obtain ⟨hm0, hm1⟩ := hm
  obtain ⟨hn0, hn1⟩ := hn
  go_enter Try.func21, Try.ntmps21
  go_wp2_with (go_at_call 15; refine (rmay_any _ _ _).mono ?_; rintro e w1 ⟨rfl, hb⟩; obtain ⟨hc, hf, hz⟩ := bkeep hb (w.heap.size + 2) (by first | omega | (simp <;> omega)))
  all_goals refine bodyPost_ret (v := .agg #[.int .i64 (cuT a b m n), .int .i64 (cuL a b m n), .int .i64 (cuB a b m n), .int .i64 (cuR a b m n)]) ?_ rfl ⟨rfl, by (repeat (first | (with_reducible exact Below.refl _ _) | (with_reducible refine Below.alloc ?_ (by first | omega | (dsimp only; omega) | (simp <;> omega)) _) | (with_reducible refine Below.setCell ?_ (by first | omega | (dsimp only; omega) | (simp <;> omega)) _) | (with_reducible refine Below.drew ?_) | (with_reducible refine below_drewN ?_ _) | (with_reducible refine Below.trans ?_ (Below.mono (by assumption) (by first | omega | (dsimp only; omega) | (simp <;> omega))))))⟩
  all_goals simp [results, Try.results21, go_sem, cuT, cuL, cuB, cuR, cutOk, *]
  all_goals try omega
theorem rcut_any (a b m n : Int) (hm : -9223372036854775808 ≤ m ∧ m ≤ 9223372036854775807) (hn : -9223372036854775808 ≤ n ∧ n ≤ 9223372036854775807) (w : World) :
    Calls Try.prog 21 #[.agg #[.int .i64 a, .int .i64 b], .int .i64 m, .int .i64 n] w
      fun e w' => e = .returned (.agg #[.int .i64 (cuT a b m n), .int .i64 (cuL a b m n), .int .i64 (cuB a b m n), .int .i64 (cuR a b m n)]) ∧ Below w.heap.size w w' := by
  cases h1 : mayB a b
  · exact rcut3 a b m n hm hn h1 w
  · by_cases h2 : 0 < m
    · by_cases h3 : 0 < n
      · exact rcut0 a b m n hm hn h1 h2 h3 w
      · exact rcut1 a b m n hm hn h1 h2 (by omega) w
    · exact rcut2 a b m n hm hn h1 (by omega) w
end Go.Proofs.Ytakgdihocejmiaa
