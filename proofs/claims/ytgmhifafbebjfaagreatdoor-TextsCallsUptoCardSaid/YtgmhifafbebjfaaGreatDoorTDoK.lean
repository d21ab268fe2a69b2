/-
  texts: CHAR.
-/
import Derived.Test.YtgmhifafbebjfaaGreatDoorTDoA
import Derived.RegionTactic
namespace Go.Proofs.YtgmhifafbebjfaaGreatDoor
open Go.RowKit

set_option maxRecDepth 100000 in
set_option maxHeartbeats 1000000 in
theorem tdo_CHARx (n : Int) (hn : -922337203685477 ≤ n ∧ n ≤ 922337203685477) (h : n < 0 ∨ 255 < n) (text : Int) (vs vn : Value) (w : World) (hS : RdStr w vs []) (hN : RdInt w vn [n]) : Calls Tryz.prog 80 #[.agg #[vs, vn, .int .i64 text]] w fun e w' => e = .returned (.agg #[.int .i64 (errL 8).t, .int .i64 (errL 8).n, .string (errL 8).s, .bool (errL 8).b, .int .i64 (errL 8).c]) ∧ Below w.heap.size w w' := by
  obtain ⟨A1, cap1, rfl, hR1⟩ := hS
  obtain ⟨A2, cap2, rfl, hR2⟩ := hN
  obtain ⟨nb, no, hA2, hnb, _⟩ := hR2 0 [.int .i64 n] rfl
  subst hA2
  have hn0 : w.cell? ⟨nb, no, none⟩ = some (.int .i64 n) := by
    obtain ⟨b9, o9, e9, _, h9⟩ := hR2 0 [.int .i64 n] rfl
    injection e9 with e9
    injection e9 with e1 e2 _
    subst e1 e2
    simpa using h9 0 _ rfl
  have hnn : nb ≠ w.heap.size := by omega
  have hnl : nb < w.heap.size + 1 := by omega
  clear hR1 hR2
  simp only [List.length_cons, List.length_nil, Nat.zero_add]
  by_cases h1 : n < 0
  · clear h
    go_enter Tryz.func80, Tryz.ntmps80
    go_wp2_with (go_at_call 11; refine (verr_any 8 _).mono ?_; rintro e w1 ⟨rfl, hb⟩; obtain ⟨hc, hf, hz⟩ := bkeep hb (w.heap.size + 2) (by first | omega | (simp <;> omega)))
    refine bodyPost_ret (v := .agg #[.int .i64 4, .int .i64 0, .string ⟨#[]⟩, .bool false, .int .i64 (errC 8)]) ?_ rfl ⟨rfl, by (repeat (first | (with_reducible exact Below.refl _ _) | (with_reducible refine Below.alloc ?_ (by first | omega | (dsimp only; omega) | (simp <;> omega)) _) | (with_reducible refine Below.setCell ?_ (by first | omega | (dsimp only; omega) | (simp <;> omega)) _) | (with_reducible refine Below.drew ?_) | (with_reducible refine below_drewN ?_ _) | (with_reducible refine Below.trans ?_ (Below.mono (by assumption) (by first | omega | (dsimp only; omega) | (simp <;> omega))))))⟩
    simp [results, Tryz.results80, go_sem, *]
  · have h2 : 255 < n := by omega
    clear h
    go_enter Tryz.func80, Tryz.ntmps80
    go_wp2_with (go_at_call 11; refine (verr_any 8 _).mono ?_; rintro e w1 ⟨rfl, hb⟩; obtain ⟨hc, hf, hz⟩ := bkeep hb (w.heap.size + 2) (by first | omega | (simp <;> omega)))
    refine bodyPost_ret (v := .agg #[.int .i64 4, .int .i64 0, .string ⟨#[]⟩, .bool false, .int .i64 (errC 8)]) ?_ rfl ⟨rfl, by (repeat (first | (with_reducible exact Below.refl _ _) | (with_reducible refine Below.alloc ?_ (by first | omega | (dsimp only; omega) | (simp <;> omega)) _) | (with_reducible refine Below.setCell ?_ (by first | omega | (dsimp only; omega) | (simp <;> omega)) _) | (with_reducible refine Below.drew ?_) | (with_reducible refine below_drewN ?_ _) | (with_reducible refine Below.trans ?_ (Below.mono (by assumption) (by first | omega | (dsimp only; omega) | (simp <;> omega))))))⟩
    simp [results, Tryz.results80, go_sem, *]
set_option maxRecDepth 100000 in
set_option maxHeartbeats 1000000 in
theorem tdo_CHAR1 (m : Nat) (h : m ≤ 255) (text : Int) (vs vn : Value) (w : World) (hS : RdStr w vs []) (hN : RdInt w vn [(m : Int)]) : Calls Tryz.prog 80 #[.agg #[vs, vn, .int .i64 text]] w fun e w' => e = .returned (.agg #[.int .i64 (toldT text ⟨#[UInt8.ofNat m]⟩).t, .int .i64 (toldT text ⟨#[UInt8.ofNat m]⟩).n, .string (toldT text ⟨#[UInt8.ofNat m]⟩).s, .bool (toldT text ⟨#[UInt8.ofNat m]⟩).b, .int .i64 (toldT text ⟨#[UInt8.ofNat m]⟩).c]) ∧ Below w.heap.size w w' := by
  obtain ⟨A1, cap1, rfl, hR1⟩ := hS
  obtain ⟨A2, cap2, rfl, hR2⟩ := hN
  obtain ⟨nb, no, hA2, hnb, _⟩ := hR2 0 [.int .i64 (m : Int)] rfl
  subst hA2
  have hn0 : w.cell? ⟨nb, no, none⟩ = some (.int .i64 (m : Int)) := by
    obtain ⟨b9, o9, e9, _, h9⟩ := hR2 0 [.int .i64 (m : Int)] rfl
    injection e9 with e9
    injection e9 with e1 e2 _
    subst e1 e2
    simpa using h9 0 _ rfl
  have hnn : nb ≠ w.heap.size := by omega
  have hnl : nb < w.heap.size + 1 := by omega
  clear hR1 hR2
  simp only [List.length_cons, List.length_nil, Nat.zero_add]
  have h1 : ¬ (m : Int) < 0 := by omega
  have h2 : ¬ (255 : Int) < (m : Int) := by omega
  have hw8 : IntKind.u8.wrap (m : Int) = (m : Int) := IntWalk.u8_in _ (by omega)
  have hcv : ∀ (W : World) (b : Nat), W.cell? ⟨b, 0, none⟩ = some (.int .u8 (m : Int)) → (convert 61 9 (.slice (some ⟨b, 0, none⟩) 1 1)).run Tryz.prog W = .ok (.string ⟨#[UInt8.ofNat m]⟩) W := fun W b hc =>
    run_convert_bytes_back (P := Tryz.prog) W 61 9 5 ⟨b, 0, none⟩ 1 [UInt8.ofNat m] Tryz.underlying61 Tryz.underlying5 Tryz.underlying9 (fun j hj => by
      obtain rfl : j = 0 := by simp at hj; exact hj
      rw [Lib.add_plain, hc]
      simp only [List.getElem_cons_zero]
      rw [ofNat_toNat8 (by omega)])
  have hsz : (⟨#[UInt8.ofNat m]⟩ : ByteArray).size ≤ 9223372036854775807 := by show (1 : Nat) ≤ _; omega
  go_enter Tryz.func80, Tryz.ntmps80
  go_wp2_with fail
  go_region_with (with_reducible first | (go_at_call 143; refine (ttold_any _ _ _ _ _ _ text ⟨#[UInt8.ofNat m]⟩ hsz _).mono ?_; rintro e w1 ⟨rfl, hb⟩; obtain ⟨hc, hf⟩ := bcell hb; obtain ⟨_, _, hz⟩ := bkeep hb (w.heap.size + 2) (by first | omega | (simp <;> omega))))
  all_goals go_wp2
  all_goals (
    refine bodyPost_ret (v := .agg #[.int .i64 (toldT text ⟨#[UInt8.ofNat m]⟩).t, .int .i64 (toldT text ⟨#[UInt8.ofNat m]⟩).n, .string (toldT text ⟨#[UInt8.ofNat m]⟩).s, .bool (toldT text ⟨#[UInt8.ofNat m]⟩).b, .int .i64 (toldT text ⟨#[UInt8.ofNat m]⟩).c]) ?_ rfl ⟨rfl, by (repeat (first | (with_reducible exact Below.refl _ _) | (with_reducible refine Below.alloc ?_ (by first | omega | (dsimp only; omega) | (simp <;> omega)) _) | (with_reducible refine Below.setCell ?_ (by first | omega | (dsimp only; omega) | (simp <;> omega)) _) | (with_reducible refine Below.drew ?_) | (with_reducible refine below_drewN ?_ _) | (with_reducible refine Below.trans ?_ (Below.mono (by assumption) (by first | omega | (dsimp only; omega) | (simp <;> omega))))))⟩
    simp [results, Tryz.results80, go_sem, *])
end Go.Proofs.YtgmhifafbebjfaaGreatDoor
