/-
  NameRect of package addr, and the document's own.
-/
import Derived.Test.YtakgdihocejmiaaDoorNameW
import Derived.WalkSpells
import Derived.WalkLawsBesides
import Derived.StillTactics
import Derived.Laws.Pointers
import Derived.Deep.RegionHeld3
import Derived.Deep.QuietTactic
import Derived.BigQuiet
import Derived.RowKit3
import Derived.Lib.Hide
import Derived.Lib.OthersKept
import Derived.OwnWalk
import Derived.Lib.IndexLaws
namespace Go.Proofs.YtakgdihocejmiaaDoor
open Go.RowKit

/-- a rectangle's name, the empty text of one that may not be -/
def nameRectZ (t l b r : Int) : List UInt8 := if mayRectB t l b r then nameZ t l ++ 58 :: nameZ b r else []
theorem nameZ_len (r c : Int) : (nameZ r c).length ≤ 6 := by
  cases h : mayB r c
  · rw [nameZ_no h]; simp
  · obtain ⟨r', c', rfl, rfl, hm⟩ := mayB_ints h
    rw [nameZ_nat hm]
    obtain ⟨m1, m2, m3, m4⟩ := mayN_of hm
    have := dec_len (r := r') (by omega)
    have := col_len c'
    simp [nameL]; omega
theorem nameRect_no {t l b r : Int} (h : mayRectB t l b r = false) : nameRectZ t l b r = [] := by simp [nameRectZ, h]
theorem nameRect_yes {t l b r : Int} (h : mayRectB t l b r = true) : nameRectZ t l b r = nameZ t l ++ 58 :: nameZ b r := by simp [nameRectZ, h]

set_option maxHeartbeats 400000 in
theorem nameR_no (t l b r : Int) (h : mayRectB t l b r = false) (w : World) : Calls Tryd.prog 8 #[.agg #[.int .i64 t, .int .i64 l, .int .i64 b, .int .i64 r]] w fun e w' => e = .returned (.string ⟨(nameRectZ t l b r).toArray⟩) ∧ Below w.heap.size w w' := by
  have hn := Lib.hid (nameRect_no h)
  go_enter Tryd.func8, Tryd.ntmps8
  go_wp2_with (go_at_call 13; refine (mayRect_any _ _ _ _ _).mono ?_; rintro e w1 ⟨rfl, hb⟩; obtain ⟨hc, hf, hz⟩ := bkeep hb (w.heap.size + 1) (by first | omega | (simp <;> omega)))
  go_ret
  exact ⟨by rw [hn.out]; rfl, by (repeat (first | (with_reducible exact Below.refl _ _) | (with_reducible refine Below.alloc ?_ (by first | omega | (dsimp only; omega) | (simp <;> omega)) _) | (with_reducible refine Below.setCell ?_ (by first | omega | (dsimp only; omega) | (simp <;> omega)) _) | (with_reducible refine Below.drew ?_) | (with_reducible refine below_drewN ?_ _) | (with_reducible refine Below.trans ?_ (Below.mono (by assumption) (by first | omega | (dsimp only; omega) | (simp <;> omega))))))⟩
set_option maxHeartbeats 1000000 in
theorem nameR_yes (t l b r : Int) (h : mayRectB t l b r = true) (w : World) (ht : Tab w) : Calls Tryd.prog 8 #[.agg #[.int .i64 t, .int .i64 l, .int .i64 b, .int .i64 r]] w fun e w' => e = .returned (.string ⟨(nameRectZ t l b r).toArray⟩) ∧ Below w.heap.size w w' := by
  have hn := Lib.hid (nameRect_yes h)
  have hl1 := nameZ_len t l
  have hl2 := nameZ_len b r
  have hadd1 : ∀ w' : World, (Op.stringOp .add ⟨(nameZ t l).toArray⟩ ⟨#[58]⟩).run Tryd.prog w' = .ok (.string ⟨(nameZ t l ++ [58]).toArray⟩) w' := fun w' => run_string_add_lists (P := Tryd.prog) w' (nameZ t l) [58] (by omega) (by decide)
  have hadd2 := fun w' => run_string_add_lists (P := Tryd.prog) w' (nameZ t l ++ [58]) (nameZ b r) (by simp; omega) (by omega)
  go_enter Tryd.func8, Tryd.ntmps8
  go_wp2_with (go_at_call 13; refine (mayRect_any _ _ _ _ _).mono ?_; rintro e w1 ⟨rfl, hb⟩; obtain ⟨hc, hf, hz⟩ := bkeep hb (w.heap.size + 1) (by first | omega | (simp <;> omega)); have ht1 := Tab.below ht (by (repeat (first | (with_reducible exact Below.refl _ _) | (with_reducible refine Below.alloc ?_ (by first | omega | (dsimp only; omega) | (simp <;> omega)) _) | (with_reducible refine Below.setCell ?_ (by first | omega | (dsimp only; omega) | (simp <;> omega)) _) | (with_reducible refine Below.drew ?_) | (with_reducible refine below_drewN ?_ _) | (with_reducible refine Below.trans ?_ (Below.mono (by assumption) (by first | omega | (dsimp only; omega) | (simp <;> omega))))))))
  go_region_held3 (fun w' => w'.cell? ⟨w.heap.size, 0, none⟩ = some (.int .i64 t) ∧ w'.cell? ⟨w.heap.size, 1, none⟩ = some (.int .i64 l) ∧ w'.cell? ⟨w.heap.size, 2, none⟩ = some (.int .i64 b) ∧ w'.cell? ⟨w.heap.size, 3, none⟩ = some (.int .i64 r) ∧ Tab w' ∧ Below w.heap.size w w' ∧ w.heap.size + 1 ≤ w'.heap.size)
    (first | ((go_split_ands; refine ⟨?_, ?_, ?_, ?_, ?_, ?_, ?_⟩ <;> first | (rw [hb.cell (by dsimp only; omega)]; assumption) | exact Below.trans (by assumption) (hb.mono (by omega)) | exact Tab.below (by assumption) hb | (have := hb.size; omega))) | ((refine ⟨?_, ?_, ?_, ?_, ?_, ?_, ?_⟩ <;> first | (simp [go_sem, *]; done) | ((repeat (first | (with_reducible exact Below.refl _ _) | (with_reducible refine Below.alloc ?_ (by first | omega | (dsimp only; omega) | (simp <;> omega)) _) | (with_reducible refine Below.setCell ?_ (by first | omega | (dsimp only; omega) | (simp <;> omega)) _) | (with_reducible refine Below.drew ?_) | (with_reducible refine below_drewN ?_ _) | (with_reducible refine Below.trans ?_ (Below.mono (by assumption) (by first | omega | (dsimp only; omega) | (simp <;> omega)))))); done) | exact Tab.below (by assumption) (by (repeat (first | (with_reducible exact Below.refl _ _) | (with_reducible refine Below.alloc ?_ (by first | omega | (dsimp only; omega) | (simp <;> omega)) _) | (with_reducible refine Below.setCell ?_ (by first | omega | (dsimp only; omega) | (simp <;> omega)) _) | (with_reducible refine Below.drew ?_) | (with_reducible refine below_drewN ?_ _) | (with_reducible refine Below.trans ?_ (Below.mono (by assumption) (by first | omega | (dsimp only; omega) | (simp <;> omega))))))) | (simp; omega))))
    (first | (go_at_call 19; refine (first_any _ _ _ _ _).mono ?_; rintro e w1 ⟨rfl, hb⟩) | (go_at_call 20; refine (last_any _ _ _ _ _).mono ?_; rintro e w1 ⟨rfl, hb⟩) | (go_at_call 6; refine (name_any _ _ _ (by first | assumption | (go_split_ands; assumption))).mono ?_; rintro e w1 ⟨rfl, hb⟩))
  go_split_ands
  go_wp2
  go_ret
  go_split_ands
  exact ⟨by rw [hn.out]; rfl, by assumption⟩
theorem nameR_any (t l b r : Int) (w : World) (ht : Tab w) : Calls Tryd.prog 8 #[.agg #[.int .i64 t, .int .i64 l, .int .i64 b, .int .i64 r]] w fun e w' => e = .returned (.string ⟨(nameRectZ t l b r).toArray⟩) ∧ Below w.heap.size w w' := by
  cases h : mayRectB t l b r
  · exact nameR_no t l b r h w
  · exact nameR_yes t l b r h w ht
set_option maxHeartbeats 400000 in
theorem rnameR_no (t l b r : Int) (h : mayRectB t l b r = false) (w : World) : Calls Tryd.prog 9 #[.agg #[.int .i64 t, .int .i64 l, .int .i64 b, .int .i64 r]] w fun e w' => e = .returned (.string ⟨(nameRectZ t l b r).toArray⟩) ∧ Below w.heap.size w w' := by
  have hn := Lib.hid (nameRect_no h)
  go_enter Tryd.func9, Tryd.ntmps9
  go_wp2_with (go_at_call 21; refine (rmayRect_any _ _ _ _ _).mono ?_; rintro e w1 ⟨rfl, hb⟩; obtain ⟨hc, hf, hz⟩ := bkeep hb (w.heap.size + 1) (by first | omega | (simp <;> omega)))
  go_ret
  exact ⟨by rw [hn.out]; rfl, by (repeat (first | (with_reducible exact Below.refl _ _) | (with_reducible refine Below.alloc ?_ (by first | omega | (dsimp only; omega) | (simp <;> omega)) _) | (with_reducible refine Below.setCell ?_ (by first | omega | (dsimp only; omega) | (simp <;> omega)) _) | (with_reducible refine Below.drew ?_) | (with_reducible refine below_drewN ?_ _) | (with_reducible refine Below.trans ?_ (Below.mono (by assumption) (by first | omega | (dsimp only; omega) | (simp <;> omega))))))⟩
set_option maxHeartbeats 1000000 in
theorem rnameR_yes (t l b r : Int) (h : mayRectB t l b r = true) (w : World) : Calls Tryd.prog 9 #[.agg #[.int .i64 t, .int .i64 l, .int .i64 b, .int .i64 r]] w fun e w' => e = .returned (.string ⟨(nameRectZ t l b r).toArray⟩) ∧ Below w.heap.size w w' := by
  have hn := Lib.hid (nameRect_yes h)
  have hl1 := nameZ_len t l
  have hl2 := nameZ_len b r
  have hadd1 : ∀ w' : World, (Op.stringOp .add ⟨(nameZ t l).toArray⟩ ⟨#[58]⟩).run Tryd.prog w' = .ok (.string ⟨(nameZ t l ++ [58]).toArray⟩) w' := fun w' => run_string_add_lists (P := Tryd.prog) w' (nameZ t l) [58] (by omega) (by decide)
  have hadd2 := fun w' => run_string_add_lists (P := Tryd.prog) w' (nameZ t l ++ [58]) (nameZ b r) (by simp; omega) (by omega)
  go_enter Tryd.func9, Tryd.ntmps9
  go_wp2_with (first | (go_at_call 21; refine (rmayRect_any _ _ _ _ _).mono ?_; rintro e w1 ⟨rfl, hb⟩; obtain ⟨hc, hf, hz⟩ := bkeep hb (w.heap.size + 1) (by first | omega | (simp <;> omega))) | (go_at_call 7; refine (rname_any _ _ _).mono ?_; rintro e w1 ⟨rfl, hb⟩; obtain ⟨hc, hf, hz⟩ := bkeep hb (w.heap.size + 1) (by first | omega | (simp <;> omega))))
  go_ret
  exact ⟨by rw [hn.out]; rfl, by (repeat (first | (with_reducible exact Below.refl _ _) | (with_reducible refine Below.alloc ?_ (by first | omega | (dsimp only; omega) | (simp <;> omega)) _) | (with_reducible refine Below.setCell ?_ (by first | omega | (dsimp only; omega) | (simp <;> omega)) _) | (with_reducible refine Below.drew ?_) | (with_reducible refine below_drewN ?_ _) | (with_reducible refine Below.trans ?_ (Below.mono (by assumption) (by first | omega | (dsimp only; omega) | (simp <;> omega))))))⟩
theorem rnameR_any (t l b r : Int) (w : World) : Calls Tryd.prog 9 #[.agg #[.int .i64 t, .int .i64 l, .int .i64 b, .int .i64 r]] w fun e w' => e = .returned (.string ⟨(nameRectZ t l b r).toArray⟩) ∧ Below w.heap.size w w' := by
  cases h : mayRectB t l b r
  · exact rnameR_no t l b r h w
  · exact rnameR_yes t l b r h w
end Go.Proofs.YtakgdihocejmiaaDoor
