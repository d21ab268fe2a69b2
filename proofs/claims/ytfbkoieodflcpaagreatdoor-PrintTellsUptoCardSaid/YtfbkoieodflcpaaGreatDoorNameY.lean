/-
  NameRect of package addr, and the document's own.
-/
import Derived.Test.YtfbkoieodflcpaaGreatDoorRows
import Derived.Test.YtfbkoieodflcpaaGreatDoorBase
import Derived.Test.YtfbkoieodflcpaaGreatDoorAddrC
import Derived.Test.YtfbkoieodflcpaaGreatDoorMg5
import Derived.Test.YtfbkoieodflcpaaGreatDoorRefName
import Derived.Test.YtfbkoieodflcpaaGreatDoorProg
import Derived.Test.YtfbkoieodflcpaaGreatDoorShelf
import Derived.Test.YtfbkoieodflcpaaGreatDoorShelfC
import Derived.Test.YtfbkoieodflcpaaGreatDoorMg2
import Derived.Test.YtfbkoieodflcpaaGreatDoorNameX
import Derived.WalkSpells
import Derived.WalkLawsBesides
import Derived.StillTactics
import Derived.Laws.Pointers
import Derived.Deep.RegionHeld3
import Derived.Deep.QuietTactic
import Derived.BigQuiet
import Derived.RowKit3
import Derived.Lib.Hide
import Derived.Lib.OthersKept
import Derived.OwnWalk
import Derived.Lib.IndexLaws
import Derived.WalkKit
import Derived.ProofKit
import Derived.OpenShut
import Derived.Carry
import Derived.ChangeSame
import Derived.Deep.Draws
import Derived.Lib.ItoaNum
import Derived.Lib.ItoaMem
import Derived.Shelf.Strings.Builder1
import Derived.Shelf.Strings.Builder2
import Derived.Shelf.Strings.Trim
import Derived.Shelf.Small.Utf8
import Derived.Shelf.Small.Strs
import Derived.Shelf.Small.Wraps
import Derived.Shelf.Strings.BuilderF
import Derived.Shelf.Strings.BuilderK
import Derived.Shelf.Strconv.Itoa0
import Derived.Shelf.Strconv.Itoa1
import Derived.Shelf.LaysM
import Derived.Shelf.Strconv.Itoa2
import Derived.Shelf.Strconv.Itoa3
import Derived.Shelf.Strings.Search1
import Derived.Shelf.Strings.Search2
import Derived.Shelf.Strings.Search3
import Derived.Shelf.Strings.Cut
import Derived.Shelf.Strings.Count
import Derived.Shelf.Strings.Shaped
import Derived.Shelf.Strings.Prefix
import Derived.Shelf.Strings.Split
import Derived.Shelf.Strings.Replace
import Derived.Shelf.Strings.Runes
import Derived.Shelf.Strings.AsciiSet
import Derived.Shelf.Unicode.DecodeSlow
import Derived.Ground.MpProg
import Derived.Shelf.Pu.ParseUintPublic10
namespace Go.Proofs.YtfbkoieodflcpaaGreatDoor
open Go.RowKit

/-- a rectangle's name, the empty text of one that may not be -/
def nameRectZ (t l b r : Int) : List UInt8 := if mayRectB t l b r then nameZ t l ++ 58 :: nameZ b r else []
theorem nameZ_len (r c : Int) : (nameZ r c).length ≤ 6 := by
  cases h : mayB r c
  · rw [nameZ_no h]; simp
  · obtain ⟨r', c', rfl, rfl, hm⟩ := mayB_ints h
    rw [nameZ_nat hm]
    obtain ⟨m1, m2, m3, m4⟩ := mayN_of hm
    have := dec_len (r := r') (by omega)
    have := col_len c'
    simp [nameL]; omega
theorem nameRect_no {t l b r : Int} (h : mayRectB t l b r = false) : nameRectZ t l b r = [] := by simp [nameRectZ, h]
theorem nameRect_yes {t l b r : Int} (h : mayRectB t l b r = true) : nameRectZ t l b r = nameZ t l ++ 58 :: nameZ b r := by simp [nameRectZ, h]

set_option maxHeartbeats 400000 in
theorem nameR_no (t l b r : Int) (h : mayRectB t l b r = false) (w : World) : Calls Tryz.prog 13 #[.agg #[.int .i64 t, .int .i64 l, .int .i64 b, .int .i64 r]] w fun e w' => e = .returned (.string ⟨(nameRectZ t l b r).toArray⟩) ∧ Below w.heap.size w w' := by
  have hn := Lib.hid (nameRect_no h)
  go_enter Tryz.func13, Tryz.ntmps13
  go_wp2_with (go_at_call 34; refine (mayRect_any _ _ _ _ _).mono ?_; rintro e w1 ⟨rfl, hb⟩; obtain ⟨hc, hf, hz⟩ := bkeep hb (w.heap.size + 1) (by first | omega | (simp <;> omega)))
  go_ret
  exact ⟨by rw [hn.out]; rfl, by (repeat (first | (with_reducible exact Below.refl _ _) | (with_reducible refine Below.alloc ?_ (by first | omega | (dsimp only; omega) | (simp <;> omega)) _) | (with_reducible refine Below.setCell ?_ (by first | omega | (dsimp only; omega) | (simp <;> omega)) _) | (with_reducible refine Below.drew ?_) | (with_reducible refine below_drewN ?_ _) | (with_reducible refine Below.trans ?_ (Below.mono (by assumption) (by first | omega | (dsimp only; omega) | (simp <;> omega))))))⟩
set_option maxHeartbeats 1000000 in
theorem nameR_yes (t l b r : Int) (h : mayRectB t l b r = true) (w : World) (ht : Tab w) : Calls Tryz.prog 13 #[.agg #[.int .i64 t, .int .i64 l, .int .i64 b, .int .i64 r]] w fun e w' => e = .returned (.string ⟨(nameRectZ t l b r).toArray⟩) ∧ Below w.heap.size w w' := by
  have hn := Lib.hid (nameRect_yes h)
  have hl1 := nameZ_len t l
  have hl2 := nameZ_len b r
  have hadd1 : ∀ w' : World, (Op.stringOp .add ⟨(nameZ t l).toArray⟩ ⟨#[58]⟩).run Tryz.prog w' = .ok (.string ⟨(nameZ t l ++ [58]).toArray⟩) w' := fun w' => run_string_add_lists (P := Tryz.prog) w' (nameZ t l) [58] (by omega) (by decide)
  have hadd2 := fun w' => run_string_add_lists (P := Tryz.prog) w' (nameZ t l ++ [58]) (nameZ b r) (by simp; omega) (by omega)
  go_enter Tryz.func13, Tryz.ntmps13
  go_wp2_with (go_at_call 34; refine (mayRect_any _ _ _ _ _).mono ?_; rintro e w1 ⟨rfl, hb⟩; obtain ⟨hc, hf, hz⟩ := bkeep hb (w.heap.size + 1) (by first | omega | (simp <;> omega)); have ht1 := Tab.below ht (by (repeat (first | (with_reducible exact Below.refl _ _) | (with_reducible refine Below.alloc ?_ (by first | omega | (dsimp only; omega) | (simp <;> omega)) _) | (with_reducible refine Below.setCell ?_ (by first | omega | (dsimp only; omega) | (simp <;> omega)) _) | (with_reducible refine Below.drew ?_) | (with_reducible refine below_drewN ?_ _) | (with_reducible refine Below.trans ?_ (Below.mono (by assumption) (by first | omega | (dsimp only; omega) | (simp <;> omega))))))))
  go_region_held3 (fun w' => w'.cell? ⟨w.heap.size, 0, none⟩ = some (.int .i64 t) ∧ w'.cell? ⟨w.heap.size, 1, none⟩ = some (.int .i64 l) ∧ w'.cell? ⟨w.heap.size, 2, none⟩ = some (.int .i64 b) ∧ w'.cell? ⟨w.heap.size, 3, none⟩ = some (.int .i64 r) ∧ Tab w' ∧ Below w.heap.size w w' ∧ w.heap.size + 1 ≤ w'.heap.size)
    (first | ((go_split_ands; refine ⟨?_, ?_, ?_, ?_, ?_, ?_, ?_⟩ <;> first | (rw [hb.cell (by dsimp only; omega)]; assumption) | exact Below.trans (by assumption) (hb.mono (by omega)) | exact Tab.below (by assumption) hb | (have := hb.size; omega))) | ((refine ⟨?_, ?_, ?_, ?_, ?_, ?_, ?_⟩ <;> first | (simp [go_sem, *]; done) | ((repeat (first | (with_reducible exact Below.refl _ _) | (with_reducible refine Below.alloc ?_ (by first | omega | (dsimp only; omega) | (simp <;> omega)) _) | (with_reducible refine Below.setCell ?_ (by first | omega | (dsimp only; omega) | (simp <;> omega)) _) | (with_reducible refine Below.drew ?_) | (with_reducible refine below_drewN ?_ _) | (with_reducible refine Below.trans ?_ (Below.mono (by assumption) (by first | omega | (dsimp only; omega) | (simp <;> omega)))))); done) | exact Tab.below (by assumption) (by (repeat (first | (with_reducible exact Below.refl _ _) | (with_reducible refine Below.alloc ?_ (by first | omega | (dsimp only; omega) | (simp <;> omega)) _) | (with_reducible refine Below.setCell ?_ (by first | omega | (dsimp only; omega) | (simp <;> omega)) _) | (with_reducible refine Below.drew ?_) | (with_reducible refine below_drewN ?_ _) | (with_reducible refine Below.trans ?_ (Below.mono (by assumption) (by first | omega | (dsimp only; omega) | (simp <;> omega))))))) | (simp; omega))))
    (first | (go_at_call 35; refine (first_any _ _ _ _ _).mono ?_; rintro e w1 ⟨rfl, hb⟩) | (go_at_call 36; refine (last_any _ _ _ _ _).mono ?_; rintro e w1 ⟨rfl, hb⟩) | (go_at_call 12; refine (aname_any _ _ _ (by first | assumption | (go_split_ands; assumption))).mono ?_; rintro e w1 ⟨rfl, hb⟩))
  go_split_ands
  go_wp2
  go_ret
  go_split_ands
  exact ⟨by rw [hn.out]; rfl, by assumption⟩
theorem nameR_any (t l b r : Int) (w : World) (ht : Tab w) : Calls Tryz.prog 13 #[.agg #[.int .i64 t, .int .i64 l, .int .i64 b, .int .i64 r]] w fun e w' => e = .returned (.string ⟨(nameRectZ t l b r).toArray⟩) ∧ Below w.heap.size w w' := by
  cases h : mayRectB t l b r
  · exact nameR_no t l b r h w
  · exact nameR_yes t l b r h w ht
set_option maxHeartbeats 400000 in
theorem rnameR_no (t l b r : Int) (h : mayRectB t l b r = false) (w : World) : Calls Tryz.prog 43 #[.agg #[.int .i64 t, .int .i64 l, .int .i64 b, .int .i64 r]] w fun e w' => e = .returned (.string ⟨(nameRectZ t l b r).toArray⟩) ∧ Below w.heap.size w w' := by
  have hn := Lib.hid (nameRect_no h)
  go_enter Tryz.func43, Tryz.ntmps43
  go_wp2_with (go_at_call 82; refine (rmayRect_any _ _ _ _ _).mono ?_; rintro e w1 ⟨rfl, hb⟩; obtain ⟨hc, hf, hz⟩ := bkeep hb (w.heap.size + 1) (by first | omega | (simp <;> omega)))
  go_ret
  exact ⟨by rw [hn.out]; rfl, by (repeat (first | (with_reducible exact Below.refl _ _) | (with_reducible refine Below.alloc ?_ (by first | omega | (dsimp only; omega) | (simp <;> omega)) _) | (with_reducible refine Below.setCell ?_ (by first | omega | (dsimp only; omega) | (simp <;> omega)) _) | (with_reducible refine Below.drew ?_) | (with_reducible refine below_drewN ?_ _) | (with_reducible refine Below.trans ?_ (Below.mono (by assumption) (by first | omega | (dsimp only; omega) | (simp <;> omega))))))⟩
set_option maxHeartbeats 1000000 in
theorem rnameR_yes (t l b r : Int) (h : mayRectB t l b r = true) (w : World) : Calls Tryz.prog 43 #[.agg #[.int .i64 t, .int .i64 l, .int .i64 b, .int .i64 r]] w fun e w' => e = .returned (.string ⟨(nameRectZ t l b r).toArray⟩) ∧ Below w.heap.size w w' := by
  have hn := Lib.hid (nameRect_yes h)
  have hl1 := nameZ_len t l
  have hl2 := nameZ_len b r
  have hadd1 : ∀ w' : World, (Op.stringOp .add ⟨(nameZ t l).toArray⟩ ⟨#[58]⟩).run Tryz.prog w' = .ok (.string ⟨(nameZ t l ++ [58]).toArray⟩) w' := fun w' => run_string_add_lists (P := Tryz.prog) w' (nameZ t l) [58] (by omega) (by decide)
  have hadd2 := fun w' => run_string_add_lists (P := Tryz.prog) w' (nameZ t l ++ [58]) (nameZ b r) (by simp; omega) (by omega)
  go_enter Tryz.func43, Tryz.ntmps43
  go_wp2_with (first | (go_at_call 82; refine (rmayRect_any _ _ _ _ _).mono ?_; rintro e w1 ⟨rfl, hb⟩; obtain ⟨hc, hf, hz⟩ := bkeep hb (w.heap.size + 1) (by first | omega | (simp <;> omega))) | (go_at_call 42; refine (rname_any _ _ _).mono ?_; rintro e w1 ⟨rfl, hb⟩; obtain ⟨hc, hf, hz⟩ := bkeep hb (w.heap.size + 1) (by first | omega | (simp <;> omega))))
  go_ret
  exact ⟨by rw [hn.out]; rfl, by (repeat (first | (with_reducible exact Below.refl _ _) | (with_reducible refine Below.alloc ?_ (by first | omega | (dsimp only; omega) | (simp <;> omega)) _) | (with_reducible refine Below.setCell ?_ (by first | omega | (dsimp only; omega) | (simp <;> omega)) _) | (with_reducible refine Below.drew ?_) | (with_reducible refine below_drewN ?_ _) | (with_reducible refine Below.trans ?_ (Below.mono (by assumption) (by first | omega | (dsimp only; omega) | (simp <;> omega))))))⟩
theorem rnameR_any (t l b r : Int) (w : World) : Calls Tryz.prog 43 #[.agg #[.int .i64 t, .int .i64 l, .int .i64 b, .int .i64 r]] w fun e w' => e = .returned (.string ⟨(nameRectZ t l b r).toArray⟩) ∧ Below w.heap.size w w' := by
  cases h : mayRectB t l b r
  · exact rnameR_no t l b r h w
  · exact rnameR_yes t l b r h w
end Go.Proofs.YtfbkoieodflcpaaGreatDoor
