/-
  find of texts: the table by name.
-/
import Derived.Test.YtgmhifafbebjfaaGreatDoorMapK
import Derived.Laws.EntriesVeiled
namespace Go.Proofs.YtgmhifafbebjfaaGreatDoor
open Go.RowKit

set_option maxHeartbeats 400000 in
theorem text_any (g : Fn) (w : World) : Calls Tryz.prog 69 #[.func g #[] #[]] w fun e w' => e = .returned (.func (.func 144) #[] #[.pointer (some ⟨w.heap.size, 0, none⟩)]) ∧ w' = w.alloc (.cells #[.func g #[] #[]] 105) := by
  go_enter Tryz.func69, Tryz.ntmps69
  go_wp2
  refine bodyPost_ret (v := .func (.func 144) #[] #[.pointer (some ⟨w.heap.size, 0, none⟩)]) (by simp [results, Tryz.results69, go_sem]) rfl ⟨rfl, rfl⟩
/-- the table, the last entry first -/
def tTab (b0 b1 b2 b3 : Nat) : List (ByteArray × Value) :=
  [((⟨#[78, 85, 77]⟩ : ByteArray), Value.agg #[.string ⟨#[115]⟩, .int .i64 1, .func (.func 84) #[] #[]]),
   ((⟨#[82, 69, 86]⟩ : ByteArray), Value.agg #[.string ⟨#[115]⟩, .int .i64 1, .func (.func 144) #[] #[.pointer (some ⟨b3, 0, none⟩)]]),
   ((⟨#[69, 88, 65, 67, 84]⟩ : ByteArray), Value.agg #[.string ⟨#[115, 115]⟩, .int .i64 2, .func (.func 81) #[] #[]]),
   ((⟨#[67, 72, 65, 82]⟩ : ByteArray), Value.agg #[.string ⟨#[110]⟩, .int .i64 1, .func (.func 80) #[] #[]]),
   ((⟨#[79, 82, 68]⟩ : ByteArray), Value.agg #[.string ⟨#[115]⟩, .int .i64 1, .func (.func 79) #[] #[]]),
   ((⟨#[67, 79, 78, 67, 65, 84]⟩ : ByteArray), Value.agg #[.string ⟨(Lib.repeatL ((⟨#[115]⟩ : ByteArray).data.toList) 16).toArray⟩, .int .i64 1, .func (.func 78) #[] #[]]),
   ((⟨#[83, 85, 66, 83, 84]⟩ : ByteArray), Value.agg #[.string ⟨#[115, 115, 115]⟩, .int .i64 3, .func (.func 76) #[] #[]]),
   ((⟨#[70, 73, 78, 68]⟩ : ByteArray), Value.agg #[.string ⟨#[115, 115, 110]⟩, .int .i64 2, .func (.func 75) #[] #[]]),
   ((⟨#[82, 69, 80, 84]⟩ : ByteArray), Value.agg #[.string ⟨#[115, 110]⟩, .int .i64 2, .func (.func 74) #[] #[]]),
   ((⟨#[84, 82, 73, 77]⟩ : ByteArray), Value.agg #[.string ⟨#[115]⟩, .int .i64 1, .func (.func 144) #[] #[.pointer (some ⟨b2, 0, none⟩)]]),
   ((⟨#[76, 79, 87, 69, 82]⟩ : ByteArray), Value.agg #[.string ⟨#[115]⟩, .int .i64 1, .func (.func 144) #[] #[.pointer (some ⟨b1, 0, none⟩)]]),
   ((⟨#[85, 80, 80, 69, 82]⟩ : ByteArray), Value.agg #[.string ⟨#[115]⟩, .int .i64 1, .func (.func 144) #[] #[.pointer (some ⟨b0, 0, none⟩)]]),
   ((⟨#[77, 73, 68]⟩ : ByteArray), Value.agg #[.string ⟨#[115, 110, 110]⟩, .int .i64 3, .func (.func 68) #[] #[]]),
   ((⟨#[82, 73, 71, 72, 84]⟩ : ByteArray), Value.agg #[.string ⟨#[115, 110]⟩, .int .i64 1, .func (.func 67) #[] #[]]),
   ((⟨#[76, 69, 70, 84]⟩ : ByteArray), Value.agg #[.string ⟨#[115, 110]⟩, .int .i64 1, .func (.func 66) #[] #[]]),
   ((⟨#[76, 69, 78]⟩ : ByteArray), Value.agg #[.string ⟨#[115]⟩, .int .i64 1, .func (.func 64) #[] #[]])]
def tZero : Value := .agg #[.string ⟨#[]⟩, .int .i64 0, .nilFunc]
/-- the table's entry: the kinds, how many at least, what is called -/
structure TFindAt (s : ByteArray) (w : World) (e : Ending) (w' : World) : Prop where
  out : ∃ b0 b1 b2 b3 kd l d, e = .returned (.tuple #[.agg #[.string kd, .int .i64 l, d], .bool (hasL (tTab b0 b1 b2 b3) s)]) ∧ lookL tZero (tTab b0 b1 b2 b3) s = .agg #[.string kd, .int .i64 l, d] ∧ Below w.heap.size w w' ∧
    w'.cell? ⟨b0, 0, none⟩ = some (.func (.func 70) #[] #[]) ∧ w'.cell? ⟨b1, 0, none⟩ = some (.func (.func 72) #[] #[]) ∧ w'.cell? ⟨b2, 0, none⟩ = some (.func (.func 73) #[] #[]) ∧ w'.cell? ⟨b3, 0, none⟩ = some (.func (.func 83) #[] #[])
theorem tTab_form (b0 b1 b2 b3 : Nat) (s : ByteArray) : ∃ kd l d, lookL tZero (tTab b0 b1 b2 b3) s = .agg #[.string kd, .int .i64 l, d] ∧ (d = .nilFunc ∨ ∃ g c, d = .func g #[] c) := by
  refine lookL_all (p := fun v => ∃ kd l d, v = .agg #[.string kd, .int .i64 l, d] ∧ (d = .nilFunc ∨ ∃ g c, d = .func g #[] c)) ⟨_, _, _, rfl, .inl rfl⟩ s _ ?_
  intro x hx
  simp only [tTab, List.mem_cons, List.not_mem_nil, or_false] at hx
  rcases hx with rfl | rfl | rfl | rfl | rfl | rfl | rfl | rfl | rfl | rfl | rfl | rfl | rfl | rfl | rfl | rfl <;> exact ⟨_, _, _, rfl, .inr ⟨_, _, rfl⟩⟩
theorem tzero_run (w : World) : (zeroValue 41).run Tryz.prog w = .ok tZero w := by kernel_rfl
set_option maxRecDepth 100000 in
set_option maxHeartbeats 8000000 in
theorem tfind_any (s : ByteArray) (hs : s.size ≤ 9223372036854775807) (w : World) : Calls Tryz.prog 14 #[.string s] w (TFindAt s w) := by
  have hmm := @run_makeMap Tryz.prog
  obtain ⟨rs, hrs⟩ : ∃ rs : ByteArray, rs = ⟨(Lib.repeatL ((⟨#[115]⟩ : ByteArray).data.toList) 16).toArray⟩ := ⟨_, rfl⟩
  have hrz : rs.size ≤ 16 := by rw [hrs]; decide
  have hrs' := Lib.hid hrs
  clear hrs
  go_enter Tryz.func14, Tryz.ntmps14
  go_wp2_with fail
  refine upon_insert (n := 0) (l := []) 107 9 41 Tryz.underlying9 Tryz.underlying107 (by have := World.ownsMap_made (w.alloc (.cells #[.string ⟨#[]⟩, .int .i64 0, .nilFunc] 41)) Tryz.prog 9 heldR; rw [World.size_alloc] at this; exact this) (by unfold maxLen; omega) (by unfold maxLen; decide) ?_
  intro w0 hown0 hg0
  have hb0 : Below w.heap.size w w0 := (((Below.refl _ _).alloc (Nat.le_refl _) _).alloc (by simp) _).grown hg0 (by simp; omega) (fun k e => by cases e; simp)
  have hz0 : w.heap.size + 1 < w0.heap.size := by have := hg0.size; simp at this; omega
  have hq0 := blk_grown (blk_alloc (blk_new w #[.string ⟨#[]⟩, .int .i64 0, .nilFunc] 41) (.map #[] 0)) hg0 (by simp)
  go_wp2_with fail
  refine upon_insert (n := 1) 107 9 41 Tryz.underlying9 Tryz.underlying107 hown0 (by unfold maxLen; omega) (by unfold maxLen; decide) ?_
  intro w1 hown1 hg1
  have hb1 : Below w.heap.size w w1 := hb0.grown hg1 (by omega) (fun k e => by cases e; omega)
  have hz1 : w.heap.size + 1 < w1.heap.size := by have := hg1.size; omega
  have hq1 := blk_grown hq0 hg1 (by simp)
  clear hb0 hg1 hq0 hown0
  go_wp2_with fail
  refine upon_insert (n := 2) 107 9 41 Tryz.underlying9 Tryz.underlying107 hown1 (by unfold maxLen; omega) (by unfold maxLen; decide) ?_
  intro w2 hown2 hg2
  have hb2 : Below w.heap.size w w2 := hb1.grown hg2 (by omega) (fun k e => by cases e; omega)
  have hz2 : w.heap.size + 1 < w2.heap.size := by have := hg2.size; omega
  have hq2 := blk_grown hq1 hg2 (by simp)
  clear hb1 hg2 hq1 hown1
  go_wp2_with fail
  refine upon_insert (n := 3) 107 9 41 Tryz.underlying9 Tryz.underlying107 hown2 (by unfold maxLen; omega) (by unfold maxLen; decide) ?_
  intro w3 hown3 hg3
  have hb3 : Below w.heap.size w w3 := hb2.grown hg3 (by omega) (fun k e => by cases e; omega)
  have hz3 : w.heap.size + 1 < w3.heap.size := by have := hg3.size; omega
  have hq3 := blk_grown hq2 hg3 (by simp)
  clear hb2 hg3 hq2 hown2
  go_wp2_with fail
  refine (text_any _ _).mono ?_
  rintro e wp ⟨rfl, rfl⟩
  go_wp2_with fail
  refine upon_insert (n := 4) 107 9 41 Tryz.underlying9 Tryz.underlying107 (hown3.alloc _) (by unfold maxLen; omega) (by unfold maxLen; decide) ?_
  intro w4 hown4 hg4
  have hb4 : Below w.heap.size w w4 := (hb3.alloc (by omega) _).grown hg4 (by simp; omega) (fun k e => by cases e; omega)
  have hz4 : w.heap.size + 1 < w4.heap.size := by have := hg4.size; simp at this; omega
  have hq4 := blk_grown (blk_alloc hq3 _) hg4 (by simp)
  have hk4_0 : w4.cell? ⟨w3.heap.size, 0, none⟩ = some (.func (.func 70) #[] #[]) := cell_grown hg4 (cell_new1 w3 _ 105) (by simp) (by simp; omega)
  have hl4_0 : w3.heap.size < w4.heap.size := by have := hg4.size; simp at this; omega
  clear hb3 hg4 hq3 hown3
  go_wp2_with fail
  refine (text_any _ _).mono ?_
  rintro e wp ⟨rfl, rfl⟩
  go_wp2_with fail
  refine upon_insert (n := 5) 107 9 41 Tryz.underlying9 Tryz.underlying107 (hown4.alloc _) (by unfold maxLen; omega) (by unfold maxLen; decide) ?_
  intro w5 hown5 hg5
  have hb5 : Below w.heap.size w w5 := (hb4.alloc (by omega) _).grown hg5 (by simp; omega) (fun k e => by cases e; omega)
  have hz5 : w.heap.size + 1 < w5.heap.size := by have := hg5.size; simp at this; omega
  have hq5 := blk_grown (blk_alloc hq4 _) hg5 (by simp)
  have hk5_0 : w5.cell? ⟨w3.heap.size, 0, none⟩ = some (.func (.func 70) #[] #[]) := cell_grown hg5 ((World.cell?_alloc_lt _ _ ⟨_, 0, none⟩ hl4_0).trans hk4_0) (by simp; omega) (by simp; omega)
  have hl5_0 := Nat.lt_of_lt_of_le hl4_0 (Nat.le_trans (Nat.le_succ _) (by have := hg5.size; simpa using this))
  have hk5_1 : w5.cell? ⟨w4.heap.size, 0, none⟩ = some (.func (.func 72) #[] #[]) := cell_grown hg5 (cell_new1 w4 _ 105) (by simp) (by simp; omega)
  have hl5_1 : w4.heap.size < w5.heap.size := by have := hg5.size; simp at this; omega
  clear hb4 hg5 hq4 hown4 hk4_0 hl4_0
  go_wp2_with fail
  refine (text_any _ _).mono ?_
  rintro e wp ⟨rfl, rfl⟩
  go_wp2_with fail
  refine upon_insert (n := 6) 107 9 41 Tryz.underlying9 Tryz.underlying107 (hown5.alloc _) (by unfold maxLen; omega) (by unfold maxLen; decide) ?_
  intro w6 hown6 hg6
  have hb6 : Below w.heap.size w w6 := (hb5.alloc (by omega) _).grown hg6 (by simp; omega) (fun k e => by cases e; omega)
  have hz6 : w.heap.size + 1 < w6.heap.size := by have := hg6.size; simp at this; omega
  have hq6 := blk_grown (blk_alloc hq5 _) hg6 (by simp)
  have hk6_0 : w6.cell? ⟨w3.heap.size, 0, none⟩ = some (.func (.func 70) #[] #[]) := cell_grown hg6 ((World.cell?_alloc_lt _ _ ⟨_, 0, none⟩ hl5_0).trans hk5_0) (by simp; omega) (by simp; omega)
  have hl6_0 := Nat.lt_of_lt_of_le hl5_0 (Nat.le_trans (Nat.le_succ _) (by have := hg6.size; simpa using this))
  have hk6_1 : w6.cell? ⟨w4.heap.size, 0, none⟩ = some (.func (.func 72) #[] #[]) := cell_grown hg6 ((World.cell?_alloc_lt _ _ ⟨_, 0, none⟩ hl5_1).trans hk5_1) (by simp; omega) (by simp; omega)
  have hl6_1 := Nat.lt_of_lt_of_le hl5_1 (Nat.le_trans (Nat.le_succ _) (by have := hg6.size; simpa using this))
  have hk6_2 : w6.cell? ⟨w5.heap.size, 0, none⟩ = some (.func (.func 73) #[] #[]) := cell_grown hg6 (cell_new1 w5 _ 105) (by simp) (by simp; omega)
  have hl6_2 : w5.heap.size < w6.heap.size := by have := hg6.size; simp at this; omega
  clear hb5 hg6 hq5 hown5 hk5_0 hl5_0 hk5_1 hl5_1
  go_wp2_with fail
  refine upon_insert (n := 7) 107 9 41 Tryz.underlying9 Tryz.underlying107 hown6 (by unfold maxLen; omega) (by unfold maxLen; decide) ?_
  intro w7 hown7 hg7
  have hb7 : Below w.heap.size w w7 := hb6.grown hg7 (by omega) (fun k e => by cases e; omega)
  have hz7 : w.heap.size + 1 < w7.heap.size := by have := hg7.size; omega
  have hq7 := blk_grown hq6 hg7 (by simp)
  have hk7_0 : w7.cell? ⟨w3.heap.size, 0, none⟩ = some (.func (.func 70) #[] #[]) := cell_grown hg7 hk6_0 hl6_0 (by simp; omega)
  have hl7_0 := Nat.lt_of_lt_of_le hl6_0 hg7.size
  have hk7_1 : w7.cell? ⟨w4.heap.size, 0, none⟩ = some (.func (.func 72) #[] #[]) := cell_grown hg7 hk6_1 hl6_1 (by simp; omega)
  have hl7_1 := Nat.lt_of_lt_of_le hl6_1 hg7.size
  have hk7_2 : w7.cell? ⟨w5.heap.size, 0, none⟩ = some (.func (.func 73) #[] #[]) := cell_grown hg7 hk6_2 hl6_2 (by simp; omega)
  have hl7_2 := Nat.lt_of_lt_of_le hl6_2 hg7.size
  clear hb6 hg7 hq6 hown6 hk6_0 hl6_0 hk6_1 hl6_1 hk6_2 hl6_2
  go_wp2_with fail
  refine upon_insert (n := 8) 107 9 41 Tryz.underlying9 Tryz.underlying107 hown7 (by unfold maxLen; omega) (by unfold maxLen; decide) ?_
  intro w8 hown8 hg8
  have hb8 : Below w.heap.size w w8 := hb7.grown hg8 (by omega) (fun k e => by cases e; omega)
  have hz8 : w.heap.size + 1 < w8.heap.size := by have := hg8.size; omega
  have hq8 := blk_grown hq7 hg8 (by simp)
  have hk8_0 : w8.cell? ⟨w3.heap.size, 0, none⟩ = some (.func (.func 70) #[] #[]) := cell_grown hg8 hk7_0 hl7_0 (by simp; omega)
  have hl8_0 := Nat.lt_of_lt_of_le hl7_0 hg8.size
  have hk8_1 : w8.cell? ⟨w4.heap.size, 0, none⟩ = some (.func (.func 72) #[] #[]) := cell_grown hg8 hk7_1 hl7_1 (by simp; omega)
  have hl8_1 := Nat.lt_of_lt_of_le hl7_1 hg8.size
  have hk8_2 : w8.cell? ⟨w5.heap.size, 0, none⟩ = some (.func (.func 73) #[] #[]) := cell_grown hg8 hk7_2 hl7_2 (by simp; omega)
  have hl8_2 := Nat.lt_of_lt_of_le hl7_2 hg8.size
  clear hb7 hg8 hq7 hown7 hk7_0 hl7_0 hk7_1 hl7_1 hk7_2 hl7_2
  go_wp2_with fail
  refine upon_insert (n := 9) 107 9 41 Tryz.underlying9 Tryz.underlying107 hown8 (by unfold maxLen; omega) (by unfold maxLen; decide) ?_
  intro w9 hown9 hg9
  have hb9 : Below w.heap.size w w9 := hb8.grown hg9 (by omega) (fun k e => by cases e; omega)
  have hz9 : w.heap.size + 1 < w9.heap.size := by have := hg9.size; omega
  have hq9 := blk_grown hq8 hg9 (by simp)
  have hk9_0 : w9.cell? ⟨w3.heap.size, 0, none⟩ = some (.func (.func 70) #[] #[]) := cell_grown hg9 hk8_0 hl8_0 (by simp; omega)
  have hl9_0 := Nat.lt_of_lt_of_le hl8_0 hg9.size
  have hk9_1 : w9.cell? ⟨w4.heap.size, 0, none⟩ = some (.func (.func 72) #[] #[]) := cell_grown hg9 hk8_1 hl8_1 (by simp; omega)
  have hl9_1 := Nat.lt_of_lt_of_le hl8_1 hg9.size
  have hk9_2 : w9.cell? ⟨w5.heap.size, 0, none⟩ = some (.func (.func 73) #[] #[]) := cell_grown hg9 hk8_2 hl8_2 (by simp; omega)
  have hl9_2 := Nat.lt_of_lt_of_le hl8_2 hg9.size
  clear hb8 hg9 hq8 hown8 hk8_0 hl8_0 hk8_1 hl8_1 hk8_2 hl8_2
  go_wp2_with fail
  refine (Tryz.strings_Repeat _ 16 _ (by omega) (by decide)).mono ?_
  rintro e wR ⟨rfl, hbR⟩
  rw [← hrs'.out]
  have hownR := hown9.kept (w' := wR) ⟨hbR.os, hbR.tape, hbR.output, hbR.size, fun i hi _ => hbR.block i hi⟩ (row := none) (by simp)
  go_wp2_with fail
  refine upon_insert (n := 10) 107 9 41 Tryz.underlying9 Tryz.underlying107 hownR (by unfold maxLen; omega) (by unfold maxLen; decide) ?_
  intro w10 hown10 hg10
  have hzR := hbR.size
  have hb10 : Below w.heap.size w w10 := (hb9.trans (hbR.mono (by omega))).grown hg10 (by omega) (fun k e => by cases e; omega)
  have hz10 : w.heap.size + 1 < w10.heap.size := by have := hg10.size; omega
  have hq10 := blk_grown (blk_below hq9 hbR (by omega)) hg10 (by simp)
  have hk10_0 : w10.cell? ⟨w3.heap.size, 0, none⟩ = some (.func (.func 70) #[] #[]) := cell_grown hg10 ((hbR.cell (p := ⟨w3.heap.size, 0, none⟩) (by first | omega | (simp; omega))).trans hk9_0) (by first | omega | (simp; omega)) (by first | omega | (simp; omega))
  have hl10_0 := Nat.lt_of_lt_of_le hl9_0 (Nat.le_trans hzR hg10.size)
  have hk10_1 : w10.cell? ⟨w4.heap.size, 0, none⟩ = some (.func (.func 72) #[] #[]) := cell_grown hg10 ((hbR.cell (p := ⟨w4.heap.size, 0, none⟩) (by first | omega | (simp; omega))).trans hk9_1) (by first | omega | (simp; omega)) (by first | omega | (simp; omega))
  have hl10_1 := Nat.lt_of_lt_of_le hl9_1 (Nat.le_trans hzR hg10.size)
  have hk10_2 : w10.cell? ⟨w5.heap.size, 0, none⟩ = some (.func (.func 73) #[] #[]) := cell_grown hg10 ((hbR.cell (p := ⟨w5.heap.size, 0, none⟩) (by first | omega | (simp; omega))).trans hk9_2) (by first | omega | (simp; omega)) (by first | omega | (simp; omega))
  have hl10_2 := Nat.lt_of_lt_of_le hl9_2 (Nat.le_trans hzR hg10.size)
  clear hb9 hg10 hq9 hown9 hbR hzR hownR hk9_0 hl9_0 hk9_1 hl9_1 hk9_2 hl9_2
  go_wp2_with fail
  refine upon_insert (n := 11) 107 9 41 Tryz.underlying9 Tryz.underlying107 hown10 (by unfold maxLen; omega) (by unfold maxLen; decide) ?_
  intro w11 hown11 hg11
  have hb11 : Below w.heap.size w w11 := hb10.grown hg11 (by omega) (fun k e => by cases e; omega)
  have hz11 : w.heap.size + 1 < w11.heap.size := by have := hg11.size; omega
  have hq11 := blk_grown hq10 hg11 (by simp)
  have hk11_0 : w11.cell? ⟨w3.heap.size, 0, none⟩ = some (.func (.func 70) #[] #[]) := cell_grown hg11 hk10_0 hl10_0 (by simp; omega)
  have hl11_0 := Nat.lt_of_lt_of_le hl10_0 hg11.size
  have hk11_1 : w11.cell? ⟨w4.heap.size, 0, none⟩ = some (.func (.func 72) #[] #[]) := cell_grown hg11 hk10_1 hl10_1 (by simp; omega)
  have hl11_1 := Nat.lt_of_lt_of_le hl10_1 hg11.size
  have hk11_2 : w11.cell? ⟨w5.heap.size, 0, none⟩ = some (.func (.func 73) #[] #[]) := cell_grown hg11 hk10_2 hl10_2 (by simp; omega)
  have hl11_2 := Nat.lt_of_lt_of_le hl10_2 hg11.size
  clear hb10 hg11 hq10 hown10 hk10_0 hl10_0 hk10_1 hl10_1 hk10_2 hl10_2
  go_wp2_with fail
  refine upon_insert (n := 12) 107 9 41 Tryz.underlying9 Tryz.underlying107 hown11 (by unfold maxLen; omega) (by unfold maxLen; decide) ?_
  intro w12 hown12 hg12
  have hb12 : Below w.heap.size w w12 := hb11.grown hg12 (by omega) (fun k e => by cases e; omega)
  have hz12 : w.heap.size + 1 < w12.heap.size := by have := hg12.size; omega
  have hq12 := blk_grown hq11 hg12 (by simp)
  have hk12_0 : w12.cell? ⟨w3.heap.size, 0, none⟩ = some (.func (.func 70) #[] #[]) := cell_grown hg12 hk11_0 hl11_0 (by simp; omega)
  have hl12_0 := Nat.lt_of_lt_of_le hl11_0 hg12.size
  have hk12_1 : w12.cell? ⟨w4.heap.size, 0, none⟩ = some (.func (.func 72) #[] #[]) := cell_grown hg12 hk11_1 hl11_1 (by simp; omega)
  have hl12_1 := Nat.lt_of_lt_of_le hl11_1 hg12.size
  have hk12_2 : w12.cell? ⟨w5.heap.size, 0, none⟩ = some (.func (.func 73) #[] #[]) := cell_grown hg12 hk11_2 hl11_2 (by simp; omega)
  have hl12_2 := Nat.lt_of_lt_of_le hl11_2 hg12.size
  clear hb11 hg12 hq11 hown11 hk11_0 hl11_0 hk11_1 hl11_1 hk11_2 hl11_2
  go_wp2_with fail
  refine upon_insert (n := 13) 107 9 41 Tryz.underlying9 Tryz.underlying107 hown12 (by unfold maxLen; omega) (by unfold maxLen; decide) ?_
  intro w13 hown13 hg13
  have hb13 : Below w.heap.size w w13 := hb12.grown hg13 (by omega) (fun k e => by cases e; omega)
  have hz13 : w.heap.size + 1 < w13.heap.size := by have := hg13.size; omega
  have hq13 := blk_grown hq12 hg13 (by simp)
  have hk13_0 : w13.cell? ⟨w3.heap.size, 0, none⟩ = some (.func (.func 70) #[] #[]) := cell_grown hg13 hk12_0 hl12_0 (by simp; omega)
  have hl13_0 := Nat.lt_of_lt_of_le hl12_0 hg13.size
  have hk13_1 : w13.cell? ⟨w4.heap.size, 0, none⟩ = some (.func (.func 72) #[] #[]) := cell_grown hg13 hk12_1 hl12_1 (by simp; omega)
  have hl13_1 := Nat.lt_of_lt_of_le hl12_1 hg13.size
  have hk13_2 : w13.cell? ⟨w5.heap.size, 0, none⟩ = some (.func (.func 73) #[] #[]) := cell_grown hg13 hk12_2 hl12_2 (by simp; omega)
  have hl13_2 := Nat.lt_of_lt_of_le hl12_2 hg13.size
  clear hb12 hg13 hq12 hown12 hk12_0 hl12_0 hk12_1 hl12_1 hk12_2 hl12_2
  go_wp2_with fail
  refine (text_any _ _).mono ?_
  rintro e wp ⟨rfl, rfl⟩
  go_wp2_with fail
  refine upon_insert (n := 14) 107 9 41 Tryz.underlying9 Tryz.underlying107 (hown13.alloc _) (by unfold maxLen; omega) (by unfold maxLen; decide) ?_
  intro w14 hown14 hg14
  have hb14 : Below w.heap.size w w14 := (hb13.alloc (by omega) _).grown hg14 (by simp; omega) (fun k e => by cases e; omega)
  have hz14 : w.heap.size + 1 < w14.heap.size := by have := hg14.size; simp at this; omega
  have hq14 := blk_grown (blk_alloc hq13 _) hg14 (by simp)
  have hk14_0 : w14.cell? ⟨w3.heap.size, 0, none⟩ = some (.func (.func 70) #[] #[]) := cell_grown hg14 ((World.cell?_alloc_lt _ _ ⟨_, 0, none⟩ hl13_0).trans hk13_0) (by simp; omega) (by simp; omega)
  have hl14_0 := Nat.lt_of_lt_of_le hl13_0 (Nat.le_trans (Nat.le_succ _) (by have := hg14.size; simpa using this))
  have hk14_1 : w14.cell? ⟨w4.heap.size, 0, none⟩ = some (.func (.func 72) #[] #[]) := cell_grown hg14 ((World.cell?_alloc_lt _ _ ⟨_, 0, none⟩ hl13_1).trans hk13_1) (by simp; omega) (by simp; omega)
  have hl14_1 := Nat.lt_of_lt_of_le hl13_1 (Nat.le_trans (Nat.le_succ _) (by have := hg14.size; simpa using this))
  have hk14_2 : w14.cell? ⟨w5.heap.size, 0, none⟩ = some (.func (.func 73) #[] #[]) := cell_grown hg14 ((World.cell?_alloc_lt _ _ ⟨_, 0, none⟩ hl13_2).trans hk13_2) (by simp; omega) (by simp; omega)
  have hl14_2 := Nat.lt_of_lt_of_le hl13_2 (Nat.le_trans (Nat.le_succ _) (by have := hg14.size; simpa using this))
  have hk14_3 : w14.cell? ⟨w13.heap.size, 0, none⟩ = some (.func (.func 83) #[] #[]) := cell_grown hg14 (cell_new1 w13 _ 105) (by simp) (by simp; omega)
  have hl14_3 : w13.heap.size < w14.heap.size := by have := hg14.size; simp at this; omega
  clear hb13 hg14 hq13 hown13 hk13_0 hl13_0 hk13_1 hl13_1 hk13_2 hl13_2
  go_wp2_with fail
  refine upon_insert (n := 15) 107 9 41 Tryz.underlying9 Tryz.underlying107 hown14 (by unfold maxLen; omega) (by unfold maxLen; decide) ?_
  intro w15 hown15 hg15
  have hb15 : Below w.heap.size w w15 := hb14.grown hg15 (by omega) (fun k e => by cases e; omega)
  have hz15 : w.heap.size + 1 < w15.heap.size := by have := hg15.size; omega
  have hq15 := blk_grown hq14 hg15 (by simp)
  have hk15_0 : w15.cell? ⟨w3.heap.size, 0, none⟩ = some (.func (.func 70) #[] #[]) := cell_grown hg15 hk14_0 hl14_0 (by simp; omega)
  have hl15_0 := Nat.lt_of_lt_of_le hl14_0 hg15.size
  have hk15_1 : w15.cell? ⟨w4.heap.size, 0, none⟩ = some (.func (.func 72) #[] #[]) := cell_grown hg15 hk14_1 hl14_1 (by simp; omega)
  have hl15_1 := Nat.lt_of_lt_of_le hl14_1 hg15.size
  have hk15_2 : w15.cell? ⟨w5.heap.size, 0, none⟩ = some (.func (.func 73) #[] #[]) := cell_grown hg15 hk14_2 hl14_2 (by simp; omega)
  have hl15_2 := Nat.lt_of_lt_of_le hl14_2 hg15.size
  have hk15_3 : w15.cell? ⟨w13.heap.size, 0, none⟩ = some (.func (.func 83) #[] #[]) := cell_grown hg15 hk14_3 hl14_3 (by simp; omega)
  have hl15_3 := Nat.lt_of_lt_of_le hl14_3 hg15.size
  clear hb14 hg15 hq14 hown14 hk14_0 hl14_0 hk14_1 hl14_1 hk14_2 hl14_2 hk14_3 hl14_3
  have hrun := run_look_T Tryz.underlying9 Tryz.underlying107 (tzero_run w15) hown15 (key := s) (by unfold maxLen; omega)
  have htab : [((⟨#[78, 85, 77]⟩ : ByteArray), Value.agg #[.string ⟨#[115]⟩, .int .i64 1, .func (.func 84) #[] #[]]), ((⟨#[82, 69, 86]⟩ : ByteArray), Value.agg #[.string ⟨#[115]⟩, .int .i64 1, .func (.func 144) #[] #[.pointer (some ⟨w13.heap.size, 0, none⟩)]]), ((⟨#[69, 88, 65, 67, 84]⟩ : ByteArray), Value.agg #[.string ⟨#[115, 115]⟩, .int .i64 2, .func (.func 81) #[] #[]]), ((⟨#[67, 72, 65, 82]⟩ : ByteArray), Value.agg #[.string ⟨#[110]⟩, .int .i64 1, .func (.func 80) #[] #[]]), ((⟨#[79, 82, 68]⟩ : ByteArray), Value.agg #[.string ⟨#[115]⟩, .int .i64 1, .func (.func 79) #[] #[]]), ((⟨#[67, 79, 78, 67, 65, 84]⟩ : ByteArray), Value.agg #[.string rs, .int .i64 1, .func (.func 78) #[] #[]]), ((⟨#[83, 85, 66, 83, 84]⟩ : ByteArray), Value.agg #[.string ⟨#[115, 115, 115]⟩, .int .i64 3, .func (.func 76) #[] #[]]), ((⟨#[70, 73, 78, 68]⟩ : ByteArray), Value.agg #[.string ⟨#[115, 115, 110]⟩, .int .i64 2, .func (.func 75) #[] #[]]), ((⟨#[82, 69, 80, 84]⟩ : ByteArray), Value.agg #[.string ⟨#[115, 110]⟩, .int .i64 2, .func (.func 74) #[] #[]]), ((⟨#[84, 82, 73, 77]⟩ : ByteArray), Value.agg #[.string ⟨#[115]⟩, .int .i64 1, .func (.func 144) #[] #[.pointer (some ⟨w5.heap.size, 0, none⟩)]]), ((⟨#[76, 79, 87, 69, 82]⟩ : ByteArray), Value.agg #[.string ⟨#[115]⟩, .int .i64 1, .func (.func 144) #[] #[.pointer (some ⟨w4.heap.size, 0, none⟩)]]), ((⟨#[85, 80, 80, 69, 82]⟩ : ByteArray), Value.agg #[.string ⟨#[115]⟩, .int .i64 1, .func (.func 144) #[] #[.pointer (some ⟨w3.heap.size, 0, none⟩)]]), ((⟨#[77, 73, 68]⟩ : ByteArray), Value.agg #[.string ⟨#[115, 110, 110]⟩, .int .i64 3, .func (.func 68) #[] #[]]), ((⟨#[82, 73, 71, 72, 84]⟩ : ByteArray), Value.agg #[.string ⟨#[115, 110]⟩, .int .i64 1, .func (.func 67) #[] #[]]), ((⟨#[76, 69, 70, 84]⟩ : ByteArray), Value.agg #[.string ⟨#[115, 110]⟩, .int .i64 1, .func (.func 66) #[] #[]]), ((⟨#[76, 69, 78]⟩ : ByteArray), Value.agg #[.string ⟨#[115]⟩, .int .i64 1, .func (.func 64) #[] #[]])] = tTab w3.heap.size w4.heap.size w5.heap.size w13.heap.size := by rw [hrs'.out]; rfl
  rw [htab] at hrun
  clear hown15 htab hmm
  obtain ⟨kd, l, d, hf, hd⟩ := tTab_form w3.heap.size w4.heap.size w5.heap.size w13.heap.size s
  rw [hf] at hrun
  have hf' := Lib.hid hf
  clear hf
  generalize hok : hasL (tTab w3.heap.size w4.heap.size w5.heap.size w13.heap.size) s = ok at hrun
  have hok' := Lib.hid hok
  clear hok
  have hc0 : w15.cell? ⟨w.heap.size, 0, none⟩ = some (.string ⟨#[]⟩) := blk_cell hq15 0
  have hc1 : w15.cell? ⟨w.heap.size, 1, none⟩ = some (.int .i64 0) := blk_cell hq15 1
  have hc2 : w15.cell? ⟨w.heap.size, 2, none⟩ = some .nilFunc := blk_cell hq15 2
  have hn3 : w3.heap.size ≠ w.heap.size := by omega
  have hn4 : w4.heap.size ≠ w.heap.size := by omega
  have hn5 : w5.heap.size ≠ w.heap.size := by omega
  have hn13 : w13.heap.size ≠ w.heap.size := by omega
  have hf0 := blk_frozen hq15 0
  have hf1 := blk_frozen hq15 1
  have hf2 := blk_frozen hq15 2
  have hne : w.heap.size < w15.heap.size := by omega
  rcases hd with rfl | ⟨g, c, rfl⟩
  · go_wp2_with fail
    refine bodyPost_ret (v := .tuple #[.agg #[.string kd, .int .i64 l, .nilFunc], .bool ok]) ?_ rfl ?_
    · simp [results, Tryz.results14, go_sem, *]
    · exact ⟨⟨w3.heap.size, w4.heap.size, w5.heap.size, w13.heap.size, kd, l, _, by rw [hok'.out], hf'.out, (by (repeat (first | (with_reducible exact Below.refl _ _) | (with_reducible refine Below.alloc ?_ (by first | omega | (dsimp only; omega) | (simp <;> omega)) _) | (with_reducible refine Below.setCell ?_ (by first | omega | (dsimp only; omega) | (simp <;> omega)) _) | (with_reducible refine Below.drew ?_) | (with_reducible refine below_drewN ?_ _) | (with_reducible refine Below.trans ?_ (Below.mono (by assumption) (by first | omega | (dsimp only; omega) | (simp <;> omega))))))), (by simp [go_sem, *]), (by simp [go_sem, *]), (by simp [go_sem, *]), (by simp [go_sem, *])⟩⟩
  · go_wp2_with fail
    refine bodyPost_ret (v := .tuple #[.agg #[.string kd, .int .i64 l, .func g #[] c], .bool ok]) ?_ rfl ?_
    · simp [results, Tryz.results14, go_sem, *]
    · exact ⟨⟨w3.heap.size, w4.heap.size, w5.heap.size, w13.heap.size, kd, l, _, by rw [hok'.out], hf'.out, (by (repeat (first | (with_reducible exact Below.refl _ _) | (with_reducible refine Below.alloc ?_ (by first | omega | (dsimp only; omega) | (simp <;> omega)) _) | (with_reducible refine Below.setCell ?_ (by first | omega | (dsimp only; omega) | (simp <;> omega)) _) | (with_reducible refine Below.drew ?_) | (with_reducible refine below_drewN ?_ _) | (with_reducible refine Below.trans ?_ (Below.mono (by assumption) (by first | omega | (dsimp only; omega) | (simp <;> omega))))))), (by simp [go_sem, *]), (by simp [go_sem, *]), (by simp [go_sem, *]), (by simp [go_sem, *])⟩⟩
end Go.Proofs.YtgmhifafbebjfaaGreatDoor
