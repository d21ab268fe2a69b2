/-
 find of aggs: the table by name.
-/
import Derived.Test.YtgmhifafbebjfaaGreatDoorMg2
import Derived.Laws.EntriesVeiled
set_option maxRecDepth 100000
set_option maxHeartbeats 32000000
namespace Go.Proofs.YtgmhifafbebjfaaGreatDoor
open Go.RowKit

theorem anumbers_any (g : Fn) (c : Array Value) (w : World) : Calls Tryz.prog 100 #[.func g #[] c] w fun e w' => e = .returned (.func (.func 169) #[] #[.pointer (some ⟨w.heap.size, 0, none⟩)]) ∧ w' = w.alloc (.cells #[.func g #[] c] 123) := by
 go_enter Tryz.func100, Tryz.ntmps100
 go_wp2
 refine bodyPost_ret (v := .func (.func 169) #[] #[.pointer (some ⟨w.heap.size, 0, none⟩)]) (by simp [results, Tryz.results100, go_sem]) rfl ⟨rfl, rfl⟩
theorem asome_any (g : Fn) (c : Array Value) (w : World) : Calls Tryz.prog 105 #[.func g #[] c] w fun e w' => e = .returned (.func (.func 174) #[] #[.pointer (some ⟨w.heap.size, 0, none⟩)]) ∧ w' = w.alloc (.cells #[.func g #[] c] 125) := by
 go_enter Tryz.func105, Tryz.ntmps105
 go_wp2
 refine bodyPost_ret (v := .func (.func 174) #[] #[.pointer (some ⟨w.heap.size, 0, none⟩)]) (by simp [results, Tryz.results105, go_sem]) rfl ⟨rfl, rfl⟩
theorem acount_any (g : Fn) (c : Array Value) (w : World) : Calls Tryz.prog 110 #[.func g #[] c] w fun e w' => e = .returned (.func (.func 179) #[] #[.pointer (some ⟨w.heap.size, 0, none⟩)]) ∧ w' = w.alloc (.cells #[.func g #[] c] 94) := by
 go_enter Tryz.func110, Tryz.ntmps110
 go_wp2
 refine bodyPost_ret (v := .func (.func 179) #[] #[.pointer (some ⟨w.heap.size, 0, none⟩)]) (by simp [results, Tryz.results110, go_sem]) rfl ⟨rfl, rfl⟩
def Bx (w : World) (lo : Nat) (L : List (Nat × Value)) : Prop := ∀ x ∈ L, lo < x.1 ∧ w.cell? ⟨x.1, 0, none⟩ = some x.2
theorem Bx.grown {w w' : World} {lo r : Nat} {L : List (Nat × Value)} (h : Bx w lo L) (hg : w.grownBy w' (some r)) (hr : r ≤ lo) : Bx w' lo L := fun x hx =>
 ⟨(h x hx).1, cell_grown hg (h x hx).2 (World.block_lt_of_cell? _ _ (h x hx).2) (by have := (h x hx).1; simp; omega)⟩
theorem Bx.new {w : World} {lo : Nat} {L : List (Nat × Value)} (h : Bx w lo L) (hlo : lo < w.heap.size) (v : Value) (t : TypeId) : Bx (w.alloc (.cells #[v] t)) lo ((w.heap.size, v) :: L) := fun x hx => by
 rcases List.mem_cons.1 hx with rfl | hx
 ·exact ⟨hlo, cell_new1 w v t⟩
 ·exact ⟨(h x hx).1, (World.cell?_alloc_lt _ _ ⟨x.1, 0, none⟩ (World.block_lt_of_cell? _ _ (h x hx).2)).trans (h x hx).2⟩
theorem Bx.below {w w' : World} {lo : Nat} {L : List (Nat × Value)} (h : Bx w lo L) (hb : Below w.heap.size w w') : Bx w' lo L := fun x hx =>
 ⟨(h x hx).1, (hb.cell (p := ⟨x.1, 0, none⟩) (World.block_lt_of_cell? _ _ (h x hx).2)).trans (h x hx).2⟩
def aTab (bl : List Nat) : List (ByteArray × Value) :=
 [((⟨#[67, 79, 76, 83]⟩ : ByteArray), Value.agg #[.string ⟨#[114]⟩, .int .i64 1, .int .i64 1, .func (.func 124) #[] #[]]),
  ((⟨#[82, 79, 87, 83]⟩ : ByteArray), Value.agg #[.string ⟨#[114]⟩, .int .i64 1, .int .i64 1, .func (.func 121) #[] #[]]),
  ((⟨#[74, 79, 73, 78]⟩ : ByteArray), Value.agg #[.string ⟨#[118, 120]⟩, .int .i64 2, .int .i64 16, .func (.func 120) #[] #[]]),
  ((⟨#[76, 65, 82, 71, 69]⟩ : ByteArray), Value.agg #[.string ⟨#[114, 118]⟩, .int .i64 2, .int .i64 2, .func (.func 119) #[] #[]]),
  ((⟨#[73, 78, 68, 69, 88]⟩ : ByteArray), Value.agg #[.string ⟨#[114, 118, 118]⟩, .int .i64 3, .int .i64 3, .func (.func 118) #[] #[]]),
  ((⟨#[76, 79, 79, 75, 85, 80]⟩ : ByteArray), Value.agg #[.string ⟨#[118, 114, 114]⟩, .int .i64 3, .int .i64 3, .func (.func 117) #[] #[]]),
  ((⟨#[77, 65, 84, 67, 72]⟩ : ByteArray), Value.agg #[.string ⟨#[118, 114]⟩, .int .i64 2, .int .i64 2, .func (.func 117) #[] #[]]),
  ((⟨#[83, 85, 77, 73, 70]⟩ : ByteArray), Value.agg #[.string ⟨#[114, 118, 114]⟩, .int .i64 3, .int .i64 3, .func (.func 116) #[] #[]]),
  ((⟨#[67, 79, 85, 78, 84, 73, 70]⟩ : ByteArray), Value.agg #[.string ⟨#[114, 118]⟩, .int .i64 2, .int .i64 2, .func (.func 115) #[] #[]]),
  ((⟨#[66, 76, 65, 78, 75, 83]⟩ : ByteArray), Value.agg #[.string ⟨#[114]⟩, .int .i64 1, .int .i64 1, .func (.func 113) #[] #[]]),
  ((⟨#[67, 79, 85, 78, 84, 65]⟩ : ByteArray), Value.agg #[.string ⟨#[120]⟩, .int .i64 1, .int .i64 16, .func (.func 179) #[] #[.pointer (some ⟨bl.getD 11 0, 0, none⟩)]]),
  ((⟨#[67, 79, 85, 78, 84]⟩ : ByteArray), Value.agg #[.string ⟨#[120]⟩, .int .i64 1, .int .i64 16, .func (.func 179) #[] #[.pointer (some ⟨bl.getD 10 0, 0, none⟩)]]),
  ((⟨#[77, 69, 68, 73, 65, 78]⟩ : ByteArray), Value.agg #[.string ⟨#[120]⟩, .int .i64 1, .int .i64 16, .func (.func 169) #[] #[.pointer (some ⟨bl.getD 9 0, 0, none⟩)]]),
  ((⟨#[65, 86, 71]⟩ : ByteArray), Value.agg #[.string ⟨#[120]⟩, .int .i64 1, .int .i64 16, .func (.func 169) #[] #[.pointer (some ⟨bl.getD 7 0, 0, none⟩)]]),
  ((⟨#[77, 65, 88]⟩ : ByteArray), Value.agg #[.string ⟨#[120]⟩, .int .i64 1, .int .i64 16, .func (.func 169) #[] #[.pointer (some ⟨bl.getD 5 0, 0, none⟩)]]),
  ((⟨#[77, 73, 78]⟩ : ByteArray), Value.agg #[.string ⟨#[120]⟩, .int .i64 1, .int .i64 16, .func (.func 169) #[] #[.pointer (some ⟨bl.getD 3 0, 0, none⟩)]]),
  ((⟨#[80, 82, 79, 68]⟩ : ByteArray), Value.agg #[.string ⟨#[120]⟩, .int .i64 1, .int .i64 16, .func (.func 169) #[] #[.pointer (some ⟨bl.getD 1 0, 0, none⟩)]]),
  ((⟨#[83, 85, 77]⟩ : ByteArray), Value.agg #[.string ⟨#[120]⟩, .int .i64 1, .int .i64 16, .func (.func 169) #[] #[.pointer (some ⟨bl.getD 0 0, 0, none⟩)]])]
def aSrc (bl : List Nat) : List (Nat × Value) :=
 [(bl.getD 11 0, Value.func (.func 112) #[] #[]),
  (bl.getD 10 0, Value.func (.func 111) #[] #[]),
  (bl.getD 9 0, Value.func (.func 174) #[] #[.pointer (some ⟨bl.getD 8 0, 0, none⟩)]),
  (bl.getD 8 0, Value.func (.func 109) #[] #[]),
  (bl.getD 7 0, Value.func (.func 174) #[] #[.pointer (some ⟨bl.getD 6 0, 0, none⟩)]),
  (bl.getD 6 0, Value.func (.func 108) #[] #[]),
  (bl.getD 5 0, Value.func (.func 174) #[] #[.pointer (some ⟨bl.getD 4 0, 0, none⟩)]),
  (bl.getD 4 0, Value.func (.func 107) #[] #[]),
  (bl.getD 3 0, Value.func (.func 174) #[] #[.pointer (some ⟨bl.getD 2 0, 0, none⟩)]),
  (bl.getD 2 0, Value.func (.func 106) #[] #[]),
  (bl.getD 1 0, Value.func (.func 104) #[] #[]),
  (bl.getD 0 0, Value.func (.func 101) #[] #[])]
def aZero : Value := .agg #[.string ⟨#[]⟩, .int .i64 0, .int .i64 0, .nilFunc]
structure AFindAt (s : ByteArray) (w : World) (e : Ending) (w' : World) : Prop where
 out : ∃ bl kd l h d, e = .returned (.tuple #[.agg #[.string kd, .int .i64 l, .int .i64 h, d], .bool (hasL (aTab bl) s)]) ∧ lookL aZero (aTab bl) s = .agg #[.string kd, .int .i64 l, .int .i64 h, d] ∧ Below w.heap.size w w' ∧ Bx w' w.heap.size (aSrc bl)
theorem aTab_form (bl : List Nat) (s : ByteArray) : ∃ kd l h d, lookL aZero (aTab bl) s = .agg #[.string kd, .int .i64 l, .int .i64 h, d] ∧ (d = .nilFunc ∨ ∃ g c, d = .func g #[] c) := by
 refine lookL_all (p := fun v => ∃ kd l h d, v = .agg #[.string kd, .int .i64 l, .int .i64 h, d] ∧ (d = .nilFunc ∨ ∃ g c, d = .func g #[] c)) ⟨_, _, _, _, rfl, .inl rfl⟩ s _ ?_
 intro x hx
 simp only [aTab, List.mem_cons, List.not_mem_nil, or_false] at hx
 rcases hx with rfl | rfl | rfl | rfl | rfl | rfl | rfl | rfl | rfl | rfl | rfl | rfl | rfl | rfl | rfl | rfl | rfl | rfl <;> exact ⟨_, _, _, _, rfl, .inr ⟨_, _, rfl⟩⟩
theorem azero_run (w : World) : (zeroValue 74).run Tryz.prog w = .ok aZero w := by kernel_rfl
theorem Bx.setC {w : World} {lo j : Nat} {v : Value} {r : Nat} {L : List (Nat × Value)} (h : Bx w lo L) (hr : r ≤ lo) : Bx (w.setCell ⟨r, j, none⟩ v) lo L := fun x hx => by
 have h1 := h x hx
 exact ⟨h1.1, (World.cell?_of_block (Below.heap_setCell _ _ _ _ (by simp; omega))).trans h1.2⟩
theorem Bx.alc {w : World} {lo : Nat} {L : List (Nat × Value)} (h : Bx w lo L) (o : Obj) : Bx (w.alloc o) lo L := h.below ((Below.refl _ _).alloc (Nat.le_refl _) _)
theorem afind_any (s : ByteArray) (hs : s.size ≤ 9223372036854775807) (w : World) : Calls Tryz.prog 39 #[.string s] w (AFindAt s w) := by
 have hmm := @run_makeMap Tryz.prog
 go_enter Tryz.func39, Tryz.ntmps39
 go_wp2_with fail
 have hq : ((w.alloc (.cells #[.string ⟨#[]⟩, .int .i64 0, .int .i64 0, .nilFunc] 74)).alloc (.map #[] 0)).heap[w.heap.size]? = some (.cells #[.string ⟨#[]⟩, .int .i64 0, .int .i64 0, .nilFunc] 74) := blk_alloc (blk_new w #[.string ⟨#[]⟩, .int .i64 0, .int .i64 0, .nilFunc] 74) (.map #[] 0)
 have hbm : Below w.heap.size w ((w.alloc (.cells #[.string ⟨#[]⟩, .int .i64 0, .int .i64 0, .nilFunc] 74)).alloc (.map #[] 0)) := ((Below.refl _ _).alloc (Nat.le_refl _) _).alloc (by simp) _
 have hzm : w.heap.size + 2 = ((w.alloc (.cells #[.string ⟨#[]⟩, .int .i64 0, .int .i64 0, .nilFunc] 74)).alloc (.map #[] 0)).heap.size := by simp
 have hownm : ((w.alloc (.cells #[.string ⟨#[]⟩, .int .i64 0, .int .i64 0, .nilFunc] 74)).alloc (.map #[] 0)).ownsMap Tryz.prog 9 heldR (w.heap.size + 1) 0 (mkD []) := by
  have := World.ownsMap_made (w.alloc (.cells #[.string ⟨#[]⟩, .int .i64 0, .int .i64 0, .nilFunc] 74)) Tryz.prog 9 heldR
  rw [World.size_alloc] at this
  exact this
 generalize ((w.alloc (.cells #[.string ⟨#[]⟩, .int .i64 0, .int .i64 0, .nilFunc] 74)).alloc (.map #[] 0)) = wm at *
 have hx : Bx wm (w.heap.size + 1) [] := fun x hx => by cases hx
 have hzm' : w.heap.size + 1 < wm.heap.size := by omega
 refine (anumbers_any _ _ _).mono ?_
 rintro e wp ⟨rfl, rfl⟩
 have hx0_0 := hx.new (by omega) (.func (.func 101) #[] #[]) 123
 have hb0_0 := hbm.alloc (by omega) (.cells #[.func (.func 101) #[] #[]] 123)
 have hq0_0 := blk_alloc hq (.cells #[.func (.func 101) #[] #[]] 123)
 have ho0_0 := hownm.alloc (.cells #[.func (.func 101) #[] #[]] 123)
 have hz0_0 : w.heap.size + 1 < (wm.alloc (.cells #[.func (.func 101) #[] #[]] 123)).heap.size := by simp only [World.size_alloc]; omega
 clear hx hbm hq hownm hzm hzm'
 generalize hg0_0 : (wm.alloc (.cells #[.func (.func 101) #[] #[]] 123)) = v0_0 at *
 have hs0_0 : wm.heap.size ≤ v0_0.heap.size := by rw [← hg0_0, World.size_alloc]; omega
 clear hg0_0 hs0_0
 go_wp2_with fail
 refine upon_insert (n := 0) (l := []) 127 9 74 Tryz.underlying9 Tryz.underlying127 ho0_0 (by unfold maxLen; omega) (by unfold maxLen; decide) ?_
 intro w0 hown0 hg0
 have hx0 := hx0_0.grown hg0 (Nat.le_refl _)
 have hb0 : Below w.heap.size w w0 := hb0_0.grown hg0 (by omega) (fun k e => by cases e; omega)
 have hz0 : w.heap.size + 1 < w0.heap.size := by have := hg0.size; omega
 have hq0 := blk_grown hq0_0 hg0 (by simp)
 clear hg0 hx0_0 hb0_0 hq0_0 ho0_0 hz0_0
 go_wp2_with fail
 refine (anumbers_any _ _ _).mono ?_
 rintro e wp ⟨rfl, rfl⟩
 have hx1_0 := hx0.new (by omega) (.func (.func 104) #[] #[]) 123
 have hb1_0 := hb0.alloc (by omega) (.cells #[.func (.func 104) #[] #[]] 123)
 have hq1_0 := blk_alloc hq0 (.cells #[.func (.func 104) #[] #[]] 123)
 have ho1_0 := hown0.alloc (.cells #[.func (.func 104) #[] #[]] 123)
 have hz1_0 : w.heap.size + 1 < (w0.alloc (.cells #[.func (.func 104) #[] #[]] 123)).heap.size := by simp only [World.size_alloc]; omega
 clear hx0 hb0 hq0 hown0 hz0
 generalize hg1_0 : (w0.alloc (.cells #[.func (.func 104) #[] #[]] 123)) = v1_0 at *
 have hs1_0 : w0.heap.size ≤ v1_0.heap.size := by rw [← hg1_0, World.size_alloc]; omega
 clear hg1_0 hs1_0
 go_wp2_with fail
 refine upon_insert (n := 1) 127 9 74 Tryz.underlying9 Tryz.underlying127 ho1_0 (by unfold maxLen; omega) (by unfold maxLen; decide) ?_
 intro w1 hown1 hg1
 have hx1 := hx1_0.grown hg1 (Nat.le_refl _)
 have hb1 : Below w.heap.size w w1 := hb1_0.grown hg1 (by omega) (fun k e => by cases e; omega)
 have hz1 : w.heap.size + 1 < w1.heap.size := by have := hg1.size; omega
 have hq1 := blk_grown hq1_0 hg1 (by simp)
 clear hg1 hx1_0 hb1_0 hq1_0 ho1_0 hz1_0
 go_wp2_with fail
 refine (asome_any _ _ _).mono ?_
 rintro e wp ⟨rfl, rfl⟩
 have hx2_0 := hx1.new (by omega) (.func (.func 106) #[] #[]) 125
 have hb2_0 := hb1.alloc (by omega) (.cells #[.func (.func 106) #[] #[]] 125)
 have hq2_0 := blk_alloc hq1 (.cells #[.func (.func 106) #[] #[]] 125)
 have ho2_0 := hown1.alloc (.cells #[.func (.func 106) #[] #[]] 125)
 have hz2_0 : w.heap.size + 1 < (w1.alloc (.cells #[.func (.func 106) #[] #[]] 125)).heap.size := by simp only [World.size_alloc]; omega
 clear hx1 hb1 hq1 hown1 hz1
 generalize hg2_0 : (w1.alloc (.cells #[.func (.func 106) #[] #[]] 125)) = v2_0 at *
 have hs2_0 : w1.heap.size ≤ v2_0.heap.size := by rw [← hg2_0, World.size_alloc]; omega
 clear hg2_0 hs2_0
 go_wp2_with fail
 refine (anumbers_any _ _ _).mono ?_
 rintro e wp ⟨rfl, rfl⟩
 have hx2_1 := hx2_0.new (by omega) (.func (.func 174) #[] #[.pointer (some ⟨w1.heap.size, 0, none⟩)]) 123
 have hb2_1 := hb2_0.alloc (by omega) (.cells #[.func (.func 174) #[] #[.pointer (some ⟨w1.heap.size, 0, none⟩)]] 123)
 have hq2_1 := blk_alloc hq2_0 (.cells #[.func (.func 174) #[] #[.pointer (some ⟨w1.heap.size, 0, none⟩)]] 123)
 have ho2_1 := ho2_0.alloc (.cells #[.func (.func 174) #[] #[.pointer (some ⟨w1.heap.size, 0, none⟩)]] 123)
 have hz2_1 : w.heap.size + 1 < (v2_0.alloc (.cells #[.func (.func 174) #[] #[.pointer (some ⟨w1.heap.size, 0, none⟩)]] 123)).heap.size := by simp only [World.size_alloc]; omega
 clear hx2_0 hb2_0 hq2_0 ho2_0 hz2_0
 generalize hg2_1 : (v2_0.alloc (.cells #[.func (.func 174) #[] #[.pointer (some ⟨w1.heap.size, 0, none⟩)]] 123)) = v2_1 at *
 have hs2_1 : v2_0.heap.size ≤ v2_1.heap.size := by rw [← hg2_1, World.size_alloc]; omega
 clear hg2_1 hs2_1
 go_wp2_with fail
 refine upon_insert (n := 2) 127 9 74 Tryz.underlying9 Tryz.underlying127 ho2_1 (by unfold maxLen; omega) (by unfold maxLen; decide) ?_
 intro w2 hown2 hg2
 have hx2 := hx2_1.grown hg2 (Nat.le_refl _)
 have hb2 : Below w.heap.size w w2 := hb2_1.grown hg2 (by omega) (fun k e => by cases e; omega)
 have hz2 : w.heap.size + 1 < w2.heap.size := by have := hg2.size; omega
 have hq2 := blk_grown hq2_1 hg2 (by simp)
 clear hg2 hx2_1 hb2_1 hq2_1 ho2_1 hz2_1
 go_wp2_with fail
 refine (asome_any _ _ _).mono ?_
 rintro e wp ⟨rfl, rfl⟩
 have hx3_0 := hx2.new (by omega) (.func (.func 107) #[] #[]) 125
 have hb3_0 := hb2.alloc (by omega) (.cells #[.func (.func 107) #[] #[]] 125)
 have hq3_0 := blk_alloc hq2 (.cells #[.func (.func 107) #[] #[]] 125)
 have ho3_0 := hown2.alloc (.cells #[.func (.func 107) #[] #[]] 125)
 have hz3_0 : w.heap.size + 1 < (w2.alloc (.cells #[.func (.func 107) #[] #[]] 125)).heap.size := by simp only [World.size_alloc]; omega
 clear hx2 hb2 hq2 hown2 hz2
 generalize hg3_0 : (w2.alloc (.cells #[.func (.func 107) #[] #[]] 125)) = v3_0 at *
 have hs3_0 : w2.heap.size ≤ v3_0.heap.size := by rw [← hg3_0, World.size_alloc]; omega
 clear hg3_0 hs3_0
 go_wp2_with fail
 refine (anumbers_any _ _ _).mono ?_
 rintro e wp ⟨rfl, rfl⟩
 have hx3_1 := hx3_0.new (by omega) (.func (.func 174) #[] #[.pointer (some ⟨w2.heap.size, 0, none⟩)]) 123
 have hb3_1 := hb3_0.alloc (by omega) (.cells #[.func (.func 174) #[] #[.pointer (some ⟨w2.heap.size, 0, none⟩)]] 123)
 have hq3_1 := blk_alloc hq3_0 (.cells #[.func (.func 174) #[] #[.pointer (some ⟨w2.heap.size, 0, none⟩)]] 123)
 have ho3_1 := ho3_0.alloc (.cells #[.func (.func 174) #[] #[.pointer (some ⟨w2.heap.size, 0, none⟩)]] 123)
 have hz3_1 : w.heap.size + 1 < (v3_0.alloc (.cells #[.func (.func 174) #[] #[.pointer (some ⟨w2.heap.size, 0, none⟩)]] 123)).heap.size := by simp only [World.size_alloc]; omega
 clear hx3_0 hb3_0 hq3_0 ho3_0 hz3_0
 generalize hg3_1 : (v3_0.alloc (.cells #[.func (.func 174) #[] #[.pointer (some ⟨w2.heap.size, 0, none⟩)]] 123)) = v3_1 at *
 have hs3_1 : v3_0.heap.size ≤ v3_1.heap.size := by rw [← hg3_1, World.size_alloc]; omega
 clear hg3_1 hs3_1
 go_wp2_with fail
 refine upon_insert (n := 3) 127 9 74 Tryz.underlying9 Tryz.underlying127 ho3_1 (by unfold maxLen; omega) (by unfold maxLen; decide) ?_
 intro w3 hown3 hg3
 have hx3 := hx3_1.grown hg3 (Nat.le_refl _)
 have hb3 : Below w.heap.size w w3 := hb3_1.grown hg3 (by omega) (fun k e => by cases e; omega)
 have hz3 : w.heap.size + 1 < w3.heap.size := by have := hg3.size; omega
 have hq3 := blk_grown hq3_1 hg3 (by simp)
 clear hg3 hx3_1 hb3_1 hq3_1 ho3_1 hz3_1
 go_wp2_with fail
 refine (asome_any _ _ _).mono ?_
 rintro e wp ⟨rfl, rfl⟩
 have hx4_0 := hx3.new (by omega) (.func (.func 108) #[] #[]) 125
 have hb4_0 := hb3.alloc (by omega) (.cells #[.func (.func 108) #[] #[]] 125)
 have hq4_0 := blk_alloc hq3 (.cells #[.func (.func 108) #[] #[]] 125)
 have ho4_0 := hown3.alloc (.cells #[.func (.func 108) #[] #[]] 125)
 have hz4_0 : w.heap.size + 1 < (w3.alloc (.cells #[.func (.func 108) #[] #[]] 125)).heap.size := by simp only [World.size_alloc]; omega
 clear hx3 hb3 hq3 hown3 hz3
 generalize hg4_0 : (w3.alloc (.cells #[.func (.func 108) #[] #[]] 125)) = v4_0 at *
 have hs4_0 : w3.heap.size ≤ v4_0.heap.size := by rw [← hg4_0, World.size_alloc]; omega
 clear hg4_0 hs4_0
 go_wp2_with fail
 refine (anumbers_any _ _ _).mono ?_
 rintro e wp ⟨rfl, rfl⟩
 have hx4_1 := hx4_0.new (by omega) (.func (.func 174) #[] #[.pointer (some ⟨w3.heap.size, 0, none⟩)]) 123
 have hb4_1 := hb4_0.alloc (by omega) (.cells #[.func (.func 174) #[] #[.pointer (some ⟨w3.heap.size, 0, none⟩)]] 123)
 have hq4_1 := blk_alloc hq4_0 (.cells #[.func (.func 174) #[] #[.pointer (some ⟨w3.heap.size, 0, none⟩)]] 123)
 have ho4_1 := ho4_0.alloc (.cells #[.func (.func 174) #[] #[.pointer (some ⟨w3.heap.size, 0, none⟩)]] 123)
 have hz4_1 : w.heap.size + 1 < (v4_0.alloc (.cells #[.func (.func 174) #[] #[.pointer (some ⟨w3.heap.size, 0, none⟩)]] 123)).heap.size := by simp only [World.size_alloc]; omega
 clear hx4_0 hb4_0 hq4_0 ho4_0 hz4_0
 generalize hg4_1 : (v4_0.alloc (.cells #[.func (.func 174) #[] #[.pointer (some ⟨w3.heap.size, 0, none⟩)]] 123)) = v4_1 at *
 have hs4_1 : v4_0.heap.size ≤ v4_1.heap.size := by rw [← hg4_1, World.size_alloc]; omega
 clear hg4_1 hs4_1
 go_wp2_with fail
 refine upon_insert (n := 4) 127 9 74 Tryz.underlying9 Tryz.underlying127 ho4_1 (by unfold maxLen; omega) (by unfold maxLen; decide) ?_
 intro w4 hown4 hg4
 have hx4 := hx4_1.grown hg4 (Nat.le_refl _)
 have hb4 : Below w.heap.size w w4 := hb4_1.grown hg4 (by omega) (fun k e => by cases e; omega)
 have hz4 : w.heap.size + 1 < w4.heap.size := by have := hg4.size; omega
 have hq4 := blk_grown hq4_1 hg4 (by simp)
 clear hg4 hx4_1 hb4_1 hq4_1 ho4_1 hz4_1
 go_wp2_with fail
 refine (asome_any _ _ _).mono ?_
 rintro e wp ⟨rfl, rfl⟩
 have hx5_0 := hx4.new (by omega) (.func (.func 109) #[] #[]) 125
 have hb5_0 := hb4.alloc (by omega) (.cells #[.func (.func 109) #[] #[]] 125)
 have hq5_0 := blk_alloc hq4 (.cells #[.func (.func 109) #[] #[]] 125)
 have ho5_0 := hown4.alloc (.cells #[.func (.func 109) #[] #[]] 125)
 have hz5_0 : w.heap.size + 1 < (w4.alloc (.cells #[.func (.func 109) #[] #[]] 125)).heap.size := by simp only [World.size_alloc]; omega
 clear hx4 hb4 hq4 hown4 hz4
 generalize hg5_0 : (w4.alloc (.cells #[.func (.func 109) #[] #[]] 125)) = v5_0 at *
 have hs5_0 : w4.heap.size ≤ v5_0.heap.size := by rw [← hg5_0, World.size_alloc]; omega
 clear hg5_0 hs5_0
 go_wp2_with fail
 refine (anumbers_any _ _ _).mono ?_
 rintro e wp ⟨rfl, rfl⟩
 have hx5_1 := hx5_0.new (by omega) (.func (.func 174) #[] #[.pointer (some ⟨w4.heap.size, 0, none⟩)]) 123
 have hb5_1 := hb5_0.alloc (by omega) (.cells #[.func (.func 174) #[] #[.pointer (some ⟨w4.heap.size, 0, none⟩)]] 123)
 have hq5_1 := blk_alloc hq5_0 (.cells #[.func (.func 174) #[] #[.pointer (some ⟨w4.heap.size, 0, none⟩)]] 123)
 have ho5_1 := ho5_0.alloc (.cells #[.func (.func 174) #[] #[.pointer (some ⟨w4.heap.size, 0, none⟩)]] 123)
 have hz5_1 : w.heap.size + 1 < (v5_0.alloc (.cells #[.func (.func 174) #[] #[.pointer (some ⟨w4.heap.size, 0, none⟩)]] 123)).heap.size := by simp only [World.size_alloc]; omega
 clear hx5_0 hb5_0 hq5_0 ho5_0 hz5_0
 generalize hg5_1 : (v5_0.alloc (.cells #[.func (.func 174) #[] #[.pointer (some ⟨w4.heap.size, 0, none⟩)]] 123)) = v5_1 at *
 have hs5_1 : v5_0.heap.size ≤ v5_1.heap.size := by rw [← hg5_1, World.size_alloc]; omega
 clear hg5_1 hs5_1
 go_wp2_with fail
 refine upon_insert (n := 5) 127 9 74 Tryz.underlying9 Tryz.underlying127 ho5_1 (by unfold maxLen; omega) (by unfold maxLen; decide) ?_
 intro w5 hown5 hg5
 have hx5 := hx5_1.grown hg5 (Nat.le_refl _)
 have hb5 : Below w.heap.size w w5 := hb5_1.grown hg5 (by omega) (fun k e => by cases e; omega)
 have hz5 : w.heap.size + 1 < w5.heap.size := by have := hg5.size; omega
 have hq5 := blk_grown hq5_1 hg5 (by simp)
 clear hg5 hx5_1 hb5_1 hq5_1 ho5_1 hz5_1
 go_wp2_with fail
 refine (acount_any _ _ _).mono ?_
 rintro e wp ⟨rfl, rfl⟩
 have hx6_0 := hx5.new (by omega) (.func (.func 111) #[] #[]) 94
 have hb6_0 := hb5.alloc (by omega) (.cells #[.func (.func 111) #[] #[]] 94)
 have hq6_0 := blk_alloc hq5 (.cells #[.func (.func 111) #[] #[]] 94)
 have ho6_0 := hown5.alloc (.cells #[.func (.func 111) #[] #[]] 94)
 have hz6_0 : w.heap.size + 1 < (w5.alloc (.cells #[.func (.func 111) #[] #[]] 94)).heap.size := by simp only [World.size_alloc]; omega
 clear hx5 hb5 hq5 hown5 hz5
 generalize hg6_0 : (w5.alloc (.cells #[.func (.func 111) #[] #[]] 94)) = v6_0 at *
 have hs6_0 : w5.heap.size ≤ v6_0.heap.size := by rw [← hg6_0, World.size_alloc]; omega
 clear hg6_0 hs6_0
 go_wp2_with fail
 refine upon_insert (n := 6) 127 9 74 Tryz.underlying9 Tryz.underlying127 ho6_0 (by unfold maxLen; omega) (by unfold maxLen; decide) ?_
 intro w6 hown6 hg6
 have hx6 := hx6_0.grown hg6 (Nat.le_refl _)
 have hb6 : Below w.heap.size w w6 := hb6_0.grown hg6 (by omega) (fun k e => by cases e; omega)
 have hz6 : w.heap.size + 1 < w6.heap.size := by have := hg6.size; omega
 have hq6 := blk_grown hq6_0 hg6 (by simp)
 clear hg6 hx6_0 hb6_0 hq6_0 ho6_0 hz6_0
 go_wp2_with fail
 refine (acount_any _ _ _).mono ?_
 rintro e wp ⟨rfl, rfl⟩
 have hx7_0 := hx6.new (by omega) (.func (.func 112) #[] #[]) 94
 have hb7_0 := hb6.alloc (by omega) (.cells #[.func (.func 112) #[] #[]] 94)
 have hq7_0 := blk_alloc hq6 (.cells #[.func (.func 112) #[] #[]] 94)
 have ho7_0 := hown6.alloc (.cells #[.func (.func 112) #[] #[]] 94)
 have hz7_0 : w.heap.size + 1 < (w6.alloc (.cells #[.func (.func 112) #[] #[]] 94)).heap.size := by simp only [World.size_alloc]; omega
 clear hx6 hb6 hq6 hown6 hz6
 generalize hg7_0 : (w6.alloc (.cells #[.func (.func 112) #[] #[]] 94)) = v7_0 at *
 have hs7_0 : w6.heap.size ≤ v7_0.heap.size := by rw [← hg7_0, World.size_alloc]; omega
 clear hg7_0 hs7_0
 go_wp2_with fail
 refine upon_insert (n := 7) 127 9 74 Tryz.underlying9 Tryz.underlying127 ho7_0 (by unfold maxLen; omega) (by unfold maxLen; decide) ?_
 intro w7 hown7 hg7
 have hx7 := hx7_0.grown hg7 (Nat.le_refl _)
 have hb7 : Below w.heap.size w w7 := hb7_0.grown hg7 (by omega) (fun k e => by cases e; omega)
 have hz7 : w.heap.size + 1 < w7.heap.size := by have := hg7.size; omega
 have hq7 := blk_grown hq7_0 hg7 (by simp)
 clear hg7 hx7_0 hb7_0 hq7_0 ho7_0 hz7_0
 go_wp2_with fail
 refine upon_insert (n := 8) 127 9 74 Tryz.underlying9 Tryz.underlying127 hown7 (by unfold maxLen; omega) (by unfold maxLen; decide) ?_
 intro w8 hown8 hg8
 have hx8 := hx7.grown hg8 (Nat.le_refl _)
 have hb8 : Below w.heap.size w w8 := hb7.grown hg8 (by omega) (fun k e => by cases e; omega)
 have hz8 : w.heap.size + 1 < w8.heap.size := by have := hg8.size; omega
 have hq8 := blk_grown hq7 hg8 (by simp)
 clear hg8 hx7 hb7 hq7 hown7 hz7
 go_wp2_with fail
 refine upon_insert (n := 9) 127 9 74 Tryz.underlying9 Tryz.underlying127 hown8 (by unfold maxLen; omega) (by unfold maxLen; decide) ?_
 intro w9 hown9 hg9
 have hx9 := hx8.grown hg9 (Nat.le_refl _)
 have hb9 : Below w.heap.size w w9 := hb8.grown hg9 (by omega) (fun k e => by cases e; omega)
 have hz9 : w.heap.size + 1 < w9.heap.size := by have := hg9.size; omega
 have hq9 := blk_grown hq8 hg9 (by simp)
 clear hg9 hx8 hb8 hq8 hown8 hz8
 go_wp2_with fail
 refine upon_insert (n := 10) 127 9 74 Tryz.underlying9 Tryz.underlying127 hown9 (by unfold maxLen; omega) (by unfold maxLen; decide) ?_
 intro w10 hown10 hg10
 have hx10 := hx9.grown hg10 (Nat.le_refl _)
 have hb10 : Below w.heap.size w w10 := hb9.grown hg10 (by omega) (fun k e => by cases e; omega)
 have hz10 : w.heap.size + 1 < w10.heap.size := by have := hg10.size; omega
 have hq10 := blk_grown hq9 hg10 (by simp)
 clear hg10 hx9 hb9 hq9 hown9 hz9
 go_wp2_with fail
 refine upon_insert (n := 11) 127 9 74 Tryz.underlying9 Tryz.underlying127 hown10 (by unfold maxLen; omega) (by unfold maxLen; decide) ?_
 intro w11 hown11 hg11
 have hx11 := hx10.grown hg11 (Nat.le_refl _)
 have hb11 : Below w.heap.size w w11 := hb10.grown hg11 (by omega) (fun k e => by cases e; omega)
 have hz11 : w.heap.size + 1 < w11.heap.size := by have := hg11.size; omega
 have hq11 := blk_grown hq10 hg11 (by simp)
 clear hg11 hx10 hb10 hq10 hown10 hz10
 go_wp2_with fail
 refine upon_insert (n := 12) 127 9 74 Tryz.underlying9 Tryz.underlying127 hown11 (by unfold maxLen; omega) (by unfold maxLen; decide) ?_
 intro w12 hown12 hg12
 have hx12 := hx11.grown hg12 (Nat.le_refl _)
 have hb12 : Below w.heap.size w w12 := hb11.grown hg12 (by omega) (fun k e => by cases e; omega)
 have hz12 : w.heap.size + 1 < w12.heap.size := by have := hg12.size; omega
 have hq12 := blk_grown hq11 hg12 (by simp)
 clear hg12 hx11 hb11 hq11 hown11 hz11
 go_wp2_with fail
 refine upon_insert (n := 13) 127 9 74 Tryz.underlying9 Tryz.underlying127 hown12 (by unfold maxLen; omega) (by unfold maxLen; decide) ?_
 intro w13 hown13 hg13
 have hx13 := hx12.grown hg13 (Nat.le_refl _)
 have hb13 : Below w.heap.size w w13 := hb12.grown hg13 (by omega) (fun k e => by cases e; omega)
 have hz13 : w.heap.size + 1 < w13.heap.size := by have := hg13.size; omega
 have hq13 := blk_grown hq12 hg13 (by simp)
 clear hg13 hx12 hb12 hq12 hown12 hz12
 go_wp2_with fail
 refine upon_insert (n := 14) 127 9 74 Tryz.underlying9 Tryz.underlying127 hown13 (by unfold maxLen; omega) (by unfold maxLen; decide) ?_
 intro w14 hown14 hg14
 have hx14 := hx13.grown hg14 (Nat.le_refl _)
 have hb14 : Below w.heap.size w w14 := hb13.grown hg14 (by omega) (fun k e => by cases e; omega)
 have hz14 : w.heap.size + 1 < w14.heap.size := by have := hg14.size; omega
 have hq14 := blk_grown hq13 hg14 (by simp)
 clear hg14 hx13 hb13 hq13 hown13 hz13
 go_wp2_with fail
 refine upon_insert (n := 15) 127 9 74 Tryz.underlying9 Tryz.underlying127 hown14 (by unfold maxLen; omega) (by unfold maxLen; decide) ?_
 intro w15 hown15 hg15
 have hx15 := hx14.grown hg15 (Nat.le_refl _)
 have hb15 : Below w.heap.size w w15 := hb14.grown hg15 (by omega) (fun k e => by cases e; omega)
 have hz15 : w.heap.size + 1 < w15.heap.size := by have := hg15.size; omega
 have hq15 := blk_grown hq14 hg15 (by simp)
 clear hg15 hx14 hb14 hq14 hown14 hz14
 go_wp2_with fail
 refine upon_insert (n := 16) 127 9 74 Tryz.underlying9 Tryz.underlying127 hown15 (by unfold maxLen; omega) (by unfold maxLen; decide) ?_
 intro w16 hown16 hg16
 have hx16 := hx15.grown hg16 (Nat.le_refl _)
 have hb16 : Below w.heap.size w w16 := hb15.grown hg16 (by omega) (fun k e => by cases e; omega)
 have hz16 : w.heap.size + 1 < w16.heap.size := by have := hg16.size; omega
 have hq16 := blk_grown hq15 hg16 (by simp)
 clear hg16 hx15 hb15 hq15 hown15 hz15
 go_wp2_with fail
 refine upon_insert (n := 17) 127 9 74 Tryz.underlying9 Tryz.underlying127 hown16 (by unfold maxLen; omega) (by unfold maxLen; decide) ?_
 intro w17 hown17 hg17
 have hx17 := hx16.grown hg17 (Nat.le_refl _)
 have hb17 : Below w.heap.size w w17 := hb16.grown hg17 (by omega) (fun k e => by cases e; omega)
 have hz17 : w.heap.size + 1 < w17.heap.size := by have := hg17.size; omega
 have hq17 := blk_grown hq16 hg17 (by simp)
 clear hg17 hx16 hb16 hq16 hown16 hz16
 have hrun := run_look_T Tryz.underlying9 Tryz.underlying127 (azero_run w17) hown17 (key := s) (by unfold maxLen; omega)
 obtain ⟨bl, hbl⟩ : ∃ bl : List Nat, [wm.heap.size, w0.heap.size, w1.heap.size, v2_0.heap.size, w2.heap.size, v3_0.heap.size, w3.heap.size, v4_0.heap.size, w4.heap.size, v5_0.heap.size, w5.heap.size, w6.heap.size] = bl := ⟨_, rfl⟩
 have htab : [((⟨#[67, 79, 76, 83]⟩ : ByteArray), Value.agg #[.string ⟨#[114]⟩, .int .i64 1, .int .i64 1, .func (.func 124) #[] #[]]), ((⟨#[82, 79, 87, 83]⟩ : ByteArray), Value.agg #[.string ⟨#[114]⟩, .int .i64 1, .int .i64 1, .func (.func 121) #[] #[]]), ((⟨#[74, 79, 73, 78]⟩ : ByteArray), Value.agg #[.string ⟨#[118, 120]⟩, .int .i64 2, .int .i64 16, .func (.func 120) #[] #[]]), ((⟨#[76, 65, 82, 71, 69]⟩ : ByteArray), Value.agg #[.string ⟨#[114, 118]⟩, .int .i64 2, .int .i64 2, .func (.func 119) #[] #[]]), ((⟨#[73, 78, 68, 69, 88]⟩ : ByteArray), Value.agg #[.string ⟨#[114, 118, 118]⟩, .int .i64 3, .int .i64 3, .func (.func 118) #[] #[]]), ((⟨#[76, 79, 79, 75, 85, 80]⟩ : ByteArray), Value.agg #[.string ⟨#[118, 114, 114]⟩, .int .i64 3, .int .i64 3, .func (.func 117) #[] #[]]), ((⟨#[77, 65, 84, 67, 72]⟩ : ByteArray), Value.agg #[.string ⟨#[118, 114]⟩, .int .i64 2, .int .i64 2, .func (.func 117) #[] #[]]), ((⟨#[83, 85, 77, 73, 70]⟩ : ByteArray), Value.agg #[.string ⟨#[114, 118, 114]⟩, .int .i64 3, .int .i64 3, .func (.func 116) #[] #[]]), ((⟨#[67, 79, 85, 78, 84, 73, 70]⟩ : ByteArray), Value.agg #[.string ⟨#[114, 118]⟩, .int .i64 2, .int .i64 2, .func (.func 115) #[] #[]]), ((⟨#[66, 76, 65, 78, 75, 83]⟩ : ByteArray), Value.agg #[.string ⟨#[114]⟩, .int .i64 1, .int .i64 1, .func (.func 113) #[] #[]]), ((⟨#[67, 79, 85, 78, 84, 65]⟩ : ByteArray), Value.agg #[.string ⟨#[120]⟩, .int .i64 1, .int .i64 16, .func (.func 179) #[] #[.pointer (some ⟨w6.heap.size, 0, none⟩)]]), ((⟨#[67, 79, 85, 78, 84]⟩ : ByteArray), Value.agg #[.string ⟨#[120]⟩, .int .i64 1, .int .i64 16, .func (.func 179) #[] #[.pointer (some ⟨w5.heap.size, 0, none⟩)]]), ((⟨#[77, 69, 68, 73, 65, 78]⟩ : ByteArray), Value.agg #[.string ⟨#[120]⟩, .int .i64 1, .int .i64 16, .func (.func 169) #[] #[.pointer (some ⟨v5_0.heap.size, 0, none⟩)]]), ((⟨#[65, 86, 71]⟩ : ByteArray), Value.agg #[.string ⟨#[120]⟩, .int .i64 1, .int .i64 16, .func (.func 169) #[] #[.pointer (some ⟨v4_0.heap.size, 0, none⟩)]]), ((⟨#[77, 65, 88]⟩ : ByteArray), Value.agg #[.string ⟨#[120]⟩, .int .i64 1, .int .i64 16, .func (.func 169) #[] #[.pointer (some ⟨v3_0.heap.size, 0, none⟩)]]), ((⟨#[77, 73, 78]⟩ : ByteArray), Value.agg #[.string ⟨#[120]⟩, .int .i64 1, .int .i64 16, .func (.func 169) #[] #[.pointer (some ⟨v2_0.heap.size, 0, none⟩)]]), ((⟨#[80, 82, 79, 68]⟩ : ByteArray), Value.agg #[.string ⟨#[120]⟩, .int .i64 1, .int .i64 16, .func (.func 169) #[] #[.pointer (some ⟨w0.heap.size, 0, none⟩)]]), ((⟨#[83, 85, 77]⟩ : ByteArray), Value.agg #[.string ⟨#[120]⟩, .int .i64 1, .int .i64 16, .func (.func 169) #[] #[.pointer (some ⟨wm.heap.size, 0, none⟩)]])] = aTab bl := by rw [← hbl]; rfl
 have hsrc : Bx w17 w.heap.size (aSrc bl) := by
  rw [← hbl]
  exact fun x hx => ⟨Nat.lt_of_succ_lt (hx17 x hx).1, (hx17 x hx).2⟩
 rw [htab] at hrun
 clear hown17 htab hmm hbl hx17
 obtain ⟨kd, l, h, d, hf, hd⟩ := aTab_form bl s
 rw [hf] at hrun
 have hf' := Lib.hid hf
 have hsrc' := Lib.hid hsrc
 clear hf hsrc
 generalize hok : hasL (aTab bl) s = ok at hrun
 have hok' := Lib.hid hok
 clear hok
 have hc0 : w17.cell? ⟨w.heap.size, 0, none⟩ = some (.string ⟨#[]⟩) := blk_cell hq17 0
 have hc1 : w17.cell? ⟨w.heap.size, 1, none⟩ = some (.int .i64 0) := blk_cell hq17 1
 have hc2 : w17.cell? ⟨w.heap.size, 2, none⟩ = some (.int .i64 0) := blk_cell hq17 2
 have hc3 : w17.cell? ⟨w.heap.size, 3, none⟩ = some .nilFunc := blk_cell hq17 3
 have hf0 := blk_frozen hq17 0
 have hf1 := blk_frozen hq17 1
 have hf2 := blk_frozen hq17 2
 have hf3 := blk_frozen hq17 3
 have hne : w.heap.size < w17.heap.size := by omega
 rcases hd with rfl | ⟨g, c, rfl⟩
 ·go_wp2_with fail
  refine bodyPost_ret (v := .tuple #[.agg #[.string kd, .int .i64 l, .int .i64 h, .nilFunc], .bool ok]) ?_ rfl ?_
  ·simp [results, Tryz.results39, go_sem, *]
  ·exact ⟨⟨bl, kd, l, h, _, by rw [hok'.out], hf'.out, (belq), (by (repeat (first | (with_reducible exact hsrc'.out) | (with_reducible refine Bx.setC ?_ (Nat.le_refl _)) | (with_reducible refine Bx.alc ?_ _))))⟩⟩
 ·go_wp2_with fail
  refine bodyPost_ret (v := .tuple #[.agg #[.string kd, .int .i64 l, .int .i64 h, .func g #[] c], .bool ok]) ?_ rfl ?_
  ·simp [results, Tryz.results39, go_sem, *]
  ·exact ⟨⟨bl, kd, l, h, _, by rw [hok'.out], hf'.out, (belq), (by (repeat (first | (with_reducible exact hsrc'.out) | (with_reducible refine Bx.setC ?_ (Nat.le_refl _)) | (with_reducible refine Bx.alc ?_ _))))⟩⟩
end Go.Proofs.YtgmhifafbebjfaaGreatDoor
