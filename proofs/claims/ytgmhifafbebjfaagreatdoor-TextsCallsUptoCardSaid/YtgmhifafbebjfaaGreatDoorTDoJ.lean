/-
  texts: TRIM: what strings.SplitSeq tells; the words of a text.
-/
import Derived.Test.YtgmhifafbebjfaaGreatDoorTRng
import Derived.Test.YtgmhifafbebjfaaGreatDoorMg19
import Derived.Lib.JoinLaws
namespace Go.Proofs.YtgmhifafbebjfaaGreatDoor
open Go.RowKit Go.Shelf

attribute [local go_sem] Oper.semAt_some

theorem index_blank (t : ByteArray) (w : World) : Calls Tryz.prog 147 #[.string t, .string ⟨#[32]⟩] w fun e w' => e = .returned (.int .i64 (Lib.indexByte t.data.toList 32)) ∧ w' = w := Any.strings_Index_one Tryz.lays143 t 32 w
theorem frags_not {t : List UInt8} (h : Lib.indexByte t 32 = -1) : frags t = [t] := by
  refine frags_none fun c hc e => ?_
  obtain ⟨k, hk⟩ := List.mem_iff_getElem?.1 hc
  exact Lib.indexByte_none h k (by rw [hk, e])
theorem frags_at {t : List UInt8} {o : Nat} (h : Lib.indexByte t 32 = (o : Int)) : o < t.length ∧ frags t = t.take o :: frags (t.drop (o + 1)) := by
  obtain ⟨h1, h2⟩ := Lib.indexByte_some h
  obtain ⟨hlt, he⟩ := List.getElem?_eq_some_iff.1 h1
  have e : t = t.take o ++ 32 :: t.drop (o + 1) := by
    conv => lhs; rw [← List.take_append_drop o t]
    rw [List.drop_eq_getElem_cons hlt, he]
  refine ⟨hlt, ?_⟩
  conv => lhs; rw [e]
  refine frags_cut fun c hc ec => ?_
  obtain ⟨k, hk⟩ := List.mem_iff_getElem?.1 hc
  have hko : k < o := by
    have := (List.getElem?_eq_some_iff.1 hk).1
    rw [List.length_take] at this; omega
  rw [List.getElem?_take_of_lt hko] at hk
  exact h2 k hko (by rw [hk, ec])
/-- what the loop's rounds keep: the iterator's own three cells -/
def KpS (b : Nat) (W W' : World) : Prop := ∀ k, b ≤ k → k < b + 3 → W'.heap[k]? = W.heap[k]?
theorem KpS.trans {b : Nat} {X Y Z : World} (h : KpS b X Y) (k : KpS b Y Z) : KpS b X Z := fun i h1 h2 => (k i h1 h2).trans (h i h1 h2)
def encW (x : List UInt8) : Array Value := #[.string ⟨x.toArray⟩]
def sizeOf? : Option Value → Nat | some (.string s) => s.size | _ => 0
set_option maxRecDepth 100000 in
set_option maxHeartbeats 4000000 in
theorem splits_in (n : Nat) (hn : 1 ≤ n) (l₀ b N : Nat) (s : List UInt8) (hs : s.length ≤ 4000000000000) (hN : s.length < N) (J : List (List UInt8) → World → Prop) (W : World) (hJ2 : ∀ x w v, J x w → J x (w.setCell ⟨b, 0, none⟩ v))
    (hY : ∀ pre x W1, J pre W1 → pre.length < N → YieldAt Fence.wide (n - 1) Tryz.prog l₀ (encW x) W1 fun e W' => e = .returned (.bool true) ∧ J (pre ++ [x]) W' ∧ KpS b W1 W')
    (hB : W.heap[b]? = some (.cells #[.string ⟨s.toArray⟩] 9 (0, 0)) ∧ W.heap[b + 1]? = some (.cells #[.string ⟨#[32]⟩] 9 (0, 0)) ∧ W.heap[b + 2]? = some (.cells #[.int .i64 0] 3 (0, 0))) (h0 : J [] W) :
    CallsIn Fence.wide n Tryz.prog 212 #[.func (.yield l₀) #[] #[], .pointer (some ⟨b + 1, 0, none⟩), .pointer (some ⟨b, 0, none⟩), .pointer (some ⟨b + 2, 0, none⟩)] W fun e W' => (∃ v, e = .returned v) ∧ ∃ xs, xs = frags s ∧ J xs W' := by
  have hst : Hid (frags s = [] ++ frags s) := Lib.hid (by simp)
  have cs1 : W.cell? ⟨b + 1, 0, none⟩ = some (.string ⟨#[32]⟩) := by rw [cell_of_row W (b + 1) 0 _ _ _ hB.2.1]; rfl
  refine callsIn_of_wp Tryz.func212 rfl trivial ?_ rfl
  simp only [Tryz.ntmps212, List.size_toArray, List.length_cons, List.length_nil, Nat.reduceAdd, Nat.reduceSub, Array.replicate_succ, Array.replicate_zero, List.push_toArray, List.append_toArray, List.nil_append, List.cons_append]
  gi_wp2
  gi_loopw [] (fun wr => ∃ (pre : List (List UInt8)) (t : List UInt8), J pre wr ∧ (wr.heap[b]? = some (.cells #[.string ⟨t.toArray⟩] 9 (0, 0)) ∧ wr.heap[b + 1]? = some (.cells #[.string ⟨#[32]⟩] 9 (0, 0)) ∧ wr.heap[b + 2]? = some (.cells #[.int .i64 0] 3 (0, 0))) ∧ Hid (frags s = pre ++ frags t) ∧ pre.length + t.length ≤ s.length) (fun wr => sizeOf? (wr.cell? ⟨b, 0, none⟩))
  case atStart => exact ⟨[], s, h0, hB, hst, by simp⟩
  case round =>
    clear hst cs1 h0 hB
    obtain ⟨pre, t, hJs, ⟨hb0, hb1, hb2⟩, hF, hlen⟩ := hrel
    have c0 : wr.cell? ⟨b, 0, none⟩ = some (.string ⟨t.toArray⟩) := by rw [cell_of_row wr b 0 _ _ _ hb0]; rfl
    have c1 : wr.cell? ⟨b + 1, 0, none⟩ = some (.string ⟨#[32]⟩) := by rw [cell_of_row wr (b + 1) 0 _ _ _ hb1]; rfl
    have c2 : wr.cell? ⟨b + 2, 0, none⟩ = some (.int .i64 0) := by rw [cell_of_row wr (b + 2) 0 _ _ _ hb2]; rfl
    have CI := index_blank ⟨t.toArray⟩ wr
    have ht : (⟨t.toArray⟩ : ByteArray).data.toList = t := by simp
    rw [ht] at CI
    have hcase : (Lib.indexByte t 32 = -1) ∨ ∃ o : Nat, Lib.indexByte t 32 = (o : Int) := by
      have := Lib.indexByte_ge t 32
      by_cases h : Lib.indexByte t 32 = -1
      · exact .inl h
      · exact .inr ⟨(Lib.indexByte t 32).toNat, by omega⟩
    rcases hcase with hi | ⟨o, hi⟩
    · rw [hi] at CI
      have hF2 : frags s = pre ++ [t] := by rw [hF.out, frags_not hi]
      obtain ⟨fn, tmps, assign, body, hy, hR⟩ := hY pre t wr hJs (by omega)
      simp only [encW] at hy
      clear hi hF ht
      gi_wp2_with fail
      refine ⟨trivial, ?_⟩
      gi_at_call 147
      refine (callsIn_wide.2 CI).mono ?_
      rintro e w2 ⟨rfl, rfl⟩
      clear CI
      gi_wp2
      refine hR.mono ?_
      rintro e W3 ⟨rfl, hJ3, _⟩
      gi_wp2
      go_end0
      exact ⟨⟨_, rfl⟩, _, hF2.symm, hJ3⟩
    · rw [hi] at CI
      obtain ⟨hlt, hfr⟩ := frags_at hi
      have hF2 : Hid (frags s = (pre ++ [t.take o]) ++ frags (t.drop (o + 1))) := Lib.hid (by rw [hF.out, hfr]; simp)
      obtain ⟨fn, tmps, assign, body, hy, hR⟩ := hY pre (t.take o) wr hJs (by omega)
      simp only [encW] at hy
      have e1 : (⟨t.toArray⟩ : ByteArray).extract 0 o = ⟨(t.take o).toArray⟩ := by
        apply ByteArray.ext; apply Array.ext'; simp [ByteArray.data_extract, List.extract]
      have e2 : (⟨t.toArray⟩ : ByteArray).extract (o + 1) t.length = ⟨(t.drop (o + 1)).toArray⟩ := by
        apply ByteArray.ext; apply Array.ext'
        rw [ByteArray.data_extract, Array.toList_extract]
        exact List.take_of_length_le (by rw [List.length_drop]; exact Nat.le_refl _)
      have hz : (⟨t.toArray⟩ : ByteArray).size = t.length := by simp [ByteArray.size]
      have n0 : ¬ (o : Int) < 0 := by omega
      clear hi hF ht hfr
      gi_wp2_with fail
      refine ⟨trivial, ?_⟩
      gi_at_call 147
      refine (callsIn_wide.2 CI).mono ?_
      rintro e w2 ⟨rfl, rfl⟩
      clear CI
      gi_wp2
      refine hR.mono ?_
      rintro e W3 ⟨rfl, hJ3, hk⟩
      have d0 := (hk b (by omega) (by omega)).trans hb0
      have d1 := (hk (b + 1) (by omega) (by omega)).trans hb1
      have d2 := (hk (b + 2) (by omega) (by omega)).trans hb2
      have g0 : W3.cell? ⟨b, 0, none⟩ = some (.string ⟨t.toArray⟩) := by rw [cell_of_row W3 b 0 _ _ _ d0]; rfl
      have g1 : W3.cell? ⟨b + 1, 0, none⟩ = some (.string ⟨#[32]⟩) := by rw [cell_of_row W3 (b + 1) 0 _ _ _ d1]; rfl
      have gf : W3.frozen? ⟨b, 0, none⟩ = false := by simp [World.frozen?, d0]
      clear hk
      gi_wp2
      have hx := Boxed.set (.string ⟨(t.drop (o + 1)).toArray⟩) (show Boxed W3 b 9 _ from d0)
      refine ⟨⟨pre ++ [t.take o], t.drop (o + 1), hJ2 _ _ _ hJ3, ⟨hx, (Below.heap_setCell _ _ _ _ (by dsimp only; omega)).trans d1, (Below.heap_setCell _ _ _ _ (by dsimp only; omega)).trans d2⟩, hF2, ?_⟩, ?_⟩
      · rw [List.length_append, List.length_drop]; simp; omega
      · rw [c0, hx.cell]; simp [sizeOf?, ByteArray.size]; omega
theorem splitseq_any (s : ByteArray) (w : World) : Calls Tryz.prog 145 #[.string s, .string ⟨#[32]⟩] w fun e w' => e = .returned (.func (.func 212) #[] #[.pointer (some ⟨w.heap.size + 1, 0, none⟩), .pointer (some ⟨w.heap.size, 0, none⟩), .pointer (some ⟨w.heap.size + 2, 0, none⟩)]) ∧ w' = (((w.alloc (.cells #[.string s] 9)).alloc (.cells #[.string ⟨#[32]⟩] 9)).alloc (.cells #[.int .i64 0] 3)) := by
  have C : Calls Tryz.prog 187 #[.string s, .string ⟨#[32]⟩, .int .i64 0] w fun e w' => e = .returned (.func (.func 212) #[] #[.pointer (some ⟨w.heap.size + 1, 0, none⟩), .pointer (some ⟨w.heap.size, 0, none⟩), .pointer (some ⟨w.heap.size + 2, 0, none⟩)]) ∧ w' = (((w.alloc (.cells #[.string s] 9)).alloc (.cells #[.string ⟨#[32]⟩] 9)).alloc (.cells #[.int .i64 0] 3)) := by
    go_enter Tryz.func187, Tryz.ntmps187
    go_wp2
    go_ret
    exact ⟨by simp, rfl⟩
  go_enter Tryz.func145, Tryz.ntmps145
  go_wp2_with fail
  refine C.mono ?_
  rintro e w1 ⟨rfl, rfl⟩
  go_wp2
  go_ret
  exact ⟨rfl, rfl⟩
/-- the words that have come -/
def wdS (l : List (List UInt8)) : List Value := (l.filter fullB).map fun x => Value.string ⟨x.toArray⟩
theorem wdS_one {pre : List (List UInt8)} {x : List UInt8} (h : x ≠ []) : wdS (pre ++ [x]) = wdS pre ++ [.string ⟨x.toArray⟩] := by
  have : fullB x = true := by cases x with | nil => exact absurd rfl h | cons a b => rfl
  simp [wdS, List.filter_append, this]
theorem wdS_none (pre : List (List UInt8)) : wdS (pre ++ [[]]) = wdS pre := by simp [wdS, List.filter_append, fullB]
theorem trimF_len : ∀ (r out : List UInt8), (trimF out r).length ≤ out.length + r.length
  | [], out => by simp [trimF]
  | c :: r, out => by
    unfold trimF
    split
    · have := trimF_len r (out ++ [c]); simp at this ⊢; omega
    · have := trimF_len r out; simp; omega
theorem trimW_len (s : List UInt8) : (trimW s).length ≤ s.length := by rw [← trim_all]; have := trimF_len s []; simpa using this
theorem frags_len : ∀ s : List UInt8, (frags s).length ≤ s.length + 1
  | [] => by simp [frags]
  | c :: r => by
    obtain ⟨h, t, e⟩ := frags_ne r
    have := frags_len r
    unfold frags
    rw [e] at this ⊢
    split <;> simp at * <;> omega
theorem joinW_lib : ∀ l : List (List UInt8), Lib.join l [32] = joinW l
  | [] => rfl
  | [x] => by simp [Lib.join, joinW, List.intercalate]
  | x :: y :: r => by
    have := joinW_lib (y :: r)
    rw [joinW, ← this]
    simp [Lib.join, List.intercalate]
def trimS (s : ByteArray) : ByteArray := ⟨(trimW s.data.toList).toArray⟩
theorem join_any (W : World) (B : Nat) (v : Value) (l : List (List UInt8)) (h : W.ownsRow B 9 1 v (wdS l).length (wdS l)) (hlen : (joinW (l.filter fullB)).length ≤ 1048576) (hn : l.length ≤ 4000000000000) : Calls Tryz.prog 146 #[v, .string ⟨#[32]⟩] W fun e w' => e = .returned (.string ⟨(joinW (l.filter fullB)).toArray⟩) ∧ Below W.heap.size W w' := by
  have h0 := h
  obtain ⟨h1, h2⟩ := h
  have hwl : (wdS l).length = (l.filter fullB).length := by simp [wdS]
  rcases h2 with ⟨hv, hn0⟩ | ⟨g, cap, cur, rfl, hg, hh, hle, hmx, hsz, htk⟩
  · have he : l.filter fullB = [] := List.eq_nil_of_length_eq_zero (by omega)
    rw [he, hv]
    refine (Tryz.strings_Join_none none 0 ⟨#[32]⟩ W).mono ?_
    rintro e w' ⟨rfl, rfl⟩
    exact ⟨rfl, Below.refl _ _⟩
  · have hfl : (l.filter fullB).length ≤ l.length := List.length_filter_le _ _
    have hj : Lib.join (((l.filter fullB).map fun x => (⟨x.toArray⟩ : ByteArray)).map (·.data.toList)) (⟨#[32]⟩ : ByteArray).data.toList = joinW (l.filter fullB) := by
      have hid : ((fun b : ByteArray => b.data.toList) ∘ fun x : List UInt8 => (⟨x.toArray⟩ : ByteArray)) = id := by funext x; simp
      rw [List.map_map, ← joinW_lib, hid, List.map_id]
    have hxl : ((l.filter fullB).map fun x => (⟨x.toArray⟩ : ByteArray)).length = (wdS l).length := by simp [wdS]
    have C := Tryz.strings_Join g 0 cap ((l.filter fullB).map fun x => (⟨x.toArray⟩ : ByteArray)) ⟨#[32]⟩ W (fun j x hx => by
      have hj9 : j < (wdS l).length := by rw [← hxl]; exact (List.getElem?_eq_some_iff.1 hx).1
      rw [Nat.zero_add]
      refine (World.ownsRow.cellAt h0 j (by omega)).trans ?_
      unfold wdS
      rw [List.getElem?_map] at hx ⊢
      obtain ⟨y, hy, rfl⟩ := Option.map_eq_some_iff.1 hx
      rw [hy]; rfl) (Array.getElem?_eq_some_iff.1 hh).1 (by rw [hxl]; omega) (by rw [hxl]; exact hle) (by rw [hj]; omega)
    rw [hxl, hj] at C
    exact C
set_option maxRecDepth 100000 in
set_option maxHeartbeats 4000000 in
theorem ttrim_any (s : ByteArray) (hs : s.size ≤ 1048576) (w : World) : Calls Tryz.prog 73 #[.string s] w fun e w' => e = .returned (.string (trimS s)) ∧ Below w.heap.size w w' := by
  obtain ⟨i0, hi, hz0, hz1, hz2⟩ := info_parts str_info
  have hls : s.data.toList.length = s.size := rfl
  have CS := splitseq_any s (w.alloc (.cells #[.slice none 0 0] 44))
  refine (callsIn_wide (n := 7)).1 ?_
  refine callsIn_of_wp_marks Tryz.func73 rfl trivial ?_ rfl
  simp only [Tryz.ntmps73, List.size_toArray, List.length_cons, List.length_nil, Nat.reduceAdd, Nat.reduceSub, Array.replicate_succ, Array.replicate_zero, List.push_toArray, List.append_toArray, List.nil_append, List.cons_append]
  gi_wp2_with fail
  refine ⟨trivial, ?_⟩
  gi_at_call 145
  refine (callsIn_wide.2 CS).mono ?_
  rintro e w1 ⟨rfl, hw1⟩
  clear CS
  have hz4 : w1.heap.size = w.heap.size + 4 := by rw [hw1]; simp
  have g3 : Boxed w1 w.heap.size 44 (.slice none 0 0) := by rw [hw1]; exact (((Boxed.new w 44 (.slice none 0 0)).alloc _).alloc _).alloc _
  have hbw : Below w.heap.size w w1 := by rw [hw1]; exact ((((Below.refl _ w).alloc (Nat.le_refl _) _).alloc (by simp) _).alloc (by simp; omega) _).alloc (by simp; omega) _
  have e1 : (w.alloc (.cells #[.slice none 0 0] 44)).heap.size = w.heap.size + 1 := by simp
  have e2 : ((w.alloc (.cells #[.slice none 0 0] 44)).alloc (.cells #[.string s] 9)).heap.size = w.heap.size + 1 + 1 := by simp
  have e3 : (((w.alloc (.cells #[.slice none 0 0] 44)).alloc (.cells #[.string s] 9)).alloc (.cells #[.string ⟨#[32]⟩] 9)).heap.size = w.heap.size + 1 + 2 := by simp
  have hsl : (⟨s.data.toList.toArray⟩ : ByteArray) = s := by simp
  have x0 : w1.heap[w.heap.size + 1]? = some (.cells #[.string ⟨s.data.toList.toArray⟩] 9 (0, 0)) := by
    have h := ((Boxed.new (w.alloc (.cells #[.slice none 0 0] 44)) 9 (.string s)).alloc (.cells #[.string ⟨#[32]⟩] 9)).alloc (.cells #[.int .i64 0] 3)
    rw [e1] at h
    rw [hw1, hsl]; exact h
  have x1 : w1.heap[w.heap.size + 1 + 1]? = some (.cells #[.string ⟨#[32]⟩] 9 (0, 0)) := by
    have h := (Boxed.new ((w.alloc (.cells #[.slice none 0 0] 44)).alloc (.cells #[.string s] 9)) 9 (.string ⟨#[32]⟩)).alloc (.cells #[.int .i64 0] 3)
    rw [e2] at h
    rw [hw1]; exact h
  have x2 : w1.heap[w.heap.size + 1 + 2]? = some (.cells #[.int .i64 0] 3 (0, 0)) := by
    have h := Boxed.new (((w.alloc (.cells #[.slice none 0 0] 44)).alloc (.cells #[.string s] 9)).alloc (.cells #[.string ⟨#[32]⟩] 9)) 3 (.int .i64 0)
    rw [e3] at h
    rw [hw1]; exact h
  clear hw1 e1 e2 e3 hsl
  gi_wp2
  have hST : (44 : TypeId) ≠ 9 := by decide
  have hI : OwnFrom w1.heap.size (fun (pre : List (List UInt8)) (W : World) => (∃ v, Boxed W w.heap.size 44 v ∧ W.ownsRow w.heap.size 9 1 v (wdS pre).length (wdS pre) ∧ ∀ q, v.ownBlock = some q → w.heap.size + 4 ≤ q) ∧ Below w.heap.size w W ∧ w.heap.size + 4 ≤ W.heap.size) :=
    OwnFrom.and (Own.from (holdsRow_own w.heap.size w.heap.size 44 9 1 (fun pre : List (List UInt8) => (wdS pre).length) (fun pre => wdS pre) (fun _ v => ∀ q, v.ownBlock = some q → w.heap.size + 4 ≤ q)) _) (OwnFrom.and (ownFrom_below (Nat.le_refl _) (by omega)) (fun _ _ _ _ hs hg _ => Nat.le_trans hs hg.size))
  refine range_state (encs := encW) (Kp := KpS (w.heap.size + 1)) rfl (by omega) (gf := 212) (lb := #[.pointer (some ⟨w.heap.size + 1 + 1, 0, none⟩), .pointer (some ⟨w.heap.size + 1, 0, none⟩), .pointer (some ⟨w.heap.size + 1 + 2, 0, none⟩)]) rfl trivial (enters_of Tryz.func212 (by kernel_rfl) rfl) (fun _ => rfl) KpS.trans
    (fun W l o o' hl _ _ => fun k _ h2 => World.putObj_heap_other (by omega)) (w.heap.size + 1) (by omega)
    (fun pre W => (∃ v, Boxed W w.heap.size 44 v ∧ W.ownsRow w.heap.size 9 1 v (wdS pre).length (wdS pre) ∧ ∀ q, v.ownBlock = some q → w.heap.size + 4 ≤ q) ∧ Below w.heap.size w W ∧ w.heap.size + 4 ≤ W.heap.size) hI ?cell
    ⟨⟨_, g3, World.ownsRow_nil _ _ _ _, fun q hq => by cases hq⟩, hbw, by omega⟩ (fun xs => xs = frags s.data.toList) (s.size + 2)
    (fun l J W hW _ hJ2 hY h0 => splits_in (7 - 1) (by omega) l (w.heap.size + 1) (s.size + 2) s.data.toList (by omega) (by omega) J W hJ2 hY ⟨(hW.block _ (by omega)).trans x0, (hW.block _ (by omega)).trans x1, (hW.block _ (by omega)).trans x2⟩ h0)
    (fun x => { tmps := #[.string s, undef, .string ⟨#[]⟩, .pointer (some ⟨w.heap.size, 0, none⟩), .string ⟨x.toArray⟩, .string s, .func (.func 212) #[] #[.pointer (some ⟨w.heap.size + 1 + 1, 0, none⟩), .pointer (some ⟨w.heap.size + 1, 0, none⟩), .pointer (some ⟨w.heap.size + 1 + 2, 0, none⟩)], .string ⟨x.toArray⟩, undef, undef, undef, undef, undef, undef, undef, undef], defers := [] }) ?assign ?body ?done
  case cell =>
    rintro pre W v ⟨⟨u, hu, hrow, hq⟩, hB, hz⟩
    exact ⟨⟨u, hu.other (by omega) v, hrow.kept (grownBy_setCell' W _ v) (.inr fun e => by have := hq _ e; omega), hq⟩, hB.setCell (p := ⟨w.heap.size + 1, 0, none⟩) (Nat.le_succ _) v, by simpa using hz⟩
  case assign =>
    intro l x W K hK
    simp only [encW]
    gi_wp2
    exact hK
  case body =>
    rintro l pre x W hl hlt ⟨⟨v, hv, hrow, hq⟩, hB, hzW⟩
    have hvc := hv.cell
    have hsW := hB.size
    have hvl := hv.lt
    have hlw : (wdS pre).length ≤ pre.length := by unfold wdS; rw [List.length_map]; exact List.length_filter_le _ _
    by_cases hx : x = []
    · subst hx
      gi_wp2
      exact ⟨KeepsFrom.refl _ _, fun _ _ _ => rfl, ⟨v, hv, by rw [wdS_none]; exact hrow, hq⟩, hB, hzW⟩
    · have hxe : ((⟨x.toArray⟩ : ByteArray) = ⟨#[]⟩) = False := eq_false (fun e => hx (by have := congrArg (fun b : ByteArray => b.data.toList) e; simpa using this))
      gi_wp2_with (gi_at_builtin; refine wpListIn_append_own_at _ rfl _ _ 44 rfl w.heap.size 9 i0 (.string ⟨#[]⟩) 1 16 Tryz.underlying44 hi hz0 hz1 hz2 rfl (by decide) _ _ _ rfl (hrow.alloc _) ⟨W.heap.size, 0, none⟩ 1 1 [.string ⟨x.toArray⟩] rfl rfl (cell_one_new _ _ _) (by simp [Value.oneCell']) (by unfold maxLen; omega) (by omega) (by simp; omega) ?_; intro v' w2 hown' hgrow _ hat; obtain ⟨g', cap', rfl⟩ := ownsRow_succ hown'; obtain ⟨hv1, hv2, hr2, hk2, hb2⟩ := hv.appended hST hrow hB.size (by omega) hown' hgrow; have hc1 := hv1.cell; have hf1 := hv1.frozen)
      have hzz := hgrow.size
      simp only [World.size_alloc] at hzz
      refine ⟨hk2.from _, fun k h1 h2 => ?_, ⟨_, hv2, ?_, fun q e => ?_⟩, hB.trans hb2, by simp; omega⟩
      · exact (Below.heap_setCell _ _ _ _ (by dsimp only; omega)).trans ((hgrow.block k (by simp; omega) (fun e => by have := hq _ e.symm; omega)).trans (Lib.alloc_old _ _ _ (by omega)))
      · rw [wdS_one hx, List.length_append]; exact hr2
      · rcases hat with h | h
        · exact hq q (h.symm.trans e)
        · rw [h] at e; injection e with e; simp at e; omega
  case done =>
    rintro D ys W hD rfl ⟨⟨v, hv, hrow, hq⟩, hB, hzW⟩ hK
    have hvc := hv.cell
    have CJ := join_any W w.heap.size v (frags s.data.toList) hrow (by have := trimW_len s.data.toList; unfold trimW at this; omega) (by have := frags_len s.data.toList; omega)
    have hDl := (Array.getElem?_eq_some_iff.1 hK).1
    clear hrow hq hv
    gi_wp2_with fail
    refine ⟨trivial, ?_⟩
    gi_at_call 146
    refine (callsIn_wide.2 CJ).mono ?_
    rintro e w2 ⟨rfl, hb2⟩
    have hK2 := (hb2.block D hDl).trans hK
    have hBf : Below w.heap.size w w2 := hB.trans (hb2.mono hB.size)
    clear CJ hb2 hvc hK
    gi_wp2
    refine ⟨by simp, .inl ⟨_, _, rfl, run_takeDeferred hK2, ?_⟩⟩
    exact ⟨_, results_tmp rfl _ _ _, rfl, hBf.trans (belowK_b (w := w) (Nat.le_refl _) w2 D _ _ (by omega) hK2 rfl rfl)⟩
end Go.Proofs.YtgmhifafbebjfaaGreatDoor
