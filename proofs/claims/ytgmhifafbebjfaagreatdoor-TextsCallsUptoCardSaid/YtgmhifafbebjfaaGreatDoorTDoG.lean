/-
  texts: CONCAT; a builder.
-/
import Derived.Test.YtgmhifafbebjfaaGreatDoorMg19
namespace Go.Proofs.YtgmhifafbebjfaaGreatDoor
open Go.RowKit

/-- the library's WriteString, under the numbers that were laid for Join -/
theorem lays_write : Go.Proofs.Lays.n166 Tryz.prog Tryz.lays156_ren := { mixed := Tryz.lays156.mixed, f166 := Tryz.lays156.f166, f240 := Tryz.lays156.f240, f276 := Tryz.lays156.f276, t0 := Tryz.lays156.t0, a0 := Tryz.lays156.a0, z0 := Tryz.lays156.z0, v0 := Tryz.lays156.v0, t3 := Tryz.lays156.t3, a3 := Tryz.lays156.a3, z3 := Tryz.lays156.z3, v3 := Tryz.lays156.v3, t4 := Tryz.lays156.t4, a4 := Tryz.lays156.a4, z4 := Tryz.lays156.z4, v4 := Tryz.lays156.v4, t9 := Tryz.lays156.t9, a9 := Tryz.lays156.a9, z9 := Tryz.lays156.z9, v9 := Tryz.lays156.v9, t20 := Tryz.lays156.t20, a20 := Tryz.lays156.a20, z20 := Tryz.lays156.z20, v20 := Tryz.lays156.v20, t37 := Tryz.lays156.t37, a37 := Tryz.lays156.a37, z37 := Tryz.lays156.z37, v37 := Tryz.lays156.v37, t70 := Tryz.lays156.t70, a70 := Tryz.lays156.a70, z70 := Tryz.lays156.z70, v70 := Tryz.lays156.v70, t72 := Tryz.lays156.t72, a72 := Tryz.lays156.a72, z72 := Tryz.lays156.z72, v72 := Tryz.lays156.v72, t75 := Tryz.lays156.t75, a75 := Tryz.lays156.a75, z75 := Tryz.lays156.z75, v75 := Tryz.lays156.v75, t164 := Tryz.lays156.t164, a164 := Tryz.lays156.a164, z164 := Tryz.lays156.z164, v164 := Tryz.lays156.v164 }
theorem isB_later {T e : TypeId} {B b : Nat} {bs : List Value} {w w' : World} (h : Lib.IsBuilderF T e B b bs w) (hb : Below w.heap.size w w') : Lib.IsBuilderF T e B b bs w' := by
  have key : ∀ p, Lib.BuilderAtF T e B b p bs w → Lib.BuilderAtF T e B b p bs w' := by
    rintro p ⟨hB, v, hv, hown, hne⟩
    refine ⟨hB, v, (hb.block b (Array.getElem?_eq_some_iff.1 hv).1).trans hv, ⟨hown.1, ?_⟩, hne⟩
    rcases hown.2 with h2 | ⟨g, cap, cur, fz, hs, hg, hh, hr⟩
    · exact .inl h2
    · exact .inr ⟨g, cap, cur, fz, hs, hg, (hb.block g (Array.getElem?_eq_some_iff.1 hh).1).trans hh, hr⟩
  rcases h with h | h
  · exact .inl (key _ h)
  · exact .inr (key _ h)
theorem isB_drewN {T e : TypeId} {B b : Nat} {bs : List Value} {w : World} (h : Lib.IsBuilderF T e B b bs w) (n : Nat) : Lib.IsBuilderF T e B b bs (w.drewN n) := isB_later h (below_drewN (Below.refl _ _) _)
theorem byteCells_app (a b : List UInt8) : Lib.byteCells (a ++ b) = Lib.byteCells a ++ Lib.byteCells b := by simp [Lib.byteCells]
theorem byteCells_len (a : List UInt8) : (Lib.byteCells a).length = a.length := by simp [Lib.byteCells]
theorem blen_any (B m : Nat) (acc : List UInt8) (hm : acc.length = m) (w : World) (h : Lib.IsBuilderF 153 5 B B (Lib.byteCells (acc)) w) : Calls Tryz.prog 149 #[.pointer (some ⟨B, 0, none⟩)] w fun e w' => e = .returned (.int .i64 (m : Int)) ∧ w' = w := by
  have := Tryz.Builder_Len_f B B _ w h
  rwa [byteCells_len, hm] at this
theorem bwrite_any (B : Nat) (acc : List UInt8) (u : ByteArray) (hl : acc.length + u.size ≤ 140737488355328) (w : World) (hB : B ≤ w.heap.size) (h : Lib.IsBuilderF 153 5 B B (Lib.byteCells (acc)) w) : Calls Tryz.prog 150 #[.pointer (some ⟨B, 0, none⟩), .string u] w fun e w' => e = .returned (.tuple #[.int .i64 u.size, .nilIface]) ∧ Lib.IsBuilderF 153 5 B B (Lib.byteCells (acc ++ u.data.toList)) w' ∧ Below B w w' := by
  refine (Go.Proofs.Any.Builder_WriteString_f lays_write Tryz.Builder_Extra_156 B B _ u w h (by rw [byteCells_len]; exact hl) hB).mono ?_
  rintro e w' ⟨he, h1, h2⟩
  refine ⟨he, ?_, h2⟩
  rw [byteCells_app, ← Lib.strCells_eq]
  exact Or.inr h1
theorem bstring_any (B : Nat) (acc : List UInt8) (d : ByteArray) (hd : (⟨acc.toArray⟩ : ByteArray) = d) (w : World) (hB : B ≤ w.heap.size) (h : Lib.IsBuilderF 153 5 B B (Lib.byteCells (acc)) w) : Calls Tryz.prog 151 #[.pointer (some ⟨B, 0, none⟩)] w fun e w' => e = .returned (.string d) ∧ Lib.IsBuilderF 153 5 B B (Lib.byteCells (acc)) w' ∧ Below B w w' := by
  rw [← hd]
  exact Tryz.Builder_String_any_f B B acc w h hB
/-- a result's row, and a builder behind it -/
structure BR (w : World) (R B : Nat) (acc : List UInt8) : Prop where
  res : ∃ cs, w.heap[R]? = some (.cells cs 26 (0, 0))
  isb : Lib.IsBuilderF 153 5 B B (Lib.byteCells (acc)) w
  ne : R < B
theorem BR.later {w w' : World} {R B : Nat} {acc : List UInt8} (h : BR w R B acc) (hb : Below w.heap.size w w') : BR w' R B acc := by
  obtain ⟨⟨cs, h1⟩, h2, h3⟩ := h
  exact ⟨⟨cs, (hb.block R (Array.getElem?_eq_some_iff.1 h1).1).trans h1⟩, isB_later h2 hb, h3⟩
theorem BR.drew {w : World} {R B : Nat} {acc : List UInt8} (h : BR w R B acc) : BR w.drew R B acc := h.later ((Below.refl _ _).drew)
theorem BR.told {w w' : World} {R B : Nat} {acc acc' : List UInt8} (h : BR w R B acc) (hb : Below B w w') (hi : Lib.IsBuilderF 153 5 B B (Lib.byteCells (acc')) w') : BR w' R B acc' := by
  obtain ⟨⟨cs, h1⟩, h2, h3⟩ := h
  exact ⟨⟨cs, (hb.block R h3).trans h1⟩, hi, h3⟩
theorem BR.setCell {w : World} {R B : Nat} {acc : List UInt8} (h : BR w R B acc) (p : Addr) (v : Value) (hp : p.block = R) (hs : p.spot = none) : BR (w.setCell p v) R B acc := by
  obtain ⟨⟨cs, h1⟩, h2, h3⟩ := h
  obtain ⟨pb, po, ps⟩ := p
  simp only at hp hs
  subst hp hs
  have hk : ∀ p, Lib.BuilderAtF 153 5 B B p (Lib.byteCells acc) w → Lib.BuilderAtF 153 5 B B p (Lib.byteCells acc) (w.setCell ⟨pb, po, none⟩ v) := by
    rintro q ⟨hB, u, hv, hown, hne⟩
    refine ⟨hB, u, (Below.heap_setCell _ _ _ _ (by simp; omega)).trans hv, ⟨hown.1, ?_⟩, hne⟩
    rcases hown.2 with h2 | ⟨g, cap, cur, fz, hs, hg, hh, hr⟩
    · exact .inl h2
    · refine .inr ⟨g, cap, cur, fz, hs, hg, (Below.heap_setCell _ _ _ _ (by simp; omega)).trans hh, hr⟩
  refine ⟨?_, ?_, h3⟩
  · exact ⟨cs.setIfInBounds po v, by simp [World.setCell, Array.getElem?_modify, h1]⟩
  · rcases h2 with h2 | h2
    · exact .inl (hk _ h2)
    · exact .inr (hk _ h2)
set_option maxRecDepth 100000 in
set_option maxHeartbeats 2000000 in
theorem tdo_CONCAT (l : List ByteArray) (L : List Int) (hl : 0 < l.length) (hll : l.length ≤ 1649267441664) (text : Int) (ht : 0 ≤ text ∧ text ≤ 1024) (vs vn : Value) (w : World) (hS : RdStr w vs l) (hN : RdInt w vn L) : Calls Tryz.prog 78 #[.agg #[vs, vn, .int .i64 text]] w fun e w' => e = .returned (.agg #[.int .i64 (toldT text (joinS l)).t, .int .i64 (toldT text (joinS l)).n, .string (toldT text (joinS l)).s, .bool (toldT text (joinS l)).b, .int .i64 (toldT text (joinS l)).c]) ∧ Below w.heap.size w w' := by
  obtain ⟨A1, cap1, rfl, hR1⟩ := hS
  obtain ⟨A2, cap2, rfl, _⟩ := hN
  obtain ⟨n2, hn2⟩ : ∃ n2, L.length = n2 := ⟨_, rfl⟩
  rw [hn2]
  clear hn2
  obtain ⟨sb, so, hA1, hsb⟩ : ∃ sb so, A1 = some ⟨sb, so, none⟩ ∧ sb < w.heap.size := by
    obtain ⟨y, hy⟩ : ∃ y, l[0]? = some y := ⟨_, List.getElem?_eq_getElem hl⟩
    obtain ⟨b9, o9, e9, h8, _⟩ := hR1 0 [.string y] (by rw [List.getElem?_map, hy]; rfl)
    exact ⟨b9, o9, e9, h8⟩
  subst hA1
  have hcell : Hid (∀ (j : Nat) (x : ByteArray), l[j]? = some x → w.cell? ⟨sb, so + j, none⟩ = some (.string x)) := by
    refine Lib.hid ?_
    intro j x hx
    obtain ⟨b9, o9, e9, _, h9⟩ := hR1 j [.string x] (by rw [List.getElem?_map, hx]; rfl)
    injection e9 with e9
    injection e9 with e1 e2 _
    subst e1 e2
    simpa using h9 0 _ rfl
  have hsn : sb ≠ w.heap.size := by omega
  have hsl : sb < w.heap.size + 1 := by omega
  clear hR1
  obtain ⟨d, hd⟩ : ∃ d, joinS l = d := ⟨_, rfl⟩
  rw [hd]
  have hd' := Lib.hid hd
  clear hd
  go_enter Tryz.func78, Tryz.ntmps78
  go_wp2_with fail
  have y0 : (((w.alloc (.cells #[.slice (some ⟨sb, so, none⟩) l.length cap1, .slice A2 n2 cap2, .int .i64 text] 47)).alloc (.cells #[.int .i64 0, .int .i64 0, .string ⟨#[]⟩, .bool false, .int .i64 0] 26)).alloc (.cells #[.pointer none, .slice none 0 0] 153)).cell? ⟨w.heap.size, 0, none⟩ = some (.slice (some ⟨sb, so, none⟩) l.length cap1) := (World.cell?_alloc_lt _ _ ⟨w.heap.size, 0, none⟩ (by simp only [World.size_alloc]; omega)).trans (by simp)
  have y1 : (((w.alloc (.cells #[.slice (some ⟨sb, so, none⟩) l.length cap1, .slice A2 n2 cap2, .int .i64 text] 47)).alloc (.cells #[.int .i64 0, .int .i64 0, .string ⟨#[]⟩, .bool false, .int .i64 0] 26)).alloc (.cells #[.pointer none, .slice none 0 0] 153)).cell? ⟨w.heap.size, 1, none⟩ = some (.slice A2 n2 cap2) := (World.cell?_alloc_lt _ _ ⟨w.heap.size, 1, none⟩ (by simp only [World.size_alloc]; omega)).trans (by simp)
  have y2 : (((w.alloc (.cells #[.slice (some ⟨sb, so, none⟩) l.length cap1, .slice A2 n2 cap2, .int .i64 text] 47)).alloc (.cells #[.int .i64 0, .int .i64 0, .string ⟨#[]⟩, .bool false, .int .i64 0] 26)).alloc (.cells #[.pointer none, .slice none 0 0] 153)).cell? ⟨w.heap.size, 2, none⟩ = some (.int .i64 text) := (World.cell?_alloc_lt _ _ ⟨w.heap.size, 2, none⟩ (by simp only [World.size_alloc]; omega)).trans (by simp)
  have hr1 : ResAt (((w.alloc (.cells #[.slice (some ⟨sb, so, none⟩) l.length cap1, .slice A2 n2 cap2, .int .i64 text] 47)).alloc (.cells #[.int .i64 0, .int .i64 0, .string ⟨#[]⟩, .bool false, .int .i64 0] 26)).alloc (.cells #[.pointer none, .slice none 0 0] 153)) (w.heap.size + 1) 5 := by
    have h9 := ResAt.new5 (w.alloc (.cells #[.slice (some ⟨sb, so, none⟩) l.length cap1, .slice A2 n2 cap2, .int .i64 text] 47)) (.int .i64 0) (.int .i64 0) (.string ⟨#[]⟩) (.bool false) (.int .i64 0) 26
    rw [World.size_alloc] at h9
    exact h9.below ((Below.refl _ _).alloc (Nat.le_refl _) _) (by simp)
  have hq1 : Below w.heap.size w (((w.alloc (.cells #[.slice (some ⟨sb, so, none⟩) l.length cap1, .slice A2 n2 cap2, .int .i64 text] 47)).alloc (.cells #[.int .i64 0, .int .i64 0, .string ⟨#[]⟩, .bool false, .int .i64 0] 26)).alloc (.cells #[.pointer none, .slice none 0 0] 153)) := by (repeat (first | (with_reducible exact Below.refl _ _) | (with_reducible refine Below.alloc ?_ (by first | omega | (dsimp only; omega) | (simp <;> omega)) _) | (with_reducible refine Below.setCell ?_ (by first | omega | (dsimp only; omega) | (simp <;> omega)) _) | (with_reducible refine Below.drew ?_) | (with_reducible refine below_drewN ?_ _) | (with_reducible refine Below.trans ?_ (Below.mono (by assumption) (by first | omega | (dsimp only; omega) | (simp <;> omega))))))
  have hz1 : w.heap.size + 3 ≤ (((w.alloc (.cells #[.slice (some ⟨sb, so, none⟩) l.length cap1, .slice A2 n2 cap2, .int .i64 text] 47)).alloc (.cells #[.int .i64 0, .int .i64 0, .string ⟨#[]⟩, .bool false, .int .i64 0] 26)).alloc (.cells #[.pointer none, .slice none 0 0] 153)).heap.size := by simp
  have hB1 : BR (((w.alloc (.cells #[.slice (some ⟨sb, so, none⟩) l.length cap1, .slice A2 n2 cap2, .int .i64 text] 47)).alloc (.cells #[.int .i64 0, .int .i64 0, .string ⟨#[]⟩, .bool false, .int .i64 0] 26)).alloc (.cells #[.pointer none, .slice none 0 0] 153)) (w.heap.size + 1) (w.heap.size + 2) [] := by
    have h9 := Lib.IsBuilderF.of (Lib.fresh_isBuilder 153 5 ((w.alloc (.cells #[.slice (some ⟨sb, so, none⟩) l.length cap1, .slice A2 n2 cap2, .int .i64 text] 47)).alloc (.cells #[.int .i64 0, .int .i64 0, .string ⟨#[]⟩, .bool false, .int .i64 0] 26)))
    have h8 := heap_alloc_new (w.alloc (.cells #[.slice (some ⟨sb, so, none⟩) l.length cap1, .slice A2 n2 cap2, .int .i64 text] 47)) (.cells #[.int .i64 0, .int .i64 0, .string ⟨#[]⟩, .bool false, .int .i64 0] 26)
    simp only [World.size_alloc] at h9 h8
    exact ⟨⟨_, (Lib.alloc_old _ _ _ (by simp only [World.size_alloc]; omega)).trans h8⟩, h9, by omega⟩
  generalize (((w.alloc (.cells #[.slice (some ⟨sb, so, none⟩) l.length cap1, .slice A2 n2 cap2, .int .i64 text] 47)).alloc (.cells #[.int .i64 0, .int .i64 0, .string ⟨#[]⟩, .bool false, .int .i64 0] 26)).alloc (.cells #[.pointer none, .slice none 0 0] 153)) = w1 at *
  go_wp2
  go_loopw [9] (fun i wr => ∃ k : Nat, k ≤ l.length ∧ i = .int .i64 (k : Int) ∧ BR wr (w.heap.size + 1) (w.heap.size + 2) (joinL (l.take k)) ∧ Hid (((joinL (l.take k)).length : Int) ≤ text) ∧ Below (w.heap.size + 2) w1 wr) (fun i _ => l.length - (intOf i).toNat)
  case atStart => exact ⟨0, Nat.zero_le _, rfl, hB1, Lib.hid (by rw [List.take_zero]; exact ht.1), Below.refl _ _⟩
  case round =>
    clear hB1
    obtain ⟨k, hk, rfl, hBr, hlen, hbr⟩ := hrel
    have kk := (And.intro ((hbr.cell (p := ⟨w.heap.size, 0, none⟩) (by dsimp only; omega)).trans y0) (And.intro ((hbr.cell (p := ⟨w.heap.size, 1, none⟩) (by dsimp only; omega)).trans y1) (And.intro ((hbr.cell (p := ⟨w.heap.size, 2, none⟩) (by dsimp only; omega)).trans y2) (And.intro (hr1.below hbr (by omega)) (And.intro (hq1.trans (hbr.mono (by omega))) (show w.heap.size + 3 ≤ wr.heap.size by have := hbr.size; omega))))))
    clear y0 y1 y2 hr1 hq1 hz1
    obtain ⟨y0, y1, y2, hr1, hq1, hz1⟩ := kk
    by_cases hlt : k < l.length
    · obtain ⟨x, hx⟩ : ∃ x, l[k]? = some x := ⟨_, List.getElem?_eq_getElem hlt⟩
      have hck : wr.cell? ⟨sb, so + k, none⟩ = some (.string x) := (hq1.cell (p := ⟨sb, so + k, none⟩) hsb).trans (hcell.out k x hx)
      obtain ⟨m, hm⟩ : ∃ m, (joinL (l.take k)).length = m := ⟨_, rfl⟩
      have hmt : (m : Int) ≤ text := by rw [← hm]; exact hlen.out
      have hw1 : IntKind.i64.wrap (text - (m : Int)) = text - (m : Int) := IntWalk.i64_in _ (by omega)
      have hkl : (k : Int) < (l.length : Int) := by omega
      have hts : Hid (joinL (l.take (k + 1)) = joinL (l.take k) ++ x.data.toList) := by
        refine Lib.hid ?_
        rw [List.take_add_one, hx, joinL_append]
        simp [joinL]
      have hm' := Lib.hid hm
      clear hm hlen hx
      by_cases hbig : text - (m : Int) < (x.size : Int)
      · have hlong : toldT text d = errL 7 := by
          unfold toldT
          rw [if_pos]
          have h1 := joinL_take_le l (k + 1)
          rw [hts.out, List.length_append, hm'.out] at h1
          have h2 : d.size = (joinL l).length := by rw [← hd'.out]; exact joinS_size l
          have h3 : x.data.toList.length = x.size := rfl
          omega
        have hlong' := Lib.hid hlong
        clear hlong
        go_wp2_with fail
        go_quiet ((go_at_call 149; exact Calls.quiet_of_same (blen_any _ m _ hm'.out _ (isB_drewN hBr.isb _))))
        have hb0 : Below wr.heap.size wr (wr.drewN nq) := below_drewN (Below.refl _ _) _
        have kk := (And.intro ((hb0.cell (p := ⟨w.heap.size, 0, none⟩) (by dsimp only; omega)).trans y0) (And.intro ((hb0.cell (p := ⟨w.heap.size, 1, none⟩) (by dsimp only; omega)).trans y1) (And.intro ((hb0.cell (p := ⟨w.heap.size, 2, none⟩) (by dsimp only; omega)).trans y2) (And.intro (hr1.below hb0 (by omega)) (And.intro (hq1.trans (hb0.mono (by omega))) (show w.heap.size + 3 ≤ (wr.drewN nq).heap.size by have := hb0.size; omega))))))
        clear y0 y1 y2 hr1 hq1 hz1
        obtain ⟨y0, y1, y2, hr1, hq1, hz1⟩ := kk
        clear hb0 hBr
        generalize wr.drewN nq = w3 at *
        go_wp2_with fail
        refine (verr_any 7 _).mono ?_
        rintro e w4 ⟨rfl, hb1⟩
        have kk := (And.intro ((hb1.cell (p := ⟨w.heap.size, 0, none⟩) (by dsimp only; omega)).trans y0) (And.intro ((hb1.cell (p := ⟨w.heap.size, 1, none⟩) (by dsimp only; omega)).trans y1) (And.intro ((hb1.cell (p := ⟨w.heap.size, 2, none⟩) (by dsimp only; omega)).trans y2) (And.intro (hr1.below hb1 (by omega)) (And.intro (hq1.trans (hb1.mono (by omega))) (show w.heap.size + 3 ≤ w4.heap.size by have := hb1.size; omega))))))
        clear y0 y1 y2 hr1 hq1 hz1
        obtain ⟨y0, y1, y2, hr1, hq1, hz1⟩ := kk
        clear hb1
        go_wp2
        rw [hlong'.out]
        try simp only [resAt_setCell] at *
        refine bodyPost_ret (v := .agg #[.int .i64 4, .int .i64 0, .string ⟨#[]⟩, .bool false, .int .i64 (errC 7)]) ?_ rfl ⟨rfl, by first | assumption | (go_split_ands; first | assumption | ((repeat (first | (with_reducible exact Below.refl _ _) | (with_reducible refine Below.alloc ?_ (by first | omega | (dsimp only; omega) | (simp <;> omega)) _) | (with_reducible refine Below.setCell ?_ (by first | omega | (dsimp only; omega) | (simp <;> omega)) _) | (with_reducible refine Below.drew ?_) | (with_reducible refine below_drewN ?_ _) | (with_reducible refine Below.trans ?_ (Below.mono (by assumption) (by first | omega | (dsimp only; omega) | (simp <;> omega)))))); done)) | ((repeat (first | (with_reducible exact Below.refl _ _) | (with_reducible refine Below.alloc ?_ (by first | omega | (dsimp only; omega) | (simp <;> omega)) _) | (with_reducible refine Below.setCell ?_ (by first | omega | (dsimp only; omega) | (simp <;> omega)) _) | (with_reducible refine Below.drew ?_) | (with_reducible refine below_drewN ?_ _) | (with_reducible refine Below.trans ?_ (Below.mono (by assumption) (by first | omega | (dsimp only; omega) | (simp <;> omega)))))); done)⟩
        simp [results, Tryz.results78, go_sem, *]
      · go_wp2_with fail
        go_quiet ((go_at_call 149; exact Calls.quiet_of_same (blen_any _ m _ hm'.out _ (isB_drewN hBr.isb _))))
        have hb0 : Below wr.heap.size wr (wr.drewN nq) := below_drewN (Below.refl _ _) _
        have hzr := hz1
        have kk := (And.intro ((hb0.cell (p := ⟨w.heap.size, 0, none⟩) (by dsimp only; omega)).trans y0) (And.intro ((hb0.cell (p := ⟨w.heap.size, 1, none⟩) (by dsimp only; omega)).trans y1) (And.intro ((hb0.cell (p := ⟨w.heap.size, 2, none⟩) (by dsimp only; omega)).trans y2) (And.intro (hr1.below hb0 (by omega)) (And.intro (hq1.trans (hb0.mono (by omega))) (show w.heap.size + 3 ≤ (wr.drewN nq).heap.size by have := hb0.size; omega))))))
        clear y0 y1 y2 hr1 hq1 hz1
        obtain ⟨y0, y1, y2, hr1, hq1, hz1⟩ := kk
        have hB3 := hBr.later hb0
        have hbr := hbr.trans (hb0.mono (by omega))
        clear hb0 hBr
        generalize wr.drewN nq = w3 at *
        go_wp2_with fail
        refine (bwrite_any (w.heap.size + 2) (joinL (l.take k)) x (by rw [hm'.out]; omega) w3 (by omega) hB3.isb).mono ?_
        rintro e w4 ⟨rfl, hB4, hb4⟩
        have hbr := hbr.trans hb4
        have hB5 := hB3.told hb4 hB4
        clear hb4 hB4 hB3
        go_wp2
        go_roundw
        case rel =>
          refine ⟨k + 1, by omega, by go_num, by rw [hts.out]; exact hB5, Lib.hid ?_, hbr⟩
          have h3 : x.data.toList.length = x.size := rfl
          rw [hts.out, List.length_append, hm'.out, h3]
          omega
        case measure => simp [intOf]; omega
    · obtain rfl : k = l.length := by omega
      have htk : l.take l.length = l := List.take_length
      rw [htk] at hBr hlen
      have hdl : (d.size : Int) ≤ text := by rw [← hd'.out, joinS_size]; exact hlen.out
      clear hlen hbr
      go_wp2_with fail
      first | (go_loud (go_region_held3 (fun w' => w'.cell? ⟨w.heap.size, 0, none⟩ = some (.slice (some ⟨sb, so, none⟩) l.length cap1) ∧ w'.cell? ⟨w.heap.size, 1, none⟩ = some (.slice A2 n2 cap2) ∧ w'.cell? ⟨w.heap.size, 2, none⟩ = some (.int .i64 text) ∧ ResAt w' (w.heap.size + 1) 5 ∧ Below w.heap.size w w' ∧ w.heap.size + 3 ≤ w'.heap.size ∧ BR w' (w.heap.size + 1) (w.heap.size + 2) (joinL l))
        (first | (go_split_ands; exact ⟨(by simp [go_sem, *]), (by simp [go_sem, *]), (by simp [go_sem, *]), (by first | (with_reducible exact ResAt.drew (ResAt.new5 _ _ _ _ _ _ _)) | (repeat (first | (with_reducible assumption) | (with_reducible refine ResAt.setCell ?_ _ _) | (with_reducible refine ResAt.drew ?_)))), (by (repeat (first | (with_reducible exact Below.refl _ _) | (with_reducible refine Below.alloc ?_ (by first | omega | (dsimp only; omega) | (simp <;> omega)) _) | (with_reducible refine Below.setCell ?_ (by first | omega | (dsimp only; omega) | (simp <;> omega)) _) | (with_reducible refine Below.drew ?_) | (with_reducible refine below_drewN ?_ _) | (with_reducible refine Below.trans ?_ (Below.mono (by assumption) (by first | omega | (dsimp only; omega) | (simp <;> omega))))))), (by first | (simp; done) | (simp; omega)), (by (repeat (first | (with_reducible assumption) | (with_reducible refine BR.setCell ?_ _ _ rfl rfl) | (with_reducible refine BR.drew ?_))))⟩) | (exact ⟨(by simp [go_sem, *]), (by simp [go_sem, *]), (by simp [go_sem, *]), (by first | (with_reducible exact ResAt.drew (ResAt.new5 _ _ _ _ _ _ _)) | (repeat (first | (with_reducible assumption) | (with_reducible refine ResAt.setCell ?_ _ _) | (with_reducible refine ResAt.drew ?_)))), (by (repeat (first | (with_reducible exact Below.refl _ _) | (with_reducible refine Below.alloc ?_ (by first | omega | (dsimp only; omega) | (simp <;> omega)) _) | (with_reducible refine Below.setCell ?_ (by first | omega | (dsimp only; omega) | (simp <;> omega)) _) | (with_reducible refine Below.drew ?_) | (with_reducible refine below_drewN ?_ _) | (with_reducible refine Below.trans ?_ (Below.mono (by assumption) (by first | omega | (dsimp only; omega) | (simp <;> omega))))))), (by first | (simp; done) | (simp; omega)), (by (repeat (first | (with_reducible assumption) | (with_reducible refine BR.setCell ?_ _ _ rfl rfl) | (with_reducible refine BR.drew ?_))))⟩) | (go_split_ands; exact ⟨(by rw [hb.cell (by dsimp only; omega)]; assumption), (by rw [hb.cell (by dsimp only; omega)]; assumption), (by rw [hb.cell (by dsimp only; omega)]; assumption), (ResAt.below (by assumption) hb (by omega)), (Below.trans (by assumption) (hb.mono (by omega))), (by have := hb.size; omega), (by first | exact BR.told (by assumption) hb hF | exact BR.later (by assumption) hb)⟩))
        (first | (go_at_call 151; go_split_ands; refine (bstring_any (w.heap.size + 2) (joinL l) d hd'.out _ (by omega) (BR.isb (by assumption))).mono ?_; rintro e w1 ⟨rfl, hF, hb⟩) | (go_at_call 143; refine (ttold_any _ _ _ _ _ _ text d (by omega) _).mono ?_; rintro e w1 ⟨rfl, hb⟩)))) | fail "region"
      go_split_ands
      go_wp2
      try simp only [resAt_setCell] at *
      refine bodyPost_ret (v := .agg #[.int .i64 (toldT text d).t, .int .i64 (toldT text d).n, .string (toldT text d).s, .bool (toldT text d).b, .int .i64 (toldT text d).c]) ?_ rfl ⟨rfl, by first | assumption | (go_split_ands; first | assumption | ((repeat (first | (with_reducible exact Below.refl _ _) | (with_reducible refine Below.alloc ?_ (by first | omega | (dsimp only; omega) | (simp <;> omega)) _) | (with_reducible refine Below.setCell ?_ (by first | omega | (dsimp only; omega) | (simp <;> omega)) _) | (with_reducible refine Below.drew ?_) | (with_reducible refine below_drewN ?_ _) | (with_reducible refine Below.trans ?_ (Below.mono (by assumption) (by first | omega | (dsimp only; omega) | (simp <;> omega)))))); done)) | ((repeat (first | (with_reducible exact Below.refl _ _) | (with_reducible refine Below.alloc ?_ (by first | omega | (dsimp only; omega) | (simp <;> omega)) _) | (with_reducible refine Below.setCell ?_ (by first | omega | (dsimp only; omega) | (simp <;> omega)) _) | (with_reducible refine Below.drew ?_) | (with_reducible refine below_drewN ?_ _) | (with_reducible refine Below.trans ?_ (Below.mono (by assumption) (by first | omega | (dsimp only; omega) | (simp <;> omega)))))); done)⟩
      simp [results, Tryz.results78, go_sem, *]
end Go.Proofs.YtgmhifafbebjfaaGreatDoor
