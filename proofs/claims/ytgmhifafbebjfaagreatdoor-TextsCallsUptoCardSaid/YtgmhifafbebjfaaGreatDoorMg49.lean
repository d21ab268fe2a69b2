/-
  Slices of things of several cells that came in: their lists; Values, entries, arguments that came in; What the bound on an input's bulk gives; arguments that came in, with their bulk.
-/
import Derived.Test.YtgmhifafbebjfaaGreatDoorMg10
import Derived.Deep.Slices
import Derived.ChangeSlices
namespace Go.Proofs.YtgmhifafbebjfaaGreatDoor
open Go.RowKit Go.ChangeShapes Go.WideShapes Go.Deep

theorem cellLt {w : World} {b j : Nat} {v : Value} (h : w.cell? ⟨b, j, none⟩ = some v) : b < w.heap.size := by
  rcases Nat.lt_or_ge b w.heap.size with h1 | h1
  · exact h1
  · unfold World.cell? at h
    rw [Array.getElem?_eq_none h1] at h
    cases h
section
variable {H : Type} {enc : TypeId × Value → H} {P : Program} {w : World}
/-- a slice of things of k cells: its list, where it lies -/
theorem rd_sliceK {α : Type} (k : Nat) (hk : 0 < k) (cs : α → List Value) (p : α → Prop) (hcs : ∀ x, (cs x).length = k) {t e : TypeId} {v : Value} {fuel : Nat} {y : DataW H × List MemPlace} {sp : Nat → Bool} {held : Bool} (ht : P.underlying t = some (.slice e)) (hc : P.cellsOf e = k)
    (he : ∀ (n : Nat) (us : List Value) (z : DataW H × List MemPlace), DataW.trod enc P w 0 sp held n e us = some z → ∃ x : α, us = cs x ∧ p x)
    (h : DataW.trod enc P w 0 sp held fuel t [v] = some y) : ∃ (A : Option Addr) (l : List α) (cap : Nat), v = .slice A l.length cap ∧ l.length ≤ cap ∧ cap ≤ maxLen ∧ RdB w w.heap.size A k (l.map cs) ∧ (∀ x ∈ l, p x) ∧ (l = [] ∨ ∃ es sr, y.1 = .slice es sr ∧ es.length = l.length) ∧ (A = none → l.length = 0 ∧ cap = 0) := by
  rcases Go.Deep.open_slice ht h with ⟨h0, _⟩ | ⟨a, len, cap, m, n', D, Pl, h0, hb, hl, hm, hmm, hx, hi⟩
  · have h1 : v = .slice none 0 0 := by simpa using h0
    subst h1
    exact ⟨none, [], 0, rfl, Nat.le_refl _, Nat.zero_le _, fun i c hi => by simp at hi, fun x hx => by simp at hx, .inl rfl, fun _ => ⟨rfl, rfl⟩⟩
  · have h1 : v = .slice (some a) len cap := by simpa using h0
    subst h1
    rw [hc] at hi
    have hlm : len ≤ m := by rw [hmm]; split <;> omega
    have hch : ∀ i, i < len → ∃ x : α, p x ∧ ∀ j, j < k → w.cell? ((a.add (i * k)).add j) = (cs x)[j]? := fun i hlt => by
      obtain ⟨cs', hcells, htr⟩ := hi i (by omega)
      obtain ⟨x, rfl, hp⟩ := he _ _ _ htr
      obtain ⟨_, _, hat⟩ := World.cells?_some hcells
      exact ⟨x, hp, hat⟩
    obtain ⟨X, hX⟩ : ∃ X : (i : Nat) → i < len → α, ∀ i (h : i < len), p (X i h) ∧ ∀ j, j < k → w.cell? ((a.add (i * k)).add j) = (cs (X i h))[j]? := ⟨fun i h => (hch i h).choose, fun i h => (hch i h).choose_spec⟩
    have hlen : ((List.finRange len).map fun i => X i.1 i.2).length = len := by simp
    refine ⟨some a, (List.finRange len).map fun i => X i.1 i.2, cap, by rw [hlen], by rw [hlen]; exact hl, hm, ?_, ?_, .inr ?_, fun e => by cases e⟩
    · intro i c hic
      rw [List.getElem?_map] at hic
      have hlt : i < len := by
        rcases Nat.lt_or_ge i len with h | h
        · exact h
        · rw [List.getElem?_eq_none (by rw [hlen]; exact h)] at hic; cases hic
      rw [List.getElem?_eq_getElem (by rw [hlen]; exact hlt)] at hic
      simp at hic
      subst hic
      have h00 := (hX 0 (by omega)).2 0 hk
      rw [List.getElem?_eq_getElem (by rw [hcs]; exact hk)] at h00
      have hspot : a.spot = none := by simpa [Addr.add] using World.cell?_spot h00
      obtain ⟨b, o, sp'⟩ := a
      simp only at hspot
      subst hspot
      have hat : ∀ j, ((⟨b, o, none⟩ : Addr).add (i * k)).add j = ⟨b, o + i * k + j, none⟩ := fun j => by
        rw [Go.Deep.add_add]; unfold Addr.add
        split
        · rename_i h; simp only [Addr.mk.injEq, true_and, and_true]; omega
        · simp only [Addr.mk.injEq, true_and, and_true]; omega
      refine ⟨b, o, rfl, ?_, fun j u hj => ?_⟩
      · have h1 := (hX i hlt).2 0 hk
        rw [hat 0, List.getElem?_eq_getElem (by rw [hcs]; exact hk)] at h1
        exact cellLt h1
      · have hjk : j < k := by rw [← hcs (X i hlt)]; exact (List.getElem?_eq_some_iff.1 hj).1
        rw [← hat j, (hX i hlt).2 j hjk]; exact hj
    · intro x hx'
      obtain ⟨i, _, rfl⟩ := List.mem_map.1 hx'
      exact (hX i.1 i.2).1
    · exact ⟨(List.range len).map D, (List.range (m - len)).map fun j => D (len + j), by rw [hx], by simp⟩
end
end Go.Proofs.YtgmhifafbebjfaaGreatDoor
namespace Go.Proofs.YtgmhifafbebjfaaGreatDoor
open Go.RowKit Go.ChangeShapes Go.WideShapes Go.Deep

section
variable {H : Type} {enc : TypeId × Value → H} {w : World} {sp : Nat → Bool} {held : Bool}
theorem rd_ent (fuel : Nat) (us : List Value) (z : DataW H × List MemPlace) (h : DataW.trod enc Tryz.prog w 0 sp held fuel 99 us = some z) : ∃ x : EL, us = x.cs ∧ x.v.ok := by
  have g := readsAll_of_trod 6 99 [3, 3, 23, 2, 9, 4, 24] fuel us z (by kernel_rfl) h
  obtain ⟨_, _, rfl, g0, _, _, rfl, g1, _, _, rfl, g2, _, _, rfl, g3, _, _, rfl, g4, _, _, rfl, g5, _, _, rfl, g6, rfl⟩ := g
  obtain ⟨r, rfl, b_r⟩ := Reads1.i64 Tryz.underlying3 g0
  obtain ⟨q, rfl, b_q⟩ := Reads1.i64 Tryz.underlying3 g1
  obtain ⟨t, rfl, b_t⟩ := Reads1.i64 Tryz.underlying23 g2
  obtain ⟨n, rfl, b_n⟩ := Reads1.i64 Tryz.underlying2 g3
  obtain ⟨s, rfl, b_s⟩ := Reads1.string Tryz.underlying9 g4
  obtain ⟨b, rfl⟩ := Reads1.bool Tryz.underlying4 g5
  obtain ⟨c, rfl, b_c⟩ := Reads1.i64 Tryz.underlying24 g6
  exact ⟨⟨r, q, ⟨t, n, s, b, c⟩⟩, rfl, b_n⟩
end
end Go.Proofs.YtgmhifafbebjfaaGreatDoor
namespace Go.Proofs.YtgmhifafbebjfaaGreatDoor

theorem bulk_one {H : Type} (d : DataW H) : 1 ≤ Rows.uptoBulk d := by
  cases d with
  | lit l => cases l <;> simp [Rows.uptoBulk]
  | _ => simp [Rows.uptoBulk]
theorem bulk_mem {H : Type} {d : DataW H} : ∀ {l : List (DataW H)}, d ∈ l → Rows.uptoBulk d ≤ Rows.uptoBulkAll l
  | x :: r, h => by
    simp only [Rows.uptoBulkAll]
    rcases List.mem_cons.1 h with rfl | h
    · omega
    · have := bulk_mem h; omega
theorem bulk_len {H : Type} : ∀ (l : List (DataW H)), l.length ≤ Rows.uptoBulkAll l
  | [] => Nat.zero_le _
  | x :: r => by
    have := bulk_one x
    have := bulk_len r
    simp only [Rows.uptoBulkAll, List.length_cons]; omega
end Go.Proofs.YtgmhifafbebjfaaGreatDoor
namespace Go.Proofs.YtgmhifafbebjfaaGreatDoor
open Go.RowKit Go.ChangeShapes Go.WideShapes Go.Deep

theorem bulk_memA {H : Type} {d : DataW H} {l : List (DataW H)} (h : d ∈ l) : Rows.uptoBulk d ≤ Rows.uptoBulk (.agg l) := by
  have := bulk_mem h
  simp only [Rows.uptoBulk]; omega
section
variable {H : Type} {enc : TypeId × Value → H} {w : World} {sp : Nat → Bool} {held : Bool}
/-- a part of a struct that was read -/
theorem trod_part {P : Program} {t : TypeId} {fs : Array Field} {fuel : Nat} {cs : List Value} {x : DataW H × List MemPlace} (ht : P.underlying t = some (.struct fs)) (h : DataW.trod enc P w 0 sp held fuel t cs = some x) (i : Nat) (ft : TypeId) (off c : Nat) (hf : (fs[i]?).map (fun f => (f.type, f.offset)) = some (ft, off)) (hc : P.cellsOf ft = c) : ∃ n y, DataW.trod enc P w 0 sp held n ft ((cs.drop off).take c) = some y ∧ Rows.uptoBulk y.1 ≤ Rows.uptoBulk x.1 := by
  obtain ⟨xs, n, _, hx, _, hl, hi⟩ := DataW.trod_struct ht h
  obtain ⟨f, hf1, hf2⟩ := Option.map_eq_some_iff.1 hf
  injection hf2 with e1 e2
  subst e1; subst e2; subst hc
  have h1 := hi i f hf1
  have hlt : i < xs.length := by rw [hl]; exact (Array.getElem?_eq_some_iff.1 hf1).1
  rw [List.getElem?_eq_getElem hlt] at h1
  refine ⟨n, _, h1, ?_⟩
  rw [hx]
  exact bulk_memA (List.mem_map.2 ⟨_, List.getElem_mem hlt, rfl⟩)
theorem trod_str {P : Program} {t : TypeId} {fuel : Nat} {s : ByteArray} {y : DataW H × List MemPlace} (ht : P.underlying t = some .string) (h : DataW.trod enc P w 0 sp held fuel t [.string s] = some y) : s.size ≤ Rows.uptoBulk y.1 := by
  cases fuel with
  | zero => simp [DataW.trod] at h
  | succ n =>
    simp only [DataW.trod, ht] at h
    split at h
    · cases h
      simp only [Rows.uptoBulk]
      have e : s.data.toList.length = s.size := by rw [Array.length_toList]; rfl
      omega
    · cases h
/-- a slice of things of k cells, with what each one's reading is -/
theorem rd_sliceQ {P : Program} {α : Type} (k : Nat) (hk : 0 < k) (cs : α → List Value) (p : α → DataW H → Prop) (hcs : ∀ x, (cs x).length = k) {t e : TypeId} {v : Value} {fuel : Nat} {y : DataW H × List MemPlace} (ht : P.underlying t = some (.slice e)) (hc : P.cellsOf e = k)
    (he : ∀ (n : Nat) (us : List Value) (z : DataW H × List MemPlace), DataW.trod enc P w 0 sp held n e us = some z → ∃ x : α, us = cs x ∧ p x z.1)
    (h : DataW.trod enc P w 0 sp held fuel t [v] = some y) : ∃ (A : Option Addr) (l : List α) (cap : Nat), v = .slice A l.length cap ∧ l.length ≤ cap ∧ cap ≤ maxLen ∧ RdB w w.heap.size A k (l.map cs) ∧ (l = [] ∨ ∃ es sr, y.1 = .slice es sr ∧ es.length = l.length ∧ ∀ x ∈ l, ∃ d ∈ es, p x d) ∧ (A = none → l.length = 0 ∧ cap = 0) := by
  rcases Go.Deep.open_slice ht h with ⟨h0, _⟩ | ⟨a, len, cap, m, n', D, Pl, h0, hb, hl, hm, hmm, hx, hi⟩
  · have h1 : v = .slice none 0 0 := by simpa using h0
    subst h1
    exact ⟨none, [], 0, rfl, Nat.le_refl _, Nat.zero_le _, fun i c hi => by simp at hi, .inl rfl, fun _ => ⟨rfl, rfl⟩⟩
  · have h1 : v = .slice (some a) len cap := by simpa using h0
    subst h1
    rw [hc] at hi
    have hlm : len ≤ m := by rw [hmm]; split <;> omega
    have hch : ∀ i, i < len → ∃ x : α, p x (D i) ∧ ∀ j, j < k → w.cell? ((a.add (i * k)).add j) = (cs x)[j]? := fun i hlt => by
      obtain ⟨cs', hcells, htr⟩ := hi i (by omega)
      obtain ⟨x, rfl, hp⟩ := he _ _ _ htr
      obtain ⟨_, _, hat⟩ := World.cells?_some hcells
      exact ⟨x, hp, hat⟩
    obtain ⟨X, hX⟩ : ∃ X : (i : Nat) → i < len → α, ∀ i (h : i < len), p (X i h) (D i) ∧ ∀ j, j < k → w.cell? ((a.add (i * k)).add j) = (cs (X i h))[j]? := ⟨fun i h => (hch i h).choose, fun i h => (hch i h).choose_spec⟩
    have hlen : ((List.finRange len).map fun i => X i.1 i.2).length = len := by simp
    refine ⟨some a, (List.finRange len).map fun i => X i.1 i.2, cap, by rw [hlen], by rw [hlen]; exact hl, hm, ?_, .inr ?_, fun e => by cases e⟩
    · intro i c hic
      rw [List.getElem?_map] at hic
      have hlt : i < len := by
        rcases Nat.lt_or_ge i len with h | h
        · exact h
        · rw [List.getElem?_eq_none (by rw [hlen]; exact h)] at hic; cases hic
      rw [List.getElem?_eq_getElem (by rw [hlen]; exact hlt)] at hic
      simp at hic
      subst hic
      have h00 := (hX 0 (by omega)).2 0 hk
      rw [List.getElem?_eq_getElem (by rw [hcs]; exact hk)] at h00
      have hspot : a.spot = none := by simpa [Addr.add] using World.cell?_spot h00
      obtain ⟨b, o, sp'⟩ := a
      simp only at hspot
      subst hspot
      have hat : ∀ j, ((⟨b, o, none⟩ : Addr).add (i * k)).add j = ⟨b, o + i * k + j, none⟩ := fun j => by
        rw [Go.Deep.add_add]; unfold Addr.add
        split
        · rename_i h; simp only [Addr.mk.injEq, true_and, and_true]; omega
        · simp only [Addr.mk.injEq, true_and, and_true]; omega
      refine ⟨b, o, rfl, ?_, fun j u hj => ?_⟩
      · have h1 := (hX i hlt).2 0 hk
        rw [hat 0, List.getElem?_eq_getElem (by rw [hcs]; exact hk)] at h1
        exact cellLt h1
      · have hjk : j < k := by rw [← hcs (X i hlt)]; exact (List.getElem?_eq_some_iff.1 hj).1
        rw [← hat j, (hX i hlt).2 j hjk]; exact hj
    · exact ⟨(List.range len).map D, (List.range (m - len)).map fun j => D (len + j), by rw [hx], by simp, fun x hx' => by
        obtain ⟨i, _, rfl⟩ := List.mem_map.1 hx'
        exact ⟨D i.1, List.mem_map.2 ⟨i.1, List.mem_range.2 i.2, rfl⟩, (hX i.1 i.2).1⟩⟩
set_option maxRecDepth 100000 in
theorem rd_argb (fuel : Nat) (us : List Value) (z : DataW H × List MemPlace) (h : DataW.trod enc Tryz.prog w 0 sp held fuel 36 us = some z) : ∃ x : AL, us = x.cs ∧ x.In w w.heap.size ∧ x.v.s.size ≤ Rows.uptoBulk z.1 := by
  have g := readsAll_of_trod 6 36 [4, 23, 2, 9, 4, 24, 3, 3, 3, 3, 34] fuel us z (by kernel_rfl) h
  obtain ⟨_, _, rfl, g0, _, _, rfl, g1, _, _, rfl, g2, _, _, rfl, g3, _, _, rfl, g4, _, _, rfl, g5, _, _, rfl, g6, _, _, rfl, g7, _, _, rfl, g8, _, _, rfl, g9, _, _, rfl, g10, rfl⟩ := g
  obtain ⟨m, rfl⟩ := Reads1.bool Tryz.underlying4 g0
  obtain ⟨t, rfl, b_t⟩ := Reads1.i64 Tryz.underlying23 g1
  obtain ⟨n, rfl, b_n⟩ := Reads1.i64 Tryz.underlying2 g2
  obtain ⟨s, rfl, b_s⟩ := Reads1.string Tryz.underlying9 g3
  obtain ⟨b, rfl⟩ := Reads1.bool Tryz.underlying4 g4
  obtain ⟨c, rfl, b_c⟩ := Reads1.i64 Tryz.underlying24 g5
  obtain ⟨rt, rfl, b_rt⟩ := Reads1.i64 Tryz.underlying3 g6
  obtain ⟨rl, rfl, b_rl⟩ := Reads1.i64 Tryz.underlying3 g7
  obtain ⟨rb, rfl, b_rb⟩ := Reads1.i64 Tryz.underlying3 g8
  obtain ⟨rr, rfl, b_rr⟩ := Reads1.i64 Tryz.underlying3 g9
  obtain ⟨f10, y10, g10⟩ := g10
  obtain ⟨E, l, cap, rfl, hl, hcap, hR, hp, _, _⟩ := rd_sliceK 7 (by omega) EL.cs (fun x => x.v.ok) (fun _ => rfl) Tryz.underlying34 (by kernel_rfl) rd_ent g10
  unfold maxLen at hcap
  refine ⟨⟨m, ⟨t, n, s, b, c⟩, rt, rl, rb, rr, E, cap, l⟩, rfl, ⟨b_n, hR, hp, by show l.length ≤ _; omega⟩, ?_⟩
  obtain ⟨n1, y1, h1, k1⟩ := trod_part Tryz.underlying36 h 1 26 1 5 rfl (by kernel_rfl)
  obtain ⟨n2, y2, h2, k2⟩ := trod_part Tryz.underlying26 h1 2 9 2 1 rfl (by kernel_rfl)
  have h3 := trod_str Tryz.underlying9 (s := s) h2
  show s.size ≤ _
  omega
set_option maxRecDepth 100000 in
theorem rd_argsb {r : Reach} {b0 : Nat} {v : Value} {d : DataW H} {ps : List MemPlace} (hval : Value.okWide Tryz.prog w r b0 22 v) (h : DataW.Trod enc Tryz.prog w 0 sp held 22 v d ps) : ∃ (A : Option Addr) (l : List AL) (cap : Nat), v = .slice A l.length cap ∧ RdB w w.heap.size A 11 (l.map AL.cs) ∧ (∀ x ∈ l, x.In w w.heap.size) ∧ l.length ≤ Rows.uptoBulk d ∧ (∀ x ∈ l, x.v.s.size ≤ Rows.uptoBulk d) ∧ l.length ≤ cap ∧ cap ≤ maxLen ∧ (A = none → l.length = 0 ∧ cap = 0) := by
  obtain ⟨fuel, hf⟩ := h
  obtain ⟨A0, n0, c0, rfl⟩ := okWide_slice Tryz.underlying22 hval
  obtain ⟨A, l, cap, e0, h1, h2, h4, h6, h7⟩ := rd_sliceQ 11 (by omega) AL.cs (fun x d => x.In w w.heap.size ∧ x.v.s.size ≤ Rows.uptoBulk d) (fun _ => rfl) Tryz.underlying22 (by kernel_rfl) (fun n us z hz => by obtain ⟨x, a, b, c⟩ := rd_argb n us z hz; exact ⟨x, a, b, c⟩) (y := (d, ps)) (by simpa [Value.cells] using hf)
  refine ⟨A, l, cap, e0, h4, ?_⟩
  rcases h6 with rfl | ⟨es, sr, he, hl, hm⟩
  · exact ⟨fun n hn => (by cases hn), Nat.zero_le _, fun n hn => (by cases hn), h1, h2, h7⟩
  · have e1 : Rows.uptoBulkAll es ≤ Rows.uptoBulk d := by
      change d = _ at he
      rw [he]; simp only [Rows.uptoBulk]; omega
    have e2 := bulk_len es
    refine ⟨fun n hn => ?_, by omega, fun n hn => ?_, h1, h2, h7⟩
    · obtain ⟨_, _, h9⟩ := hm n hn; exact h9.1
    · obtain ⟨d', hd, h9⟩ := hm n hn
      have := bulk_mem hd
      omega
theorem small_form {d : DataW H} {l : List (DataW H)} (hk : Rows.uptoSmall H l = true) (hd : d ∈ l) : Rows.uptoBulk d ≤ 1048576 := Nat.le_trans (bulk_mem hd) (of_decide_eq_true hk)
end
end Go.Proofs.YtgmhifafbebjfaaGreatDoor
