/-
  a formula that came in.
-/
import Derived.Test.YtfbkoieodflcpaaDoorRows
import Derived.Test.YtfbkoieodflcpaaDoorBase
import Derived.Test.YtfbkoieodflcpaaDoorRowB
import Derived.Test.YtfbkoieodflcpaaDoorRdK
import Derived.Test.YtfbkoieodflcpaaDoorMg4
import Derived.Test.YtfbkoieodflcpaaDoorProg
import Derived.Test.YtfbkoieodflcpaaDoorShelf
import Derived.Test.YtfbkoieodflcpaaDoorAddrC
import Derived.Test.YtfbkoieodflcpaaDoorNames
import Derived.Test.YtfbkoieodflcpaaDoorMg7
import Derived.Test.YtfbkoieodflcpaaDoorDecA
import Derived.Test.YtfbkoieodflcpaaDoorValA
import Derived.Test.YtfbkoieodflcpaaDoorValB
import Derived.Test.YtfbkoieodflcpaaDoorMg11
import Derived.Test.YtfbkoieodflcpaaDoorLexP
import Derived.Test.YtfbkoieodflcpaaDoorMapK
import Derived.Test.YtfbkoieodflcpaaDoorArgK
import Derived.Test.YtfbkoieodflcpaaDoorRefP
import Derived.Test.YtfbkoieodflcpaaDoorMg17
import Derived.Test.YtfbkoieodflcpaaDoorRefN
import Derived.Test.YtfbkoieodflcpaaDoorRefM
import Derived.Test.YtfbkoieodflcpaaDoorRefY
import Derived.Test.YtfbkoieodflcpaaDoorRefQ
import Derived.Test.YtfbkoieodflcpaaDoorRefZ
import Derived.Test.YtfbkoieodflcpaaDoorBulk
import Derived.WalkSpells
import Derived.WalkLawsBesides
import Derived.StillTactics
import Derived.Laws.Pointers
import Derived.Deep.RegionHeld3
import Derived.Deep.QuietTactic
import Derived.BigQuiet
import Derived.RowKit3
import Derived.Lib.Hide
import Derived.Lib.OthersKept
import Derived.OwnWalk
import Derived.Lib.IndexLaws
import Derived.Lib.ItoaMem
import Derived.WalkKit
import Derived.ProofKit
import Derived.OpenShut
import Derived.Carry
import Derived.ChangeSame
import Derived.Deep.Draws
import Derived.Deep.Slices
import Derived.ChangeSlices
import Derived.Lib.TrimByte
import Derived.Lib.SlTrimSet
import Derived.Lib.ParseIntB
import Derived.Shelf.Strings.Builder1
import Derived.Shelf.Strings.Builder2
import Derived.Shelf.Strings.Trim
import Derived.Shelf.Small.Utf8
import Derived.Shelf.Small.Strs
import Derived.Shelf.Strings.BuilderF
import Derived.Shelf.Strings.BuilderK
import Derived.Shelf.Strconv.Itoa0
import Derived.Shelf.Strconv.Itoa1
import Derived.Shelf.LaysM
import Derived.Shelf.Strconv.Itoa2
import Derived.Shelf.Strconv.Itoa3
import Derived.Shelf.Strings.Search1
import Derived.Shelf.Strings.Search2
import Derived.Shelf.Strings.Search3
import Derived.Shelf.Strings.Count
import Derived.Shelf.Strings.Shaped
import Derived.Shelf.Strings.Split
import Derived.Shelf.Strings.Replace
import Derived.Shelf.Strings.Runes
import Derived.Shelf.Strings.AsciiSet
import Derived.Shelf.Unicode.DecodeSlow
import Derived.Lib.ItoaNum
import Derived.Maps.OwnSet
import Derived.Maps.AppendAt
namespace Go.Proofs.YtfbkoieodflcpaaDoor
open Go.RowKit Go.ChangeShapes Go.WideShapes Go.Deep

theorem bulk_memA {H : Type} {d : DataW H} {l : List (DataW H)} (h : d ∈ l) : Rows.uptoBulk d ≤ Rows.uptoBulk (.agg l) := by
  have := bulk_mem h
  simp only [Rows.uptoBulk]; omega
section
variable {H : Type} {enc : TypeId × Value → H} {w : World} {sp : Nat → Bool} {held : Bool}
/-- a part of a struct that was read -/
theorem trod_part {P : Program} {t : TypeId} {fs : Array Field} {fuel : Nat} {cs : List Value} {x : DataW H × List MemPlace} (ht : P.underlying t = some (.struct fs)) (h : DataW.trod enc P w 0 sp held fuel t cs = some x) (i : Nat) (ft : TypeId) (off c : Nat) (hf : (fs[i]?).map (fun f => (f.type, f.offset)) = some (ft, off)) (hc : P.cellsOf ft = c) : ∃ n y, DataW.trod enc P w 0 sp held n ft ((cs.drop off).take c) = some y ∧ Rows.uptoBulk y.1 ≤ Rows.uptoBulk x.1 := by
  obtain ⟨xs, n, _, hx, _, hl, hi⟩ := DataW.trod_struct ht h
  obtain ⟨f, hf1, hf2⟩ := Option.map_eq_some_iff.1 hf
  injection hf2 with e1 e2
  subst e1; subst e2; subst hc
  have h1 := hi i f hf1
  have hlt : i < xs.length := by rw [hl]; exact (Array.getElem?_eq_some_iff.1 hf1).1
  rw [List.getElem?_eq_getElem hlt] at h1
  refine ⟨n, _, h1, ?_⟩
  rw [hx]
  exact bulk_memA (List.mem_map.2 ⟨_, List.getElem_mem hlt, rfl⟩)
theorem trod_str {P : Program} {t : TypeId} {fuel : Nat} {s : ByteArray} {y : DataW H × List MemPlace} (ht : P.underlying t = some .string) (h : DataW.trod enc P w 0 sp held fuel t [.string s] = some y) : s.size ≤ Rows.uptoBulk y.1 := by
  cases fuel with
  | zero => simp [DataW.trod] at h
  | succ n =>
    simp only [DataW.trod, ht] at h
    split at h
    · cases h
      simp only [Rows.uptoBulk]
      have e : s.data.toList.length = s.size := by rw [Array.length_toList]; rfl
      omega
    · cases h
theorem rd_node (fuel : Nat) (us : List Value) (z : DataW H × List MemPlace) (h : DataW.trod enc Tryd.prog w 0 sp held fuel 41 us = some z) : ∃ x : NL, us = x.cs ∧ x.ok ∧ x.v.s.size ≤ Rows.uptoBulk z.1 := by
  have g := readsAll_of_trod 6 41 [3, 32, 2, 9, 4, 33, 3, 3, 3, 3, 3, 3, 3, 9, 3] fuel us z (by kernel_rfl) h
  obtain ⟨_, _, rfl, g0, _, _, rfl, g1, _, _, rfl, g2, _, _, rfl, g3, _, _, rfl, g4, _, _, rfl, g5, _, _, rfl, g6, _, _, rfl, g7, _, _, rfl, g8, _, _, rfl, g9, _, _, rfl, g10, _, _, rfl, g11, _, _, rfl, g12, _, _, rfl, g13, _, _, rfl, g14, rfl⟩ := g
  obtain ⟨kind, rfl, b_kind⟩ := Reads1.i64 Tryd.underlying3 g0
  obtain ⟨t, rfl, b_t⟩ := Reads1.i64 Tryd.underlying32 g1
  obtain ⟨n, rfl, b_n⟩ := Reads1.i64 Tryd.underlying2 g2
  obtain ⟨s, rfl, b_s⟩ := Reads1.string Tryd.underlying9 g3
  obtain ⟨b, rfl⟩ := Reads1.bool Tryd.underlying4 g4
  obtain ⟨c, rfl, b_c⟩ := Reads1.i64 Tryd.underlying33 g5
  obtain ⟨r, rfl, b_r⟩ := Reads1.i64 Tryd.underlying3 g6
  obtain ⟨q1, rfl, b_q1⟩ := Reads1.i64 Tryd.underlying3 g7
  obtain ⟨tt, rfl, b_tt⟩ := Reads1.i64 Tryd.underlying3 g8
  obtain ⟨l, rfl, b_l⟩ := Reads1.i64 Tryd.underlying3 g9
  obtain ⟨bb, rfl, b_bb⟩ := Reads1.i64 Tryd.underlying3 g10
  obtain ⟨q, rfl, b_q⟩ := Reads1.i64 Tryd.underlying3 g11
  obtain ⟨op, rfl, b_op⟩ := Reads1.i64 Tryd.underlying3 g12
  obtain ⟨name, rfl, b_name⟩ := Reads1.string Tryd.underlying9 g13
  obtain ⟨args, rfl, b_args⟩ := Reads1.i64 Tryd.underlying3 g14
  refine ⟨⟨kind, ⟨t, n, s, b, c⟩, r, q1, tt, l, bb, q, op, name, args⟩, rfl, ⟨b_n, by unfold maxLen at b_name; exact b_name⟩, ?_⟩
  obtain ⟨n1, y1, h1, k1⟩ := trod_part Tryd.underlying41 h 1 35 1 5 rfl (by kernel_rfl)
  obtain ⟨n2, y2, h2, k2⟩ := trod_part Tryd.underlying35 h1 2 9 2 1 rfl (by kernel_rfl)
  have h3 := trod_str Tryd.underlying9 (s := s) h2
  show s.size ≤ _
  omega
/-- a slice of things of k cells, with what each one's reading is -/
theorem rd_sliceQ {P : Program} {α : Type} (k : Nat) (hk : 0 < k) (cs : α → List Value) (p : α → DataW H → Prop) (hcs : ∀ x, (cs x).length = k) {t e : TypeId} {v : Value} {fuel : Nat} {y : DataW H × List MemPlace} (ht : P.underlying t = some (.slice e)) (hc : P.cellsOf e = k)
    (he : ∀ (n : Nat) (us : List Value) (z : DataW H × List MemPlace), DataW.trod enc P w 0 sp held n e us = some z → ∃ x : α, us = cs x ∧ p x z.1)
    (h : DataW.trod enc P w 0 sp held fuel t [v] = some y) : ∃ (A : Option Addr) (l : List α) (cap : Nat), v = .slice A l.length cap ∧ l.length ≤ cap ∧ cap ≤ maxLen ∧ RdB w w.heap.size A k (l.map cs) ∧ (l = [] ∨ ∃ es sr, y.1 = .slice es sr ∧ es.length = l.length ∧ ∀ x ∈ l, ∃ d ∈ es, p x d) ∧ (A = none → l.length = 0 ∧ cap = 0) := by
  rcases Go.Deep.open_slice ht h with ⟨h0, _⟩ | ⟨a, len, cap, m, n', D, Pl, h0, hb, hl, hm, hmm, hx, hi⟩
  · have h1 : v = .slice none 0 0 := by simpa using h0
    subst h1
    exact ⟨none, [], 0, rfl, Nat.le_refl _, Nat.zero_le _, fun i c hi => by simp at hi, .inl rfl, fun _ => ⟨rfl, rfl⟩⟩
  · have h1 : v = .slice (some a) len cap := by simpa using h0
    subst h1
    rw [hc] at hi
    have hlm : len ≤ m := by rw [hmm]; split <;> omega
    have hch : ∀ i, i < len → ∃ x : α, p x (D i) ∧ ∀ j, j < k → w.cell? ((a.add (i * k)).add j) = (cs x)[j]? := fun i hlt => by
      obtain ⟨cs', hcells, htr⟩ := hi i (by omega)
      obtain ⟨x, rfl, hp⟩ := he _ _ _ htr
      obtain ⟨_, _, hat⟩ := World.cells?_some hcells
      exact ⟨x, hp, hat⟩
    obtain ⟨X, hX⟩ : ∃ X : (i : Nat) → i < len → α, ∀ i (h : i < len), p (X i h) (D i) ∧ ∀ j, j < k → w.cell? ((a.add (i * k)).add j) = (cs (X i h))[j]? := ⟨fun i h => (hch i h).choose, fun i h => (hch i h).choose_spec⟩
    have hlen : ((List.finRange len).map fun i => X i.1 i.2).length = len := by simp
    refine ⟨some a, (List.finRange len).map fun i => X i.1 i.2, cap, by rw [hlen], by rw [hlen]; exact hl, hm, ?_, .inr ?_, fun e => by cases e⟩
    · intro i c hic
      rw [List.getElem?_map] at hic
      have hlt : i < len := by
        rcases Nat.lt_or_ge i len with h | h
        · exact h
        · rw [List.getElem?_eq_none (by rw [hlen]; exact h)] at hic; cases hic
      rw [List.getElem?_eq_getElem (by rw [hlen]; exact hlt)] at hic
      simp at hic
      subst hic
      have h00 := (hX 0 (by omega)).2 0 hk
      rw [List.getElem?_eq_getElem (by rw [hcs]; exact hk)] at h00
      have hspot : a.spot = none := by simpa [Addr.add] using World.cell?_spot h00
      obtain ⟨b, o, sp'⟩ := a
      simp only at hspot
      subst hspot
      have hat : ∀ j, ((⟨b, o, none⟩ : Addr).add (i * k)).add j = ⟨b, o + i * k + j, none⟩ := fun j => by
        rw [Go.Deep.add_add]; unfold Addr.add
        split
        · rename_i h; simp only [Addr.mk.injEq, true_and, and_true]; omega
        · simp only [Addr.mk.injEq, true_and, and_true]; omega
      refine ⟨b, o, rfl, ?_, fun j u hj => ?_⟩
      · have h1 := (hX i hlt).2 0 hk
        rw [hat 0, List.getElem?_eq_getElem (by rw [hcs]; exact hk)] at h1
        exact cellLt h1
      · have hjk : j < k := by rw [← hcs (X i hlt)]; exact (List.getElem?_eq_some_iff.1 hj).1
        rw [← hat j, (hX i hlt).2 j hjk]; exact hj
    · exact ⟨(List.range len).map D, (List.range (m - len)).map fun j => D (len + j), by rw [hx], by simp, fun x hx' => by
        obtain ⟨i, _, rfl⟩ := List.mem_map.1 hx'
        exact ⟨D i.1, List.mem_map.2 ⟨i.1, List.mem_range.2 i.2, rfl⟩, (hX i.1 i.2).1⟩⟩
set_option maxRecDepth 100000 in
theorem rd_form {r : Reach} {b0 : Nat} {v : Value} {d : DataW H} {ps : List MemPlace} (hval : Value.okWide Tryd.prog w r b0 24 v) (h : DataW.Trod enc Tryd.prog w 0 sp held 24 v d ps) : ∃ (A : Option Addr) (l : List NL) (cap : Nat), v = .agg #[.slice A l.length cap] ∧ RdB w w.heap.size A 15 (l.map NL.cs) ∧ (∀ n ∈ l, n.ok) ∧ l.length ≤ Rows.uptoBulk d ∧ (∀ n ∈ l, n.v.s.size ≤ Rows.uptoBulk d) := by
  obtain ⟨fs, hfs⟩ : ∃ fs, Tryd.prog.underlying 24 = some (.struct fs) := ⟨_, Tryd.underlying24⟩
  obtain ⟨cs, rfl, _⟩ := okWide_struct hfs hval
  obtain ⟨fuel, hf⟩ := h
  have hg := readsAll_of_trod 6 24 [22] fuel cs.toList (d, ps) (by kernel_rfl) hf
  obtain ⟨u, rest, hcs, _, hr⟩ := hg
  obtain rfl : rest = [] := hr
  obtain ⟨n1, y1, h1, k1⟩ := trod_part Tryd.underlying24 hf 0 22 0 1 rfl (by kernel_rfl)
  change DataW.trod enc Tryd.prog w 0 sp held n1 22 (cs.toList.take 1) = some y1 at h1
  rw [hcs] at h1
  change DataW.trod enc Tryd.prog w 0 sp held n1 22 [u] = some y1 at h1
  obtain ⟨A, l, cap, rfl, _, _, h4, h6, _⟩ := rd_sliceQ 15 (by omega) NL.cs (fun x d => x.ok ∧ x.v.s.size ≤ Rows.uptoBulk d) (fun _ => rfl) Tryd.underlying22 (by kernel_rfl) (fun n us z hz => by obtain ⟨x, a, b, c⟩ := rd_node n us z hz; exact ⟨x, a, b, c⟩) h1
  refine ⟨A, l, cap, ?_, h4, ?_⟩
  · congr 1
    apply Array.toList_inj.1
    rw [hcs]
  · rcases h6 with rfl | ⟨es, sr, he, hl, hm⟩
    · exact ⟨fun n hn => (by cases hn), Nat.zero_le _, fun n hn => (by cases hn)⟩
    · have e1 : Rows.uptoBulkAll es ≤ Rows.uptoBulk y1.1 := by rw [he]; simp only [Rows.uptoBulk]; omega
      have e2 := bulk_len es
      refine ⟨fun n hn => ?_, ?_, fun n hn => ?_⟩
      · obtain ⟨_, _, h7⟩ := hm n hn; exact h7.1
      · show _ ≤ Rows.uptoBulk (d, ps).1
        omega
      · obtain ⟨d', hd, h7⟩ := hm n hn
        have := bulk_mem hd
        show _ ≤ Rows.uptoBulk (d, ps).1
        omega
theorem small_form {d : DataW H} {l : List (DataW H)} (hk : Rows.uptoSmall H l = true) (hd : d ∈ l) : Rows.uptoBulk d ≤ 1048576 := Nat.le_trans (bulk_mem hd) (of_decide_eq_true hk)
end
end Go.Proofs.YtfbkoieodflcpaaDoor
