/-
 oriellaw10.AggsCalls; What the bound on an input's bulk gives; arguments that came in, with their bulk; arguments that came in, with their bulk and their entries'; The law AggsCalls returns true for every input of bulk at most 1048576; the listed variables of the library are as the program's text lays them (the card ties that).
-/
import Derived.Test.YtgmhifafbebjfaaGreatDoorR10N
import Derived.Deep.DeepWitnessRowRef
set_option maxRecDepth 100000
set_option maxHeartbeats 32000000
namespace Go.Proofs.YtgmhifafbebjfaaGreatDoor
open Go.RowKit

theorem walk_AggsCalls (name : ByteArray) (hs : name.size ≤ 9223372036854775807) (l : List AL) (hlen : l.length ≤ 1048576) (hsz : ∀ x ∈ l, x.v.s.size ≤ 1048576 ∧ ∀ e ∈ x.es, e.v.s.size ≤ 1048576) (text : Int) (w : World) (ht : Tab w) (A : Option Addr) (cap : Nat) (hcap : l.length ≤ cap) (hR : RdB w w.heap.size A 11 (l.map AL.cs)) (hin : ∀ x ∈ l, x.In w w.heap.size) :
  Calls Tryz.prog 4 #[.string name, .slice A l.length cap, .int .i64 text] w fun e w' => e = .returned (.bool true) ∧ Below w.heap.size w w' := by
 obtain ⟨r, hF⟩ : ∃ r, takesA name (l.map fun x => x.many) = true → l.all argMay = true → (∀ x ∈ l, ¬ x.v.t = 4) → FormG text name l r := by
  by_cases h : takesA name (l.map fun x => x.many) = true ∧ l.all argMay = true ∧ (∀ x ∈ l, ¬ x.v.t = 4)
  ·obtain ⟨r, hr⟩ := aform_of text h.1 h.2.1 h.2.2 (fun x hx => (hin x hx).1) hsz
   exact ⟨r, fun _ _ _ => hr⟩
  ·exact ⟨errL 8, fun h1 h2 h3 => absurd ⟨h1, h2, h3⟩ h⟩
 have C2 : ∀ w2 : World, Below w.heap.size w w2 → Calls Tryz.prog 9 #[.string name, .slice A l.length cap, .int .i64 text] w2 fun e w' => e = .returned (.agg #[.int .i64 ((callA name l text r)).t, .int .i64 ((callA name l text r)).n, .string ((callA name l text r)).s, .bool ((callA name l text r)).b, .int .i64 ((callA name l text r)).c]) ∧ Below w2.heap.size w2 w' := fun w2 hb =>
  r10call_any name l (by omega) text r (fun _ => hF) w2 A cap hcap ((hR.below hb).mono hb.size) (fun x hx => ((hin x hx).below hb).mono hb.size)
 have C1 : Calls Tryz.prog 8 #[.string name, .slice A l.length cap, .int .i64 text] w fun e w' => e = .returned (.agg #[.int .i64 ((callA name l text r)).t, .int .i64 ((callA name l text r)).n, .string ((callA name l text r)).s, .bool ((callA name l text r)).b, .int .i64 ((callA name l text r)).c]) ∧ Below w.heap.size w w' := by
  by_cases h0 : text < 0 ∨ 1024 < text
  ·exact acall_bad name hs l (by omega) text h0 r w A cap
  ·exact acall_any name hs l (by omega) text (by omega) r (mays_any l) (fun h1 h2 h3 => doa_all (by omega) (hF h1 h2 h3)) w ht A cap hcap hR hin
 have CK := fun (w2 : World) (hb : Below w.heap.size w w2) => akn_any w2 (Tab.below ht hb)
 generalize callA name l text r = V at C1 C2
 obtain ⟨vt, vn, vs, vb, vc⟩ := V
 have C1' := Lib.hid C1
 have C2' := Lib.hid C2
 have hvs := vEq_self_a vt vn vs vb vc
 clear C1 C2 hR hin hF ht hsz
 go_enter Tryz.func4, Tryz.ntmps4
 go_wp2_with fail
 refine C1'.out.mono ?_
 rintro e w1 ⟨rfl, hb1⟩
 go_wp2_with fail
 refine (C2'.out _ hb1).mono ?_
 rintro e w2 ⟨rfl, hb2⟩
 have g2 : Below w.heap.size w w2 := hb1.trans (hb2.mono hb1.size)
 have CK2 := CK w2 g2
 clear CK
 go_wp2_with fail
 refine CK2.mono ?_
 rintro e w3 ⟨rfl, hb3⟩
 go_wp2
 go_ret
 exact ⟨rfl, g2.trans (hb3.mono g2.size)⟩
end Go.Proofs.YtgmhifafbebjfaaGreatDoor
namespace Go.Proofs.YtgmhifafbebjfaaGreatDoor

theorem bulk_one {H : Type} (d : DataW H) : 1 ≤ Rows.uptoBulk d := by
 cases d with
 | lit l => cases l <;> simp [Rows.uptoBulk]
 | _ => simp [Rows.uptoBulk]
theorem bulk_mem {H : Type} {d : DataW H} : ∀ {l : List (DataW H)}, d ∈ l → Rows.uptoBulk d ≤ Rows.uptoBulkAll l
 |
  x :: r, h => by
  simp only [Rows.uptoBulkAll]
  rcases List.mem_cons.1 h with rfl | h
  ·omega
  ·have := bulk_mem h; omega
theorem bulk_len {H : Type} : ∀ (l : List (DataW H)), l.length ≤ Rows.uptoBulkAll l
 | [] => Nat.zero_le _
 |
  x :: r => by
  have := bulk_one x
  have := bulk_len r
  simp only [Rows.uptoBulkAll, List.length_cons]; omega
end Go.Proofs.YtgmhifafbebjfaaGreatDoor
namespace Go.Proofs.YtgmhifafbebjfaaGreatDoor
open Go.RowKit Go.ChangeShapes Go.WideShapes Go.Deep

theorem bulk_memA {H : Type} {d : DataW H} {l : List (DataW H)} (h : d ∈ l) : Rows.uptoBulk d ≤ Rows.uptoBulk (.agg l) := by
 have := bulk_mem h
 simp only [Rows.uptoBulk]; omega
section
variable {H : Type} {enc : TypeId × Value → H} {w : World} {sp : Nat → Bool} {held : Bool}
theorem trod_part {P : Program} {t : TypeId} {fs : Array Field} {fuel : Nat} {cs : List Value} {x : DataW H × List MemPlace} (ht : P.underlying t = some (.struct fs)) (h : DataW.trod enc P w 0 sp held fuel t cs = some x) (i : Nat) (ft : TypeId) (off c : Nat) (hf : (fs[i]?).map (fun f => (f.type, f.offset)) = some (ft, off)) (hc : P.cellsOf ft = c) : ∃ n y, DataW.trod enc P w 0 sp held n ft ((cs.drop off).take c) = some y ∧ Rows.uptoBulk y.1 ≤ Rows.uptoBulk x.1 := by
 obtain ⟨xs, n, _, hx, _, hl, hi⟩ := DataW.trod_struct ht h
 obtain ⟨f, hf1, hf2⟩ := Option.map_eq_some_iff.1 hf
 injection hf2 with e1 e2
 subst e1; subst e2; subst hc
 have h1 := hi i f hf1
 have hlt : i < xs.length := by rw [hl]; exact (Array.getElem?_eq_some_iff.1 hf1).1
 rw [List.getElem?_eq_getElem hlt] at h1
 refine ⟨n, _, h1, ?_⟩
 rw [hx]
 exact bulk_memA (List.mem_map.2 ⟨_, List.getElem_mem hlt, rfl⟩)
theorem trod_str {P : Program} {t : TypeId} {fuel : Nat} {s : ByteArray} {y : DataW H × List MemPlace} (ht : P.underlying t = some .string) (h : DataW.trod enc P w 0 sp held fuel t [.string s] = some y) : s.size ≤ Rows.uptoBulk y.1 := by
 cases fuel with
 | zero => simp [DataW.trod] at h
 |
  succ n =>
  simp only [DataW.trod, ht] at h
  split at h
  ·cases h
   simp only [Rows.uptoBulk]
   have e : s.data.toList.length = s.size := by rw [Array.length_toList]; rfl
   omega
  ·cases h
theorem rd_sliceQ {P : Program} {α : Type} (k : Nat) (hk : 0 < k) (cs : α → List Value) (p : α → DataW H → Prop) (hcs : ∀ x, (cs x).length = k) {t e : TypeId} {v : Value} {fuel : Nat} {y : DataW H × List MemPlace} (ht : P.underlying t = some (.slice e)) (hc : P.cellsOf e = k)
  (he : ∀ (n : Nat) (us : List Value) (z : DataW H × List MemPlace), DataW.trod enc P w 0 sp held n e us = some z → ∃ x : α, us = cs x ∧ p x z.1)
  (h : DataW.trod enc P w 0 sp held fuel t [v] = some y) : ∃ (A : Option Addr) (l : List α) (cap : Nat), v = .slice A l.length cap ∧ l.length ≤ cap ∧ cap ≤ maxLen ∧ RdB w w.heap.size A k (l.map cs) ∧ (l = [] ∨ ∃ es sr, y.1 = .slice es sr ∧ es.length = l.length ∧ ∀ x ∈ l, ∃ d ∈ es, p x d) ∧ (A = none → l.length = 0 ∧ cap = 0) := by
 rcases Go.Deep.open_slice ht h with ⟨h0, _⟩ | ⟨a, len, cap, m, n', D, Pl, h0, hb, hl, hm, hmm, hx, hi⟩
 ·have h1 : v = .slice none 0 0 := by simpa using h0
  subst h1
  exact ⟨none, [], 0, rfl, Nat.le_refl _, Nat.zero_le _, fun i c hi => by simp at hi, .inl rfl, fun _ => ⟨rfl, rfl⟩⟩
 ·have h1 : v = .slice (some a) len cap := by simpa using h0
  subst h1
  rw [hc] at hi
  have hlm : len ≤ m := by rw [hmm]; split <;> omega
  have hch : ∀ i, i < len → ∃ x : α, p x (D i) ∧ ∀ j, j < k → w.cell? ((a.add (i * k)).add j) = (cs x)[j]? := fun i hlt => by
   obtain ⟨cs', hcells, htr⟩ := hi i (by omega)
   obtain ⟨x, rfl, hp⟩ := he _ _ _ htr
   obtain ⟨_, _, hat⟩ := World.cells?_some hcells
   exact ⟨x, hp, hat⟩
  obtain ⟨X, hX⟩ : ∃ X : (i : Nat) → i < len → α, ∀ i (h : i < len), p (X i h) (D i) ∧ ∀ j, j < k → w.cell? ((a.add (i * k)).add j) = (cs (X i h))[j]? := ⟨fun i h => (hch i h).choose, fun i h => (hch i h).choose_spec⟩
  have hlen : ((List.finRange len).map fun i => X i.1 i.2).length = len := by simp
  refine ⟨some a, (List.finRange len).map fun i => X i.1 i.2, cap, by rw [hlen], by rw [hlen]; exact hl, hm, ?_, .inr ?_, fun e => by cases e⟩
  ·intro i c hic
   rw [List.getElem?_map] at hic
   have hlt : i < len := by
    rcases Nat.lt_or_ge i len with h | h
    ·exact h
    ·rw [List.getElem?_eq_none (by rw [hlen]; exact h)] at hic; cases hic
   rw [List.getElem?_eq_getElem (by rw [hlen]; exact hlt)] at hic
   simp at hic
   subst hic
   have h00 := (hX 0 (by omega)).2 0 hk
   rw [List.getElem?_eq_getElem (by rw [hcs]; exact hk)] at h00
   have hspot : a.spot = none := by simpa [Addr.add] using World.cell?_spot h00
   obtain ⟨b, o, sp'⟩ := a
   simp only at hspot
   subst hspot
   have hat : ∀ j, ((⟨b, o, none⟩ : Addr).add (i * k)).add j = ⟨b, o + i * k + j, none⟩ := fun j => by
    rw [Go.Deep.add_add]; unfold Addr.add
    split
    ·rename_i h; simp only [Addr.mk.injEq, true_and, and_true]; omega
    ·simp only [Addr.mk.injEq, true_and, and_true]; omega
   refine ⟨b, o, rfl, ?_, fun j u hj => ?_⟩
   ·have h1 := (hX i hlt).2 0 hk
    rw [hat 0, List.getElem?_eq_getElem (by rw [hcs]; exact hk)] at h1
    exact cellLt h1
   ·have hjk : j < k := by rw [← hcs (X i hlt)]; exact (List.getElem?_eq_some_iff.1 hj).1
    rw [← hat j, (hX i hlt).2 j hjk]; exact hj
  ·exact ⟨(List.range len).map D, (List.range (m - len)).map fun j => D (len + j), by rw [hx], by simp, fun x hx' => by
    obtain ⟨i, _, rfl⟩ := List.mem_map.1 hx'
    exact ⟨D i.1, List.mem_map.2 ⟨i.1, List.mem_range.2 i.2, rfl⟩, (hX i.1 i.2).1⟩⟩
theorem small_form {d : DataW H} {l : List (DataW H)} (hk : Rows.uptoSmall H l = true) (hd : d ∈ l) : Rows.uptoBulk d ≤ 1048576 := Nat.le_trans (bulk_mem hd) (of_decide_eq_true hk)
end
end Go.Proofs.YtgmhifafbebjfaaGreatDoor
namespace Go.Proofs.YtgmhifafbebjfaaGreatDoor
open Go.RowKit Go.ChangeShapes Go.WideShapes Go.Deep

section
variable {H : Type} {enc : TypeId × Value → H} {w : World} {sp : Nat → Bool} {held : Bool}
theorem rd_entb (fuel : Nat) (us : List Value) (z : DataW H × List MemPlace) (h : DataW.trod enc Tryz.prog w 0 sp held fuel 99 us = some z) : ∃ x : EL, us = x.cs ∧ (x.v.ok ∧ x.v.s.size ≤ Rows.uptoBulk z.1) := by
 obtain ⟨x, rfl, hx⟩ := rd_ent fuel us z h
 obtain ⟨n1, y1, h1, k1⟩ := trod_part Tryz.underlying99 h 1 26 2 5 rfl (by kernel_rfl)
 obtain ⟨n2, y2, h2, k2⟩ := trod_part Tryz.underlying26 h1 2 9 2 1 rfl (by kernel_rfl)
 have h3 := trod_str Tryz.underlying9 (s := x.v.s) h2
 exact ⟨x, rfl, hx, by omega⟩
theorem rd_arge (fuel : Nat) (us : List Value) (z : DataW H × List MemPlace) (h : DataW.trod enc Tryz.prog w 0 sp held fuel 36 us = some z) : ∃ x : AL, us = x.cs ∧ x.In w w.heap.size ∧ x.v.s.size ≤ Rows.uptoBulk z.1 ∧ ∀ e ∈ x.es, e.v.s.size ≤ Rows.uptoBulk z.1 := by
 have g := readsAll_of_trod 6 36 [4, 23, 2, 9, 4, 24, 3, 3, 3, 3, 34] fuel us z (by kernel_rfl) h
 obtain ⟨_, _, rfl, g0, _, _, rfl, g1, _, _, rfl, g2, _, _, rfl, g3, _, _, rfl, g4, _, _, rfl, g5, _, _, rfl, g6, _, _, rfl, g7, _, _, rfl, g8, _, _, rfl, g9, _, _, rfl, g10, rfl⟩ := g
 obtain ⟨m, rfl⟩ := Reads1.bool Tryz.underlying4 g0
 obtain ⟨t, rfl, b_t⟩ := Reads1.i64 Tryz.underlying23 g1
 obtain ⟨n, rfl, b_n⟩ := Reads1.i64 Tryz.underlying2 g2
 obtain ⟨s, rfl, b_s⟩ := Reads1.string Tryz.underlying9 g3
 obtain ⟨b, rfl⟩ := Reads1.bool Tryz.underlying4 g4
 obtain ⟨c, rfl, b_c⟩ := Reads1.i64 Tryz.underlying24 g5
 obtain ⟨rt, rfl, b_rt⟩ := Reads1.i64 Tryz.underlying3 g6
 obtain ⟨rl, rfl, b_rl⟩ := Reads1.i64 Tryz.underlying3 g7
 obtain ⟨rb, rfl, b_rb⟩ := Reads1.i64 Tryz.underlying3 g8
 obtain ⟨rr, rfl, b_rr⟩ := Reads1.i64 Tryz.underlying3 g9
 obtain ⟨n3, y3, h3, k3⟩ := trod_part Tryz.underlying36 h 3 34 10 1 rfl (by kernel_rfl)
 obtain ⟨f10, y10, g10⟩ := g10
 obtain ⟨E0, l0, cap0, rfl, _, _, _, _, _, _⟩ := rd_sliceK 7 (by omega) EL.cs (fun x => x.v.ok) (fun _ => rfl) Tryz.underlying34 (by kernel_rfl) rd_ent g10
 obtain ⟨E, l, cap, e9, hl, hcap, hR, hq, _⟩ := rd_sliceQ 7 (by omega) EL.cs (fun x d => x.v.ok ∧ x.v.s.size ≤ Rows.uptoBulk d) (fun _ => rfl) Tryz.underlying34 (by kernel_rfl) rd_entb (v := .slice E0 l0.length cap0) (y := y3) h3
 rw [e9]
 have hp : ∀ e ∈ l, e.v.ok ∧ e.v.s.size ≤ Rows.uptoBulk y3.1 := by
  rcases hq with rfl | ⟨es, sr, he, _, hm⟩
  ·intro e he; cases he
  ·intro e hE
   obtain ⟨d, hd, h8⟩ := hm e hE
   have h7 := bulk_mem hd
   rw [he]
   refine ⟨h8.1, ?_⟩
   simp only [Rows.uptoBulk]
   omega
 unfold maxLen at hcap
 refine ⟨⟨m, ⟨t, n, s, b, c⟩, rt, rl, rb, rr, E, cap, l⟩, rfl, ⟨b_n, hR, fun e he => (hp e he).1, by show l.length ≤ _; omega⟩, ?_, fun e he => Nat.le_trans (hp e he).2 k3⟩
 obtain ⟨n1, y1, h1, k1⟩ := trod_part Tryz.underlying36 h 1 26 1 5 rfl (by kernel_rfl)
 obtain ⟨n2, y2, h2, k2⟩ := trod_part Tryz.underlying26 h1 2 9 2 1 rfl (by kernel_rfl)
 have h3 := trod_str Tryz.underlying9 (s := s) h2
 show s.size ≤ _
 omega
theorem rd_argse {r : Reach} {b0 : Nat} {v : Value} {d : DataW H} {ps : List MemPlace} (hval : Value.okWide Tryz.prog w r b0 22 v) (h : DataW.Trod enc Tryz.prog w 0 sp held 22 v d ps) : ∃ (A : Option Addr) (l : List AL) (cap : Nat), v = .slice A l.length cap ∧ RdB w w.heap.size A 11 (l.map AL.cs) ∧ (∀ x ∈ l, x.In w w.heap.size) ∧ l.length ≤ Rows.uptoBulk d ∧ (∀ x ∈ l, x.v.s.size ≤ Rows.uptoBulk d ∧ ∀ e ∈ x.es, e.v.s.size ≤ Rows.uptoBulk d) ∧ l.length ≤ cap ∧ cap ≤ maxLen ∧ (A = none → l.length = 0 ∧ cap = 0) := by
 obtain ⟨fuel, hf⟩ := h
 obtain ⟨A0, n0, c0, rfl⟩ := okWide_slice Tryz.underlying22 hval
 obtain ⟨A, l, cap, e0, h1, h2, h4, h6, h7⟩ := rd_sliceQ 11 (by omega) AL.cs (fun x d => x.In w w.heap.size ∧ x.v.s.size ≤ Rows.uptoBulk d ∧ ∀ e ∈ x.es, e.v.s.size ≤ Rows.uptoBulk d) (fun _ => rfl) Tryz.underlying22 (by kernel_rfl) (fun n us z hz => by obtain ⟨x, a, b, c⟩ := rd_arge n us z hz; exact ⟨x, a, b, c⟩) (y := (d, ps)) (by simpa [Value.cells] using hf)
 refine ⟨A, l, cap, e0, h4, ?_⟩
 rcases h6 with rfl | ⟨es, sr, he, hl, hm⟩
 ·exact ⟨fun n hn => (by cases hn), Nat.zero_le _, fun n hn => (by cases hn), h1, h2, h7⟩
 ·have e1 : Rows.uptoBulkAll es ≤ Rows.uptoBulk d := by
   change d = _ at he
   rw [he]; simp only [Rows.uptoBulk]; omega
  have e2 := bulk_len es
  refine ⟨fun n hn => ?_, by omega, fun n hn => ?_, h1, h2, h7⟩
  ·obtain ⟨_, _, h9⟩ := hm n hn; exact h9.1
  ·obtain ⟨d', hd, h9⟩ := hm n hn
   have h7 := bulk_mem hd
   exact ⟨by omega, fun e he => by have := h9.2.2 e he; omega⟩
end
end Go.Proofs.YtgmhifafbebjfaaGreatDoor
namespace Go.Proofs.YtgmhifafbebjfaaGreatDoor
open Go.ChangeShapes Go.WideShapes Go.ChangeAt Go.RowKit
open Go.ChangeMaps (open_string)

theorem contract_AggsCalls (H : Type) (enc : TypeId × Value → H) (W : World) (base : Nat) (args : Array Value) (ds gs : List (DataW H)) (before : List MemPlace)
  (hval : ∀ (j : Nat) t v, Tryz.f4.params[j]? = some t → args[j]? = some v → Value.okWide Tryz.prog W .any base t v)
  (hW : DataW.Whole enc Tryz.prog Tryz.f4.params.toList Rows.aggsCallsSpec.vars false W args.toList ds gs before)
  (ht : Tab W)
  (hk : Rows.uptoSmall H (ds ++ gs) = true) :
  Calls Tryz.prog 4 args W fun e W' => ∃ v, e = .returned v ∧ Rows.aggsCallsSpec.post enc Tryz.prog Tryz.f4 false true false false W args v W' := by
 have hW' := hW
 obtain ⟨p, q, hA0, hV, rfl, hfz, hnd⟩ := hW
 have hA : DataW.TrodAll enc Tryz.prog W 0 (fun _ => true) true Tryz.f4.params.toList args.toList ds p := hA0
 rw [Tryz.params4] at hA hval
 obtain ⟨v0, vs0, d0, ds0, p0, q0, hargs, rfl, rfl, h0, r0⟩ := trodAll_cons hA
 obtain ⟨v1, vs1, d1, ds1, p1, q1, rfl, rfl, rfl, h1, r1⟩ := trodAll_cons r0
 obtain ⟨v2, vs2, d2, ds2, p2, q2, rfl, rfl, rfl, h2, r2⟩ := trodAll_cons r1
 obtain ⟨rfl, rfl, rfl⟩ := trodAll_nil r2
 obtain rfl : args = #[v0, v1, v2] := by cases args; simp_all
 obtain ⟨a0, rfl, rfl, rfl, w0⟩ := open_string Tryz.underlying9 (hval 0 9 v0 rfl rfl) h0
 obtain ⟨A1, l1, cap1, rfl, hR1, hP1, hlb1, hsb1, hlc1, hcm1, hN1⟩ := rd_argse (hval 1 22 v1 rfl rfl) h1
 obtain ⟨a2, rfl, rfl, rfl, w2⟩ := open_int Tryz.underlying3 (hval 2 3 v2 rfl rfl) h2
 have b2 := bounds_i64 w2
 have y1 := small_form hk (d := d1) (List.mem_append_left _ (by simp))
 refine (walk_AggsCalls a0 (by unfold maxLen at w0; omega) l1 (by omega) (fun x hx => ⟨Nat.le_trans (hsb1 x hx).1 y1, fun e he => Nat.le_trans ((hsb1 x hx).2 e he) y1⟩) a2 W ht A1 cap1 hlc1 hR1 hP1).mono fun e W' ⟨he, hb⟩ => ⟨_, he, ?_⟩
 exact law_post laidOut Tryz.underlying4 (by kernel_rfl) rfl (fun ds hd => by
  rw [Tryz.params4] at hd
  match ds, hd with
  | [_, _, _], _ => rfl) (by kernel_rfl) hW' hb

def wArgs_AggsCalls : Array Value := #[.string ⟨#[]⟩, .slice none 0 0, .int .i64 0]
theorem laid_met_AggsCalls (os : Os) : laidMet Tryz.prog Rows.aggsCallsUptoRow.laid ((laidWorldD os).forCall (fun _ _ => 0) ⟨#[], wArgs_AggsCalls, []⟩).memory :=
 laidMet_of_run' 8 (by kernel_rfl) (by kernel_rfl)
theorem reads_AggsCalls (os : Os) {H : Type} (enc : TypeId × Value → H) : ∃ places, DataW.whole enc Tryz.prog ((laidWorldD os).forCall (fun _ _ => 0) ⟨#[], wArgs_AggsCalls, []⟩).memory Tryz.f4.params.toList Rows.aggsCallsSpec.vars false wArgs_AggsCalls.toList 8 = some ([.lit (.string []), .nil, .lit (.int .i64 0)], [], places) :=
 ⟨[], by kernel_rfl⟩

theorem wh1_AggsCalls (os : Os) : ((laidWorldD os).forCall (fun _ _ => 0) ⟨#[], wArgs_AggsCalls, []⟩).variablesRefB Tryz.checked.prog = true := by kernel_rfl
theorem wh2_AggsCalls (os : Os) : (((laidWorldD os).forCall (fun _ _ => 0) ⟨#[], wArgs_AggsCalls, []⟩).heap.toList.drop Tryz.checked.prog.globals.size).take ((begin Tryz.checked.prog (fun _ _ => 0) default).world.heap.size - Tryz.checked.prog.globals.size) =
   (begin Tryz.checked.prog (fun _ _ => 0) default).world.heap.toList.drop Tryz.checked.prog.globals.size := by kernel_rfl
theorem wh3_AggsCalls (os : Os) : Input.okWideB Tryz.checked.prog ((laidWorldD os).forCall (fun _ _ => 0) ⟨#[], wArgs_AggsCalls, []⟩) 4 ⟨#[], wArgs_AggsCalls, []⟩ = true := by kernel_rfl
theorem wcn_AggsCalls (places : List MemPlace) {H : Type} : Rows.aggsCallsUptoRow.domain.all (PathCond.test Tryz.prog ⟨Tryz.f4.params.toList, (([.lit (.string []), .nil, .lit (.int .i64 0)], [], places) : List (DataW H) × List (DataW H) × List MemPlace).1, (Rows.OpenSpec.upto Rows.aggsCallsSpec).bare.plain.varTypes Tryz.prog, []⟩) = true := by kernel_rfl
theorem wpre_AggsCalls (os : Os) {H : Type} (enc : TypeId × Value → H) : (Rows.OpenSpec.upto Rows.aggsCallsSpec).preRow enc Tryz.prog Tryz.f4 Rows.aggsCallsUptoRow.domain false Rows.aggsCallsUptoRow.laid ((laidWorldD os).forCall (fun _ _ => 0) ⟨#[], wArgs_AggsCalls, []⟩).memory wArgs_AggsCalls := by
 obtain ⟨places, hx⟩ := reads_AggsCalls os enc
 exact OpenSpec.preRow_of_cond 8 hx (wcn_AggsCalls places) (fun k hk => by cases hk; rfl) (by kernel_rfl) (laid_met_AggsCalls os)

theorem lifted_AggsCalls (os : Os) (started : os.Started) (H : Type) (enc : TypeId × Value → H) (F : Stop.Interp) :
  ReturnsInHanded {} Tryz.checked os 4 .any ((Rows.OpenSpec.upto Rows.aggsCallsSpec).preRow enc Tryz.prog Tryz.f4 Rows.aggsCallsUptoRow.domain false Rows.aggsCallsUptoRow.laid) (((Rows.OpenSpec.upto Rows.aggsCallsSpec).at F).post enc Tryz.prog Tryz.f4 false true false false) := by
 refine returnsInHanded_of_row (C := Tryz.checked) (s := Rows.OpenSpec.upto Rows.aggsCallsSpec) own started (by kernel_rfl) Tryz.func4
  (witness_row_atRef (enc := enc) (C := Tryz.checked) false (laidWorldD os) wArgs_AggsCalls rfl (wh1_AggsCalls os) (wh2_AggsCalls os) (wh3_AggsCalls os) (wpre_AggsCalls os enc)) ?_
 intro W base args ds gs before hval hW _ hcd _ hL hsh _
 exact contract_AggsCalls H enc W base args ds gs before hval hW (tab_ofD (laidMet_tailD (laidMet_tailD hL)) hsh) (hcd _ rfl)

theorem jf_AggsCalls : joinedFacts Tryz.pinned.checked.prog 4 Tryz.f4 (Rows.OpenSpec.upto Rows.aggsCallsSpec).bare Rows.aggsCallsUptoRow = true := by kernel_rfl
theorem said_AggsCalls : Rows.AggsCallsUptoSaid :=
 OpenClaim.holds_of_cond 4 Tryz.f4 rfl rfl rfl rfl rfl rfl rfl ⟨rfl, rfl, rfl, rfl, rfl⟩ rfl rfl rfl rfl rfl (by kernel_rfl) Tryz.func4 jf_AggsCalls
  (of_decide_eq_true (by kernel_rfl)) (by unfold Func.isWrapper; rw [if_neg (of_decide_eq_false (by kernel_rfl))]; exact ⟨rfl, rfl⟩)
  (fun os started H enc _ F => by rw [OpenClaim.pre_eq_preRow]; exact lifted_AggsCalls os started H enc F)

theorem plain_AggsCalls (f : FuncId) (fn : Func) (hf : Tryz.pinned.checked.prog.funcNamed "oriel/oriellaw10.AggsCalls" = some f) (hfn : Tryz.pinned.checked.prog.funcs[f]? = some fn) :
  true = Tryz.pinned.checked.prog.looks [] ∧ ∀ (j : Nat) t, fn.params[j]? = some t → Tryz.pinned.checked.prog.wantsStandIn t = false := by
 obtain rfl : f = 4 := Option.some.inj ((show Tryz.prog.funcNamed "oriel/oriellaw10.AggsCalls" = some 4 by kernel_rfl).symm.trans hf) |>.symm
 obtain rfl : fn = Tryz.f4 := (Option.some.inj (Tryz.func4.symm.trans hfn)).symm
 refine ⟨by kernel_rfl, fun j t ht => ?_⟩
 rw [Tryz.params4] at ht
 have hm : t = 9 ∨ t = 22 ∨ t = 3 := by simpa using Array.mem_of_getElem? ht
 rcases hm with rfl | rfl | rfl
 ·exact (show Tryz.prog.wantsStandIn 9 = false by kernel_rfl)
 ·exact (show Tryz.prog.wantsStandIn 22 = false by kernel_rfl)
 ·exact (show Tryz.prog.wantsStandIn 3 = false by kernel_rfl)

theorem card_AggsCalls : Rows.AggsCallsUptoCardSaid :=
 Claim7.holds_tied_plain_at .later [] _ _ _ _ said_AggsCalls (fun _ h => by cases h) (by kernel_rfl) (fun _ h => by cases h) aggsCallsUpto_row_tie rfl ⟨rfl, rfl⟩ (by kernel_rfl) rfl plain_AggsCalls (by kernel_rfl)
end Go.Proofs.YtgmhifafbebjfaaGreatDoor
