/-
  oriellaw06.ParseReads; What the bound on an input's bulk gives; a formula that came in; functions that came in; The law ParseReads returns true for every input of bulk at most 1048576; the listed variables of the library are as the program's text lays them (the card ties that).
-/
import Derived.Test.YtiekhbagpmnboaaGreatDoorRows
import Derived.Test.YtiekhbagpmnboaaGreatDoorMg0
import Derived.Test.YtiekhbagpmnboaaGreatDoorMg6
import Derived.Test.YtiekhbagpmnboaaGreatDoorProg
import Derived.Test.YtiekhbagpmnboaaGreatDoorAddrC
import Derived.Test.YtiekhbagpmnboaaGreatDoorMg2
import Derived.Test.YtiekhbagpmnboaaGreatDoorMg26
import Derived.Test.YtiekhbagpmnboaaGreatDoorValA
import Derived.Test.YtiekhbagpmnboaaGreatDoorValB
import Derived.Test.YtiekhbagpmnboaaGreatDoorMg5
import Derived.Test.YtiekhbagpmnboaaGreatDoorMg27
import Derived.Test.YtiekhbagpmnboaaGreatDoorLexS
import Derived.Test.YtiekhbagpmnboaaGreatDoorMg7
import Derived.Test.YtiekhbagpmnboaaGreatDoorPaW
import Derived.Test.YtiekhbagpmnboaaGreatDoorMg9
import Derived.Test.YtiekhbagpmnboaaGreatDoorDrC
import Derived.Test.YtiekhbagpmnboaaGreatDoorMg11
import Derived.Test.YtiekhbagpmnboaaGreatDoorDrF
import Derived.Test.YtiekhbagpmnboaaGreatDoorDrH
import Derived.Test.YtiekhbagpmnboaaGreatDoorDrI
import Derived.Test.YtiekhbagpmnboaaGreatDoorMg15
import Derived.Test.YtiekhbagpmnboaaGreatDoorMg16
import Derived.Test.YtiekhbagpmnboaaGreatDoorDrO
import Derived.Test.YtiekhbagpmnboaaGreatDoorPaC
import Derived.Test.YtiekhbagpmnboaaGreatDoorPaK
import Derived.Test.YtiekhbagpmnboaaGreatDoorDrK
import Derived.Test.YtiekhbagpmnboaaGreatDoorDrG
import Derived.Test.YtiekhbagpmnboaaGreatDoorDrQ
import Derived.Test.YtiekhbagpmnboaaGreatDoorPaI
import Derived.Test.YtiekhbagpmnboaaGreatDoorPaQ
import Derived.Test.YtiekhbagpmnboaaGreatDoorPaE
import Derived.Test.YtiekhbagpmnboaaGreatDoorLexWd
import Derived.Test.YtiekhbagpmnboaaGreatDoorMg29
import Derived.Test.YtiekhbagpmnboaaGreatDoorDDig
import Derived.Test.YtiekhbagpmnboaaGreatDoorDParse
import Derived.Test.YtiekhbagpmnboaaGreatDoorLexF
import Derived.Test.YtiekhbagpmnboaaGreatDoorLexN
import Derived.Test.YtiekhbagpmnboaaGreatDoorRDPar
import Derived.Test.YtiekhbagpmnboaaGreatDoorRDParB
import Derived.Test.YtiekhbagpmnboaaGreatDoorRDJoin
import Derived.Test.YtiekhbagpmnboaaGreatDoorLexD
import Derived.Test.YtiekhbagpmnboaaGreatDoorLexB
import Derived.Test.YtiekhbagpmnboaaGreatDoorLexI
import Derived.Test.YtiekhbagpmnboaaGreatDoorPaO
import Derived.Test.YtiekhbagpmnboaaGreatDoorMg42
import Derived.Test.YtiekhbagpmnboaaGreatDoorPaS
import Derived.Test.YtiekhbagpmnboaaGreatDoorMg44
import Derived.Test.YtiekhbagpmnboaaGreatDoorLPSm
import Derived.Test.YtiekhbagpmnboaaGreatDoorLPOth
import Derived.Test.YtiekhbagpmnboaaGreatDoorLPBla
import Derived.Test.YtiekhbagpmnboaaGreatDoorDrR
import Derived.Test.YtiekhbagpmnboaaGreatDoorCards
import Derived.Test.YtiekhbagpmnboaaGreatDoorTie
import Derived.WalkKit
import Derived.ProofKit
import Derived.OpenShut
import Derived.Carry
import Derived.ChangeSame
import Derived.Lib.Hide
import Derived.Deep.Draws
import Derived.WalkSpells
import Derived.WalkLawsBesides
import Derived.StillTactics
import Derived.Laws.Pointers
import Derived.Deep.RegionHeld3
import Derived.Deep.QuietTactic
import Derived.BigQuiet
import Derived.RowKit3
import Derived.Lib.OthersKept
import Derived.OwnWalk
import Derived.Lib.IndexLaws
import Derived.Lib.ItoaMem
import Derived.Deep.Slices
import Derived.ChangeSlices
import Derived.Lib.TrimByte
import Derived.Lib.SlTrimSet
import Derived.Lib.ParseIntB
import Derived.Shelf.Strings.Builder1
import Derived.Shelf.Strings.Trim
import Derived.Shelf.Small.Utf8
import Derived.Shelf.Small.Strs
import Derived.Shelf.Small.Wraps
import Derived.Shelf.Strings.BuilderF
import Derived.Shelf.Strings.BuilderK
import Derived.Shelf.Strconv.Itoa0
import Derived.Shelf.Strconv.Itoa1
import Derived.Shelf.LaysM
import Derived.Shelf.Strconv.Itoa2
import Derived.Shelf.Strconv.Itoa3
import Derived.Ground.MpProg
import Derived.Shelf.Pu.ParseUintPublic10
import Derived.Shelf.Strings.Search1
import Derived.Shelf.Strings.Search2
import Derived.Shelf.Strings.Cut
import Derived.Shelf.Strings.Shaped
import Derived.Shelf.Strings.Prefix
import Derived.Shelf.Strings.Runes
import Derived.Shelf.Strings.AsciiSet
import Derived.Shelf.Unicode.DecodeSlow
import Derived.Lib.ItoaNum
import Derived.Maps.OwnSet
import Derived.Maps.AppendAt
import Derived.BigRegion
import Derived.Deep.RegionLaw
import Derived.Deep.AppendLies
import Derived.ScopeJumps
import Derived.WalkMore
import Derived.Deep.CutRange
import Derived.Shelf.Strings.SlTrimAscii
import Derived.Lib.SmallJoins
import Derived.RangeFuncBox
import Derived.RangeFuncNested
import Derived.RangeFuncLeaves
import Derived.Shelf.Abstract
import Derived.OwnWalkIn
import Derived.TacticsInMore
import Derived.LoopNIn
import Derived.LoopIn
import Derived.Maps.OwnIn
import Derived.Defers
import Derived.Recover
import Derived.Outline
import Derived.Laws.AppendOwnNone
import Derived.Laws.AppendOwn
import Derived.Deep.DeepHandedRow
import Derived.Deep.DeepWitnessRowRef
import Derived.Lib.LaidTab
import Derived.Shelf.Vars
namespace Go.Proofs.YtiekhbagpmnboaaGreatDoor
open Go.RowKit

set_option maxRecDepth 100000 in
set_option maxHeartbeats 4000000 in
theorem walk_ParseReads (l : List UInt8) (hl : l.length ≤ 1048576) (A : Option Addr) (fl : List FL) (cap : Nat) (w : World) (_ht : Tab w) (hT : FunsAt ⟨A, cap, fl⟩ w.heap.size w) : Calls Tryz.prog 4 #[.string ⟨l.toArray⟩, .slice A fl.length cap] w fun e w' => e = .returned (.bool true) ∧ Below w.heap.size w w' := by
  have CP := pun l (by omega) A fl cap w hT w (Below.refl _ _)
  have CD := fun (W : World) (hb : Below w.heap.size w W) => dparse l (by omega) A fl cap W ((hT.below hb).mono hb.size)
  have hns : (nsOf (parseT (tbOf fl) (lexL l))).length ≤ 1024 := by
    have hp := parse_law (tbOf fl) l
    cases hq : parseT (tbOf fl) (lexL l) with
    | ok s => rw [hq] at hp; exact (check_few hp).2
    | bad e a => simp [nsOf]
  generalize nsOf (parseT (tbOf fl) (lexL l)) = ns at *
  generalize erOf (parseT (tbOf fl) (lexL l)) = er at *
  generalize atOf (parseT (tbOf fl) (lexL l)) = at0 at *
  clear hT
  go_enter Tryz.func4, Tryz.ntmps4
  go_wp2_with fail
  refine CP.mono ?_
  rintro e w1 ⟨A1, cap1, rfl, hrd1, hb1, _⟩
  have hbA : Below w1.heap.size w1 (w1.alloc (.cells #[.slice A1 ns.length cap1] 39)) := (Below.refl _ _).alloc (Nat.le_refl _) _
  have hxA := heap_alloc_new w1 (.cells #[.slice A1 ns.length cap1] 39)
  have hB1 : Below w.heap.size w _ := hb1.trans (hbA.mono hb1.size)
  have CD1 := CD _ hB1
  have hzA : (w1.alloc (.cells #[.slice A1 ns.length cap1] 39)).heap.size = w1.heap.size + 1 := by simp
  clear CP CD hb1
  go_wp2_with fail
  refine CD1.mono ?_
  rintro e w2 ⟨A2, cap2, rfl, hrd2, hb2, _⟩
  have hz2 := hb2.size
  have hx2 := (hb2.block w1.heap.size (by omega)).trans hxA
  have hB12 : Below w1.heap.size w1 w2 := hbA.trans (hb2.mono (by omega))
  have hB2 : Below w.heap.size w w2 := hB1.trans (hb2.mono hB1.size)
  have hbB : Below w2.heap.size w2 (w2.alloc (.cells #[.slice A2 ns.length cap2] 39)) := (Below.refl _ _).alloc (Nat.le_refl _) _
  have hxB := heap_alloc_new w2 (.cells #[.slice A2 ns.length cap2] 39)
  have hzB : (w2.alloc (.cells #[.slice A2 ns.length cap2] 39)).heap.size = w2.heap.size + 1 := by simp
  have CN := pparse_nil ⟨l.toArray⟩ (w2.alloc (.cells #[.slice A2 ns.length cap2] 39))
  clear CD1 hxA hbA hB1 hb2
  go_wp2_with fail
  refine CN.mono ?_
  rintro e w3 ⟨rfl, hb3⟩
  have hz3 := hb3.size
  have hB23 : Below w2.heap.size w2 w3 := hbB.trans (hb3.mono (by omega))
  have hB13 : Below w1.heap.size w1 w3 := hB12.trans (hB23.mono hB12.size)
  have hB3 : Below w.heap.size w w3 := hB2.trans (hB23.mono hB2.size)
  have hx3 := (hB23.block w1.heap.size (by omega)).trans hx2
  have hy3 := (hb3.block w2.heap.size (by omega)).trans hxB
  have x1 : w3.cell? ⟨w1.heap.size, 0, none⟩ = some (.slice A1 ns.length cap1) := by rw [cell_of_row w3 w1.heap.size 0 _ _ _ hx3]; rfl
  have x2 : w3.cell? ⟨w2.heap.size, 0, none⟩ = some (.slice A2 ns.length cap2) := by rw [cell_of_row w3 w2.heap.size 0 _ _ _ hy3]; rfl
  have hl1 : w1.heap.size < w3.heap.size := by omega
  have hl2 : w2.heap.size < w3.heap.size := by omega
  have hbC : Below w3.heap.size w3 (w3.alloc (.cells #[.slice none 0 0] 39)) := (Below.refl _ _).alloc (Nat.le_refl _) _
  have hxC := heap_alloc_new w3 (.cells #[.slice none 0 0] 39)
  have hzC : (w3.alloc (.cells #[.slice none 0 0] 39)).heap.size = w3.heap.size + 1 := by simp
  have hr1 := (hrd1.below (hB13.trans (hbC.mono hB13.size))).mono (by omega : w1.heap.size ≤ (w3.alloc (.cells #[.slice none 0 0] 39)).heap.size)
  have hr2 := (hrd2.below (hB23.trans (hbC.mono hB23.size))).mono (by omega : w2.heap.size ≤ (w3.alloc (.cells #[.slice none 0 0] 39)).heap.size)
  have CS := lsame ns (by omega) _ A1 A2 cap1 cap2 hr1 hr2
  clear CN hrd1 hrd2 hx2 hxB hbB hB12 hB2 hb3 hB23 hB13 hx3 hy3 hr1 hr2
  go_wp2_with fail
  refine CS.mono ?_
  rintro e w4 ⟨rfl, hb4⟩
  have hz4 := hb4.size
  have hx4 := (hb4.block w3.heap.size (by omega)).trans hxC
  have x3 : w4.cell? ⟨w3.heap.size, 0, none⟩ = some (.slice none 0 0) := by rw [cell_of_row w4 w3.heap.size 0 _ _ _ hx4]; rfl
  have hl3 : w3.heap.size < w4.heap.size := by omega
  have hB4 : Below w.heap.size w w4 := hB3.trans ((hbC.trans (hb4.mono (by omega))).mono hB3.size)
  have CK := pknown w4
  have he : (er == er) = true := by simp
  have ha : (at0 == at0) = true := by simp
  clear CS hbC hxC hx4 hb4 hB3
  go_wp2_with fail
  refine CK.mono ?_
  rintro e w5 ⟨rfl, hb5⟩
  have hBf : Below w.heap.size w w5 := hB4.trans (hb5.mono hB4.size)
  clear CK hb5 hB4
  go_wp2
  go_ret
  exact ⟨rfl, hBf⟩
end Go.Proofs.YtiekhbagpmnboaaGreatDoor
namespace Go.Proofs.YtiekhbagpmnboaaGreatDoor

theorem bulk_one {H : Type} (d : DataW H) : 1 ≤ Rows.uptoBulk d := by
  cases d with
  | lit l => cases l <;> simp [Rows.uptoBulk]
  | _ => simp [Rows.uptoBulk]
theorem bulk_mem {H : Type} {d : DataW H} : ∀ {l : List (DataW H)}, d ∈ l → Rows.uptoBulk d ≤ Rows.uptoBulkAll l
  | x :: r, h => by
    simp only [Rows.uptoBulkAll]
    rcases List.mem_cons.1 h with rfl | h
    · omega
    · have := bulk_mem h; omega
theorem bulk_len {H : Type} : ∀ (l : List (DataW H)), l.length ≤ Rows.uptoBulkAll l
  | [] => Nat.zero_le _
  | x :: r => by
    have := bulk_one x
    have := bulk_len r
    simp only [Rows.uptoBulkAll, List.length_cons]; omega
theorem small_string {H : Type} {l : List (DataW H)} {s : ByteArray} (hk : Rows.uptoSmall H l = true) (hd : DataW.lit (.string s.data.toList) ∈ l) : s.size ≤ 1048576 := by
  have h : Rows.uptoBulkAll l ≤ 1048576 := of_decide_eq_true hk
  have h1 := bulk_mem hd
  simp only [Rows.uptoBulk] at h1
  have e : s.data.toList.length = s.size := by rw [Array.length_toList]; rfl
  omega
end Go.Proofs.YtiekhbagpmnboaaGreatDoor
namespace Go.Proofs.YtiekhbagpmnboaaGreatDoor
open Go.RowKit Go.ChangeShapes Go.WideShapes Go.Deep

theorem bulk_memA {H : Type} {d : DataW H} {l : List (DataW H)} (h : d ∈ l) : Rows.uptoBulk d ≤ Rows.uptoBulk (.agg l) := by
  have := bulk_mem h
  simp only [Rows.uptoBulk]; omega
section
variable {H : Type} {enc : TypeId × Value → H} {w : World} {sp : Nat → Bool} {held : Bool}
/-- a part of a struct that was read -/
theorem trod_part {P : Program} {t : TypeId} {fs : Array Field} {fuel : Nat} {cs : List Value} {x : DataW H × List MemPlace} (ht : P.underlying t = some (.struct fs)) (h : DataW.trod enc P w 0 sp held fuel t cs = some x) (i : Nat) (ft : TypeId) (off c : Nat) (hf : (fs[i]?).map (fun f => (f.type, f.offset)) = some (ft, off)) (hc : P.cellsOf ft = c) : ∃ n y, DataW.trod enc P w 0 sp held n ft ((cs.drop off).take c) = some y ∧ Rows.uptoBulk y.1 ≤ Rows.uptoBulk x.1 := by
  obtain ⟨xs, n, _, hx, _, hl, hi⟩ := DataW.trod_struct ht h
  obtain ⟨f, hf1, hf2⟩ := Option.map_eq_some_iff.1 hf
  injection hf2 with e1 e2
  subst e1; subst e2; subst hc
  have h1 := hi i f hf1
  have hlt : i < xs.length := by rw [hl]; exact (Array.getElem?_eq_some_iff.1 hf1).1
  rw [List.getElem?_eq_getElem hlt] at h1
  refine ⟨n, _, h1, ?_⟩
  rw [hx]
  exact bulk_memA (List.mem_map.2 ⟨_, List.getElem_mem hlt, rfl⟩)
theorem trod_str {P : Program} {t : TypeId} {fuel : Nat} {s : ByteArray} {y : DataW H × List MemPlace} (ht : P.underlying t = some .string) (h : DataW.trod enc P w 0 sp held fuel t [.string s] = some y) : s.size ≤ Rows.uptoBulk y.1 := by
  cases fuel with
  | zero => simp [DataW.trod] at h
  | succ n =>
    simp only [DataW.trod, ht] at h
    split at h
    · cases h
      simp only [Rows.uptoBulk]
      have e : s.data.toList.length = s.size := by rw [Array.length_toList]; rfl
      omega
    · cases h
/-- a slice of things of k cells, with what each one's reading is -/
theorem rd_sliceQ {P : Program} {α : Type} (k : Nat) (hk : 0 < k) (cs : α → List Value) (p : α → DataW H → Prop) (hcs : ∀ x, (cs x).length = k) {t e : TypeId} {v : Value} {fuel : Nat} {y : DataW H × List MemPlace} (ht : P.underlying t = some (.slice e)) (hc : P.cellsOf e = k)
    (he : ∀ (n : Nat) (us : List Value) (z : DataW H × List MemPlace), DataW.trod enc P w 0 sp held n e us = some z → ∃ x : α, us = cs x ∧ p x z.1)
    (h : DataW.trod enc P w 0 sp held fuel t [v] = some y) : ∃ (A : Option Addr) (l : List α) (cap : Nat), v = .slice A l.length cap ∧ l.length ≤ cap ∧ cap ≤ maxLen ∧ RdB w w.heap.size A k (l.map cs) ∧ (l = [] ∨ ∃ es sr, y.1 = .slice es sr ∧ es.length = l.length ∧ ∀ x ∈ l, ∃ d ∈ es, p x d) ∧ (A = none → l.length = 0 ∧ cap = 0) := by
  rcases Go.Deep.open_slice ht h with ⟨h0, _⟩ | ⟨a, len, cap, m, n', D, Pl, h0, hb, hl, hm, hmm, hx, hi⟩
  · have h1 : v = .slice none 0 0 := by simpa using h0
    subst h1
    exact ⟨none, [], 0, rfl, Nat.le_refl _, Nat.zero_le _, fun i c hi => by simp at hi, .inl rfl, fun _ => ⟨rfl, rfl⟩⟩
  · have h1 : v = .slice (some a) len cap := by simpa using h0
    subst h1
    rw [hc] at hi
    have hlm : len ≤ m := by rw [hmm]; split <;> omega
    have hch : ∀ i, i < len → ∃ x : α, p x (D i) ∧ ∀ j, j < k → w.cell? ((a.add (i * k)).add j) = (cs x)[j]? := fun i hlt => by
      obtain ⟨cs', hcells, htr⟩ := hi i (by omega)
      obtain ⟨x, rfl, hp⟩ := he _ _ _ htr
      obtain ⟨_, _, hat⟩ := World.cells?_some hcells
      exact ⟨x, hp, hat⟩
    obtain ⟨X, hX⟩ : ∃ X : (i : Nat) → i < len → α, ∀ i (h : i < len), p (X i h) (D i) ∧ ∀ j, j < k → w.cell? ((a.add (i * k)).add j) = (cs (X i h))[j]? := ⟨fun i h => (hch i h).choose, fun i h => (hch i h).choose_spec⟩
    have hlen : ((List.finRange len).map fun i => X i.1 i.2).length = len := by simp
    refine ⟨some a, (List.finRange len).map fun i => X i.1 i.2, cap, by rw [hlen], by rw [hlen]; exact hl, hm, ?_, .inr ?_, fun e => by cases e⟩
    · intro i c hic
      rw [List.getElem?_map] at hic
      have hlt : i < len := by
        rcases Nat.lt_or_ge i len with h | h
        · exact h
        · rw [List.getElem?_eq_none (by rw [hlen]; exact h)] at hic; cases hic
      rw [List.getElem?_eq_getElem (by rw [hlen]; exact hlt)] at hic
      simp at hic
      subst hic
      have h00 := (hX 0 (by omega)).2 0 hk
      rw [List.getElem?_eq_getElem (by rw [hcs]; exact hk)] at h00
      have hspot : a.spot = none := by simpa [Addr.add] using World.cell?_spot h00
      obtain ⟨b, o, sp'⟩ := a
      simp only at hspot
      subst hspot
      have hat : ∀ j, ((⟨b, o, none⟩ : Addr).add (i * k)).add j = ⟨b, o + i * k + j, none⟩ := fun j => by
        rw [Go.Deep.add_add]; unfold Addr.add
        split
        · rename_i h; simp only [Addr.mk.injEq, true_and, and_true]; omega
        · simp only [Addr.mk.injEq, true_and, and_true]; omega
      refine ⟨b, o, rfl, ?_, fun j u hj => ?_⟩
      · have h1 := (hX i hlt).2 0 hk
        rw [hat 0, List.getElem?_eq_getElem (by rw [hcs]; exact hk)] at h1
        exact cellLt h1
      · have hjk : j < k := by rw [← hcs (X i hlt)]; exact (List.getElem?_eq_some_iff.1 hj).1
        rw [← hat j, (hX i hlt).2 j hjk]; exact hj
    · exact ⟨(List.range len).map D, (List.range (m - len)).map fun j => D (len + j), by rw [hx], by simp, fun x hx' => by
        obtain ⟨i, _, rfl⟩ := List.mem_map.1 hx'
        exact ⟨D i.1, List.mem_map.2 ⟨i.1, List.mem_range.2 i.2, rfl⟩, (hX i.1 i.2).1⟩⟩
theorem small_form {d : DataW H} {l : List (DataW H)} (hk : Rows.uptoSmall H l = true) (hd : d ∈ l) : Rows.uptoBulk d ≤ 1048576 := Nat.le_trans (bulk_mem hd) (of_decide_eq_true hk)
end
end Go.Proofs.YtiekhbagpmnboaaGreatDoor
namespace Go.Proofs.YtiekhbagpmnboaaGreatDoor
open Go.RowKit Go.ChangeShapes Go.WideShapes Go.Deep

section
variable {H : Type} {enc : TypeId × Value → H} {w : World} {sp : Nat → Bool} {held : Bool}
set_option maxRecDepth 100000 in
theorem rd_fun (fuel : Nat) (us : List Value) (z : DataW H × List MemPlace) (h : DataW.trod enc Tryz.prog w 0 sp held fuel 49 us = some z) : ∃ x : FL, us = x.cs ∧ x.kinds.size ≤ Rows.uptoBulk z.1 := by
  have g := readsAll_of_trod 6 49 [9, 3, 3, 9] fuel us z (by kernel_rfl) h
  obtain ⟨_, _, rfl, g0, _, _, rfl, g1, _, _, rfl, g2, _, _, rfl, g3, rfl⟩ := g
  obtain ⟨name, rfl, b_name⟩ := Reads1.string Tryz.underlying9 g0
  obtain ⟨least, rfl, b_least⟩ := Reads1.i64 Tryz.underlying3 g1
  obtain ⟨most, rfl, b_most⟩ := Reads1.i64 Tryz.underlying3 g2
  obtain ⟨kinds, rfl, b_kinds⟩ := Reads1.string Tryz.underlying9 g3
  refine ⟨⟨name, least, most, kinds⟩, rfl, ?_⟩
  obtain ⟨n1, y1, h1, k1⟩ := trod_part Tryz.underlying49 h 3 9 3 1 rfl (by kernel_rfl)
  have h3 := trod_str Tryz.underlying9 (s := kinds) h1
  show kinds.size ≤ _
  omega
set_option maxRecDepth 100000 in
theorem rd_funs {r : Reach} {b0 : Nat} {v : Value} {d : DataW H} {ps : List MemPlace} (hval : Value.okWide Tryz.prog w r b0 36 v) (h : DataW.Trod enc Tryz.prog w 0 sp held 36 v d ps) : ∃ (A : Option Addr) (l : List FL) (cap : Nat), v = .slice A l.length cap ∧ RdB w w.heap.size A 4 (l.map FL.cs) ∧ (∀ f ∈ l, f.kinds.size ≤ Rows.uptoBulk d) ∧ l.length ≤ Rows.uptoBulk d ∧ l.length ≤ cap ∧ cap ≤ maxLen ∧ (A = none → l.length = 0 ∧ cap = 0) := by
  obtain ⟨fuel, hf⟩ := h
  obtain ⟨A0, n0, c0, rfl⟩ := okWide_slice Tryz.underlying36 hval
  obtain ⟨A, l, cap, e0, h1, h2, h4, h6, h7⟩ := rd_sliceQ 4 (by omega) FL.cs (fun x d => x.kinds.size ≤ Rows.uptoBulk d) (fun _ => rfl) Tryz.underlying36 (by kernel_rfl) (fun n us z hz => rd_fun n us z hz) (y := (d, ps)) (by simpa [Value.cells] using hf)
  refine ⟨A, l, cap, e0, h4, ?_⟩
  rcases h6 with rfl | ⟨es, sr, he, hl, hm⟩
  · exact ⟨fun n hn => (by cases hn), Nat.zero_le _, h1, h2, h7⟩
  · have e1 : Rows.uptoBulkAll es ≤ Rows.uptoBulk d := by
      change d = _ at he
      rw [he]; simp only [Rows.uptoBulk]; omega
    have e2 := bulk_len es
    refine ⟨fun n hn => ?_, by omega, h1, h2, h7⟩
    obtain ⟨d', hd, h7⟩ := hm n hn
    have := bulk_mem hd
    omega
theorem funs_at {w : World} {A : Option Addr} {l : List FL} {cap n : Nat} (hR : RdB w w.heap.size A 4 (l.map FL.cs)) (hk : ∀ f ∈ l, f.kinds.size ≤ n) (hl : l.length ≤ n) (hn : n ≤ 1048576) : FunsAt ⟨A, cap, l⟩ w.heap.size w :=
  ⟨hR, fun f hf => by have := hk f hf; omega, by show l.length ≤ _; omega⟩
end
end Go.Proofs.YtiekhbagpmnboaaGreatDoor
namespace Go.Proofs.YtiekhbagpmnboaaGreatDoor
open Go.ChangeShapes Go.WideShapes Go.ChangeAt Go.RowKit
open Go.ChangeMaps (open_string)

set_option maxRecDepth 100000 in
/-- what the walk gives, for every input -/
theorem contract_ParseReads (H : Type) (enc : TypeId × Value → H) (W : World) (base : Nat) (args : Array Value) (ds gs : List (DataW H)) (before : List MemPlace)
    (hval : ∀ (j : Nat) t v, Tryz.f4.params[j]? = some t → args[j]? = some v → Value.okWide Tryz.prog W .any base t v)
    (hW : DataW.Whole enc Tryz.prog Tryz.f4.params.toList Rows.parseReadsSpec.vars false W args.toList ds gs before)
    (ht : Tab W)
    (hk : Rows.uptoSmall H (ds ++ gs) = true) :
    Calls Tryz.prog 4 args W fun e W' => ∃ v, e = .returned v ∧ Rows.parseReadsSpec.post enc Tryz.prog Tryz.f4 false true false false W args v W' := by
  have hW' := hW
  obtain ⟨p, q, hA0, hV, rfl, hfz, hnd⟩ := hW
  have hA : DataW.TrodAll enc Tryz.prog W 0 (fun _ => true) true Tryz.f4.params.toList args.toList ds p := hA0
  rw [Tryz.params4] at hA hval
  obtain ⟨v0, vs0, d0, ds0, p0, q0, hargs, rfl, rfl, h0, r0⟩ := trodAll_cons hA
  obtain ⟨v1, vs1, d1, ds1, p1, q1, rfl, rfl, rfl, h1, r1⟩ := trodAll_cons r0
  obtain ⟨rfl, rfl, rfl⟩ := trodAll_nil r1
  obtain rfl : args = #[v0, v1] := by cases args; simp_all
  obtain ⟨a0, rfl, rfl, rfl, w0⟩ := open_string Tryz.underlying9 (hval 0 9 v0 rfl rfl) h0
  obtain ⟨A1, l1, cap1, rfl, hR1, hk1, hlb1, hlc1, hcm1, hN1⟩ := rd_funs (hval 1 36 v1 rfl rfl) h1
  have y0 := small_string hk (s := a0) (List.mem_append_left _ (by simp))
  have y1 := small_form hk (d := d1) (List.mem_append_left _ (by simp))
  refine (walk_ParseReads a0.data.toList (by rw [Array.length_toList]; exact y0) A1 l1 cap1 W ht (funs_at hR1 hk1 hlb1 y1)).mono fun e W' ⟨he, hb⟩ => ⟨_, he, ?_⟩
  exact law_post laidOut Tryz.underlying4 (by kernel_rfl) rfl (fun ds hd => by
    rw [Tryz.params4] at hd
    match ds, hd with
    | [_, _], _ => rfl) (by kernel_rfl) hW' hb

/-- the witness' arguments -/
def wArgs_ParseReads : Array Value := #[.string ⟨#[]⟩, .slice none 0 0]
theorem laid_met_ParseReads (os : Os) : laidMet Tryz.prog Rows.parseReadsUptoRow.laid ((laidWorldD os).forCall (fun _ _ => 0) ⟨#[], wArgs_ParseReads, []⟩).memory :=
  laidMet_of_run' 8 (by kernel_rfl) (by kernel_rfl)
theorem reads_ParseReads (os : Os) {H : Type} (enc : TypeId × Value → H) : ∃ places, DataW.whole enc Tryz.prog ((laidWorldD os).forCall (fun _ _ => 0) ⟨#[], wArgs_ParseReads, []⟩).memory Tryz.f4.params.toList Rows.parseReadsSpec.vars false wArgs_ParseReads.toList 8 = some ([.lit (.string []), .nil], [], places) :=
  ⟨[], by kernel_rfl⟩

set_option maxRecDepth 100000 in
theorem wh1_ParseReads (os : Os) : ((laidWorldD os).forCall (fun _ _ => 0) ⟨#[], wArgs_ParseReads, []⟩).variablesRefB Tryz.checked.prog = true := by kernel_rfl
set_option maxRecDepth 100000 in
theorem wh2_ParseReads (os : Os) : (((laidWorldD os).forCall (fun _ _ => 0) ⟨#[], wArgs_ParseReads, []⟩).heap.toList.drop Tryz.checked.prog.globals.size).take ((begin Tryz.checked.prog (fun _ _ => 0) default).world.heap.size - Tryz.checked.prog.globals.size) =
      (begin Tryz.checked.prog (fun _ _ => 0) default).world.heap.toList.drop Tryz.checked.prog.globals.size := by kernel_rfl
set_option maxRecDepth 100000 in
theorem wh3_ParseReads (os : Os) : Input.okWideB Tryz.checked.prog ((laidWorldD os).forCall (fun _ _ => 0) ⟨#[], wArgs_ParseReads, []⟩) 4 ⟨#[], wArgs_ParseReads, []⟩ = true := by kernel_rfl
theorem wcn_ParseReads (places : List MemPlace) {H : Type} : Rows.parseReadsUptoRow.domain.all (PathCond.test Tryz.prog ⟨Tryz.f4.params.toList, (([.lit (.string []), .nil], [], places) : List (DataW H) × List (DataW H) × List MemPlace).1, (Rows.OpenSpec.upto Rows.parseReadsSpec).bare.plain.varTypes Tryz.prog, []⟩) = true := by kernel_rfl
set_option maxRecDepth 100000 in
theorem wpre_ParseReads (os : Os) {H : Type} (enc : TypeId × Value → H) : (Rows.OpenSpec.upto Rows.parseReadsSpec).preRow enc Tryz.prog Tryz.f4 Rows.parseReadsUptoRow.domain false Rows.parseReadsUptoRow.laid ((laidWorldD os).forCall (fun _ _ => 0) ⟨#[], wArgs_ParseReads, []⟩).memory wArgs_ParseReads := by
  obtain ⟨places, hx⟩ := reads_ParseReads os enc
  exact OpenSpec.preRow_of_cond 8 hx (wcn_ParseReads places) (fun k hk => by cases hk; rfl) (by kernel_rfl) (laid_met_ParseReads os)

set_option maxRecDepth 100000 in
theorem lifted_ParseReads (os : Os) (started : os.Started) (H : Type) (enc : TypeId × Value → H) (F : Stop.Interp) :
    ReturnsInHanded {} Tryz.checked os 4 .any ((Rows.OpenSpec.upto Rows.parseReadsSpec).preRow enc Tryz.prog Tryz.f4 Rows.parseReadsUptoRow.domain false Rows.parseReadsUptoRow.laid) (((Rows.OpenSpec.upto Rows.parseReadsSpec).at F).post enc Tryz.prog Tryz.f4 false true false false) := by
  refine returnsInHanded_of_row (C := Tryz.checked) (s := Rows.OpenSpec.upto Rows.parseReadsSpec) own started (by kernel_rfl) Tryz.func4
    (witness_row_atRef (enc := enc) (C := Tryz.checked) false (laidWorldD os) wArgs_ParseReads rfl (wh1_ParseReads os) (wh2_ParseReads os) (wh3_ParseReads os) (wpre_ParseReads os enc)) ?_
  intro W base args ds gs before hval hW _ hcd _ hL hsh _
  exact contract_ParseReads H enc W base args ds gs before hval hW (tab_ofD (laidMet_tailD (laidMet_tailD hL)) hsh) (hcd _ rfl)

set_option maxRecDepth 100000 in
theorem jf_ParseReads : joinedFacts Tryz.pinned.checked.prog 4 Tryz.f4 (Rows.OpenSpec.upto Rows.parseReadsSpec).bare Rows.parseReadsUptoRow = true := by kernel_rfl
theorem said_ParseReads : Rows.ParseReadsUptoSaid :=
  OpenClaim.holds_of_cond 4 Tryz.f4 rfl rfl rfl rfl rfl rfl rfl ⟨rfl, rfl, rfl, rfl, rfl⟩ rfl rfl rfl rfl rfl (by kernel_rfl) Tryz.func4 jf_ParseReads
    (of_decide_eq_true (by kernel_rfl)) (by unfold Func.isWrapper; rw [if_neg (of_decide_eq_false (by kernel_rfl))]; exact ⟨rfl, rfl⟩)
    (fun os started H enc _ F => by rw [OpenClaim.pre_eq_preRow]; exact lifted_ParseReads os started H enc F)

theorem plain_ParseReads (f : FuncId) (fn : Func) (hf : Tryz.pinned.checked.prog.funcNamed "oriel/oriellaw06.ParseReads" = some f) (hfn : Tryz.pinned.checked.prog.funcs[f]? = some fn) :
    true = Tryz.pinned.checked.prog.looks [] ∧ ∀ (j : Nat) t, fn.params[j]? = some t → Tryz.pinned.checked.prog.wantsStandIn t = false := by
  obtain rfl : f = 4 := Option.some.inj ((show Tryz.prog.funcNamed "oriel/oriellaw06.ParseReads" = some 4 by kernel_rfl).symm.trans hf) |>.symm
  obtain rfl : fn = Tryz.f4 := (Option.some.inj (Tryz.func4.symm.trans hfn)).symm
  refine ⟨by kernel_rfl, fun j t ht => ?_⟩
  rw [Tryz.params4] at ht
  have hm : t = 9 ∨ t = 36 := by simpa using Array.mem_of_getElem? ht
  rcases hm with rfl | rfl
  · exact (show Tryz.prog.wantsStandIn 9 = false by kernel_rfl)
  · exact (show Tryz.prog.wantsStandIn 36 = false by kernel_rfl)

/-- THE CARD -/
theorem card_ParseReads : Rows.ParseReadsUptoCardSaid :=
  Claim7.holds_tied_plain_at .later [] _ _ _ _ said_ParseReads (fun _ h => by cases h) (by kernel_rfl) (fun _ h => by cases h) parseReadsUpto_row_tie rfl ⟨rfl, rfl⟩ (by kernel_rfl) rfl plain_ParseReads (by kernel_rfl)
end Go.Proofs.YtiekhbagpmnboaaGreatDoor
