/-
  oriellaw06.ParseBlanks.
-/
import Derived.Test.YtiekhbagpmnboaaGreatDoorMg0
import Derived.Test.YtiekhbagpmnboaaGreatDoorRows
import Derived.Test.YtiekhbagpmnboaaGreatDoorProg
import Derived.Test.YtiekhbagpmnboaaGreatDoorAddrC
import Derived.Test.YtiekhbagpmnboaaGreatDoorMg2
import Derived.Test.YtiekhbagpmnboaaGreatDoorMg26
import Derived.Test.YtiekhbagpmnboaaGreatDoorValA
import Derived.Test.YtiekhbagpmnboaaGreatDoorValB
import Derived.Test.YtiekhbagpmnboaaGreatDoorMg5
import Derived.Test.YtiekhbagpmnboaaGreatDoorMg6
import Derived.Test.YtiekhbagpmnboaaGreatDoorMg7
import Derived.Test.YtiekhbagpmnboaaGreatDoorPaW
import Derived.Test.YtiekhbagpmnboaaGreatDoorMg9
import Derived.Test.YtiekhbagpmnboaaGreatDoorMg16
import Derived.Test.YtiekhbagpmnboaaGreatDoorMg15
import Derived.Test.YtiekhbagpmnboaaGreatDoorPaC
import Derived.Test.YtiekhbagpmnboaaGreatDoorPaK
import Derived.Test.YtiekhbagpmnboaaGreatDoorPaI
import Derived.Test.YtiekhbagpmnboaaGreatDoorPaQ
import Derived.Test.YtiekhbagpmnboaaGreatDoorPaE
import Derived.Test.YtiekhbagpmnboaaGreatDoorMg27
import Derived.Test.YtiekhbagpmnboaaGreatDoorLexWd
import Derived.Test.YtiekhbagpmnboaaGreatDoorMg29
import Derived.Test.YtiekhbagpmnboaaGreatDoorLexS
import Derived.Test.YtiekhbagpmnboaaGreatDoorDDig
import Derived.Test.YtiekhbagpmnboaaGreatDoorDParse
import Derived.Test.YtiekhbagpmnboaaGreatDoorLexF
import Derived.Test.YtiekhbagpmnboaaGreatDoorLexN
import Derived.Test.YtiekhbagpmnboaaGreatDoorRDPar
import Derived.Test.YtiekhbagpmnboaaGreatDoorRDParB
import Derived.Test.YtiekhbagpmnboaaGreatDoorRDJoin
import Derived.Test.YtiekhbagpmnboaaGreatDoorLexD
import Derived.Test.YtiekhbagpmnboaaGreatDoorLexB
import Derived.Test.YtiekhbagpmnboaaGreatDoorLexI
import Derived.Test.YtiekhbagpmnboaaGreatDoorPaO
import Derived.Test.YtiekhbagpmnboaaGreatDoorMg42
import Derived.Test.YtiekhbagpmnboaaGreatDoorPaS
import Derived.Test.YtiekhbagpmnboaaGreatDoorMg44
import Derived.Test.YtiekhbagpmnboaaGreatDoorLPSm
import Derived.Test.YtiekhbagpmnboaaGreatDoorLPOth
import Derived.BigRegion
import Derived.WalkSpells
import Derived.WalkLawsBesides
import Derived.StillTactics
import Derived.Laws.Pointers
import Derived.Deep.RegionHeld3
import Derived.Deep.QuietTactic
import Derived.BigQuiet
import Derived.RowKit3
import Derived.Lib.Hide
import Derived.Lib.OthersKept
import Derived.OwnWalk
import Derived.Lib.IndexLaws
import Derived.Lib.ItoaMem
import Derived.Lib.TrimByte
import Derived.Lib.SlTrimSet
import Derived.Lib.ParseIntB
import Derived.WalkKit
import Derived.ProofKit
import Derived.OpenShut
import Derived.Carry
import Derived.ChangeSame
import Derived.Deep.Draws
import Derived.Shelf.Strings.Builder1
import Derived.Shelf.Strings.Trim
import Derived.Shelf.Small.Utf8
import Derived.Shelf.Small.Strs
import Derived.Shelf.Small.Wraps
import Derived.Shelf.Strings.BuilderF
import Derived.Shelf.Strings.BuilderK
import Derived.Shelf.Strconv.Itoa0
import Derived.Shelf.Strconv.Itoa1
import Derived.Shelf.LaysM
import Derived.Shelf.Strconv.Itoa2
import Derived.Shelf.Strconv.Itoa3
import Derived.Ground.MpProg
import Derived.Shelf.Pu.ParseUintPublic10
import Derived.Shelf.Strings.Search1
import Derived.Shelf.Strings.Search2
import Derived.Shelf.Strings.Cut
import Derived.Shelf.Strings.Shaped
import Derived.Shelf.Strings.Prefix
import Derived.Shelf.Strings.Runes
import Derived.Shelf.Strings.AsciiSet
import Derived.Shelf.Unicode.DecodeSlow
import Derived.Lib.ItoaNum
import Derived.Maps.OwnSet
import Derived.Maps.AppendAt
import Derived.Deep.RegionLaw
import Derived.Deep.AppendLies
import Derived.ScopeJumps
import Derived.WalkMore
import Derived.Shelf.Strings.SlTrimAscii
import Derived.Lib.SmallJoins
import Derived.RangeFuncBox
import Derived.RangeFuncNested
import Derived.RangeFuncLeaves
import Derived.Shelf.Abstract
import Derived.OwnWalkIn
import Derived.TacticsInMore
import Derived.LoopNIn
import Derived.LoopIn
import Derived.Maps.OwnIn
import Derived.Defers
import Derived.Recover
import Derived.Outline
import Derived.Deep.CutRange
import Derived.Laws.AppendOwnNone
import Derived.Laws.AppendOwn
namespace Go.Proofs.YtiekhbagpmnboaaGreatDoor
open Go.RowKit

theorem row_cell1 {w : World} {b : Nat} {u : Value} {t : TypeId} (h : w.heap[b]? = some (.cells #[u] t (0, 0))) (v : Value) : (w.setCell ⟨b, 0, none⟩ v).cell? ⟨b, 0, none⟩ = some v := by
  have h2 : (w.setCell ⟨b, 0, none⟩ v).heap[b]? = some (.cells (#[u].setIfInBounds 0 v) t (0, 0)) := by simp [World.setCell, Array.getElem?_modify, h]
  rw [cell_of_row _ b 0 _ _ _ h2]
  rfl
theorem rdB_set {w : World} {B b : Nat} {A : Option Addr} {k : Nat} {l : List (List Value)} (h : RdB w B A k l) (hA : ∀ p, A = some p → p.block ≠ b) (v : Value) : RdB (w.setCell ⟨b, 0, none⟩ v) B A k l := fun i c hi => by
  obtain ⟨g, o, e, hg, hat⟩ := h i c hi
  refine ⟨g, o, e, hg, fun j u hj => ?_⟩
  have hne : g ≠ b := hA _ e
  rw [← hat j u hj]
  simp [World.cell?, World.setCell, Array.getElem?_modify, Ne.symm hne]
def PUn (w : World) (ns : List NL) (er a : Int) (e : Ending) (w' : World) : Prop := ∃ A cap, e = .returned (.tuple #[.agg #[.slice A ns.length cap], .int .i64 er, .int .i64 a]) ∧ RdB w' w'.heap.size A 15 (ns.map NL.cs) ∧ Below w.heap.size w w' ∧ ∀ p, A = some p → w.heap.size ≤ p.block
theorem nsOf_mv (x : PR) (φ : Int → Int) : nsOf (x.mv φ) = nsOf x := by cases x <;> rfl
theorem erOf_mv (x : PR) (φ : Int → Int) : erOf (x.mv φ) = erOf x := by cases x <;> rfl
set_option maxRecDepth 100000 in
set_option maxHeartbeats 4000000 in
theorem pblank_yes (l r0 : List UInt8) (c : UInt8) (hlr : l = c :: r0) (hc : c.toNat = 61) (hl : l.length ≤ 1048576) (a : Int) (ha : -9223372036854775808 ≤ a ∧ a ≤ 9223372036854775807) (k : Nat) (hkN : k < (lexL l).length) (hk : (a.tmod ((lexL l).length : Int) < 0 ∧ a.tmod ((lexL l).length : Int) + ((lexL l).length : Int) = (k : Int)) ∨ a.tmod ((lexL l).length : Int) = (k : Int)) (A : Option Addr) (fl : List FL) (cap : Nat) (w : World)
    (ns : List NL) (er a0 a1 : Int) (hns : ns.length ≤ 1024) (fr : Nat) (x : Tok) (hx : (lexL l)[k]? = some x) (hfr : x.place = (fr : Int)) (hfl : fr ≤ l.length) (hat : -1 ≤ a0 ∧ a0 ≤ 1048577) (hcase : (er = 0 ∧ a1 = a0) ∨ (er ≠ 0 ∧ (fr : Int) ≤ a0 ∧ a1 = a0 + 1) ∨ (er ≠ 0 ∧ a0 < (fr : Int) ∧ a1 = a0))
    (CP : ∀ W : World, Below w.heap.size w W → Calls Tryz.prog 12 #[.string ⟨l.toArray⟩, .iface 43 (.slice A fl.length cap)] W fun e w' => PUn W ns er a0 e w')
    (CP2 : ∀ W : World, Below w.heap.size w W → Calls Tryz.prog 12 #[.string ⟨(l.take fr ++ 32 :: l.drop fr).toArray⟩, .iface 43 (.slice A fl.length cap)] W fun e w' => PUn W ns er a1 e w') : Calls Tryz.prog 5 #[.string ⟨l.toArray⟩, .slice A fl.length cap, .int .i64 a] w fun e w' => e = .returned (.bool true) ∧ Below w.heap.size w w' := by
  have hb0 : 0 < (⟨l.toArray⟩ : ByteArray).size := by show 0 < l.toArray.size; rw [hlr]; simp
  have hbe : ((⟨l.toArray⟩ : ByteArray)[0]'hb0).toNat = 61 := by subst hlr; exact hc
  have hne : ((⟨l.toArray⟩ : ByteArray) = ⟨#[]⟩) = False := by rw [show (⟨#[]⟩ : ByteArray) = ⟨([] : List UInt8).toArray⟩ from rfl, list_bytes, hlr]; exact eq_false (by simp)
  have H := (lexL_laws l).ne
  have CP := CP w (Below.refl _ _)
  have CP2 := Lib.hid CP2
  obtain ⟨N, hN⟩ : ∃ N, (lexL l).length = N := ⟨_, rfl⟩
  rw [hN] at hk hkN H
  have hNl := lexL_len l
  rw [hN] at hNl
  have hNi : ((N : Int) == 0) = false := by simp; omega
  have hkN2 : (k : Int) < (N : Int) := by omega
  have hrange : -(N : Int) < a.tmod (N : Int) ∧ a.tmod (N : Int) < (N : Int) := ⟨by have := Int.lt_tmod_of_pos a (show (0 : Int) < N by omega); omega, Int.tmod_lt_of_pos a (by omega)⟩
  have CLL := r4lex l (by omega)
  have hlH := Lib.hid hlr
  clear hlr hc
  go_enter Tryz.func5, Tryz.ntmps5
  go_wp2_with fail
  refine CP.mono ?_
  rintro e w1 ⟨A1, cap1, rfl, hrd1, hb1, _⟩
  have CL := CLL (w1.alloc (.cells #[.slice A1 ns.length cap1] 39))
  clear CP CLL
  go_wp2_with fail
  refine CL.mono ?_
  rintro e w2 ⟨⟨v, rfl, hrt⟩, hb2⟩
  have CK := pknown w2
  have hbx : w2.heap[w1.heap.size]? = some (.cells #[.slice A1 ns.length cap1] 39 (0, 0)) := (hb2.block w1.heap.size (by simp)).trans (heap_alloc_new _ _)
  have hB12 : Below w1.heap.size w1 w2 := ((Below.refl _ _).alloc (Nat.le_refl _) _).trans (hb2.mono (by simp))
  have hz2' : w1.heap.size < w2.heap.size := by have := hb2.size; simp at this; omega
  clear CL hb2
  obtain ⟨tb, tof, tcap, rfl, htb, htc⟩ := hrt.at (by omega)
  go_wp2_with fail
  refine CK.mono ?_
  rintro e w3 ⟨rfl, hb3⟩
  have hB13 : Below w1.heap.size w1 w3 := hB12.trans (hb3.mono hB12.size)
  have hB3 : Below w.heap.size w w3 := hb1.trans (hB13.mono hb1.size)
  have hbx3 := Lib.hid ((hb3.block w1.heap.size hz2').trans hbx)
  have hz3 := hb3.size
  have htb3 : tb < w3.heap.size := by omega
  have hltx : w1.heap.size < w3.heap.size := by omega
  have cy : w3.cell? ⟨tb, tof + k * 11 + 1, none⟩ = some (.int .i64 (fr : Int)) := by rw [← hfr]; exact (hb3.cell (p := ⟨tb, tof + k * 11 + 1, none⟩) htb).trans (htc k x hx 1 _ rfl)
  have hrd3 := Lib.hid ((hrd1.below hB13).mono hB13.size)
  clear hrt hbx CK hb3 hB12 hrd1 htc hB13 hfr hx hb1
  have hx1 := ext_take' l fr
  have hx2 := ext_drop' l fr l.length (Nat.le_refl _)
  have hfi : (fr : Int) ≤ (l.length : Int) := by omega
  have hap1 := bytes_append (l.take fr) [32]
  have hap2 := bytes_append (l.take fr ++ [32]) (l.drop fr)
  rw [show l.take fr ++ [32] ++ l.drop fr = l.take fr ++ 32 :: l.drop fr by simp] at hap2
  have hc1 : ¬ 9223372036854775807 < fr + 1 := by omega
  have hc2 : ¬ 9223372036854775807 < fr + 1 + (l.length - fr) := by omega
  generalize hqq : a.tmod (N : Int) = q at *
  rcases hk with ⟨hneg, hkk⟩ | hkk
  · go_wp2_with fail
    refine wp_region_noPanic ?_
    refine wp_region_held_drew (S := fun w' => w'.cell? ⟨tb, tof + k * 11 + 1, none⟩ = some (.int .i64 (fr : Int))) (by kernel_rfl) cy (fun hHeld => ?_)
    refine wpAnyH_take (i := 0) (oi := ⟨_, _, _, _, _, _⟩) (v := ?v29) rfl (by kernel_rfl) (by kernel_rfl) (by kernel_rfl) (fun _ _ _ h => h) (Or.inl ⟨by rfl, ?hy29⟩) hHeld ?rest29
    case hy29 => (intro w2 hSw; (try dsimp only at hSw); go_split_ands; go_simp; first | done | with_reducible rfl)
    try simp only [Act.put, List.setIfInBounds_toArray, List.set_cons_zero, List.set_cons_succ]
    refine wpAnyH_take (i := 1) (oi := ⟨_, _, _, _, _, _⟩) (v := ?v30) rfl (by kernel_rfl) (by kernel_rfl) (by kernel_rfl) (fun _ _ _ h => h) (Or.inl ⟨by rfl, ?hy30⟩) hHeld ?rest30
    case hy30 => (intro w2 hSw; (try dsimp only at hSw); go_split_ands; go_simp; first | done | with_reducible rfl)
    try simp only [Act.put, List.setIfInBounds_toArray, List.set_cons_zero, List.set_cons_succ]
    refine wpAnyH_take (i := 2) (oi := ⟨_, _, _, _, _, _⟩) (v := ?v31) rfl (by kernel_rfl) (by kernel_rfl) (by kernel_rfl) (fun _ _ _ h => h) (Or.inl ⟨by rfl, ?hy31⟩) hHeld ?rest31
    case hy31 => (intro w2 hSw; (try dsimp only at hSw); go_split_ands; go_simp; first | done | with_reducible rfl)
    try simp only [Act.put, List.setIfInBounds_toArray, List.set_cons_zero, List.set_cons_succ]
    refine wpAnyH_take (i := 3) (oi := ⟨_, _, _, _, _, _⟩) (v := ?v32) rfl (by kernel_rfl) (by kernel_rfl) (by kernel_rfl) (fun _ _ _ h => h) (Or.inl ⟨by rfl, ?hy32⟩) hHeld ?rest32
    case hy32 => (intro w2 hSw; (try dsimp only at hSw); go_split_ands; go_simp; first | done | with_reducible rfl)
    try simp only [Act.put, List.setIfInBounds_toArray, List.set_cons_zero, List.set_cons_succ]
    refine wpAnyH_take (i := 4) (oi := ⟨_, _, _, _, _, _⟩) (v := ?v33) rfl (by kernel_rfl) (by kernel_rfl) (by kernel_rfl) (fun _ _ _ h => h) (Or.inl ⟨by rfl, ?hy33⟩) hHeld ?rest33
    case hy33 => (intro w2 hSw; (try dsimp only at hSw); go_split_ands; go_simp; first | done | with_reducible rfl)
    try simp only [Act.put, List.setIfInBounds_toArray, List.set_cons_zero, List.set_cons_succ]
    refine wpAnyH_take (i := 5) (oi := ⟨_, _, _, _, _, _⟩) (v := ?v34) rfl (by kernel_rfl) (by kernel_rfl) (by kernel_rfl) (fun _ _ _ h => h) (Or.inl ⟨by rfl, ?hy34⟩) hHeld ?rest34
    case hy34 => (intro w2 hSw; (try dsimp only at hSw); go_split_ands; go_simp; first | done | with_reducible rfl)
    try simp only [Act.put, List.setIfInBounds_toArray, List.set_cons_zero, List.set_cons_succ]
    refine wpAnyH_take (i := 6) (oi := ⟨_, _, _, _, _, _⟩) (v := ?v35) rfl (by kernel_rfl) (by kernel_rfl) (by kernel_rfl) (fun _ _ _ h => h) (Or.inl ⟨by rfl, ?hy35⟩) hHeld ?rest35
    case hy35 => (intro w2 hSw; (try dsimp only at hSw); go_split_ands; go_simp; first | done | with_reducible rfl)
    try simp only [Act.put, List.setIfInBounds_toArray, List.set_cons_zero, List.set_cons_succ]
    refine wpAnyH_take (i := 7) (oi := ⟨_, _, _, _, _, _⟩) (v := ?v36) rfl (by kernel_rfl) (by kernel_rfl) (by kernel_rfl) (fun _ _ _ h => h) (Or.inl ⟨by rfl, ?hy36⟩) hHeld ?rest36
    case hy36 => (intro w2 hSw; (try dsimp only at hSw); go_split_ands; go_simp; first | done | with_reducible rfl)
    try simp only [Act.put, List.setIfInBounds_toArray, List.set_cons_zero, List.set_cons_succ]
    refine wpAnyH_take (i := 8) (oi := ⟨_, _, _, _, _, _⟩) (v := ?v37) rfl (by kernel_rfl) (by kernel_rfl) (by kernel_rfl) (fun _ _ _ h => h) (Or.inl ⟨by rfl, ?hy37⟩) hHeld ?rest37
    case hy37 => (intro w2 hSw; (try dsimp only at hSw); go_split_ands; go_simp; first | done | with_reducible rfl)
    try simp only [Act.put, List.setIfInBounds_toArray, List.set_cons_zero, List.set_cons_succ]
    refine wpAnyH_take (i := 9) (oi := ⟨_, _, _, _, _, _⟩) (v := ?v38) rfl (by kernel_rfl) (by kernel_rfl) (by kernel_rfl) (fun _ _ _ h => h) (Or.inl ⟨by rfl, ?hy38⟩) hHeld ?rest38
    case hy38 => (intro w2 hSw; (try dsimp only at hSw); go_split_ands; go_simp; first | done | with_reducible rfl)
    try simp only [Act.put, List.setIfInBounds_toArray, List.set_cons_zero, List.set_cons_succ]
    refine wpAnyH_take (i := 10) (oi := ⟨_, _, _, _, _, _⟩) (v := ?v39) rfl (by kernel_rfl) (by kernel_rfl) (by kernel_rfl) (fun _ _ _ h => h) (Or.inl ⟨by rfl, ?hy39⟩) hHeld ?rest39
    case hy39 => (intro w2 hSw; (try dsimp only at hSw); go_split_ands; go_simp; first | done | with_reducible rfl)
    try simp only [Act.put, List.setIfInBounds_toArray, List.set_cons_zero, List.set_cons_succ]
    refine wpAnyH_take (i := 11) (oi := ⟨_, _, _, _, _, _⟩) (v := ?v40) rfl (by kernel_rfl) (by kernel_rfl) (by kernel_rfl) (fun _ _ _ h => h) (Or.inl ⟨by rfl, ?hy40⟩) hHeld ?rest40
    case hy40 => (intro w2 hSw; (try dsimp only at hSw); go_split_ands; go_simp; first | done | with_reducible rfl)
    try simp only [Act.put, List.setIfInBounds_toArray, List.set_cons_zero, List.set_cons_succ]
    refine wpAnyH_take (i := 12) (oi := ⟨_, _, _, _, _, _⟩) (v := ?v41) rfl (by kernel_rfl) (by kernel_rfl) (by kernel_rfl) (fun _ _ _ h => h) (Or.inl ⟨by rfl, ?hy41⟩) hHeld ?rest41
    case hy41 => (intro w2 hSw; (try dsimp only at hSw); go_split_ands; go_simp; first | done | with_reducible rfl)
    try simp only [Act.put, List.setIfInBounds_toArray, List.set_cons_zero, List.set_cons_succ]
    refine wpAnyH_take (i := 13) (oi := ⟨_, _, _, _, _, _⟩) (v := ?v42) rfl (by kernel_rfl) (by kernel_rfl) (by kernel_rfl) (fun _ _ _ h => h) (Or.inl ⟨by rfl, ?hy42⟩) hHeld ?rest42
    case hy42 => (intro w2 hSw; (try dsimp only at hSw); go_split_ands; go_simp; first | done | with_reducible rfl)
    try simp only [Act.put, List.setIfInBounds_toArray, List.set_cons_zero, List.set_cons_succ]
    refine wpAnyH_take (i := 14) (oi := ⟨_, _, _, _, _, _⟩) (v := ?v43) rfl (by kernel_rfl) (by kernel_rfl) (by kernel_rfl) (fun _ _ _ h => h) (Or.inl ⟨by rfl, ?hy43⟩) hHeld ?rest43
    case hy43 => (intro w2 hSw; (try dsimp only at hSw); go_split_ands; go_simp; first | done | with_reducible rfl)
    try simp only [Act.put, List.setIfInBounds_toArray, List.set_cons_zero, List.set_cons_succ]
    refine wpAnyH_take (i := 15) (oi := ⟨_, _, _, _, _, _⟩) (v := ?v44) rfl (by kernel_rfl) (by kernel_rfl) (by kernel_rfl) (fun _ _ _ h => h) (Or.inl ⟨by rfl, ?hy44⟩) hHeld ?rest44
    case hy44 => (intro w2 hSw; (try dsimp only at hSw); go_split_ands; go_simp; first | done | with_reducible rfl)
    try simp only [Act.put, List.setIfInBounds_toArray, List.set_cons_zero, List.set_cons_succ]
    refine wpAnyH_take (i := 16) (oi := ⟨_, _, _, _, _, _⟩) (v := ?v45) rfl (by kernel_rfl) (by kernel_rfl) (by kernel_rfl) (fun _ _ _ h => h) (Or.inl ⟨by rfl, ?hy45⟩) hHeld ?rest45
    case hy45 => (intro w2 hSw; (try dsimp only at hSw); go_split_ands; go_simp; first | done | with_reducible rfl)
    try simp only [Act.put, List.setIfInBounds_toArray, List.set_cons_zero, List.set_cons_succ]
    refine wpAnyH_take (i := 17) (oi := ⟨_, _, _, _, _, _⟩) (v := ?v46) rfl (by kernel_rfl) (by kernel_rfl) (by kernel_rfl) (fun _ _ _ h => h) (Or.inl ⟨by rfl, ?hy46⟩) hHeld ?rest46
    case hy46 => (intro w2 hSw; (try dsimp only at hSw); go_split_ands; go_simp; first | done | with_reducible rfl)
    try simp only [Act.put, List.setIfInBounds_toArray, List.set_cons_zero, List.set_cons_succ]
    refine wpAnyH_ready (rs := [18, 23]) (by kernel_rfl) (by simp) ?_
    refine AllReadyH.cons (o := ⟨_, _, _, _, _, _⟩) rfl (fun K hK => ?_) (AllReadyH.cons (o := ⟨_, _, _, _, _, _⟩) rfl (fun K hK => ?_) AllReadyH.nil)
    · go_split_ands
      go_simp
      refine (CP2.out w3.drew hB3.drew).mono ?_
      rintro e w5 ⟨A3, cap3, rfl, hrd5, hb5, hA3⟩
      refine hK.out _ _ ?_ (fun hHeld => ?_)
      · exact (hb5.cell (p := ⟨tb, tof + k * 11 + 1, none⟩) (by first | exact htb3 | (simp; omega))).trans (by assumption)
      clear hK K
      try simp only [Act.put, List.setIfInBounds_toArray, List.set_cons_zero, List.set_cons_succ]
      have hq5 : Below w3.heap.size w3 w5 := (Below.refl _ _).drew.trans hb5
      refine wpAnyH_take (i := 19) (oi := ⟨_, _, _, _, _, _⟩) (v := ?v17) rfl (by kernel_rfl) (by kernel_rfl) (by kernel_rfl) (fun _ _ _ h => h) (Or.inl ⟨by rfl, ?hy17⟩) hHeld ?rest17
      case hy17 => (intro w2 hSw; (try dsimp only at hSw); go_split_ands; go_simp; first | done | with_reducible rfl)
      try simp only [Act.put, List.setIfInBounds_toArray, List.set_cons_zero, List.set_cons_succ]
      refine wpAnyH_take (i := 20) (oi := ⟨_, _, _, _, _, _⟩) (v := ?v18) rfl (by kernel_rfl) (by kernel_rfl) (by kernel_rfl) (fun _ _ _ h => h) (Or.inl ⟨by rfl, ?hy18⟩) hHeld ?rest18
      case hy18 => (intro w2 hSw; (try dsimp only at hSw); go_split_ands; go_simp; first | done | with_reducible rfl)
      try simp only [Act.put, List.setIfInBounds_toArray, List.set_cons_zero, List.set_cons_succ]
      refine wpAnyH_take (i := 21) (oi := ⟨_, _, _, _, _, _⟩) (v := ?v19) rfl (by kernel_rfl) (by kernel_rfl) (by kernel_rfl) (fun _ _ _ h => h) (Or.inl ⟨by rfl, ?hy19⟩) hHeld ?rest19
      case hy19 => (intro w2 hSw; (try dsimp only at hSw); go_split_ands; go_simp; first | done | with_reducible rfl)
      try simp only [Act.put, List.setIfInBounds_toArray, List.set_cons_zero, List.set_cons_succ]
      refine wpAnyH_take (i := 22) (oi := ⟨_, _, _, _, _, _⟩) (v := ?v20) rfl (by kernel_rfl) (by kernel_rfl) (by kernel_rfl) (fun _ _ _ h => h) (Or.inl ⟨by rfl, ?hy20⟩) hHeld ?rest20
      case hy20 => (intro w2 hSw; (try dsimp only at hSw); go_split_ands; go_simp; first | done | with_reducible rfl)
      try simp only [Act.put, List.setIfInBounds_toArray, List.set_cons_zero, List.set_cons_succ]
      refine wpAnyH_ready (rs := [23]) (by kernel_rfl) (by simp) ?_
      refine AllReadyH.cons (o := ⟨_, _, _, _, _, _⟩) rfl (fun K hK => ?_) AllReadyH.nil
      go_split_ands
      go_simp
      refine hK.out _ _ ?_ (fun hHeld => ?_)
      · exact (World.cell?_alloc_lt _ _ ⟨tb, tof + k * 11 + 1, none⟩ (by first | exact htb3 | (show tb < _; have := hb5.size; simp at this; omega))).trans (by assumption)
      clear hK K
      try simp only [Act.put, List.setIfInBounds_toArray, List.set_cons_zero, List.set_cons_succ]
      refine wpAnyH_ready (rs := [24]) (by kernel_rfl) (by simp) ?_
      refine AllReadyH.cons (o := ⟨_, _, _, _, _, _⟩) rfl (fun K hK => ?_) AllReadyH.nil
      go_split_ands
      go_simp
      refine hK.out _ _ ?_ (fun hHeld => ?_)
      · exact ((hq5.alloc hq5.size (.cells #[.slice A3 ns.length cap3] 39)).cell (p := ⟨tb, tof + k * 11 + 1, none⟩) htb3).trans cy
      clear hK K
      try simp only [Act.put, List.setIfInBounds_toArray, List.set_cons_zero, List.set_cons_succ]
      refine wpAnyH_take (i := 25) (oi := ⟨_, _, _, _, _, _⟩) (v := ?v21) rfl (by kernel_rfl) (by kernel_rfl) (by kernel_rfl) (fun _ _ _ h => h) (Or.inl ⟨by rfl, ?hy21⟩) hHeld ?rest21
      case hy21 => (intro w2 hSw; (try dsimp only at hSw); go_split_ands; go_simp; first | done | with_reducible rfl)
      try simp only [Act.put, List.setIfInBounds_toArray, List.set_cons_zero, List.set_cons_succ]
      refine wpAnyH_take (i := 26) (oi := ⟨_, _, _, _, _, _⟩) (v := ?v22) rfl (by kernel_rfl) (by kernel_rfl) (by kernel_rfl) (fun _ _ _ h => h) (Or.inl ⟨by rfl, ?hy22⟩) hHeld ?rest22
      case hy22 => (intro w2 hSw; (try dsimp only at hSw); go_split_ands; go_simp; first | done | with_reducible rfl)
      try simp only [Act.put, List.setIfInBounds_toArray, List.set_cons_zero, List.set_cons_succ]
      refine wpAnyH_done (by kernel_rfl) ?_ _
      refine NoPanic.normal ?_
      have hBW := (hq5.alloc hq5.size (.cells #[.slice A3 ns.length cap3] 39))
      have hbxW := (hBW.block w1.heap.size hltx).trans hbx3.out
      have x1 := by have := cell_of_row _ w1.heap.size 0 _ _ _ hbxW; exact this
      have x3 := (show (w5.alloc (.cells #[.slice A3 ns.length cap3] 39)).cell? ⟨w5.heap.size, 0, none⟩ = some (.slice A3 ns.length cap3) from by rw [cell_of_row _ w5.heap.size 0 _ _ _ (heap_alloc_new w5 (.cells #[.slice A3 ns.length cap3] 39))]; rfl)
      have cyW := (hBW.cell (p := ⟨tb, tof + k * 11 + 1, none⟩) htb3).trans cy
      have hr1 := (hrd3.out.below hBW).mono hBW.size
      have hr3 : RdB (w5.alloc (.cells #[.slice A3 ns.length cap3] 39)) (w5.alloc (.cells #[.slice A3 ns.length cap3] 39)).heap.size A3 15 (ns.map NL.cs) := (hrd5.below ((Below.refl _ _).alloc (Nat.le_refl _) (.cells #[.slice A3 ns.length cap3] 39))).mono (by rw [World.size_alloc]; omega)
      have hBf : Below w.heap.size w _ := hB3.trans (hBW.mono hB3.size)
      generalize w5.alloc (.cells #[.slice A3 ns.length cap3] 39) = W at *
      have hxx : W.cell? ⟨w1.heap.size, 0, none⟩ = some (.slice A1 ns.length cap1) := x1
      clear x1
      have CS := lsame ns (by omega) W A1 A3 cap1 cap3 hr1 hr3
      clear hBW hbxW hr1 hr3 hrd5 hb5 hq5
      rcases hcase with ⟨rfl, rfl⟩ | ⟨h0, h1, rfl⟩ | ⟨h0, h1, rfl⟩ <;> (
        go_wp2_with fail
        refine CS.mono ?_
        rintro e w8 ⟨rfl, hb8⟩
        have hB8 : Below w.heap.size w w8 := hBf.trans (hb8.mono hBf.size)
        clear CS hb8 hBf
        go_wp2
        go_ret
        exact ⟨rfl, hB8⟩)
    · go_split_ands
      go_simp
      refine hK.out _ _ ?_ (fun hHeld => ?_)
      · exact (World.cell?_alloc_lt _ _ ⟨tb, tof + k * 11 + 1, none⟩ (by first | exact htb3 | (show tb < _; have := hb5.size; simp at this; omega))).trans (by assumption)
      clear hK K
      try simp only [Act.put, List.setIfInBounds_toArray, List.set_cons_zero, List.set_cons_succ]
      refine wpAnyH_ready (rs := [18]) (by kernel_rfl) (by simp) ?_
      refine AllReadyH.cons (o := ⟨_, _, _, _, _, _⟩) rfl (fun K hK => ?_) AllReadyH.nil
      go_split_ands
      go_simp
      refine (CP2.out (w3.drew.alloc (.cells #[.slice none 0 0] 39)) (hB3.drew.alloc hB3.size _)).mono ?_
      rintro e w5 ⟨A3, cap3, rfl, hrd5, hb5, hA3⟩
      refine hK.out _ _ ?_ (fun hHeld => ?_)
      · exact (hb5.cell (p := ⟨tb, tof + k * 11 + 1, none⟩) (by first | exact htb3 | (simp; omega))).trans (by assumption)
      clear hK K
      try simp only [Act.put, List.setIfInBounds_toArray, List.set_cons_zero, List.set_cons_succ]
      have hq5 : Below w3.heap.size w3 w5 := ((Below.refl _ _).drew.alloc (Nat.le_refl _) (.cells #[.slice none 0 0] 39)).trans (hb5.mono (by simp))
      have hbz : w5.heap[w3.heap.size]? = some (.cells #[.slice none 0 0] 39 (0, 0)) := (hb5.block w3.heap.size (by simp)).trans (heap_alloc_new w3.drew _)
      have cz : w5.cell? ⟨w3.heap.size, 0, none⟩ = some (.slice none 0 0) := by rw [cell_of_row w5 w3.heap.size 0 _ _ _ hbz]; rfl
      have fz : w5.frozen? ⟨w3.heap.size, 0, none⟩ = false := by simp [World.frozen?, hbz]
      refine wpAnyH_take (i := 19) (oi := ⟨_, _, _, _, _, _⟩) (v := ?v23) rfl (by kernel_rfl) (by kernel_rfl) (by kernel_rfl) (fun _ _ _ h => h) (Or.inl ⟨by rfl, ?hy23⟩) hHeld ?rest23
      case hy23 => (intro w2 hSw; (try dsimp only at hSw); go_split_ands; go_simp; first | done | with_reducible rfl)
      try simp only [Act.put, List.setIfInBounds_toArray, List.set_cons_zero, List.set_cons_succ]
      refine wpAnyH_take (i := 20) (oi := ⟨_, _, _, _, _, _⟩) (v := ?v24) rfl (by kernel_rfl) (by kernel_rfl) (by kernel_rfl) (fun _ _ _ h => h) (Or.inl ⟨by rfl, ?hy24⟩) hHeld ?rest24
      case hy24 => (intro w2 hSw; (try dsimp only at hSw); go_split_ands; go_simp; first | done | with_reducible rfl)
      try simp only [Act.put, List.setIfInBounds_toArray, List.set_cons_zero, List.set_cons_succ]
      refine wpAnyH_take (i := 21) (oi := ⟨_, _, _, _, _, _⟩) (v := ?v25) rfl (by kernel_rfl) (by kernel_rfl) (by kernel_rfl) (fun _ _ _ h => h) (Or.inl ⟨by rfl, ?hy25⟩) hHeld ?rest25
      case hy25 => (intro w2 hSw; (try dsimp only at hSw); go_split_ands; go_simp; first | done | with_reducible rfl)
      try simp only [Act.put, List.setIfInBounds_toArray, List.set_cons_zero, List.set_cons_succ]
      refine wpAnyH_take (i := 22) (oi := ⟨_, _, _, _, _, _⟩) (v := ?v26) rfl (by kernel_rfl) (by kernel_rfl) (by kernel_rfl) (fun _ _ _ h => h) (Or.inl ⟨by rfl, ?hy26⟩) hHeld ?rest26
      case hy26 => (intro w2 hSw; (try dsimp only at hSw); go_split_ands; go_simp; first | done | with_reducible rfl)
      try simp only [Act.put, List.setIfInBounds_toArray, List.set_cons_zero, List.set_cons_succ]
      refine wpAnyH_ready (rs := [24]) (by kernel_rfl) (by simp) ?_
      refine AllReadyH.cons (o := ⟨_, _, _, _, _, _⟩) rfl (fun K hK => ?_) AllReadyH.nil
      go_split_ands
      go_simp
      refine hK.out _ _ ?_ (fun hHeld => ?_)
      · exact ((hq5.setCell (p := ⟨w3.heap.size, 0, none⟩) (Nat.le_refl _) (.slice A3 ns.length cap3)).cell (p := ⟨tb, tof + k * 11 + 1, none⟩) htb3).trans cy
      clear hK K
      try simp only [Act.put, List.setIfInBounds_toArray, List.set_cons_zero, List.set_cons_succ]
      refine wpAnyH_take (i := 25) (oi := ⟨_, _, _, _, _, _⟩) (v := ?v27) rfl (by kernel_rfl) (by kernel_rfl) (by kernel_rfl) (fun _ _ _ h => h) (Or.inl ⟨by rfl, ?hy27⟩) hHeld ?rest27
      case hy27 => (intro w2 hSw; (try dsimp only at hSw); go_split_ands; go_simp; first | done | with_reducible rfl)
      try simp only [Act.put, List.setIfInBounds_toArray, List.set_cons_zero, List.set_cons_succ]
      refine wpAnyH_take (i := 26) (oi := ⟨_, _, _, _, _, _⟩) (v := ?v28) rfl (by kernel_rfl) (by kernel_rfl) (by kernel_rfl) (fun _ _ _ h => h) (Or.inl ⟨by rfl, ?hy28⟩) hHeld ?rest28
      case hy28 => (intro w2 hSw; (try dsimp only at hSw); go_split_ands; go_simp; first | done | with_reducible rfl)
      try simp only [Act.put, List.setIfInBounds_toArray, List.set_cons_zero, List.set_cons_succ]
      refine wpAnyH_done (by kernel_rfl) ?_ _
      refine NoPanic.normal ?_
      clear cz fz
      have hBW := (hq5.setCell (p := ⟨w3.heap.size, 0, none⟩) (Nat.le_refl _) (.slice A3 ns.length cap3))
      have hbxW := (hBW.block w1.heap.size hltx).trans hbx3.out
      have x1 := by have := cell_of_row _ w1.heap.size 0 _ _ _ hbxW; exact this
      have x3 := row_cell1 hbz (.slice A3 ns.length cap3)
      have cyW := (hBW.cell (p := ⟨tb, tof + k * 11 + 1, none⟩) htb3).trans cy
      have hr1 := (hrd3.out.below hBW).mono hBW.size
      have hr3 : RdB (w5.setCell ⟨w3.heap.size, 0, none⟩ (.slice A3 ns.length cap3)) (w5.setCell ⟨w3.heap.size, 0, none⟩ (.slice A3 ns.length cap3)).heap.size A3 15 (ns.map NL.cs) := (rdB_set hrd5 (fun p hp => by have := hA3 p hp; rw [World.size_alloc] at this; exact Nat.ne_of_gt this) (.slice A3 ns.length cap3)).mono (by show w5.heap.size ≤ (w5.heap.modify _ _).size; rw [Array.size_modify]; exact Nat.le_refl _)
      have hBf : Below w.heap.size w _ := hB3.trans (hBW.mono hB3.size)
      generalize w5.setCell ⟨w3.heap.size, 0, none⟩ (.slice A3 ns.length cap3) = W at *
      have hxx : W.cell? ⟨w1.heap.size, 0, none⟩ = some (.slice A1 ns.length cap1) := x1
      clear x1
      have CS := lsame ns (by omega) W A1 A3 cap1 cap3 hr1 hr3
      clear hBW hbxW hr1 hr3 hrd5 hb5 hq5
      rcases hcase with ⟨rfl, rfl⟩ | ⟨h0, h1, rfl⟩ | ⟨h0, h1, rfl⟩ <;> (
        go_wp2_with fail
        refine CS.mono ?_
        rintro e w8 ⟨rfl, hb8⟩
        have hB8 : Below w.heap.size w w8 := hBf.trans (hb8.mono hBf.size)
        clear CS hb8 hBf
        go_wp2
        go_ret
        exact ⟨rfl, hB8⟩)
  · have hpos : ¬ q < 0 := by omega
    go_wp2_with fail
    refine wp_region_noPanic ?_
    refine wp_region_held_drew (S := fun w' => w'.cell? ⟨tb, tof + k * 11 + 1, none⟩ = some (.int .i64 (fr : Int))) (by kernel_rfl) cy (fun hHeld => ?_)
    refine wpAnyH_take (i := 0) (oi := ⟨_, _, _, _, _, _⟩) (v := ?v59) rfl (by kernel_rfl) (by kernel_rfl) (by kernel_rfl) (fun _ _ _ h => h) (Or.inl ⟨by rfl, ?hy59⟩) hHeld ?rest59
    case hy59 => (intro w2 hSw; (try dsimp only at hSw); go_split_ands; go_simp; first | done | with_reducible rfl)
    try simp only [Act.put, List.setIfInBounds_toArray, List.set_cons_zero, List.set_cons_succ]
    refine wpAnyH_take (i := 1) (oi := ⟨_, _, _, _, _, _⟩) (v := ?v60) rfl (by kernel_rfl) (by kernel_rfl) (by kernel_rfl) (fun _ _ _ h => h) (Or.inl ⟨by rfl, ?hy60⟩) hHeld ?rest60
    case hy60 => (intro w2 hSw; (try dsimp only at hSw); go_split_ands; go_simp; first | done | with_reducible rfl)
    try simp only [Act.put, List.setIfInBounds_toArray, List.set_cons_zero, List.set_cons_succ]
    refine wpAnyH_take (i := 2) (oi := ⟨_, _, _, _, _, _⟩) (v := ?v61) rfl (by kernel_rfl) (by kernel_rfl) (by kernel_rfl) (fun _ _ _ h => h) (Or.inl ⟨by rfl, ?hy61⟩) hHeld ?rest61
    case hy61 => (intro w2 hSw; (try dsimp only at hSw); go_split_ands; go_simp; first | done | with_reducible rfl)
    try simp only [Act.put, List.setIfInBounds_toArray, List.set_cons_zero, List.set_cons_succ]
    refine wpAnyH_take (i := 3) (oi := ⟨_, _, _, _, _, _⟩) (v := ?v62) rfl (by kernel_rfl) (by kernel_rfl) (by kernel_rfl) (fun _ _ _ h => h) (Or.inl ⟨by rfl, ?hy62⟩) hHeld ?rest62
    case hy62 => (intro w2 hSw; (try dsimp only at hSw); go_split_ands; go_simp; first | done | with_reducible rfl)
    try simp only [Act.put, List.setIfInBounds_toArray, List.set_cons_zero, List.set_cons_succ]
    refine wpAnyH_take (i := 4) (oi := ⟨_, _, _, _, _, _⟩) (v := ?v63) rfl (by kernel_rfl) (by kernel_rfl) (by kernel_rfl) (fun _ _ _ h => h) (Or.inl ⟨by rfl, ?hy63⟩) hHeld ?rest63
    case hy63 => (intro w2 hSw; (try dsimp only at hSw); go_split_ands; go_simp; first | done | with_reducible rfl)
    try simp only [Act.put, List.setIfInBounds_toArray, List.set_cons_zero, List.set_cons_succ]
    refine wpAnyH_take (i := 5) (oi := ⟨_, _, _, _, _, _⟩) (v := ?v64) rfl (by kernel_rfl) (by kernel_rfl) (by kernel_rfl) (fun _ _ _ h => h) (Or.inl ⟨by rfl, ?hy64⟩) hHeld ?rest64
    case hy64 => (intro w2 hSw; (try dsimp only at hSw); go_split_ands; go_simp; first | done | with_reducible rfl)
    try simp only [Act.put, List.setIfInBounds_toArray, List.set_cons_zero, List.set_cons_succ]
    refine wpAnyH_take (i := 6) (oi := ⟨_, _, _, _, _, _⟩) (v := ?v65) rfl (by kernel_rfl) (by kernel_rfl) (by kernel_rfl) (fun _ _ _ h => h) (Or.inl ⟨by rfl, ?hy65⟩) hHeld ?rest65
    case hy65 => (intro w2 hSw; (try dsimp only at hSw); go_split_ands; go_simp; first | done | with_reducible rfl)
    try simp only [Act.put, List.setIfInBounds_toArray, List.set_cons_zero, List.set_cons_succ]
    refine wpAnyH_take (i := 7) (oi := ⟨_, _, _, _, _, _⟩) (v := ?v66) rfl (by kernel_rfl) (by kernel_rfl) (by kernel_rfl) (fun _ _ _ h => h) (Or.inl ⟨by rfl, ?hy66⟩) hHeld ?rest66
    case hy66 => (intro w2 hSw; (try dsimp only at hSw); go_split_ands; go_simp; first | done | with_reducible rfl)
    try simp only [Act.put, List.setIfInBounds_toArray, List.set_cons_zero, List.set_cons_succ]
    refine wpAnyH_take (i := 8) (oi := ⟨_, _, _, _, _, _⟩) (v := ?v67) rfl (by kernel_rfl) (by kernel_rfl) (by kernel_rfl) (fun _ _ _ h => h) (Or.inl ⟨by rfl, ?hy67⟩) hHeld ?rest67
    case hy67 => (intro w2 hSw; (try dsimp only at hSw); go_split_ands; go_simp; first | done | with_reducible rfl)
    try simp only [Act.put, List.setIfInBounds_toArray, List.set_cons_zero, List.set_cons_succ]
    refine wpAnyH_take (i := 9) (oi := ⟨_, _, _, _, _, _⟩) (v := ?v68) rfl (by kernel_rfl) (by kernel_rfl) (by kernel_rfl) (fun _ _ _ h => h) (Or.inl ⟨by rfl, ?hy68⟩) hHeld ?rest68
    case hy68 => (intro w2 hSw; (try dsimp only at hSw); go_split_ands; go_simp; first | done | with_reducible rfl)
    try simp only [Act.put, List.setIfInBounds_toArray, List.set_cons_zero, List.set_cons_succ]
    refine wpAnyH_take (i := 10) (oi := ⟨_, _, _, _, _, _⟩) (v := ?v69) rfl (by kernel_rfl) (by kernel_rfl) (by kernel_rfl) (fun _ _ _ h => h) (Or.inl ⟨by rfl, ?hy69⟩) hHeld ?rest69
    case hy69 => (intro w2 hSw; (try dsimp only at hSw); go_split_ands; go_simp; first | done | with_reducible rfl)
    try simp only [Act.put, List.setIfInBounds_toArray, List.set_cons_zero, List.set_cons_succ]
    refine wpAnyH_take (i := 11) (oi := ⟨_, _, _, _, _, _⟩) (v := ?v70) rfl (by kernel_rfl) (by kernel_rfl) (by kernel_rfl) (fun _ _ _ h => h) (Or.inl ⟨by rfl, ?hy70⟩) hHeld ?rest70
    case hy70 => (intro w2 hSw; (try dsimp only at hSw); go_split_ands; go_simp; first | done | with_reducible rfl)
    try simp only [Act.put, List.setIfInBounds_toArray, List.set_cons_zero, List.set_cons_succ]
    refine wpAnyH_take (i := 12) (oi := ⟨_, _, _, _, _, _⟩) (v := ?v71) rfl (by kernel_rfl) (by kernel_rfl) (by kernel_rfl) (fun _ _ _ h => h) (Or.inl ⟨by rfl, ?hy71⟩) hHeld ?rest71
    case hy71 => (intro w2 hSw; (try dsimp only at hSw); go_split_ands; go_simp; first | done | with_reducible rfl)
    try simp only [Act.put, List.setIfInBounds_toArray, List.set_cons_zero, List.set_cons_succ]
    refine wpAnyH_take (i := 13) (oi := ⟨_, _, _, _, _, _⟩) (v := ?v72) rfl (by kernel_rfl) (by kernel_rfl) (by kernel_rfl) (fun _ _ _ h => h) (Or.inl ⟨by rfl, ?hy72⟩) hHeld ?rest72
    case hy72 => (intro w2 hSw; (try dsimp only at hSw); go_split_ands; go_simp; first | done | with_reducible rfl)
    try simp only [Act.put, List.setIfInBounds_toArray, List.set_cons_zero, List.set_cons_succ]
    refine wpAnyH_take (i := 14) (oi := ⟨_, _, _, _, _, _⟩) (v := ?v73) rfl (by kernel_rfl) (by kernel_rfl) (by kernel_rfl) (fun _ _ _ h => h) (Or.inl ⟨by rfl, ?hy73⟩) hHeld ?rest73
    case hy73 => (intro w2 hSw; (try dsimp only at hSw); go_split_ands; go_simp; first | done | with_reducible rfl)
    try simp only [Act.put, List.setIfInBounds_toArray, List.set_cons_zero, List.set_cons_succ]
    refine wpAnyH_take (i := 15) (oi := ⟨_, _, _, _, _, _⟩) (v := ?v74) rfl (by kernel_rfl) (by kernel_rfl) (by kernel_rfl) (fun _ _ _ h => h) (Or.inl ⟨by rfl, ?hy74⟩) hHeld ?rest74
    case hy74 => (intro w2 hSw; (try dsimp only at hSw); go_split_ands; go_simp; first | done | with_reducible rfl)
    try simp only [Act.put, List.setIfInBounds_toArray, List.set_cons_zero, List.set_cons_succ]
    refine wpAnyH_take (i := 16) (oi := ⟨_, _, _, _, _, _⟩) (v := ?v75) rfl (by kernel_rfl) (by kernel_rfl) (by kernel_rfl) (fun _ _ _ h => h) (Or.inl ⟨by rfl, ?hy75⟩) hHeld ?rest75
    case hy75 => (intro w2 hSw; (try dsimp only at hSw); go_split_ands; go_simp; first | done | with_reducible rfl)
    try simp only [Act.put, List.setIfInBounds_toArray, List.set_cons_zero, List.set_cons_succ]
    refine wpAnyH_take (i := 17) (oi := ⟨_, _, _, _, _, _⟩) (v := ?v76) rfl (by kernel_rfl) (by kernel_rfl) (by kernel_rfl) (fun _ _ _ h => h) (Or.inl ⟨by rfl, ?hy76⟩) hHeld ?rest76
    case hy76 => (intro w2 hSw; (try dsimp only at hSw); go_split_ands; go_simp; first | done | with_reducible rfl)
    try simp only [Act.put, List.setIfInBounds_toArray, List.set_cons_zero, List.set_cons_succ]
    refine wpAnyH_ready (rs := [18, 23]) (by kernel_rfl) (by simp) ?_
    refine AllReadyH.cons (o := ⟨_, _, _, _, _, _⟩) rfl (fun K hK => ?_) (AllReadyH.cons (o := ⟨_, _, _, _, _, _⟩) rfl (fun K hK => ?_) AllReadyH.nil)
    · go_split_ands
      go_simp
      refine (CP2.out w3.drew hB3.drew).mono ?_
      rintro e w5 ⟨A3, cap3, rfl, hrd5, hb5, hA3⟩
      refine hK.out _ _ ?_ (fun hHeld => ?_)
      · exact (hb5.cell (p := ⟨tb, tof + k * 11 + 1, none⟩) (by first | exact htb3 | (simp; omega))).trans (by assumption)
      clear hK K
      try simp only [Act.put, List.setIfInBounds_toArray, List.set_cons_zero, List.set_cons_succ]
      have hq5 : Below w3.heap.size w3 w5 := (Below.refl _ _).drew.trans hb5
      refine wpAnyH_take (i := 19) (oi := ⟨_, _, _, _, _, _⟩) (v := ?v47) rfl (by kernel_rfl) (by kernel_rfl) (by kernel_rfl) (fun _ _ _ h => h) (Or.inl ⟨by rfl, ?hy47⟩) hHeld ?rest47
      case hy47 => (intro w2 hSw; (try dsimp only at hSw); go_split_ands; go_simp; first | done | with_reducible rfl)
      try simp only [Act.put, List.setIfInBounds_toArray, List.set_cons_zero, List.set_cons_succ]
      refine wpAnyH_take (i := 20) (oi := ⟨_, _, _, _, _, _⟩) (v := ?v48) rfl (by kernel_rfl) (by kernel_rfl) (by kernel_rfl) (fun _ _ _ h => h) (Or.inl ⟨by rfl, ?hy48⟩) hHeld ?rest48
      case hy48 => (intro w2 hSw; (try dsimp only at hSw); go_split_ands; go_simp; first | done | with_reducible rfl)
      try simp only [Act.put, List.setIfInBounds_toArray, List.set_cons_zero, List.set_cons_succ]
      refine wpAnyH_take (i := 21) (oi := ⟨_, _, _, _, _, _⟩) (v := ?v49) rfl (by kernel_rfl) (by kernel_rfl) (by kernel_rfl) (fun _ _ _ h => h) (Or.inl ⟨by rfl, ?hy49⟩) hHeld ?rest49
      case hy49 => (intro w2 hSw; (try dsimp only at hSw); go_split_ands; go_simp; first | done | with_reducible rfl)
      try simp only [Act.put, List.setIfInBounds_toArray, List.set_cons_zero, List.set_cons_succ]
      refine wpAnyH_take (i := 22) (oi := ⟨_, _, _, _, _, _⟩) (v := ?v50) rfl (by kernel_rfl) (by kernel_rfl) (by kernel_rfl) (fun _ _ _ h => h) (Or.inl ⟨by rfl, ?hy50⟩) hHeld ?rest50
      case hy50 => (intro w2 hSw; (try dsimp only at hSw); go_split_ands; go_simp; first | done | with_reducible rfl)
      try simp only [Act.put, List.setIfInBounds_toArray, List.set_cons_zero, List.set_cons_succ]
      refine wpAnyH_ready (rs := [23]) (by kernel_rfl) (by simp) ?_
      refine AllReadyH.cons (o := ⟨_, _, _, _, _, _⟩) rfl (fun K hK => ?_) AllReadyH.nil
      go_split_ands
      go_simp
      refine hK.out _ _ ?_ (fun hHeld => ?_)
      · exact (World.cell?_alloc_lt _ _ ⟨tb, tof + k * 11 + 1, none⟩ (by first | exact htb3 | (show tb < _; have := hb5.size; simp at this; omega))).trans (by assumption)
      clear hK K
      try simp only [Act.put, List.setIfInBounds_toArray, List.set_cons_zero, List.set_cons_succ]
      refine wpAnyH_ready (rs := [24]) (by kernel_rfl) (by simp) ?_
      refine AllReadyH.cons (o := ⟨_, _, _, _, _, _⟩) rfl (fun K hK => ?_) AllReadyH.nil
      go_split_ands
      go_simp
      refine hK.out _ _ ?_ (fun hHeld => ?_)
      · exact ((hq5.alloc hq5.size (.cells #[.slice A3 ns.length cap3] 39)).cell (p := ⟨tb, tof + k * 11 + 1, none⟩) htb3).trans cy
      clear hK K
      try simp only [Act.put, List.setIfInBounds_toArray, List.set_cons_zero, List.set_cons_succ]
      refine wpAnyH_take (i := 25) (oi := ⟨_, _, _, _, _, _⟩) (v := ?v51) rfl (by kernel_rfl) (by kernel_rfl) (by kernel_rfl) (fun _ _ _ h => h) (Or.inl ⟨by rfl, ?hy51⟩) hHeld ?rest51
      case hy51 => (intro w2 hSw; (try dsimp only at hSw); go_split_ands; go_simp; first | done | with_reducible rfl)
      try simp only [Act.put, List.setIfInBounds_toArray, List.set_cons_zero, List.set_cons_succ]
      refine wpAnyH_take (i := 26) (oi := ⟨_, _, _, _, _, _⟩) (v := ?v52) rfl (by kernel_rfl) (by kernel_rfl) (by kernel_rfl) (fun _ _ _ h => h) (Or.inl ⟨by rfl, ?hy52⟩) hHeld ?rest52
      case hy52 => (intro w2 hSw; (try dsimp only at hSw); go_split_ands; go_simp; first | done | with_reducible rfl)
      try simp only [Act.put, List.setIfInBounds_toArray, List.set_cons_zero, List.set_cons_succ]
      refine wpAnyH_done (by kernel_rfl) ?_ _
      refine NoPanic.normal ?_
      have hBW := (hq5.alloc hq5.size (.cells #[.slice A3 ns.length cap3] 39))
      have hbxW := (hBW.block w1.heap.size hltx).trans hbx3.out
      have x1 := by have := cell_of_row _ w1.heap.size 0 _ _ _ hbxW; exact this
      have x3 := (show (w5.alloc (.cells #[.slice A3 ns.length cap3] 39)).cell? ⟨w5.heap.size, 0, none⟩ = some (.slice A3 ns.length cap3) from by rw [cell_of_row _ w5.heap.size 0 _ _ _ (heap_alloc_new w5 (.cells #[.slice A3 ns.length cap3] 39))]; rfl)
      have cyW := (hBW.cell (p := ⟨tb, tof + k * 11 + 1, none⟩) htb3).trans cy
      have hr1 := (hrd3.out.below hBW).mono hBW.size
      have hr3 : RdB (w5.alloc (.cells #[.slice A3 ns.length cap3] 39)) (w5.alloc (.cells #[.slice A3 ns.length cap3] 39)).heap.size A3 15 (ns.map NL.cs) := (hrd5.below ((Below.refl _ _).alloc (Nat.le_refl _) (.cells #[.slice A3 ns.length cap3] 39))).mono (by rw [World.size_alloc]; omega)
      have hBf : Below w.heap.size w _ := hB3.trans (hBW.mono hB3.size)
      generalize w5.alloc (.cells #[.slice A3 ns.length cap3] 39) = W at *
      have hxx : W.cell? ⟨w1.heap.size, 0, none⟩ = some (.slice A1 ns.length cap1) := x1
      clear x1
      have CS := lsame ns (by omega) W A1 A3 cap1 cap3 hr1 hr3
      clear hBW hbxW hr1 hr3 hrd5 hb5 hq5
      rcases hcase with ⟨rfl, rfl⟩ | ⟨h0, h1, rfl⟩ | ⟨h0, h1, rfl⟩ <;> (
        go_wp2_with fail
        refine CS.mono ?_
        rintro e w8 ⟨rfl, hb8⟩
        have hB8 : Below w.heap.size w w8 := hBf.trans (hb8.mono hBf.size)
        clear CS hb8 hBf
        go_wp2
        go_ret
        exact ⟨rfl, hB8⟩)
    · go_split_ands
      go_simp
      refine hK.out _ _ ?_ (fun hHeld => ?_)
      · exact (World.cell?_alloc_lt _ _ ⟨tb, tof + k * 11 + 1, none⟩ (by first | exact htb3 | (show tb < _; have := hb5.size; simp at this; omega))).trans (by assumption)
      clear hK K
      try simp only [Act.put, List.setIfInBounds_toArray, List.set_cons_zero, List.set_cons_succ]
      refine wpAnyH_ready (rs := [18]) (by kernel_rfl) (by simp) ?_
      refine AllReadyH.cons (o := ⟨_, _, _, _, _, _⟩) rfl (fun K hK => ?_) AllReadyH.nil
      go_split_ands
      go_simp
      refine (CP2.out (w3.drew.alloc (.cells #[.slice none 0 0] 39)) (hB3.drew.alloc hB3.size _)).mono ?_
      rintro e w5 ⟨A3, cap3, rfl, hrd5, hb5, hA3⟩
      refine hK.out _ _ ?_ (fun hHeld => ?_)
      · exact (hb5.cell (p := ⟨tb, tof + k * 11 + 1, none⟩) (by first | exact htb3 | (simp; omega))).trans (by assumption)
      clear hK K
      try simp only [Act.put, List.setIfInBounds_toArray, List.set_cons_zero, List.set_cons_succ]
      have hq5 : Below w3.heap.size w3 w5 := ((Below.refl _ _).drew.alloc (Nat.le_refl _) (.cells #[.slice none 0 0] 39)).trans (hb5.mono (by simp))
      have hbz : w5.heap[w3.heap.size]? = some (.cells #[.slice none 0 0] 39 (0, 0)) := (hb5.block w3.heap.size (by simp)).trans (heap_alloc_new w3.drew _)
      have cz : w5.cell? ⟨w3.heap.size, 0, none⟩ = some (.slice none 0 0) := by rw [cell_of_row w5 w3.heap.size 0 _ _ _ hbz]; rfl
      have fz : w5.frozen? ⟨w3.heap.size, 0, none⟩ = false := by simp [World.frozen?, hbz]
      refine wpAnyH_take (i := 19) (oi := ⟨_, _, _, _, _, _⟩) (v := ?v53) rfl (by kernel_rfl) (by kernel_rfl) (by kernel_rfl) (fun _ _ _ h => h) (Or.inl ⟨by rfl, ?hy53⟩) hHeld ?rest53
      case hy53 => (intro w2 hSw; (try dsimp only at hSw); go_split_ands; go_simp; first | done | with_reducible rfl)
      try simp only [Act.put, List.setIfInBounds_toArray, List.set_cons_zero, List.set_cons_succ]
      refine wpAnyH_take (i := 20) (oi := ⟨_, _, _, _, _, _⟩) (v := ?v54) rfl (by kernel_rfl) (by kernel_rfl) (by kernel_rfl) (fun _ _ _ h => h) (Or.inl ⟨by rfl, ?hy54⟩) hHeld ?rest54
      case hy54 => (intro w2 hSw; (try dsimp only at hSw); go_split_ands; go_simp; first | done | with_reducible rfl)
      try simp only [Act.put, List.setIfInBounds_toArray, List.set_cons_zero, List.set_cons_succ]
      refine wpAnyH_take (i := 21) (oi := ⟨_, _, _, _, _, _⟩) (v := ?v55) rfl (by kernel_rfl) (by kernel_rfl) (by kernel_rfl) (fun _ _ _ h => h) (Or.inl ⟨by rfl, ?hy55⟩) hHeld ?rest55
      case hy55 => (intro w2 hSw; (try dsimp only at hSw); go_split_ands; go_simp; first | done | with_reducible rfl)
      try simp only [Act.put, List.setIfInBounds_toArray, List.set_cons_zero, List.set_cons_succ]
      refine wpAnyH_take (i := 22) (oi := ⟨_, _, _, _, _, _⟩) (v := ?v56) rfl (by kernel_rfl) (by kernel_rfl) (by kernel_rfl) (fun _ _ _ h => h) (Or.inl ⟨by rfl, ?hy56⟩) hHeld ?rest56
      case hy56 => (intro w2 hSw; (try dsimp only at hSw); go_split_ands; go_simp; first | done | with_reducible rfl)
      try simp only [Act.put, List.setIfInBounds_toArray, List.set_cons_zero, List.set_cons_succ]
      refine wpAnyH_ready (rs := [24]) (by kernel_rfl) (by simp) ?_
      refine AllReadyH.cons (o := ⟨_, _, _, _, _, _⟩) rfl (fun K hK => ?_) AllReadyH.nil
      go_split_ands
      go_simp
      refine hK.out _ _ ?_ (fun hHeld => ?_)
      · exact ((hq5.setCell (p := ⟨w3.heap.size, 0, none⟩) (Nat.le_refl _) (.slice A3 ns.length cap3)).cell (p := ⟨tb, tof + k * 11 + 1, none⟩) htb3).trans cy
      clear hK K
      try simp only [Act.put, List.setIfInBounds_toArray, List.set_cons_zero, List.set_cons_succ]
      refine wpAnyH_take (i := 25) (oi := ⟨_, _, _, _, _, _⟩) (v := ?v57) rfl (by kernel_rfl) (by kernel_rfl) (by kernel_rfl) (fun _ _ _ h => h) (Or.inl ⟨by rfl, ?hy57⟩) hHeld ?rest57
      case hy57 => (intro w2 hSw; (try dsimp only at hSw); go_split_ands; go_simp; first | done | with_reducible rfl)
      try simp only [Act.put, List.setIfInBounds_toArray, List.set_cons_zero, List.set_cons_succ]
      refine wpAnyH_take (i := 26) (oi := ⟨_, _, _, _, _, _⟩) (v := ?v58) rfl (by kernel_rfl) (by kernel_rfl) (by kernel_rfl) (fun _ _ _ h => h) (Or.inl ⟨by rfl, ?hy58⟩) hHeld ?rest58
      case hy58 => (intro w2 hSw; (try dsimp only at hSw); go_split_ands; go_simp; first | done | with_reducible rfl)
      try simp only [Act.put, List.setIfInBounds_toArray, List.set_cons_zero, List.set_cons_succ]
      refine wpAnyH_done (by kernel_rfl) ?_ _
      refine NoPanic.normal ?_
      clear cz fz
      have hBW := (hq5.setCell (p := ⟨w3.heap.size, 0, none⟩) (Nat.le_refl _) (.slice A3 ns.length cap3))
      have hbxW := (hBW.block w1.heap.size hltx).trans hbx3.out
      have x1 := by have := cell_of_row _ w1.heap.size 0 _ _ _ hbxW; exact this
      have x3 := row_cell1 hbz (.slice A3 ns.length cap3)
      have cyW := (hBW.cell (p := ⟨tb, tof + k * 11 + 1, none⟩) htb3).trans cy
      have hr1 := (hrd3.out.below hBW).mono hBW.size
      have hr3 : RdB (w5.setCell ⟨w3.heap.size, 0, none⟩ (.slice A3 ns.length cap3)) (w5.setCell ⟨w3.heap.size, 0, none⟩ (.slice A3 ns.length cap3)).heap.size A3 15 (ns.map NL.cs) := (rdB_set hrd5 (fun p hp => by have := hA3 p hp; rw [World.size_alloc] at this; exact Nat.ne_of_gt this) (.slice A3 ns.length cap3)).mono (by show w5.heap.size ≤ (w5.heap.modify _ _).size; rw [Array.size_modify]; exact Nat.le_refl _)
      have hBf : Below w.heap.size w _ := hB3.trans (hBW.mono hB3.size)
      generalize w5.setCell ⟨w3.heap.size, 0, none⟩ (.slice A3 ns.length cap3) = W at *
      have hxx : W.cell? ⟨w1.heap.size, 0, none⟩ = some (.slice A1 ns.length cap1) := x1
      clear x1
      have CS := lsame ns (by omega) W A1 A3 cap1 cap3 hr1 hr3
      clear hBW hbxW hr1 hr3 hrd5 hb5 hq5
      rcases hcase with ⟨rfl, rfl⟩ | ⟨h0, h1, rfl⟩ | ⟨h0, h1, rfl⟩ <;> (
        go_wp2_with fail
        refine CS.mono ?_
        rintro e w8 ⟨rfl, hb8⟩
        have hB8 : Below w.heap.size w w8 := hBf.trans (hb8.mono hBf.size)
        clear CS hb8 hBf
        go_wp2
        go_ret
        exact ⟨rfl, hB8⟩)

theorem pun_of {w w' : World} {x : PR} {e : Ending} (h : PAns w x e w') : PUn w (nsOf x) (erOf x) (atOf x) e w' := by
  obtain ⟨hb, h⟩ := h
  cases x with
  | ok s =>
    obtain ⟨N, rfl, hown⟩ := h
    have hlt := hown.lt
    obtain ⟨A, cap, rfl, hrd⟩ := own_rdn hown
    refine ⟨A, cap, rfl, hrd, hb, fun p hp => ?_⟩
    subst hp
    exact (hlt p.block rfl).1
  | bad er a =>
    obtain rfl := h
    exact ⟨none, 0, rfl, fun i c hi => by simp [nsOf] at hi, hb, fun p hp => by cases hp⟩
theorem pun (l : List UInt8) (hl : l.length ≤ 1400000) (A : Option Addr) (fl : List FL) (cap : Nat) (w : World) (hT : FunsAt ⟨A, cap, fl⟩ w.heap.size w) (W : World) (hb : Below w.heap.size w W) : Calls Tryz.prog 12 #[.string ⟨l.toArray⟩, .iface 43 (.slice A fl.length cap)] W fun e w' => PUn W (nsOf (parseT (tbOf fl) (lexL l))) (erOf (parseT (tbOf fl) (lexL l))) (atOf (parseT (tbOf fl) (lexL l))) e w' :=
  (pparse l hl ⟨A, cap, fl⟩ W ((hT.below hb).mono hb.size)).mono fun _ _ h => pun_of h
set_option maxHeartbeats 1000000 in
theorem pblank_no (l : List UInt8) (hl : l.length ≤ 1048576) (h61 : ∀ b, l.head? = some b → b.toNat ≠ 61) (a : Int) (A : Option Addr) (fl : List FL) (cap : Nat) (w : World) (hT : FunsAt ⟨A, cap, fl⟩ w.heap.size w) : Calls Tryz.prog 5 #[.string ⟨l.toArray⟩, .slice A fl.length cap, .int .i64 a] w fun e w' => e = .returned (.bool true) ∧ Below w.heap.size w w' := by
  have CP := pun l (by omega) A fl cap w hT w (Below.refl _ _)
  rw [parse_noeq _ _ h61] at CP
  simp only [nsOf, erOf, atOf] at CP
  have CLL := r4lex l (by omega)
  clear hT
  have go : ∀ (hs : ((⟨l.toArray⟩ : ByteArray) = ⟨#[]⟩) ∨ (((⟨l.toArray⟩ : ByteArray) = ⟨#[]⟩) = False ∧ ∃ h0 : 0 < (⟨l.toArray⟩ : ByteArray).size, ((⟨l.toArray⟩ : ByteArray)[0]'h0).toNat ≠ 61)), Calls Tryz.prog 5 #[.string ⟨l.toArray⟩, .slice A fl.length cap, .int .i64 a] w fun e w' => e = .returned (.bool true) ∧ Below w.heap.size w w' := by
    intro hs
    generalize (⟨l.toArray⟩ : ByteArray) = s at *
    clear h61 hl
    go_enter Tryz.func5, Tryz.ntmps5
    go_wp2_with fail
    refine CP.mono ?_
    rintro e w1 ⟨A1, cap1, rfl, _, hb1, _⟩
    have CL := CLL (w1.alloc (.cells #[.slice A1 0 cap1] 39))
    clear CP CLL
    go_wp2_with fail
    refine CL.mono ?_
    rintro e w2 ⟨⟨v, rfl, hrt⟩, hb2⟩
    have CK := pknown w2
    obtain ⟨tA, tcap, rfl, _⟩ := hrt
    have hB2 : Below w.heap.size w w2 := hb1.trans ((((Below.refl _ _).alloc (Nat.le_refl _) _).trans (hb2.mono (by simp))).mono hb1.size)
    clear CL hb2 hb1
    go_wp2_with fail
    refine CK.mono ?_
    rintro e w3 ⟨rfl, hb3⟩
    have hB3 : Below w.heap.size w w3 := hB2.trans (hb3.mono hB2.size)
    clear CK hb3 hB2
    rcases hs with rfl | ⟨hs, h0, hn⟩
    · go_wp2
      go_ret
      exact ⟨rfl, hB3⟩
    · go_wp2
      go_ret
      exact ⟨rfl, hB3⟩
  cases l with
  | nil => exact go (.inl rfl)
  | cons c r =>
    have hb0 : 0 < (⟨(c :: r).toArray⟩ : ByteArray).size := by show 0 < (c :: r).toArray.size; simp
    exact go (.inr ⟨by rw [show (⟨#[]⟩ : ByteArray) = ⟨([] : List UInt8).toArray⟩ from rfl, list_bytes]; exact eq_false (by simp), hb0, h61 c rfl⟩)
theorem walk_ParseBlanks (l : List UInt8) (hl : l.length ≤ 1048576) (A : Option Addr) (fl : List FL) (cap : Nat) (a : Int) (ha : -9223372036854775808 ≤ a ∧ a ≤ 9223372036854775807) (w : World) (_ht : Tab w) (hT : FunsAt ⟨A, cap, fl⟩ w.heap.size w) : Calls Tryz.prog 5 #[.string ⟨l.toArray⟩, .slice A fl.length cap, .int .i64 a] w fun e w' => e = .returned (.bool true) ∧ Below w.heap.size w w' := by
  by_cases h61 : ∃ c r, l = c :: r ∧ c.toNat = 61
  · obtain ⟨c, r, hlr, hc⟩ := h61
    have hN : (0 : Int) < ((lexL l).length : Int) := by have := (lexL_laws l).ne; omega
    have h1 := Int.lt_tmod_of_pos a hN
    have h2 := Int.tmod_lt_of_pos a hN
    have key : ∀ k : Nat, k < (lexL l).length → ((a.tmod ((lexL l).length : Int) < 0 ∧ a.tmod ((lexL l).length : Int) + ((lexL l).length : Int) = (k : Int)) ∨ a.tmod ((lexL l).length : Int) = (k : Int)) → Calls Tryz.prog 5 #[.string ⟨l.toArray⟩, .slice A fl.length cap, .int .i64 a] w fun e w' => e = .returned (.bool true) ∧ Below w.heap.size w w' := fun k hkN hk => by
      obtain ⟨x, hx⟩ : ∃ x, (lexL l)[k]? = some x := ⟨_, List.getElem?_eq_getElem hkN⟩
      obtain ⟨fr, hfr, hfl, hlaw⟩ := blank_parse (tbOf fl) c r hc k x (by rw [← hlr]; exact hx)
      rw [← hlr] at hfl hlaw
      have CP2 := pun (l.take fr ++ 32 :: l.drop fr) (by simp; omega) A fl cap w hT
      rw [hlaw, nsOf_mv, erOf_mv] at CP2
      have hp := parse_law (tbOf fl) l
      have hns : (nsOf (parseT (tbOf fl) (lexL l))).length ≤ 1024 := by
        cases hq : parseT (tbOf fl) (lexL l) with
        | ok s => rw [hq] at hp; exact (check_few hp).2
        | bad e a => simp [nsOf]
      refine pblank_yes l r c hlr hc hl a ha k hkN hk A fl cap w _ _ _ _ hns fr x hx hfr hfl ?_ ?_ (pun l (by omega) A fl cap w hT) CP2
      · cases hq : parseT (tbOf fl) (lexL l) with
        | ok s => simp [atOf]
        | bad e b => rw [hq] at hp; simp only [atOf]; omega
      · cases hq : parseT (tbOf fl) (lexL l) with
        | ok s => exact .inl ⟨rfl, rfl⟩
        | bad e b =>
          rw [hq] at hp
          simp only [erOf, atOf, PR.mv, up1]
          have he : e ≠ 0 := by omega
          split
          · rename_i h; exact .inr (.inl ⟨he, h, rfl⟩)
          · rename_i h; exact .inr (.inr ⟨he, by omega, rfl⟩)
    by_cases hneg : a.tmod ((lexL l).length : Int) < 0
    · obtain ⟨k, hk⟩ := Int.eq_ofNat_of_zero_le (show 0 ≤ a.tmod ((lexL l).length : Int) + ((lexL l).length : Int) by omega)
      exact key k (by omega) (.inl ⟨hneg, hk⟩)
    · obtain ⟨k, hk⟩ := Int.eq_ofNat_of_zero_le (show 0 ≤ a.tmod ((lexL l).length : Int) by omega)
      exact key k (by omega) (.inr hk)
  · exact pblank_no l hl (fun b hb hc => h61 (by
      cases l with
      | nil => simp at hb
      | cons c r => simp at hb; subst hb; exact ⟨_, _, rfl, hc⟩)) a A fl cap w hT
end Go.Proofs.YtiekhbagpmnboaaGreatDoor
