/-
  oriellaw06.ParseBrackets; The law ParseBrackets returns true for every input of bulk at most 1048576; the listed variables of the library are as the program's text lays them (the card ties that).
-/
import Derived.Test.YtiekhbagpmnboaaGreatDoorMg1
import Derived.Test.YtiekhbagpmnboaaGreatDoorRows
import Derived.Test.YtiekhbagpmnboaaGreatDoorMg0
import Derived.Test.YtiekhbagpmnboaaGreatDoorProg
import Derived.Test.YtiekhbagpmnboaaGreatDoorAddrC
import Derived.Test.YtiekhbagpmnboaaGreatDoorMg3
import Derived.Test.YtiekhbagpmnboaaGreatDoorMg4
import Derived.Test.YtiekhbagpmnboaaGreatDoorValA
import Derived.Test.YtiekhbagpmnboaaGreatDoorValB
import Derived.Test.YtiekhbagpmnboaaGreatDoorMg7
import Derived.Test.YtiekhbagpmnboaaGreatDoorLexP
import Derived.Test.YtiekhbagpmnboaaGreatDoorMg9
import Derived.Test.YtiekhbagpmnboaaGreatDoorPaP
import Derived.Test.YtiekhbagpmnboaaGreatDoorMg11
import Derived.Test.YtiekhbagpmnboaaGreatDoorPaW
import Derived.Test.YtiekhbagpmnboaaGreatDoorPaX
import Derived.Test.YtiekhbagpmnboaaGreatDoorPaY
import Derived.Test.YtiekhbagpmnboaaGreatDoorMg15
import Derived.Test.YtiekhbagpmnboaaGreatDoorMg16
import Derived.Test.YtiekhbagpmnboaaGreatDoorPaC
import Derived.Test.YtiekhbagpmnboaaGreatDoorPaK
import Derived.Test.YtiekhbagpmnboaaGreatDoorPaI
import Derived.Test.YtiekhbagpmnboaaGreatDoorPaQ
import Derived.Test.YtiekhbagpmnboaaGreatDoorPaE
import Derived.Test.YtiekhbagpmnboaaGreatDoorMg22
import Derived.Test.YtiekhbagpmnboaaGreatDoorMg23
import Derived.Test.YtiekhbagpmnboaaGreatDoorLexR
import Derived.Test.YtiekhbagpmnboaaGreatDoorLexWd
import Derived.Test.YtiekhbagpmnboaaGreatDoorMg26
import Derived.Test.YtiekhbagpmnboaaGreatDoorMg27
import Derived.Test.YtiekhbagpmnboaaGreatDoorLexS
import Derived.Test.YtiekhbagpmnboaaGreatDoorDDig
import Derived.Test.YtiekhbagpmnboaaGreatDoorDParse
import Derived.Test.YtiekhbagpmnboaaGreatDoorLexF
import Derived.Test.YtiekhbagpmnboaaGreatDoorLexN
import Derived.Test.YtiekhbagpmnboaaGreatDoorRDPar
import Derived.Test.YtiekhbagpmnboaaGreatDoorRDParB
import Derived.Test.YtiekhbagpmnboaaGreatDoorRDJoin
import Derived.Test.YtiekhbagpmnboaaGreatDoorLexD
import Derived.Test.YtiekhbagpmnboaaGreatDoorLexB
import Derived.Test.YtiekhbagpmnboaaGreatDoorLexI
import Derived.Test.YtiekhbagpmnboaaGreatDoorPaO
import Derived.Test.YtiekhbagpmnboaaGreatDoorMg40
import Derived.Test.YtiekhbagpmnboaaGreatDoorPaS
import Derived.Test.YtiekhbagpmnboaaGreatDoorMg42
import Derived.Test.YtiekhbagpmnboaaGreatDoorPaM
import Derived.Test.YtiekhbagpmnboaaGreatDoorLPSm
import Derived.Test.YtiekhbagpmnboaaGreatDoorPaB
import Derived.Test.YtiekhbagpmnboaaGreatDoorLPOth
import Derived.Test.YtiekhbagpmnboaaGreatDoorMg48
import Derived.Test.YtiekhbagpmnboaaGreatDoorLPBla
import Derived.Test.YtiekhbagpmnboaaGreatDoorCards
import Derived.Test.YtiekhbagpmnboaaGreatDoorTie
import Derived.BigRegion
import Derived.WalkSpells
import Derived.WalkLawsBesides
import Derived.StillTactics
import Derived.Laws.Pointers
import Derived.Deep.RegionHeld3
import Derived.Deep.QuietTactic
import Derived.BigQuiet
import Derived.RowKit3
import Derived.Lib.Hide
import Derived.Lib.OthersKept
import Derived.OwnWalk
import Derived.Lib.IndexLaws
import Derived.Lib.ItoaMem
import Derived.Lib.TrimByte
import Derived.Lib.SlTrimSet
import Derived.Lib.ParseIntB
import Derived.WalkKit
import Derived.ProofKit
import Derived.OpenShut
import Derived.Carry
import Derived.ChangeSame
import Derived.Deep.Draws
import Derived.Shelf.Strings.Builder1
import Derived.Shelf.Strings.Trim
import Derived.Shelf.Small.Utf8
import Derived.Shelf.Small.Strs
import Derived.Shelf.Small.Wraps
import Derived.Shelf.Strings.BuilderF
import Derived.Shelf.Strings.BuilderK
import Derived.Shelf.Strconv.Itoa0
import Derived.Shelf.Strconv.Itoa1
import Derived.Shelf.LaysM
import Derived.Shelf.Strconv.Itoa2
import Derived.Shelf.Strconv.Itoa3
import Derived.Ground.MpProg
import Derived.Shelf.Pu.ParseUintPublic10
import Derived.Shelf.Strings.Search1
import Derived.Shelf.Strings.Search2
import Derived.Shelf.Strings.Cut
import Derived.Shelf.Strings.Shaped
import Derived.Shelf.Strings.Prefix
import Derived.Shelf.Strings.Runes
import Derived.Shelf.Strings.AsciiSet
import Derived.Shelf.Unicode.DecodeSlow
import Derived.Lib.ItoaNum
import Derived.Maps.OwnSet
import Derived.Maps.AppendAt
import Derived.Deep.RegionLaw
import Derived.Deep.AppendLies
import Derived.ScopeJumps
import Derived.WalkMore
import Derived.Shelf.Strings.SlTrimAscii
import Derived.Lib.SmallJoins
import Derived.RangeFuncBox
import Derived.RangeFuncNested
import Derived.RangeFuncLeaves
import Derived.Shelf.Abstract
import Derived.OwnWalkIn
import Derived.TacticsInMore
import Derived.LoopNIn
import Derived.LoopIn
import Derived.Maps.OwnIn
import Derived.Defers
import Derived.Recover
import Derived.Outline
import Derived.Deep.CutRange
import Derived.Laws.AppendOwnNone
import Derived.Laws.AppendOwn
import Derived.Deep.DeepHandedRow
import Derived.Deep.DeepWitnessRowRef
import Derived.Lib.LaidTab
import Derived.Shelf.Vars
import Derived.Deep.Slices
import Derived.ChangeSlices
namespace Go.Proofs.YtiekhbagpmnboaaGreatDoor
open Go.RowKit

set_option maxHeartbeats 1000000 in
theorem pbrk_bad (l : List UInt8) (A : Option Addr) (fl : List FL) (cap : Nat) (w : World) (ns : List NL) (er a : Int) (her : er ≠ 0) (CP : Calls Tryz.prog 12 #[.string ⟨l.toArray⟩, .iface 43 (.slice A fl.length cap)] w fun e w' => PUn w ns er a e w') : Calls Tryz.prog 6 #[.string ⟨l.toArray⟩, .slice A fl.length cap] w fun e w' => e = .returned (.bool true) ∧ Below w.heap.size w w' := by
  go_enter Tryz.func6, Tryz.ntmps6
  go_wp2_with fail
  refine CP.mono ?_
  rintro e w1 ⟨A1, cap1, rfl, _, hb1, _⟩
  have CK := pknown (w1.alloc (.cells #[.slice A1 ns.length cap1] 39))
  clear CP
  go_wp2_with fail
  refine CK.mono ?_
  rintro e w2 ⟨rfl, hb2⟩
  have hBf : Below w.heap.size w w2 := hb1.trans ((((Below.refl _ _).alloc (Nat.le_refl _) _).trans (hb2.mono (by simp))).mono hb1.size)
  clear CK hb1 hb2
  go_wp2
  go_ret
  exact ⟨rfl, hBf⟩
theorem cnt_step40 (l : List UInt8) (j : Nat) (h : j < l.length) : cnt40 (l.take (j + 1)) = cnt40 (l.take j) + if l[j].toNat = 40 then 1 else 0 := by
  unfold cnt40
  rw [List.take_add_one, List.getElem?_eq_getElem h, Option.toList_some, List.countP_append]
  simp [List.countP_cons]
set_option maxRecDepth 100000 in
set_option maxHeartbeats 4000000 in
theorem pbrk_ok (l r : List UInt8) (hlr : l = 61 :: r) (hl : l.length ≤ 1048576) (A : Option Addr) (fl : List FL) (cap : Nat) (w : World) (ns n2 : List NL) (a e2 a2 : Int) (hns : ns.length ≤ 1024)
    (hcase : (e2 = 0 ∧ n2 = ns) ∨ (e2 = 7 ∧ 0 < a2 ∧ 32 ≤ cnt40 l))
    (CP : Calls Tryz.prog 12 #[.string ⟨l.toArray⟩, .iface 43 (.slice A fl.length cap)] w fun e w' => PUn w ns 0 a e w')
    (CP2 : ∀ W : World, Below w.heap.size w W → Calls Tryz.prog 12 #[.string ⟨([61, 40] ++ l.drop 1 ++ [41]).toArray⟩, .iface 43 (.slice A fl.length cap)] W fun e w' => PUn W n2 e2 a2 e w') : Calls Tryz.prog 6 #[.string ⟨l.toArray⟩, .slice A fl.length cap] w fun e w' => e = .returned (.bool true) ∧ Below w.heap.size w w' := by
  have hne : ((⟨l.toArray⟩ : ByteArray) = ⟨#[]⟩) = False := by rw [show (⟨#[]⟩ : ByteArray) = ⟨([] : List UInt8).toArray⟩ from rfl, list_bytes, hlr]; exact eq_false (by simp)
  have hl1 : 1 ≤ l.length := by rw [hlr]; simp
  have CP2 := Lib.hid CP2
  clear hlr
  go_enter Tryz.func6, Tryz.ntmps6
  go_wp2_with fail
  refine CP.mono ?_
  rintro e w1 ⟨A1, cap1, rfl, hrd1, hb1, _⟩
  have CK := pknown (w1.alloc (.cells #[.slice A1 ns.length cap1] 39))
  clear CP
  go_wp2_with fail
  refine CK.mono ?_
  rintro e w2 ⟨rfl, hb2⟩
  have hbx : Hid (w2.heap[w1.heap.size]? = some (.cells #[.slice A1 ns.length cap1] 39 (0, 0))) := Lib.hid ((hb2.block w1.heap.size (by simp)).trans (heap_alloc_new _ _))
  have hB12 : Below w1.heap.size w1 w2 := ((Below.refl _ _).alloc (Nat.le_refl _) _).trans (hb2.mono (by simp))
  have hltx : w1.heap.size < w2.heap.size := by have := hb2.size; simp at this; omega
  have hB2 : Below w.heap.size w w2 := hb1.trans (hB12.mono hb1.size)
  have hrd2 := Lib.hid ((hrd1.below hB12).mono hB12.size)
  clear CK hb1 hb2 hB12 hrd1
  go_wp2
  go_loopw [8, 9] (fun o i wr => ∃ j : Nat, j ≤ l.length ∧ i = .int .i64 (j : Int) ∧ o = .int .i64 (cnt40 (l.take j) : Int) ∧ Below w2.heap.size w2 wr) (fun _ i _ => l.length - (intOf i).toNat)
  case atStart => exact ⟨0, by omega, rfl, rfl, Below.refl _ _⟩
  case round =>
    obtain ⟨j, hj, rfl, rfl, hbr⟩ := hrel
    have hcl : cnt40 (l.take j) ≤ l.length := by
      refine Nat.le_trans List.countP_le_length ?_
      rw [List.length_take]; omega
    by_cases hlt : j < l.length
    · have hbb : j < (⟨l.toArray⟩ : ByteArray).size := hlt
      have hst := Lib.hid (cnt_step40 l j hlt)
      have hkl : (j : Int) < (l.length : Int) := by omega
      have hk0 : (0 : Int) ≤ (j : Int) := by omega
      by_cases h40 : (l[j]).toNat = 40
      · have g40 : ((((⟨l.toArray⟩ : ByteArray)[j]'hbb).toNat : Int) == 40) = true := by
          have : ((⟨l.toArray⟩ : ByteArray)[j]'hbb).toNat = 40 := h40
          simp [this]
        have hst2 := Lib.hid (hst.out.trans (by rw [if_pos h40]))
        clear hst h40
        generalize hq : cnt40 (l.take j) = q at *
        go_wp2
        go_roundw
        case rel => exact ⟨j + 1, by omega, by go_num, by rw [hst2.out]; go_num, hbr⟩
        case measure => simp [intOf]; omega
      · have g40 : ((((⟨l.toArray⟩ : ByteArray)[j]'hbb).toNat : Int) == 40) = false := by
          have : ¬ ((⟨l.toArray⟩ : ByteArray)[j]'hbb).toNat = 40 := h40
          simp; omega
        have hst2 := Lib.hid (hst.out.trans (by rw [if_neg h40]))
        clear hst h40
        generalize hq : cnt40 (l.take j) = q at *
        go_wp2
        go_roundw
        case rel => exact ⟨j + 1, by omega, by go_num, by rw [hst2.out]; go_num, hbr⟩
        case measure => simp [intOf]; omega
    · obtain rfl : j = l.length := by omega
      rw [List.take_length] at hcl ⊢
      have hjj : ¬ ((l.length : Int) < (l.length : Int)) := by omega
      have hx2 := ext_drop' l 1 l.length (Nat.le_refl _)
      have hcat : (⟨#[61, 40]⟩ : ByteArray) ++ ⟨l.tail.toArray⟩ ++ ⟨#[41]⟩ = ⟨([61, 40] ++ l.drop 1 ++ [41]).toArray⟩ := by
        rw [← List.drop_one, ← bytes_append ([61, 40] ++ l.drop 1) [41], ← bytes_append [61, 40] (l.drop 1)]
      have hc1 : ¬ 9223372036854775807 < 2 + (l.length - 1) := by omega
      have hc2 : ¬ 9223372036854775807 < 2 + (l.length - 1) + 1 := by omega
      have h1i : (1 : Int) ≤ (l.length : Int) := by omega
      have hBr : Below w.heap.size w wr := hB2.trans (hbr.mono hB2.size)
      have CPW := CP2.out wr hBr
      rw [← hcat] at CPW
      clear hcat
      have hbxr := Lib.hid ((hbr.block w1.heap.size hltx).trans hbx.out)
      have hrdr := Lib.hid ((hrd2.out.below hbr).mono hbr.size)
      have hltr : w1.heap.size < wr.heap.size := by have := hbr.size; omega
      clear hbr hbx hrd2 CP2 hB2
      generalize hq : cnt40 l = q at *
      go_wp2_with fail
      refine CPW.mono ?_
      rintro e w3 ⟨A3, cap3, rfl, hrd3, hb3, _⟩
      clear CPW hx2
      have hBf : Below w.heap.size w (w3.alloc (.cells #[.slice A3 n2.length cap3] 39)) := (hBr.trans (hb3.mono hBr.size)).alloc (Nat.le_trans hBr.size hb3.size) _
      rcases hcase with ⟨rfl, rfl⟩ | ⟨rfl, h0, h32⟩
      · have hb4 : Below w3.heap.size w3 (w3.alloc (.cells #[.slice A3 n2.length cap3] 39)) := (Below.refl _ _).alloc (Nat.le_refl _) _
        have hbr4 : Below wr.heap.size wr (w3.alloc (.cells #[.slice A3 n2.length cap3] 39)) := hb3.trans (hb4.mono hb3.size)
        have hbx4 := (hbr4.block w1.heap.size hltr).trans hbxr.out
        have x1 : (w3.alloc (.cells #[.slice A3 n2.length cap3] 39)).cell? ⟨w1.heap.size, 0, none⟩ = some (.slice A1 n2.length cap1) := by rw [cell_of_row _ w1.heap.size 0 _ _ _ hbx4]; rfl
        have CS := lsame n2 (by omega) (w3.alloc (.cells #[.slice A3 n2.length cap3] 39)) A1 A3 cap1 cap3 ((hrdr.out.below hbr4).mono hbr4.size) ((hrd3.below hb4).mono hb4.size)
        clear hbx4 hbr4 hb4 hrd3 hrdr hbxr hb3 hBr
        go_wp2_with fail
        refine CS.mono ?_
        rintro e w8 ⟨rfl, hb8⟩
        have hB8 : Below w.heap.size w w8 := hBf.trans (hb8.mono hBf.size)
        clear CS hb8 hBf
        go_wp2
        go_ret
        exact ⟨rfl, hB8⟩
      · have h32i : (32 : Int) ≤ (q : Int) := by omega
        clear hrd3 hrdr hbxr hb3 hBr
        go_wp2
        go_ret
        exact ⟨rfl, hBf⟩
theorem walk_ParseBrackets (l : List UInt8) (hl : l.length ≤ 1048576) (A : Option Addr) (fl : List FL) (cap : Nat) (w : World) (_ht : Tab w) (hT : FunsAt ⟨A, cap, fl⟩ w.heap.size w) : Calls Tryz.prog 6 #[.string ⟨l.toArray⟩, .slice A fl.length cap] w fun e w' => e = .returned (.bool true) ∧ Below w.heap.size w w' := by
  have hp := parse_law (tbOf fl) l
  have CP := pun l (by omega) A fl cap w hT w (Below.refl _ _)
  cases hq : parseT (tbOf fl) (lexL l) with
  | bad e a =>
    rw [hq] at hp CP
    exact pbrk_bad l A fl cap w _ e a (by omega) CP
  | ok s =>
    have h61 : ∃ r, l = 61 :: r := by
      refine Classical.byContradiction fun hn => ?_
      rw [parse_noeq (tbOf fl) l (fun b hb h61 => hn (by
        cases l with
        | nil => simp at hb
        | cons c r =>
          simp at hb
          subst hb
          have : c = 61 := by rw [← UInt8.toNat_inj]; exact h61
          exact ⟨r, by rw [this]⟩))] at hq
      cases hq
    obtain ⟨r, hlr⟩ := h61
    have hlaw := brackets_law (tbOf fl) r s (by rw [← hlr]; exact hq)
    have CP2 := pun ([61, 40] ++ l.drop 1 ++ [41]) (by simp; omega) A fl cap w hT
    have ed : [61, 40] ++ l.drop 1 ++ [41] = 61 :: 40 :: (r ++ [41]) := by rw [hlr]; simp
    rw [hq] at hp CP
    have hns : s.nodes.length ≤ 1024 := (check_few hp).2
    refine pbrk_ok l r hlr hl A fl cap w s.nodes _ _ _ _ hns ?_ CP CP2
    rw [ed]
    rcases hlaw with ⟨s', h1, h2⟩ | ⟨a, h1, h2, h3⟩
    · rw [h1]; exact .inl ⟨rfl, h2⟩
    · rw [h1, hlr]; exact .inr ⟨rfl, h2, h3⟩
end Go.Proofs.YtiekhbagpmnboaaGreatDoor
namespace Go.Proofs.YtiekhbagpmnboaaGreatDoor
open Go.ChangeShapes Go.WideShapes Go.ChangeAt Go.RowKit
open Go.ChangeMaps (open_string)

set_option maxRecDepth 100000 in
/-- what the walk gives, for every input -/
theorem contract_ParseBrackets (H : Type) (enc : TypeId × Value → H) (W : World) (base : Nat) (args : Array Value) (ds gs : List (DataW H)) (before : List MemPlace)
    (hval : ∀ (j : Nat) t v, Tryz.f6.params[j]? = some t → args[j]? = some v → Value.okWide Tryz.prog W .any base t v)
    (hW : DataW.Whole enc Tryz.prog Tryz.f6.params.toList Rows.parseBracketsSpec.vars false W args.toList ds gs before)
    (ht : Tab W)
    (hk : Rows.uptoSmall H (ds ++ gs) = true) :
    Calls Tryz.prog 6 args W fun e W' => ∃ v, e = .returned v ∧ Rows.parseBracketsSpec.post enc Tryz.prog Tryz.f6 false true false false W args v W' := by
  have hW' := hW
  obtain ⟨p, q, hA0, hV, rfl, hfz, hnd⟩ := hW
  have hA : DataW.TrodAll enc Tryz.prog W 0 (fun _ => true) true Tryz.f6.params.toList args.toList ds p := hA0
  rw [Tryz.params6] at hA hval
  obtain ⟨v0, vs0, d0, ds0, p0, q0, hargs, rfl, rfl, h0, r0⟩ := trodAll_cons hA
  obtain ⟨v1, vs1, d1, ds1, p1, q1, rfl, rfl, rfl, h1, r1⟩ := trodAll_cons r0
  obtain ⟨rfl, rfl, rfl⟩ := trodAll_nil r1
  obtain rfl : args = #[v0, v1] := by cases args; simp_all
  obtain ⟨a0, rfl, rfl, rfl, w0⟩ := open_string Tryz.underlying9 (hval 0 9 v0 rfl rfl) h0
  obtain ⟨A1, l1, cap1, rfl, hR1, hk1, hlb1, hlc1, hcm1, hN1⟩ := rd_funs (hval 1 36 v1 rfl rfl) h1
  have y0 := small_string hk (s := a0) (List.mem_append_left _ (by simp))
  have y1 := small_form hk (d := d1) (List.mem_append_left _ (by simp))
  refine (walk_ParseBrackets a0.data.toList (by rw [Array.length_toList]; exact y0) A1 l1 cap1 W ht (funs_at hR1 hk1 hlb1 y1)).mono fun e W' ⟨he, hb⟩ => ⟨_, he, ?_⟩
  exact law_post laidOut Tryz.underlying4 (by kernel_rfl) rfl (fun ds hd => by
    rw [Tryz.params6] at hd
    match ds, hd with
    | [_, _], _ => rfl) (by kernel_rfl) hW' hb

/-- the witness' arguments -/
def wArgs_ParseBrackets : Array Value := #[.string ⟨#[]⟩, .slice none 0 0]
theorem laid_met_ParseBrackets (os : Os) : laidMet Tryz.prog Rows.parseBracketsUptoRow.laid ((laidWorldD os).forCall (fun _ _ => 0) ⟨#[], wArgs_ParseBrackets, []⟩).memory :=
  laidMet_of_run' 8 (by kernel_rfl) (by kernel_rfl)
theorem reads_ParseBrackets (os : Os) {H : Type} (enc : TypeId × Value → H) : ∃ places, DataW.whole enc Tryz.prog ((laidWorldD os).forCall (fun _ _ => 0) ⟨#[], wArgs_ParseBrackets, []⟩).memory Tryz.f6.params.toList Rows.parseBracketsSpec.vars false wArgs_ParseBrackets.toList 8 = some ([.lit (.string []), .nil], [], places) :=
  ⟨[], by kernel_rfl⟩

set_option maxRecDepth 100000 in
theorem wh1_ParseBrackets (os : Os) : ((laidWorldD os).forCall (fun _ _ => 0) ⟨#[], wArgs_ParseBrackets, []⟩).variablesRefB Tryz.checked.prog = true := by kernel_rfl
set_option maxRecDepth 100000 in
theorem wh2_ParseBrackets (os : Os) : (((laidWorldD os).forCall (fun _ _ => 0) ⟨#[], wArgs_ParseBrackets, []⟩).heap.toList.drop Tryz.checked.prog.globals.size).take ((begin Tryz.checked.prog (fun _ _ => 0) default).world.heap.size - Tryz.checked.prog.globals.size) =
      (begin Tryz.checked.prog (fun _ _ => 0) default).world.heap.toList.drop Tryz.checked.prog.globals.size := by kernel_rfl
set_option maxRecDepth 100000 in
theorem wh3_ParseBrackets (os : Os) : Input.okWideB Tryz.checked.prog ((laidWorldD os).forCall (fun _ _ => 0) ⟨#[], wArgs_ParseBrackets, []⟩) 6 ⟨#[], wArgs_ParseBrackets, []⟩ = true := by kernel_rfl
theorem wcn_ParseBrackets (places : List MemPlace) {H : Type} : Rows.parseBracketsUptoRow.domain.all (PathCond.test Tryz.prog ⟨Tryz.f6.params.toList, (([.lit (.string []), .nil], [], places) : List (DataW H) × List (DataW H) × List MemPlace).1, (Rows.OpenSpec.upto Rows.parseBracketsSpec).bare.plain.varTypes Tryz.prog, []⟩) = true := by kernel_rfl
set_option maxRecDepth 100000 in
theorem wpre_ParseBrackets (os : Os) {H : Type} (enc : TypeId × Value → H) : (Rows.OpenSpec.upto Rows.parseBracketsSpec).preRow enc Tryz.prog Tryz.f6 Rows.parseBracketsUptoRow.domain false Rows.parseBracketsUptoRow.laid ((laidWorldD os).forCall (fun _ _ => 0) ⟨#[], wArgs_ParseBrackets, []⟩).memory wArgs_ParseBrackets := by
  obtain ⟨places, hx⟩ := reads_ParseBrackets os enc
  exact OpenSpec.preRow_of_cond 8 hx (wcn_ParseBrackets places) (fun k hk => by cases hk; rfl) (by kernel_rfl) (laid_met_ParseBrackets os)

set_option maxRecDepth 100000 in
theorem lifted_ParseBrackets (os : Os) (started : os.Started) (H : Type) (enc : TypeId × Value → H) (F : Stop.Interp) :
    ReturnsInHanded {} Tryz.checked os 6 .any ((Rows.OpenSpec.upto Rows.parseBracketsSpec).preRow enc Tryz.prog Tryz.f6 Rows.parseBracketsUptoRow.domain false Rows.parseBracketsUptoRow.laid) (((Rows.OpenSpec.upto Rows.parseBracketsSpec).at F).post enc Tryz.prog Tryz.f6 false true false false) := by
  refine returnsInHanded_of_row (C := Tryz.checked) (s := Rows.OpenSpec.upto Rows.parseBracketsSpec) own started (by kernel_rfl) Tryz.func6
    (witness_row_atRef (enc := enc) (C := Tryz.checked) false (laidWorldD os) wArgs_ParseBrackets rfl (wh1_ParseBrackets os) (wh2_ParseBrackets os) (wh3_ParseBrackets os) (wpre_ParseBrackets os enc)) ?_
  intro W base args ds gs before hval hW _ hcd _ hL hsh _
  exact contract_ParseBrackets H enc W base args ds gs before hval hW (tab_ofD (laidMet_tailD (laidMet_tailD hL)) hsh) (hcd _ rfl)

set_option maxRecDepth 100000 in
theorem jf_ParseBrackets : joinedFacts Tryz.pinned.checked.prog 6 Tryz.f6 (Rows.OpenSpec.upto Rows.parseBracketsSpec).bare Rows.parseBracketsUptoRow = true := by kernel_rfl
theorem said_ParseBrackets : Rows.ParseBracketsUptoSaid :=
  OpenClaim.holds_of_cond 6 Tryz.f6 rfl rfl rfl rfl rfl rfl rfl ⟨rfl, rfl, rfl, rfl, rfl⟩ rfl rfl rfl rfl rfl (by kernel_rfl) Tryz.func6 jf_ParseBrackets
    (of_decide_eq_true (by kernel_rfl)) (by unfold Func.isWrapper; rw [if_neg (of_decide_eq_false (by kernel_rfl))]; exact ⟨rfl, rfl⟩)
    (fun os started H enc _ F => by rw [OpenClaim.pre_eq_preRow]; exact lifted_ParseBrackets os started H enc F)

theorem plain_ParseBrackets (f : FuncId) (fn : Func) (hf : Tryz.pinned.checked.prog.funcNamed "oriel/oriellaw06.ParseBrackets" = some f) (hfn : Tryz.pinned.checked.prog.funcs[f]? = some fn) :
    true = Tryz.pinned.checked.prog.looks [] ∧ ∀ (j : Nat) t, fn.params[j]? = some t → Tryz.pinned.checked.prog.wantsStandIn t = false := by
  obtain rfl : f = 6 := Option.some.inj ((show Tryz.prog.funcNamed "oriel/oriellaw06.ParseBrackets" = some 6 by kernel_rfl).symm.trans hf) |>.symm
  obtain rfl : fn = Tryz.f6 := (Option.some.inj (Tryz.func6.symm.trans hfn)).symm
  refine ⟨by kernel_rfl, fun j t ht => ?_⟩
  rw [Tryz.params6] at ht
  have hm : t = 9 ∨ t = 36 := by simpa using Array.mem_of_getElem? ht
  rcases hm with rfl | rfl
  · exact (show Tryz.prog.wantsStandIn 9 = false by kernel_rfl)
  · exact (show Tryz.prog.wantsStandIn 36 = false by kernel_rfl)

/-- THE CARD -/
theorem card_ParseBrackets : Rows.ParseBracketsUptoCardSaid :=
  Claim7.holds_tied_plain_at .later [] _ _ _ _ said_ParseBrackets (fun _ h => by cases h) (by kernel_rfl) (fun _ h => by cases h) parseBracketsUpto_row_tie rfl ⟨rfl, rfl⟩ (by kernel_rfl) rfl plain_ParseBrackets (by kernel_rfl)
end Go.Proofs.YtiekhbagpmnboaaGreatDoor
