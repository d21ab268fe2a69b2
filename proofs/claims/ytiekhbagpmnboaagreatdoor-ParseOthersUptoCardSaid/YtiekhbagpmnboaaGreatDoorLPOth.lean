/-
  oriellaw06.ParseOthers.
-/
import Derived.Test.YtiekhbagpmnboaaGreatDoorMg2
import Derived.Test.YtiekhbagpmnboaaGreatDoorRows
import Derived.Test.YtiekhbagpmnboaaGreatDoorMg0
import Derived.Test.YtiekhbagpmnboaaGreatDoorProg
import Derived.Test.YtiekhbagpmnboaaGreatDoorShelf
import Derived.Test.YtiekhbagpmnboaaGreatDoorAddrC
import Derived.Test.YtiekhbagpmnboaaGreatDoorNames
import Derived.Test.YtiekhbagpmnboaaGreatDoorParseW
import Derived.Test.YtiekhbagpmnboaaGreatDoorMg6
import Derived.Test.YtiekhbagpmnboaaGreatDoorValA
import Derived.Test.YtiekhbagpmnboaaGreatDoorValB
import Derived.Test.YtiekhbagpmnboaaGreatDoorMg9
import Derived.Test.YtiekhbagpmnboaaGreatDoorLexP
import Derived.Test.YtiekhbagpmnboaaGreatDoorMg11
import Derived.Test.YtiekhbagpmnboaaGreatDoorMg12
import Derived.Test.YtiekhbagpmnboaaGreatDoorPaP
import Derived.Test.YtiekhbagpmnboaaGreatDoorPaF
import Derived.Test.YtiekhbagpmnboaaGreatDoorPaW
import Derived.Test.YtiekhbagpmnboaaGreatDoorPaX
import Derived.Test.YtiekhbagpmnboaaGreatDoorPaY
import Derived.Test.YtiekhbagpmnboaaGreatDoorMg18
import Derived.Test.YtiekhbagpmnboaaGreatDoorMg19
import Derived.Test.YtiekhbagpmnboaaGreatDoorPaC
import Derived.Test.YtiekhbagpmnboaaGreatDoorPaK
import Derived.Test.YtiekhbagpmnboaaGreatDoorPaI
import Derived.Test.YtiekhbagpmnboaaGreatDoorPaQ
import Derived.Test.YtiekhbagpmnboaaGreatDoorPaE
import Derived.Test.YtiekhbagpmnboaaGreatDoorMg25
import Derived.Test.YtiekhbagpmnboaaGreatDoorMg26
import Derived.Test.YtiekhbagpmnboaaGreatDoorLexR
import Derived.Test.YtiekhbagpmnboaaGreatDoorLexWd
import Derived.Test.YtiekhbagpmnboaaGreatDoorMg29
import Derived.Test.YtiekhbagpmnboaaGreatDoorMg30
import Derived.Test.YtiekhbagpmnboaaGreatDoorLexS
import Derived.Test.YtiekhbagpmnboaaGreatDoorDDig
import Derived.Test.YtiekhbagpmnboaaGreatDoorDParse
import Derived.Test.YtiekhbagpmnboaaGreatDoorLexF
import Derived.Test.YtiekhbagpmnboaaGreatDoorLexN
import Derived.Test.YtiekhbagpmnboaaGreatDoorRDPar
import Derived.Test.YtiekhbagpmnboaaGreatDoorRDParB
import Derived.Test.YtiekhbagpmnboaaGreatDoorRDJoin
import Derived.Test.YtiekhbagpmnboaaGreatDoorLexD
import Derived.Test.YtiekhbagpmnboaaGreatDoorLexB
import Derived.Test.YtiekhbagpmnboaaGreatDoorLexI
import Derived.Test.YtiekhbagpmnboaaGreatDoorPaO
import Derived.Test.YtiekhbagpmnboaaGreatDoorMg43
import Derived.Test.YtiekhbagpmnboaaGreatDoorPaS
import Derived.Test.YtiekhbagpmnboaaGreatDoorMg45
import Derived.Test.YtiekhbagpmnboaaGreatDoorPaM
import Derived.Test.YtiekhbagpmnboaaGreatDoorLPSm
import Derived.BigRegion
import Derived.WalkSpells
import Derived.WalkLawsBesides
import Derived.StillTactics
import Derived.Laws.Pointers
import Derived.Deep.RegionHeld3
import Derived.Deep.QuietTactic
import Derived.BigQuiet
import Derived.RowKit3
import Derived.Lib.Hide
import Derived.Lib.OthersKept
import Derived.OwnWalk
import Derived.Lib.IndexLaws
import Derived.Lib.ItoaMem
import Derived.Lib.TrimByte
import Derived.Lib.SlTrimSet
import Derived.Lib.ParseIntB
import Derived.WalkKit
import Derived.ProofKit
import Derived.OpenShut
import Derived.Carry
import Derived.ChangeSame
import Derived.Deep.Draws
import Derived.Shelf.Strings.Builder1
import Derived.Shelf.Strings.Trim
import Derived.Shelf.Small.Utf8
import Derived.Shelf.Small.Strs
import Derived.Shelf.Small.Wraps
import Derived.Shelf.Strings.BuilderF
import Derived.Shelf.Strings.BuilderK
import Derived.Shelf.Strconv.Itoa0
import Derived.Shelf.Strconv.Itoa1
import Derived.Shelf.LaysM
import Derived.Shelf.Strconv.Itoa2
import Derived.Shelf.Strconv.Itoa3
import Derived.Ground.MpProg
import Derived.Shelf.Pu.ParseUintPublic10
import Derived.Shelf.Strings.Search1
import Derived.Shelf.Strings.Search2
import Derived.Shelf.Strings.Cut
import Derived.Shelf.Strings.Shaped
import Derived.Shelf.Strings.Prefix
import Derived.Shelf.Strings.Runes
import Derived.Shelf.Strings.AsciiSet
import Derived.Shelf.Unicode.DecodeSlow
import Derived.Lib.ItoaNum
import Derived.Maps.OwnSet
import Derived.Maps.AppendAt
import Derived.Deep.RegionLaw
import Derived.Deep.AppendLies
import Derived.ScopeJumps
import Derived.WalkMore
import Derived.Shelf.Strings.SlTrimAscii
import Derived.Lib.SmallJoins
import Derived.RangeFuncBox
import Derived.RangeFuncNested
import Derived.RangeFuncLeaves
import Derived.Shelf.Abstract
import Derived.OwnWalkIn
import Derived.TacticsInMore
import Derived.LoopNIn
import Derived.LoopIn
import Derived.Maps.OwnIn
import Derived.Defers
import Derived.Recover
import Derived.Outline
import Derived.Deep.CutRange
import Derived.Laws.AppendOwnNone
import Derived.Laws.AppendOwn
namespace Go.Proofs.YtiekhbagpmnboaaGreatDoor
open Go.RowKit

/-- what comes back of reading, whatever it is -/
def nsOf : PR → List NL | .ok s => s.nodes | .bad _ _ => []
def erOf : PR → Int | .ok _ => 0 | .bad e _ => e
def atOf : PR → Int | .ok _ => 0 | .bad _ a => a
def PUni (w : World) (x : PR) (e : Ending) (w' : World) : Prop := ∃ A cap, e = .returned (.tuple #[.agg #[.slice A (nsOf x).length cap], .int .i64 (erOf x), .int .i64 (atOf x)]) ∧ RdB w' w'.heap.size A 15 ((nsOf x).map NL.cs) ∧ Below w.heap.size w w'
theorem pans_uni {w w' : World} {x : PR} {e : Ending} (h : PAns w x e w') : PUni w x e w' := by
  obtain ⟨hb, h⟩ := h
  cases x with
  | ok s =>
    obtain ⟨N, rfl, hown⟩ := h
    obtain ⟨A, cap, rfl, hrd⟩ := own_rdn hown
    exact ⟨A, cap, rfl, hrd, hb⟩
  | bad er a =>
    obtain rfl := h
    exact ⟨none, 0, rfl, fun i c hi => by simp [nsOf] at hi, hb⟩
theorem puni (l : List UInt8) (hl : l.length ≤ 1400000) (A : Option Addr) (fl : List FL) (cap : Nat) (w : World) (hT : FunsAt ⟨A, cap, fl⟩ w.heap.size w) : Calls Tryz.prog 12 #[.string ⟨l.toArray⟩, .iface 43 (.slice A fl.length cap)] w fun e w' => PUni w (parseT (tbOf fl) (lexL l)) e w' :=
  (pparse l hl ⟨A, cap, fl⟩ w hT).mono fun _ _ h => pans_uni h
theorem fun_info : (Tryz.prog.info? 49).map (fun i => (i.zero, i.size, i.bytes)) = some (some (.agg #[.string ⟨#[]⟩, .int .i64 0, .int .i64 0, .string ⟨#[]⟩]), 4, 48) := by kernel_rfl
/-- a name that is none of the text's words changes nothing -/
theorem others_law (m : FL) (fl : List FL) (ts : List Tok) (h : ∀ x ∈ ts, ¬ (x.kind = 3 ∧ x.str = m.name)) : parseT (tbOf (m :: fl)) ts = parseT (tbOf fl) ts := by
  cases ts with
  | nil => rfl
  | cons x r =>
    have hk : ∀ n, n ≠ m.name → (tbOf (m :: fl)).known n = (tbOf fl).known n ∧ ∀ r, (tbOf (m :: fl)).takes n r = (tbOf fl).takes n r := fun n hn => by
      have hd : decide (m.name = n) = false := decide_eq_false fun e => hn e.symm
      refine ⟨?_, fun r => ?_⟩
      · show ((m :: fl).any fun f => decide (f.name = n)) = (fl.any fun f => decide (f.name = n))
        rw [List.any_cons, hd, Bool.false_or]
      · show tkOf ((m :: fl).find? fun f => decide (f.name = n)) r = tkOf (fl.find? fun f => decide (f.name = n)) r
        rw [List.find?_cons_of_neg (by simp [hd])]
    have := px_tb (t := tbOf (m :: fl)) (u := tbOf fl) (ok := fun n => n ≠ m.name) hk (8 * r.length + 16) (.lev 0) ⟨x, r, 0, []⟩ (fun y hy h3 e => h y hy ⟨h3, e⟩) (fun nm p r e => by cases e)
    simp only [parseT]
    rw [this]
set_option maxHeartbeats 4000000 in
theorem walk_ParseOthers (l : List UInt8) (hl : l.length ≤ 1400000) (A : Option Addr) (fl : List FL) (cap : Nat) (hA : A = none → fl.length = 0 ∧ cap = 0) (hfl : fl.length ≤ 1048576) (m : FL) (hmk : m.kinds.size ≤ 1048576) (w : World) (_ht : Tab w) (hT : FunsAt ⟨A, cap, fl⟩ w.heap.size w) : Calls Tryz.prog 7 #[.string ⟨l.toArray⟩, .slice A fl.length cap, .agg #[.string m.name, .int .i64 m.least, .int .i64 m.most, .string m.kinds]] w fun e w' => e = .returned (.bool true) ∧ Below w.heap.size w w' := by
  obtain ⟨i0, hi, hz0, hz1, hz2⟩ := info_parts fun_info
  have hb0 : Below w.heap.size w (w.alloc (.cells #[.string m.name, .int .i64 m.least, .int .i64 m.most, .string m.kinds] 49)) := (Below.refl _ _).alloc (Nat.le_refl _) _
  have CP := puni l hl A fl cap (w.alloc (.cells #[.string m.name, .int .i64 m.least, .int .i64 m.most, .string m.kinds] 49)) ((hT.below hb0).mono hb0.size)
  have hO := others_law m fl (lexL l)
  have hTH := Lib.hid hT
  have hTS := Lib.hid hT.small
  have hnl : (nsOf (parseT (tbOf fl) (lexL l))).length ≤ 1024 := by
    have h := parse_law (tbOf fl) l
    cases hp : parseT (tbOf fl) (lexL l) with
    | ok s => rw [hp] at h; exact (check_few h).2
    | bad e a => simp [nsOf]
  have hlen := lexL_len l
  generalize hr : parseT (tbOf fl) (lexL l) = r at CP hO hnl
  clear hT hr
  have hOH := Lib.hid hO
  clear hO
  go_enter Tryz.func7, Tryz.ntmps7
  go_wp2_with fail
  refine CP.mono ?_
  rintro e w1 ⟨A1, cap1, rfl, hrd1, hb1⟩
  have hbm : w1.heap[w.heap.size]? = some (.cells #[.string m.name, .int .i64 m.least, .int .i64 m.most, .string m.kinds] 49 (0, 0)) := (hb1.block w.heap.size (by simp)).trans (heap_alloc_new _ _)
  have hB1 : Below w.heap.size w w1 := hb0.trans (hb1.mono (by simp))
  have hz1' : w.heap.size < w1.heap.size := by have := hb1.size; simp at this; omega
  have CL := r4lex l (by omega) (w1.alloc (.cells #[.slice A1 (nsOf r).length cap1] 39))
  clear CP hb1 hb0
  go_wp2_with fail
  refine CL.mono ?_
  rintro e w2 ⟨⟨v, rfl, hrt⟩, hb2⟩
  have CK := pknown w2
  have hbx : w2.heap[w1.heap.size]? = some (.cells #[.slice A1 (nsOf r).length cap1] 39 (0, 0)) := (hb2.block w1.heap.size (by simp)).trans (heap_alloc_new _ _)
  have hB12 : Below w1.heap.size w1 w2 := ((Below.refl _ _).alloc (Nat.le_refl _) _).trans (hb2.mono (by simp))
  have hz2' : w1.heap.size < w2.heap.size := by have := hb2.size; simp at this; omega
  clear CL hb2
  go_wp2_with fail
  refine CK.mono ?_
  rintro e w3 ⟨rfl, hb3⟩
  have hB13 : Below w1.heap.size w1 w3 := hB12.trans (hb3.mono hB12.size)
  have hB3 : Below w.heap.size w w3 := hB1.trans (hB13.mono hB1.size)
  have hbm3 : w3.heap[w.heap.size]? = some (.cells #[.string m.name, .int .i64 m.least, .int .i64 m.most, .string m.kinds] 49 (0, 0)) := (hB13.block w.heap.size hz1').trans hbm
  have hbx3 : w3.heap[w1.heap.size]? = some (.cells #[.slice A1 (nsOf r).length cap1] 39 (0, 0)) := (hb3.block w1.heap.size hz2').trans hbx
  have hz3 := hb3.size
  have ht0 : 0 < (lexL l).length := (lexL_laws l).ne
  obtain ⟨tb, tof, tcap, rfl, htb, htc⟩ := (hrt.below hb3).at ht0
  have htcH := Lib.hid htc
  have hrd3 := Lib.hid ((hrd1.below hB13).mono hB13.size)
  have hTH3 := Lib.hid ((hTH.out.below hB3).mono hB3.size)
  clear hrt hbm hbx CK hb3 hB12 hB1 hrd1 htc hTH hB13
  have m0 : w3.cell? ⟨w.heap.size, 0, none⟩ = some (.string m.name) := by rw [cell_of_row w3 w.heap.size 0 _ _ _ hbm3]; rfl
  have m1 : w3.cell? ⟨w.heap.size, 1, none⟩ = some (.int .i64 m.least) := by rw [cell_of_row w3 w.heap.size 1 _ _ _ hbm3]; rfl
  have m2 : w3.cell? ⟨w.heap.size, 2, none⟩ = some (.int .i64 m.most) := by rw [cell_of_row w3 w.heap.size 2 _ _ _ hbm3]; rfl
  have m3 : w3.cell? ⟨w.heap.size, 3, none⟩ = some (.string m.kinds) := by rw [cell_of_row w3 w.heap.size 3 _ _ _ hbm3]; rfl
  have hltm : w.heap.size < w3.heap.size := by omega
  have htb3 : tb < w3.heap.size := by omega
  have hltx : w1.heap.size < w3.heap.size := by omega
  clear hbm3
  have hbx3H := Lib.hid hbx3
  clear hbx3
  go_wp2
  go_loopw [11] (fun i wr => ∃ j : Nat, j ≤ (lexL l).length ∧ i = .int .i64 (j : Int) ∧ Below w3.heap.size w3 wr ∧ Hid (∀ k x, k < j → (lexL l)[k]? = some x → ¬ (x.kind = 3 ∧ x.str = m.name))) (fun i _ => (lexL l).length - (intOf i).toNat)
  case atStart => exact ⟨0, by omega, rfl, Below.refl _ _, Lib.hid (fun k x hk => by omega)⟩
  case round =>
    obtain ⟨j, hj, rfl, hbr, hno⟩ := hrel
    have hBr : Below w.heap.size w wr := hB3.trans (hbr.mono hB3.size)
    have m0r := (hbr.cell (p := ⟨w.heap.size, 0, none⟩) hltm).trans m0
    by_cases hlt : j < (lexL l).length
    · obtain ⟨x, hx⟩ : ∃ x, (lexL l)[j]? = some x := ⟨_, List.getElem?_eq_getElem hlt⟩
      have t0 : wr.cell? ⟨tb, tof + j * 11, none⟩ = some (.int .i64 x.kind) := (hbr.cell (p := ⟨tb, tof + j * 11, none⟩) htb3).trans (htcH.out j x hx 0 _ rfl)
      have t3 : wr.cell? ⟨tb, tof + j * 11 + 3, none⟩ = some (.string x.str) := (hbr.cell (p := ⟨tb, tof + j * 11 + 3, none⟩) htb3).trans (htcH.out j x hx 3 _ rfl)
      have hxH := Lib.hid hx
      have hkl : (j : Int) < ((lexL l).length : Int) := by omega
      have hk0 : (0 : Int) ≤ (j : Int) := by omega
      clear hx
      by_cases hk3 : x.kind = 3
      · by_cases hs : x.str = m.name
        · have hkb : (x.kind == 3) = true := by simpa using hk3
          have hsb : (x.str = m.name) = True := eq_true hs
          clear hk3 hs
          go_wp2_with fail
          go_region
          go_wp2
          go_ret
          exact ⟨rfl, hBr.drew⟩
        · have hkb : (x.kind == 3) = true := by simpa using hk3
          have hsb : (x.str = m.name) = False := eq_false hs
          have hno' := Lib.hid (show ∀ k y, k < j + 1 → (lexL l)[k]? = some y → ¬ (y.kind = 3 ∧ y.str = m.name) from fun k y hk hy => by
            rcases Nat.lt_or_ge k j with h | h
            · exact hno.out k y h hy
            · obtain rfl : k = j := by omega
              rw [hxH.out] at hy; injection hy with hy; subst hy; exact fun h => hs h.2)
          clear hk3 hs hno
          go_wp2_with fail
          go_region
          go_wp2
          go_roundw
          case rel => exact ⟨j + 1, by omega, by go_num, hbr.drew, hno'⟩
          case measure => simp [intOf]; omega
      · have hkb : (x.kind == 3) = false := by simpa using hk3
        have hno' := Lib.hid (show ∀ k y, k < j + 1 → (lexL l)[k]? = some y → ¬ (y.kind = 3 ∧ y.str = m.name) from fun k y hk hy => by
            rcases Nat.lt_or_ge k j with h | h
            · exact hno.out k y h hy
            · obtain rfl : k = j := by omega
              rw [hxH.out] at hy; injection hy with hy; subst hy; exact fun h => hk3 h.1)
        clear hk3 hno
        go_wp2_with fail
        go_region
        go_wp2
        go_roundw
        case rel => exact ⟨j + 1, by omega, by go_num, hbr.drew, hno'⟩
        case measure => simp [intOf]; omega
    · obtain rfl : j = (lexL l).length := by omega
      have hO : parseT (tbOf (m :: fl)) (lexL l) = r := hOH.out (fun x hx => by
        obtain ⟨k, hk⟩ := List.mem_iff_getElem?.1 hx
        exact hno.out k x (List.getElem?_eq_some_iff.1 hk).1 hk)
      have CP2 : ∀ (W : World) (A2 : Option Addr) (cap2 : Nat), FunsAt ⟨A2, cap2, m :: fl⟩ W.heap.size W → Calls Tryz.prog 12 #[.string ⟨l.toArray⟩, .iface 43 (.slice A2 (1 + fl.length) cap2)] W fun e w' => PUni W r e w' := fun W A2 cap2 h => by
        have := puni l hl A2 (m :: fl) cap2 W h
        rw [hO, List.length_cons, Nat.add_comm] at this
        exact this
      have m1r := (hbr.cell (p := ⟨w.heap.size, 1, none⟩) hltm).trans m1
      have m2r := (hbr.cell (p := ⟨w.heap.size, 2, none⟩) hltm).trans m2
      have m3r := (hbr.cell (p := ⟨w.heap.size, 3, none⟩) hltm).trans m3
      have hzr := hbr.size
      have hbxr := (hbr.block w1.heap.size hltx).trans hbx3H.out
      have hbxrH := Lib.hid hbxr
      have hrdr := Lib.hid ((hrd3.out.below hbr).mono hzr)
      have hrdF := (hTH3.out.below hbr).rd
      have hvg := heap_alloc_new wr (.cells #[.string m.name, .int .i64 m.least, .int .i64 m.most, .string m.kinds] 49)
      have hjj : ¬ (((lexL l).length : Int) < ((lexL l).length : Int)) := by omega
      have hCP2 := Lib.hid CP2
      have hrdFH := Lib.hid hrdF
      clear hno hbr m0 m1 m2 m3 hO hbx3H hrd3 hTH3 CP2 hrdF hbxr htcH hOH
      go_wp2_with (first
        | (at_builtin; go_loud (refine wpList_append_own _ rfl (.tmp 50) (.tmp 52) 43 rfl wr.heap.size 49 i0 (.agg #[.string ⟨#[]⟩, .int .i64 0, .int .i64 0, .string ⟨#[]⟩]) 4 48 Tryz.underlying43 hi hz0 hz1 hz2 rfl (by decide) (.slice none 0 0) 0 [] rfl (World.ownsRow_nil _ _ _ _) ⟨wr.heap.size, 0, none⟩ 1 1 m.cs rfl rfl (World.news_of_block (cs := #[.string m.name, .int .i64 m.least, .int .i64 m.most, .string m.kinds]) (t := 49) (fr := (0, 0)) hvg) (by simp [FL.cs, Value.oneCell']) (by unfold maxLen; omega) (by omega) (by simp) ?_); intro v1 w4 hown1 hgrow1 _; simp only [Nat.zero_add, List.nil_append] at hown1; have hb4 : Below wr.heap.size wr w4 := ((Below.refl _ _).alloc (Nat.le_refl _) (.cells #[.string m.name, .int .i64 m.least, .int .i64 m.most, .string m.kinds] 49)).grown hgrow1 (by simp) (fun q hq => by simp [Value.ownBlock] at hq); have hrd4 := hrdFH.out.below (hb4.mono hzr); clear hgrow1 hvg)
        | (at_builtin; go_loud (refine wpList_append_rd rfl (.tmp 54) (.tmp 55) 43 36 rfl wr.heap.size 49 i0 (.agg #[.string ⟨#[]⟩, .int .i64 0, .int .i64 0, .string ⟨#[]⟩]) 4 48 Tryz.underlying43 Tryz.underlying36 hi hz0 hz1 hz2 rfl (by decide) _ _ _ rfl hown1 A fl.length cap w3.heap.size (fl.map FL.cs) rfl (by simp) (fun r hr => by obtain ⟨y, _, rfl⟩ := List.mem_map.1 hr; rfl) hrd4 hA (fun r hr u hu => by obtain ⟨y, _, rfl⟩ := List.mem_map.1 hr; simp [FL.cs] at hu; rcases hu with rfl | rfl | rfl | rfl <;> rfl) (by unfold maxLen; omega) (by omega) hb4.size ?_); intro v2 w5 hown2 hgrow2; have hb5 : Below wr.heap.size wr w5 := hb4.grown hgrow2 hb4.size (fun q hq => (hown1.lt q hq).1); obtain ⟨A2, cap2, rfl, hrd5⟩ := ownsRow_rdk (l := (m :: fl).map FL.cs) (n := 1 + fl.length) (by omega) (fun c hc => by obtain ⟨y, _, rfl⟩ := List.mem_map.1 hc; rfl) (by simp; omega) (show w5.ownsRow wr.heap.size 49 4 _ (1 + fl.length) ((m :: fl).map FL.cs).flatten from hown2); clear hown2 hgrow2 hown1 hrd4 hb4)
        | fail)
      have CP3 := hCP2.out w5 A2 cap2 ⟨hrd5, fun g hg => by
        rcases List.mem_cons.1 hg with rfl | hg
        · omega
        · exact hTS.out g hg, by show (m :: fl).length ≤ _; simp; omega⟩
      clear hrd5
      refine CP3.mono ?_
      rintro e w6 ⟨A3, cap3, rfl, hrd6, hb6⟩
      have hz5 := hb5.size
      have hz6 := hb6.size
      have hBr6 : Below wr.heap.size wr w6 := hb5.trans (hb6.mono hz5)
      have hb7 : Below w6.heap.size w6 (w6.alloc (.cells #[.slice A3 (nsOf r).length cap3] 39)) := (Below.refl _ _).alloc (Nat.le_refl _) _
      have hbx7 := (hb7.block w1.heap.size (by omega)).trans ((hBr6.block w1.heap.size (by omega)).trans hbxrH.out)
      have x0 : (w6.alloc (.cells #[.slice A3 (nsOf r).length cap3] 39)).cell? ⟨w1.heap.size, 0, none⟩ = some (.slice A1 (nsOf r).length cap1) := by rw [cell_of_row _ w1.heap.size 0 _ _ _ hbx7]; rfl
      have hr1 := ((hrdr.out.below hBr6).mono (Nat.le_trans hz5 hz6)).below hb7
      have CS := lsame (nsOf r) (by omega) (w6.alloc (.cells #[.slice A3 (nsOf r).length cap3] 39)) A1 A3 cap1 cap3 (hr1.mono hb7.size) ((hrd6.below hb7).mono hb7.size)
      have hBf : Below w.heap.size w (w6.alloc (.cells #[.slice A3 (nsOf r).length cap3] 39)) := hBr.trans ((hBr6.mono hBr.size).trans (hb7.mono (Nat.le_trans hBr.size (Nat.le_trans hz5 hz6))))
      clear hbx7 hr1 hrd6 CP3 hb7 hBr6 hb6 hb5 hCP2 hrdr hbxrH hrdFH
      go_wp2_with fail
      refine CS.mono ?_
      rintro e w8 ⟨rfl, hb8⟩
      have hB8 : Below w.heap.size w w8 := hBf.trans (hb8.mono hBf.size)
      clear CS hb8 hBf
      go_wp2
      go_ret
      exact ⟨rfl, hB8⟩
end Go.Proofs.YtiekhbagpmnboaaGreatDoor
