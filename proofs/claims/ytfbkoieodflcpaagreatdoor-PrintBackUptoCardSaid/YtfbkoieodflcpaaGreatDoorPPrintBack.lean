/-
  Plain: how long the texts of a formula that was read are, and how long its one text is; oriellaw07.PrintBack; What the bound on an input's bulk gives; a formula that came in; functions that came in; The law PrintBack returns true for every input of bulk at most 1048576; the listed variables of the library are as the program's text lays them (the card ties that).
-/
import Derived.Test.YtfbkoieodflcpaaGreatDoorMg3
import Derived.Test.YtfbkoieodflcpaaGreatDoorRows
import Derived.Test.YtfbkoieodflcpaaGreatDoorMg0
import Derived.Test.YtfbkoieodflcpaaGreatDoorProg
import Derived.Test.YtfbkoieodflcpaaGreatDoorShelf
import Derived.Test.YtfbkoieodflcpaaGreatDoorMg4
import Derived.Test.YtfbkoieodflcpaaGreatDoorAddrC
import Derived.Test.YtfbkoieodflcpaaGreatDoorMg6
import Derived.Test.YtfbkoieodflcpaaGreatDoorValA
import Derived.Test.YtfbkoieodflcpaaGreatDoorValB
import Derived.Test.YtfbkoieodflcpaaGreatDoorMg9
import Derived.Test.YtfbkoieodflcpaaGreatDoorMg10
import Derived.Test.YtfbkoieodflcpaaGreatDoorMg11
import Derived.Test.YtfbkoieodflcpaaGreatDoorMg2
import Derived.Test.YtfbkoieodflcpaaGreatDoorMg12
import Derived.Test.YtfbkoieodflcpaaGreatDoorValL
import Derived.Test.YtfbkoieodflcpaaGreatDoorMg14
import Derived.Test.YtfbkoieodflcpaaGreatDoorMg15
import Derived.Test.YtfbkoieodflcpaaGreatDoorLexS
import Derived.Test.YtfbkoieodflcpaaGreatDoorRefN
import Derived.Test.YtfbkoieodflcpaaGreatDoorRefM
import Derived.Test.YtfbkoieodflcpaaGreatDoorRefY
import Derived.Test.YtfbkoieodflcpaaGreatDoorMg20
import Derived.Test.YtfbkoieodflcpaaGreatDoorPaP
import Derived.Test.YtfbkoieodflcpaaGreatDoorMg22
import Derived.Test.YtfbkoieodflcpaaGreatDoorBkD
import Derived.Test.YtfbkoieodflcpaaGreatDoorMg24
import Derived.Test.YtfbkoieodflcpaaGreatDoorPaM
import Derived.Test.YtfbkoieodflcpaaGreatDoorMg26
import Derived.Test.YtfbkoieodflcpaaGreatDoorLexWd
import Derived.Test.YtfbkoieodflcpaaGreatDoorDParse
import Derived.Test.YtfbkoieodflcpaaGreatDoorLexF
import Derived.Test.YtfbkoieodflcpaaGreatDoorLexI
import Derived.Test.YtfbkoieodflcpaaGreatDoorMg31
import Derived.Test.YtfbkoieodflcpaaGreatDoorRefD
import Derived.Test.YtfbkoieodflcpaaGreatDoorRefC
import Derived.Test.YtfbkoieodflcpaaGreatDoorPrB
import Derived.Test.YtfbkoieodflcpaaGreatDoorPrL
import Derived.Test.YtfbkoieodflcpaaGreatDoorPaF
import Derived.Test.YtfbkoieodflcpaaGreatDoorPaW
import Derived.Test.YtfbkoieodflcpaaGreatDoorPaX
import Derived.Test.YtfbkoieodflcpaaGreatDoorPaY
import Derived.Test.YtfbkoieodflcpaaGreatDoorPaZ
import Derived.Test.YtfbkoieodflcpaaGreatDoorMg42
import Derived.Test.YtfbkoieodflcpaaGreatDoorPaC
import Derived.Test.YtfbkoieodflcpaaGreatDoorPaK
import Derived.Test.YtfbkoieodflcpaaGreatDoorPaI
import Derived.Test.YtfbkoieodflcpaaGreatDoorPaQ
import Derived.Test.YtfbkoieodflcpaaGreatDoorPaE
import Derived.Test.YtfbkoieodflcpaaGreatDoorPaO
import Derived.Test.YtfbkoieodflcpaaGreatDoorPaS
import Derived.Test.YtfbkoieodflcpaaGreatDoorCards
import Derived.Test.YtfbkoieodflcpaaGreatDoorTie
import Derived.Lib.ItoaMem
import Derived.Lib.TrimByte
import Derived.Lib.IndexLaws
import Derived.Lib.SlTrimSet
import Derived.Lib.ParseIntB
import Derived.WalkKit
import Derived.ProofKit
import Derived.OpenShut
import Derived.Carry
import Derived.ChangeSame
import Derived.Lib.Hide
import Derived.Deep.Draws
import Derived.Shelf.Strings.Builder1
import Derived.Shelf.Strings.Builder2
import Derived.Shelf.Strings.Trim
import Derived.Shelf.Small.Utf8
import Derived.Shelf.Small.Strs
import Derived.Shelf.Small.Wraps
import Derived.Shelf.Strings.BuilderF
import Derived.Shelf.Strings.BuilderK
import Derived.Shelf.Utf8.RuneCount
import Derived.Shelf.Strconv.Itoa0
import Derived.Shelf.Strconv.Itoa1
import Derived.Shelf.LaysM
import Derived.Shelf.Strconv.Itoa2
import Derived.Shelf.Strconv.Itoa3
import Derived.Ground.MpProg
import Derived.Shelf.Pu.ParseUintPublic10
import Derived.Shelf.Strings.Search1
import Derived.Shelf.Strings.Search2
import Derived.Shelf.Strings.Search3
import Derived.Shelf.Strings.Cut
import Derived.Shelf.Strings.Count
import Derived.Shelf.Strings.Shaped
import Derived.Shelf.Strings.Prefix
import Derived.Shelf.Strings.Split
import Derived.Shelf.Strings.Replace
import Derived.Shelf.Strings.SplitShaped
import Derived.Shelf.Unicode.Decode
import Derived.Shelf.Strings.Runes
import Derived.Shelf.Strings.RuneCount
import Derived.Shelf.Strings.AsciiSet
import Derived.Shelf.Unicode.DecodeSlow
import Derived.Shelf.Unicode.DecodeAny
import Derived.Shelf.Unicode.DecodeLast
import Derived.WalkSpells
import Derived.WalkLawsBesides
import Derived.StillTactics
import Derived.Laws.Pointers
import Derived.Deep.RegionHeld3
import Derived.Deep.QuietTactic
import Derived.BigQuiet
import Derived.RowKit3
import Derived.Lib.OthersKept
import Derived.OwnWalk
import Derived.Lib.ItoaNum
import Derived.Maps.OwnSet
import Derived.Maps.AppendAt
import Derived.Lib.Bytealg
import Derived.Lib.Replace
import Derived.Shelf.Strings.SlTrimAscii
import Derived.Lib.SmallJoins
import Derived.RangeFuncBox
import Derived.RangeFuncNested
import Derived.RangeFuncLeaves
import Derived.Shelf.Abstract
import Derived.OwnWalkIn
import Derived.TacticsInMore
import Derived.LoopNIn
import Derived.LoopIn
import Derived.Maps.OwnIn
import Derived.Outline
import Derived.Deep.CutRange
import Derived.Deep.AppendLies
import Derived.BigRegion
import Derived.Deep.RegionLaw
import Derived.ScopeJumps
import Derived.WalkMore
import Derived.Defers
import Derived.Recover
import Derived.Deep.Slices
import Derived.ChangeSlices
import Derived.Deep.DeepHandedRow
import Derived.Deep.DeepWitnessRowRef
import Derived.Lib.LaidTab
import Derived.Shelf.Vars
namespace Go.Proofs.YtfbkoieodflcpaaGreatDoor
open Go.RowKit

theorem put_totB (l : List NL) (hp : putP l ≠ none) (hok : ∀ n ∈ l, n.ok) (hs : ∀ n ∈ l, n.v.s.size ≤ 1048576) : ∀ j, j ≤ l.length → totT (putT (l.take j)) ≤ j * 2097160 ∧ (putT (l.take j)).length ≤ j := fun j => by
  induction j with
  | zero => exact fun _ => ⟨Nat.zero_le _, Nat.le_refl _⟩
  | succ j ih =>
    intro hj
    obtain ⟨h1, h2⟩ := ih (by omega)
    have hn : l[j]? = some (l[j]'(by omega)) := List.getElem?_eq_getElem _
    have hm := List.mem_of_getElem? hn
    have hr := round_of hp hn (hok _ hm).1 (hs _ hm) rfl h2 h1
    rw [hr.put]
    exact ⟨hr.tot, hr.len⟩
theorem form_lenB {l : List NL} (hc : checkP l = true) (hok : ∀ n ∈ l, n.ok) (hs : ∀ n ∈ l, n.v.s.size ≤ 1048576) : (formT l).length ≤ 3000000000 := by
  obtain ⟨h1, h2, h3, x, hx⟩ := check_yes hc
  have h := (put_totB l h3 hok hs l.length (Nat.le_refl _)).1
  rw [List.take_of_length_le (Nat.le_refl _), hx, totT_one] at h
  unfold formT
  rw [hx]
  show (61 :: x.text).length ≤ _
  rw [List.length_cons]
  omega
theorem first_str (l : List UInt8) : (firstT l).1.str.size ≤ l.length := by
  have z : (⟨#[]⟩ : ByteArray).size = 0 := rfl
  cases l with
  | nil => exact Nat.le_of_eq z
  | cons c r =>
    simp only [firstT]
    split
    · unfold nuT; split
      · show (⟨#[]⟩ : ByteArray).size ≤ _; omega
      · show (⟨#[]⟩ : ByteArray).size ≤ _; omega
    split
    · unfold textT
      cases hq : quoteG ((c :: r).drop 1) with
      | none => show (⟨#[]⟩ : ByteArray).size ≤ _; omega
      | some x =>
        have h := (quote_small _ x hq).2.2
        rw [List.length_drop] at h
        show x.1.toArray.size ≤ _
        rw [List.size_toArray]
        omega
    split
    · unfold codeT; split
      · show (⟨#[]⟩ : ByteArray).size ≤ _; omega
      · show (⟨#[]⟩ : ByteArray).size ≤ _; omega
    split
    · unfold wordT
      have h := takeWhile_le partB (c :: r)
      split
      · split
        · split <;> (show (⟨#[]⟩ : ByteArray).size ≤ _; omega)
        · split <;> (show (⟨#[]⟩ : ByteArray).size ≤ _; omega)
      · show ((c :: r).takeWhile partB).toArray.size ≤ _
        rw [List.size_toArray]
        exact h
    · unfold signT
      split
      · show ((c :: r).take 2).toArray.size ≤ _
        rw [List.size_toArray, List.length_take]
        omega
      · split
        · show ((c :: r).take 1).toArray.size ≤ _
          rw [List.size_toArray, List.length_take]
          omega
        · show (⟨#[]⟩ : ByteArray).size ≤ _; omega
theorem toks_str (n : Nat) : ∀ (f : Nat) (l : List UInt8), ∀ x ∈ toks n f l, x.str.size ≤ l.length
  | 0, l, x, h => by simp [toks] at h
  | f + 1, l, x, h => by
    unfold toks at h
    have hb := blank_le l
    rcases List.mem_cons.1 h with rfl | h
    · exact Nat.le_trans (first_str (blank l)) hb
    · split at h
      · simp at h
      · have := toks_str n f _ x h
        rw [List.length_drop] at this
        omega
theorem lexL_str (l : List UInt8) : ∀ x ∈ lexL l, x.str.size ≤ l.length := by
  have z : (tokK 8).str.size = 0 := rfl
  cases l with
  | nil => intro x h; simp [lexL] at h; subst h; exact Nat.le_of_eq z
  | cons b r =>
    intro x h
    simp only [lexL] at h
    split at h
    · have := toks_str _ _ _ x h
      rw [List.length_cons]; omega
    · simp at h; subst h; rw [z]; exact Nat.zero_le _
theorem strAll (m : Nat) : PxAll (fun x => x.str.size ≤ m) (fun n => n.v.s.size ≤ m) := by
  have e : (⟨#[]⟩ : ByteArray).size ≤ m := Nat.zero_le _
  refine ⟨fun o => e, fun x n hx hn => ?_, fun x _ => e, fun nm n _ => e⟩
  unfold leafN at hn
  split at hn
  · injection hn with hn; subst hn; exact e
  split at hn
  · injection hn with hn; subst hn; exact hx
  split at hn
  · injection hn with hn; subst hn; exact e
  split at hn
  · injection hn with hn; subst hn; exact e
  split at hn
  · split at hn
    · injection hn with hn; subst hn; exact e
    · split at hn
      · injection hn with hn; subst hn; exact e
      · cases hn
  · cases hn
theorem parse_str (tb : Tb) (l : List UInt8) {s : PS} (h : parseT tb (lexL l) = .ok s) : ∀ n ∈ s.nodes, n.v.s.size ≤ l.length := parseT_all (strAll l.length) tb (lexL_str l) h
/-- all that the law has to know -/
theorem back_all {tb : Tb} {l : List UInt8} {s : PS} (hl : l.length ≤ 1048576) (h : parseT tb (lexL l) = .ok s) : checkP s.nodes = true ∧ s.nodes.length ≤ 1024 ∧ (∀ n ∈ s.nodes, n.ok) ∧ (∀ n ∈ s.nodes, n.v.s.size ≤ 1048576) ∧ (formT s.nodes).length ≤ 3000000000 ∧ ∃ s', parseT tb (lexL (formT s.nodes)) = .ok s' ∧ s'.nodes = s.nodes := by
  have hc : checkP s.nodes = true := by
    have := parse_law tb l
    rw [h] at this
    exact this
  have hok := parse_okn tb l h
  have hs : ∀ n ∈ s.nodes, n.v.s.size ≤ 1048576 := fun n hn => Nat.le_trans (parse_str tb l h n hn) hl
  exact ⟨hc, (check_yes hc).2.1, hok, hs, form_lenB hc hok hs, back_law h hc⟩
end Go.Proofs.YtfbkoieodflcpaaGreatDoor
namespace Go.Proofs.YtfbkoieodflcpaaGreatDoor
open Go.RowKit

theorem pparse_fun2 (l : List UInt8) (hl : l.length ≤ 9999999000) (A : Option Addr) (fl : List FL) (cap : Nat) (w : World) (hT : FunsAt ⟨A, cap, fl⟩ w.heap.size w) : Calls Tryz.prog 8 #[.string ⟨l.toArray⟩, .iface 31 (.slice A fl.length cap)] w fun e w' => PAns w (parseT (tbOf fl) (lexL l)) e w' := pparse l hl ⟨A, cap, fl⟩ w hT
theorem own_rdn2 {w : World} {B : Nat} {v : Value} {l : List NL} (h : w.ownsRow B 47 15 v l.length (ndRow l)) : ∃ A cap, v = .slice A l.length cap ∧ RdB w w.heap.size A 15 (l.map NL.cs) :=
  ownsRow_rdk (by omega) (fun c hc => by obtain ⟨y, _, rfl⟩ := List.mem_map.1 hc; rfl) (by simp) h
/-- what was read, where it lies -/
theorem pparse_ok (l : List UInt8) (hl : l.length ≤ 9999999000) (A : Option Addr) (fl : List FL) (cap : Nat) (w : World) (hT : FunsAt ⟨A, cap, fl⟩ w.heap.size w) (ns : List NL) (s : PS) (hs : parseT (tbOf fl) (lexL l) = .ok s) (hn : s.nodes = ns) : Calls Tryz.prog 8 #[.string ⟨l.toArray⟩, .iface 31 (.slice A fl.length cap)] w fun e w' => ∃ A1 cap1, e = .returned (.tuple #[.agg #[.slice A1 ns.length cap1], .int .i64 0, .int .i64 0]) ∧ RdB w' w'.heap.size A1 15 (ns.map NL.cs) ∧ Below w.heap.size w w' := by
  refine (pparse_fun2 l hl A fl cap w hT).mono ?_
  rw [hs]
  rintro e w' ⟨hb, N, rfl, hown⟩
  subst hn
  obtain ⟨A1, cap1, rfl, hrd⟩ := own_rdn2 hown
  exact ⟨A1, cap1, rfl, hrd, hb⟩
theorem pparse_bad (l : List UInt8) (hl : l.length ≤ 9999999000) (A : Option Addr) (fl : List FL) (cap : Nat) (w : World) (hT : FunsAt ⟨A, cap, fl⟩ w.heap.size w) (er a : Int) (hs : parseT (tbOf fl) (lexL l) = .bad er a) : Calls Tryz.prog 8 #[.string ⟨l.toArray⟩, .iface 31 (.slice A fl.length cap)] w fun e w' => e = .returned (.tuple #[.agg #[.slice none 0 0], .int .i64 er, .int .i64 a]) ∧ Below w.heap.size w w' := by
  refine (pparse_fun2 l hl A fl cap w hT).mono ?_
  rw [hs]
  rintro e w' ⟨hb, rfl⟩
  exact ⟨rfl, hb⟩
set_option maxRecDepth 100000 in
set_option maxHeartbeats 4000000 in
theorem back_bad (l : List UInt8) (hl : l.length ≤ 1048576) (A : Option Addr) (fl : List FL) (cap : Nat) (w : World) (ht : Tab w) (hT : FunsAt ⟨A, cap, fl⟩ w.heap.size w) (er a : Int) (he : er = 7 ∨ er = 8) (hs : parseT (tbOf fl) (lexL l) = .bad er a) : Calls Tryz.prog 4 #[.string ⟨l.toArray⟩, .slice A fl.length cap] w fun e w' => e = .returned (.bool true) ∧ Below w.heap.size w w' := by
  have CP := pparse_bad l (by omega) A fl cap w hT er a hs
  have CL := fun (W : World) (hb : Below w.heap.size w W) => plives W (Tab.below ht hb)
  have hne : (er != 0) = true := by rcases he with rfl | rfl <;> rfl
  clear hT hs he ht
  go_enter Tryz.func4, Tryz.ntmps4
  go_wp2_with fail
  refine CP.mono ?_
  rintro e w1 ⟨rfl, hb1⟩
  have hB1 : Below w.heap.size w (w1.alloc (.cells #[.slice none 0 0] 24)) := hb1.trans (((Below.refl _ _).alloc (Nat.le_refl _) _).mono hb1.size)
  have CL1 := CL _ hB1
  clear CP CL hb1
  go_wp2_with fail
  refine CL1.mono ?_
  rintro e w2 ⟨rfl, hb2⟩
  have hBf : Below w.heap.size w w2 := hB1.trans (hb2.mono hB1.size)
  clear CL1 hB1 hb2
  go_wp2
  go_ret
  exact ⟨rfl, hBf⟩
set_option maxRecDepth 100000 in
set_option maxHeartbeats 4000000 in
theorem back_ok (l : List UInt8) (hl : l.length ≤ 1048576) (A : Option Addr) (fl : List FL) (cap : Nat) (w : World) (ht : Tab w) (hT : FunsAt ⟨A, cap, fl⟩ w.heap.size w) (ns : List NL) (s s2 : PS) (hs : parseT (tbOf fl) (lexL l) = .ok s) (hn : s.nodes = ns) (hc : checkP ns = true) (hlen : ns.length ≤ 1024) (hok : ∀ n ∈ ns, n.ok) (hsz : ∀ n ∈ ns, n.v.s.size ≤ 1048576) (t : List UInt8) (hft : formT ns = t) (htl : t.length ≤ 3000000000) (hs2 : parseT (tbOf fl) (lexL t) = .ok s2) (hn2 : s2.nodes = ns) : Calls Tryz.prog 4 #[.string ⟨l.toArray⟩, .slice A fl.length cap] w fun e w' => e = .returned (.bool true) ∧ Below w.heap.size w w' := by
  have CP := pparse_ok l (by omega) A fl cap w hT ns s hs hn
  have CQ := fun (W : World) (hb : Below w.heap.size w W) => pparse_ok t (by omega) A fl cap W ((hT.below hb).mono hb.size) ns s2 hs2 hn2
  have CL := fun (W : World) (hb : Below w.heap.size w W) => plives W (Tab.below ht hb)
  have CW := fun (W : World) (hb : Below w.heap.size w W) (A1 : Option Addr) (cap1 : Nat) (hR : RdB W W.heap.size A1 15 (ns.map NL.cs)) => print_yes ns (by omega) hok hsz W (Tab.below ht hb) A1 cap1 hR hc
  have CS := fun (W : World) (A1 A2 : Option Addr) (cap1 cap2 : Nat) (hR1 : RdB W W.heap.size A1 15 (ns.map NL.cs)) (hR2 : RdB W W.heap.size A2 15 (ns.map NL.cs)) => rsame_refl ns (by omega) W A1 A2 cap1 cap2 hR1 hR2
  rw [hft] at CW
  clear hT hs hn hs2 hn2 ht hok hsz hc hft
  go_enter Tryz.func4, Tryz.ntmps4
  go_wp2_with fail
  refine CP.mono ?_
  rintro e w1 ⟨A1, cap1, rfl, hrd1, hb1⟩
  have hbA : Below w1.heap.size w1 (w1.alloc (.cells #[.slice A1 ns.length cap1] 24)) := (Below.refl _ _).alloc (Nat.le_refl _) _
  have hxA := heap_alloc_new w1 (.cells #[.slice A1 ns.length cap1] 24)
  have hB1 : Below w.heap.size w (w1.alloc (.cells #[.slice A1 ns.length cap1] 24)) := hb1.trans (hbA.mono hb1.size)
  have hzA : (w1.alloc (.cells #[.slice A1 ns.length cap1] 24)).heap.size = w1.heap.size + 1 := by simp
  have CW1 := CW _ hB1 A1 cap1 ((hrd1.below hbA).mono (by omega))
  clear CP hb1
  go_wp2_with fail
  refine CW1.mono ?_
  rintro e w2 ⟨rfl, hb2⟩
  have hz2 := hb2.size
  have hx2 := (hb2.block w1.heap.size (by omega)).trans hxA
  have hB12 : Below w1.heap.size w1 w2 := hbA.trans (hb2.mono (by omega))
  have hB2 : Below w.heap.size w w2 := hB1.trans (hb2.mono hB1.size)
  have CQ2 := CQ _ hB2
  clear CW1 CQ hxA hbA hB1 hb2
  go_wp2_with fail
  refine CQ2.mono ?_
  rintro e w3 ⟨A2, cap2, rfl, hrd2, hb3⟩
  have hz3 := hb3.size
  have hB3 : Below w.heap.size w w3 := hB2.trans (hb3.mono hB2.size)
  have hB13 : Below w1.heap.size w1 w3 := hB12.trans (hb3.mono (by omega))
  have hx3 := (hb3.block w1.heap.size (by omega)).trans hx2
  have hbB : Below w3.heap.size w3 (w3.alloc (.cells #[.slice A2 ns.length cap2] 24)) := (Below.refl _ _).alloc (Nat.le_refl _) _
  have hyA := heap_alloc_new w3 (.cells #[.slice A2 ns.length cap2] 24)
  have hzB : (w3.alloc (.cells #[.slice A2 ns.length cap2] 24)).heap.size = w3.heap.size + 1 := by simp
  have hxB := (hbB.block w1.heap.size (by omega)).trans hx3
  have hBB : Below w.heap.size w (w3.alloc (.cells #[.slice A2 ns.length cap2] 24)) := hB3.trans (hbB.mono hB3.size)
  have hB1B : Below w1.heap.size w1 (w3.alloc (.cells #[.slice A2 ns.length cap2] 24)) := hB13.trans (hbB.mono (by omega))
  have hr1 := (hrd1.below hB1B).mono (by omega : w1.heap.size ≤ (w3.alloc (.cells #[.slice A2 ns.length cap2] 24)).heap.size)
  have hr2 := (hrd2.below hbB).mono (by omega : w3.heap.size ≤ (w3.alloc (.cells #[.slice A2 ns.length cap2] 24)).heap.size)
  have CS1 := CS _ A1 A2 cap1 cap2 hr1 hr2
  have x1 : (w3.alloc (.cells #[.slice A2 ns.length cap2] 24)).cell? ⟨w1.heap.size, 0, none⟩ = some (.slice A1 ns.length cap1) := by rw [cell_of_row _ w1.heap.size 0 _ _ _ hxB]; rfl
  have hl1 : w1.heap.size < w3.heap.size := by omega
  clear CQ2 CS hB12 hx2 hB2 hb3 hx3 hB13 hB3 hxB hB1B hr1 hrd1 hrd2
  go_wp2_with fail
  refine CS1.mono ?_
  rintro e w4 ⟨rfl, hb4⟩
  have hz4 := hb4.size
  have hB4 : Below w.heap.size w w4 := hBB.trans (hb4.mono hBB.size)
  have hy4 := (hb4.block w3.heap.size (by omega)).trans hyA
  have y1 : w4.cell? ⟨w3.heap.size, 0, none⟩ = some (.slice A2 ns.length cap2) := by rw [cell_of_row w4 w3.heap.size 0 _ _ _ hy4]; rfl
  have hl3 : w3.heap.size < w4.heap.size := by omega
  have CW4 := CW w4 hB4 A2 cap2 ((hr2.below hb4).mono (by omega))
  clear CS1 CW hbB hyA hBB hb4 hy4 hr2 x1
  go_wp2_with fail
  refine CW4.mono ?_
  rintro e w5 ⟨rfl, hb5⟩
  have hB5 : Below w.heap.size w w5 := hB4.trans (hb5.mono hB4.size)
  have CL5 := CL w5 hB5
  clear CW4 CL hB4 hb5
  go_wp2_with fail
  refine CL5.mono ?_
  rintro e w6 ⟨rfl, hb6⟩
  have hB6 : Below w.heap.size w w6 := hB5.trans (hb6.mono hB5.size)
  clear CL5 hB5 hb6
  go_wp2
  go_ret
  exact ⟨rfl, hB6⟩
theorem walk_PrintBack (l : List UInt8) (hl : l.length ≤ 1048576) (A : Option Addr) (fl : List FL) (cap : Nat) (w : World) (ht : Tab w) (hT : FunsAt ⟨A, cap, fl⟩ w.heap.size w) : Calls Tryz.prog 4 #[.string ⟨l.toArray⟩, .slice A fl.length cap] w fun e w' => e = .returned (.bool true) ∧ Below w.heap.size w w' := by
  have hp := parse_law (tbOf fl) l
  cases hq : parseT (tbOf fl) (lexL l) with
  | ok s =>
    obtain ⟨hc, hlen, hok, hsz, hfl, s2, hs2, hn2⟩ := back_all hl hq
    exact back_ok l hl A fl cap w ht hT s.nodes s s2 hq rfl hc hlen hok hsz _ rfl hfl hs2 hn2
  | bad er a =>
    rw [hq] at hp
    exact back_bad l hl A fl cap w ht hT er a hp.1 hq
end Go.Proofs.YtfbkoieodflcpaaGreatDoor
namespace Go.Proofs.YtfbkoieodflcpaaGreatDoor

theorem bulk_one {H : Type} (d : DataW H) : 1 ≤ Rows.uptoBulk d := by
  cases d with
  | lit l => cases l <;> simp [Rows.uptoBulk]
  | _ => simp [Rows.uptoBulk]
theorem bulk_mem {H : Type} {d : DataW H} : ∀ {l : List (DataW H)}, d ∈ l → Rows.uptoBulk d ≤ Rows.uptoBulkAll l
  | x :: r, h => by
    simp only [Rows.uptoBulkAll]
    rcases List.mem_cons.1 h with rfl | h
    · omega
    · have := bulk_mem h; omega
theorem bulk_len {H : Type} : ∀ (l : List (DataW H)), l.length ≤ Rows.uptoBulkAll l
  | [] => Nat.zero_le _
  | x :: r => by
    have := bulk_one x
    have := bulk_len r
    simp only [Rows.uptoBulkAll, List.length_cons]; omega
theorem small_string {H : Type} {l : List (DataW H)} {s : ByteArray} (hk : Rows.uptoSmall H l = true) (hd : DataW.lit (.string s.data.toList) ∈ l) : s.size ≤ 1048576 := by
  have h : Rows.uptoBulkAll l ≤ 1048576 := of_decide_eq_true hk
  have h1 := bulk_mem hd
  simp only [Rows.uptoBulk] at h1
  have e : s.data.toList.length = s.size := by rw [Array.length_toList]; rfl
  omega
end Go.Proofs.YtfbkoieodflcpaaGreatDoor
namespace Go.Proofs.YtfbkoieodflcpaaGreatDoor
open Go.RowKit Go.ChangeShapes Go.WideShapes Go.Deep

theorem bulk_memA {H : Type} {d : DataW H} {l : List (DataW H)} (h : d ∈ l) : Rows.uptoBulk d ≤ Rows.uptoBulk (.agg l) := by
  have := bulk_mem h
  simp only [Rows.uptoBulk]; omega
section
variable {H : Type} {enc : TypeId × Value → H} {w : World} {sp : Nat → Bool} {held : Bool}
/-- a part of a struct that was read -/
theorem trod_part {P : Program} {t : TypeId} {fs : Array Field} {fuel : Nat} {cs : List Value} {x : DataW H × List MemPlace} (ht : P.underlying t = some (.struct fs)) (h : DataW.trod enc P w 0 sp held fuel t cs = some x) (i : Nat) (ft : TypeId) (off c : Nat) (hf : (fs[i]?).map (fun f => (f.type, f.offset)) = some (ft, off)) (hc : P.cellsOf ft = c) : ∃ n y, DataW.trod enc P w 0 sp held n ft ((cs.drop off).take c) = some y ∧ Rows.uptoBulk y.1 ≤ Rows.uptoBulk x.1 := by
  obtain ⟨xs, n, _, hx, _, hl, hi⟩ := DataW.trod_struct ht h
  obtain ⟨f, hf1, hf2⟩ := Option.map_eq_some_iff.1 hf
  injection hf2 with e1 e2
  subst e1; subst e2; subst hc
  have h1 := hi i f hf1
  have hlt : i < xs.length := by rw [hl]; exact (Array.getElem?_eq_some_iff.1 hf1).1
  rw [List.getElem?_eq_getElem hlt] at h1
  refine ⟨n, _, h1, ?_⟩
  rw [hx]
  exact bulk_memA (List.mem_map.2 ⟨_, List.getElem_mem hlt, rfl⟩)
theorem trod_str {P : Program} {t : TypeId} {fuel : Nat} {s : ByteArray} {y : DataW H × List MemPlace} (ht : P.underlying t = some .string) (h : DataW.trod enc P w 0 sp held fuel t [.string s] = some y) : s.size ≤ Rows.uptoBulk y.1 := by
  cases fuel with
  | zero => simp [DataW.trod] at h
  | succ n =>
    simp only [DataW.trod, ht] at h
    split at h
    · cases h
      simp only [Rows.uptoBulk]
      have e : s.data.toList.length = s.size := by rw [Array.length_toList]; rfl
      omega
    · cases h
/-- a slice of things of k cells, with what each one's reading is -/
theorem rd_sliceQ {P : Program} {α : Type} (k : Nat) (hk : 0 < k) (cs : α → List Value) (p : α → DataW H → Prop) (hcs : ∀ x, (cs x).length = k) {t e : TypeId} {v : Value} {fuel : Nat} {y : DataW H × List MemPlace} (ht : P.underlying t = some (.slice e)) (hc : P.cellsOf e = k)
    (he : ∀ (n : Nat) (us : List Value) (z : DataW H × List MemPlace), DataW.trod enc P w 0 sp held n e us = some z → ∃ x : α, us = cs x ∧ p x z.1)
    (h : DataW.trod enc P w 0 sp held fuel t [v] = some y) : ∃ (A : Option Addr) (l : List α) (cap : Nat), v = .slice A l.length cap ∧ l.length ≤ cap ∧ cap ≤ maxLen ∧ RdB w w.heap.size A k (l.map cs) ∧ (l = [] ∨ ∃ es sr, y.1 = .slice es sr ∧ es.length = l.length ∧ ∀ x ∈ l, ∃ d ∈ es, p x d) ∧ (A = none → l.length = 0 ∧ cap = 0) := by
  rcases Go.Deep.open_slice ht h with ⟨h0, _⟩ | ⟨a, len, cap, m, n', D, Pl, h0, hb, hl, hm, hmm, hx, hi⟩
  · have h1 : v = .slice none 0 0 := by simpa using h0
    subst h1
    exact ⟨none, [], 0, rfl, Nat.le_refl _, Nat.zero_le _, fun i c hi => by simp at hi, .inl rfl, fun _ => ⟨rfl, rfl⟩⟩
  · have h1 : v = .slice (some a) len cap := by simpa using h0
    subst h1
    rw [hc] at hi
    have hlm : len ≤ m := by rw [hmm]; split <;> omega
    have hch : ∀ i, i < len → ∃ x : α, p x (D i) ∧ ∀ j, j < k → w.cell? ((a.add (i * k)).add j) = (cs x)[j]? := fun i hlt => by
      obtain ⟨cs', hcells, htr⟩ := hi i (by omega)
      obtain ⟨x, rfl, hp⟩ := he _ _ _ htr
      obtain ⟨_, _, hat⟩ := World.cells?_some hcells
      exact ⟨x, hp, hat⟩
    obtain ⟨X, hX⟩ : ∃ X : (i : Nat) → i < len → α, ∀ i (h : i < len), p (X i h) (D i) ∧ ∀ j, j < k → w.cell? ((a.add (i * k)).add j) = (cs (X i h))[j]? := ⟨fun i h => (hch i h).choose, fun i h => (hch i h).choose_spec⟩
    have hlen : ((List.finRange len).map fun i => X i.1 i.2).length = len := by simp
    refine ⟨some a, (List.finRange len).map fun i => X i.1 i.2, cap, by rw [hlen], by rw [hlen]; exact hl, hm, ?_, .inr ?_, fun e => by cases e⟩
    · intro i c hic
      rw [List.getElem?_map] at hic
      have hlt : i < len := by
        rcases Nat.lt_or_ge i len with h | h
        · exact h
        · rw [List.getElem?_eq_none (by rw [hlen]; exact h)] at hic; cases hic
      rw [List.getElem?_eq_getElem (by rw [hlen]; exact hlt)] at hic
      simp at hic
      subst hic
      have h00 := (hX 0 (by omega)).2 0 hk
      rw [List.getElem?_eq_getElem (by rw [hcs]; exact hk)] at h00
      have hspot : a.spot = none := by simpa [Addr.add] using World.cell?_spot h00
      obtain ⟨b, o, sp'⟩ := a
      simp only at hspot
      subst hspot
      have hat : ∀ j, ((⟨b, o, none⟩ : Addr).add (i * k)).add j = ⟨b, o + i * k + j, none⟩ := fun j => by
        rw [Go.Deep.add_add]; unfold Addr.add
        split
        · rename_i h; simp only [Addr.mk.injEq, true_and, and_true]; omega
        · simp only [Addr.mk.injEq, true_and, and_true]; omega
      refine ⟨b, o, rfl, ?_, fun j u hj => ?_⟩
      · have h1 := (hX i hlt).2 0 hk
        rw [hat 0, List.getElem?_eq_getElem (by rw [hcs]; exact hk)] at h1
        exact cellLt h1
      · have hjk : j < k := by rw [← hcs (X i hlt)]; exact (List.getElem?_eq_some_iff.1 hj).1
        rw [← hat j, (hX i hlt).2 j hjk]; exact hj
    · exact ⟨(List.range len).map D, (List.range (m - len)).map fun j => D (len + j), by rw [hx], by simp, fun x hx' => by
        obtain ⟨i, _, rfl⟩ := List.mem_map.1 hx'
        exact ⟨D i.1, List.mem_map.2 ⟨i.1, List.mem_range.2 i.2, rfl⟩, (hX i.1 i.2).1⟩⟩
theorem small_form {d : DataW H} {l : List (DataW H)} (hk : Rows.uptoSmall H l = true) (hd : d ∈ l) : Rows.uptoBulk d ≤ 1048576 := Nat.le_trans (bulk_mem hd) (of_decide_eq_true hk)
end
end Go.Proofs.YtfbkoieodflcpaaGreatDoor
namespace Go.Proofs.YtfbkoieodflcpaaGreatDoor
open Go.RowKit Go.ChangeShapes Go.WideShapes Go.Deep

section
variable {H : Type} {enc : TypeId × Value → H} {w : World} {sp : Nat → Bool} {held : Bool}
set_option maxRecDepth 100000 in
theorem rd_fun (fuel : Nat) (us : List Value) (z : DataW H × List MemPlace) (h : DataW.trod enc Tryz.prog w 0 sp held fuel 225 us = some z) : ∃ x : FL, us = x.cs ∧ x.kinds.size ≤ Rows.uptoBulk z.1 := by
  have g := readsAll_of_trod 6 225 [9, 3, 3, 9] fuel us z (by kernel_rfl) h
  obtain ⟨_, _, rfl, g0, _, _, rfl, g1, _, _, rfl, g2, _, _, rfl, g3, rfl⟩ := g
  obtain ⟨name, rfl, b_name⟩ := Reads1.string Tryz.underlying9 g0
  obtain ⟨least, rfl, b_least⟩ := Reads1.i64 Tryz.underlying3 g1
  obtain ⟨most, rfl, b_most⟩ := Reads1.i64 Tryz.underlying3 g2
  obtain ⟨kinds, rfl, b_kinds⟩ := Reads1.string Tryz.underlying9 g3
  refine ⟨⟨name, least, most, kinds⟩, rfl, ?_⟩
  obtain ⟨n1, y1, h1, k1⟩ := trod_part Tryz.underlying225 h 3 9 3 1 rfl (by kernel_rfl)
  have h3 := trod_str Tryz.underlying9 (s := kinds) h1
  show kinds.size ≤ _
  omega
set_option maxRecDepth 100000 in
theorem rd_funs {r : Reach} {b0 : Nat} {v : Value} {d : DataW H} {ps : List MemPlace} (hval : Value.okWide Tryz.prog w r b0 30 v) (h : DataW.Trod enc Tryz.prog w 0 sp held 30 v d ps) : ∃ (A : Option Addr) (l : List FL) (cap : Nat), v = .slice A l.length cap ∧ RdB w w.heap.size A 4 (l.map FL.cs) ∧ (∀ f ∈ l, f.kinds.size ≤ Rows.uptoBulk d) ∧ l.length ≤ Rows.uptoBulk d ∧ l.length ≤ cap ∧ cap ≤ maxLen ∧ (A = none → l.length = 0 ∧ cap = 0) := by
  obtain ⟨fuel, hf⟩ := h
  obtain ⟨A0, n0, c0, rfl⟩ := okWide_slice Tryz.underlying30 hval
  obtain ⟨A, l, cap, e0, h1, h2, h4, h6, h7⟩ := rd_sliceQ 4 (by omega) FL.cs (fun x d => x.kinds.size ≤ Rows.uptoBulk d) (fun _ => rfl) Tryz.underlying30 (by kernel_rfl) (fun n us z hz => rd_fun n us z hz) (y := (d, ps)) (by simpa [Value.cells] using hf)
  refine ⟨A, l, cap, e0, h4, ?_⟩
  rcases h6 with rfl | ⟨es, sr, he, hl, hm⟩
  · exact ⟨fun n hn => (by cases hn), Nat.zero_le _, h1, h2, h7⟩
  · have e1 : Rows.uptoBulkAll es ≤ Rows.uptoBulk d := by
      change d = _ at he
      rw [he]; simp only [Rows.uptoBulk]; omega
    have e2 := bulk_len es
    refine ⟨fun n hn => ?_, by omega, h1, h2, h7⟩
    obtain ⟨d', hd, h7⟩ := hm n hn
    have := bulk_mem hd
    omega
theorem funs_at {w : World} {A : Option Addr} {l : List FL} {cap n : Nat} (hR : RdB w w.heap.size A 4 (l.map FL.cs)) (hk : ∀ f ∈ l, f.kinds.size ≤ n) (hl : l.length ≤ n) (hn : n ≤ 1048576) : FunsAt ⟨A, cap, l⟩ w.heap.size w :=
  ⟨hR, fun f hf => by have := hk f hf; omega, by show l.length ≤ _; omega⟩
end
end Go.Proofs.YtfbkoieodflcpaaGreatDoor
namespace Go.Proofs.YtfbkoieodflcpaaGreatDoor
open Go.ChangeShapes Go.WideShapes Go.ChangeAt Go.RowKit
open Go.ChangeMaps (open_string)

set_option maxRecDepth 100000 in
/-- what the walk gives, for every input -/
theorem contract_PrintBack (H : Type) (enc : TypeId × Value → H) (W : World) (base : Nat) (args : Array Value) (ds gs : List (DataW H)) (before : List MemPlace)
    (hval : ∀ (j : Nat) t v, Tryz.f4.params[j]? = some t → args[j]? = some v → Value.okWide Tryz.prog W .any base t v)
    (hW : DataW.Whole enc Tryz.prog Tryz.f4.params.toList Rows.printBackSpec.vars false W args.toList ds gs before)
    (ht : Tab W)
    (hk : Rows.uptoSmall H (ds ++ gs) = true) :
    Calls Tryz.prog 4 args W fun e W' => ∃ v, e = .returned v ∧ Rows.printBackSpec.post enc Tryz.prog Tryz.f4 false true false false W args v W' := by
  have hW' := hW
  obtain ⟨p, q, hA0, hV, rfl, hfz, hnd⟩ := hW
  have hA : DataW.TrodAll enc Tryz.prog W 0 (fun _ => true) true Tryz.f4.params.toList args.toList ds p := hA0
  rw [Tryz.params4] at hA hval
  obtain ⟨v0, vs0, d0, ds0, p0, q0, hargs, rfl, rfl, h0, r0⟩ := trodAll_cons hA
  obtain ⟨v1, vs1, d1, ds1, p1, q1, rfl, rfl, rfl, h1, r1⟩ := trodAll_cons r0
  obtain ⟨rfl, rfl, rfl⟩ := trodAll_nil r1
  obtain rfl : args = #[v0, v1] := by cases args; simp_all
  obtain ⟨a0, rfl, rfl, rfl, w0⟩ := open_string Tryz.underlying9 (hval 0 9 v0 rfl rfl) h0
  obtain ⟨A1, l1, cap1, rfl, hR1, hk1, hlb1, hlc1, hcm1, hN1⟩ := rd_funs (hval 1 30 v1 rfl rfl) h1
  have y0 := small_string hk (s := a0) (List.mem_append_left _ (by simp))
  have y1 := small_form hk (d := d1) (List.mem_append_left _ (by simp))
  refine (walk_PrintBack a0.data.toList (by rw [Array.length_toList]; exact y0) A1 l1 cap1 W ht (funs_at hR1 hk1 hlb1 y1)).mono fun e W' ⟨he, hb⟩ => ⟨_, he, ?_⟩
  exact law_post laidOut Tryz.underlying4 (by kernel_rfl) rfl (fun ds hd => by
    rw [Tryz.params4] at hd
    match ds, hd with
    | [_, _], _ => rfl) (by kernel_rfl) hW' hb

/-- the witness' arguments -/
def wArgs_PrintBack : Array Value := #[.string ⟨#[]⟩, .slice none 0 0]
theorem laid_met_PrintBack (os : Os) : laidMet Tryz.prog Rows.printBackUptoRow.laid ((laidWorldD os).forCall (fun _ _ => 0) ⟨#[], wArgs_PrintBack, []⟩).memory :=
  laidMet_of_run' 8 (by kernel_rfl) (by kernel_rfl)
theorem reads_PrintBack (os : Os) {H : Type} (enc : TypeId × Value → H) : ∃ places, DataW.whole enc Tryz.prog ((laidWorldD os).forCall (fun _ _ => 0) ⟨#[], wArgs_PrintBack, []⟩).memory Tryz.f4.params.toList Rows.printBackSpec.vars false wArgs_PrintBack.toList 8 = some ([.lit (.string []), .nil], [], places) :=
  ⟨[], by kernel_rfl⟩

set_option maxRecDepth 100000 in
theorem wh1_PrintBack (os : Os) : ((laidWorldD os).forCall (fun _ _ => 0) ⟨#[], wArgs_PrintBack, []⟩).variablesRefB Tryz.checked.prog = true := by kernel_rfl
set_option maxRecDepth 100000 in
theorem wh2_PrintBack (os : Os) : (((laidWorldD os).forCall (fun _ _ => 0) ⟨#[], wArgs_PrintBack, []⟩).heap.toList.drop Tryz.checked.prog.globals.size).take ((begin Tryz.checked.prog (fun _ _ => 0) default).world.heap.size - Tryz.checked.prog.globals.size) =
      (begin Tryz.checked.prog (fun _ _ => 0) default).world.heap.toList.drop Tryz.checked.prog.globals.size := by kernel_rfl
set_option maxRecDepth 100000 in
theorem wh3_PrintBack (os : Os) : Input.okWideB Tryz.checked.prog ((laidWorldD os).forCall (fun _ _ => 0) ⟨#[], wArgs_PrintBack, []⟩) 4 ⟨#[], wArgs_PrintBack, []⟩ = true := by kernel_rfl
theorem wcn_PrintBack (places : List MemPlace) {H : Type} : Rows.printBackUptoRow.domain.all (PathCond.test Tryz.prog ⟨Tryz.f4.params.toList, (([.lit (.string []), .nil], [], places) : List (DataW H) × List (DataW H) × List MemPlace).1, (Rows.OpenSpec.upto Rows.printBackSpec).bare.plain.varTypes Tryz.prog, []⟩) = true := by kernel_rfl
set_option maxRecDepth 100000 in
theorem wpre_PrintBack (os : Os) {H : Type} (enc : TypeId × Value → H) : (Rows.OpenSpec.upto Rows.printBackSpec).preRow enc Tryz.prog Tryz.f4 Rows.printBackUptoRow.domain false Rows.printBackUptoRow.laid ((laidWorldD os).forCall (fun _ _ => 0) ⟨#[], wArgs_PrintBack, []⟩).memory wArgs_PrintBack := by
  obtain ⟨places, hx⟩ := reads_PrintBack os enc
  exact OpenSpec.preRow_of_cond 8 hx (wcn_PrintBack places) (fun k hk => by cases hk; rfl) (by kernel_rfl) (laid_met_PrintBack os)

set_option maxRecDepth 100000 in
theorem lifted_PrintBack (os : Os) (started : os.Started) (H : Type) (enc : TypeId × Value → H) (F : Stop.Interp) :
    ReturnsInHanded {} Tryz.checked os 4 .any ((Rows.OpenSpec.upto Rows.printBackSpec).preRow enc Tryz.prog Tryz.f4 Rows.printBackUptoRow.domain false Rows.printBackUptoRow.laid) (((Rows.OpenSpec.upto Rows.printBackSpec).at F).post enc Tryz.prog Tryz.f4 false true false false) := by
  refine returnsInHanded_of_row (C := Tryz.checked) (s := Rows.OpenSpec.upto Rows.printBackSpec) own started (by kernel_rfl) Tryz.func4
    (witness_row_atRef (enc := enc) (C := Tryz.checked) false (laidWorldD os) wArgs_PrintBack rfl (wh1_PrintBack os) (wh2_PrintBack os) (wh3_PrintBack os) (wpre_PrintBack os enc)) ?_
  intro W base args ds gs before hval hW _ hcd _ hL hsh _
  exact contract_PrintBack H enc W base args ds gs before hval hW (tab_ofD (laidMet_tailD (laidMet_tailD hL)) hsh) (hcd _ rfl)

set_option maxRecDepth 100000 in
theorem jf_PrintBack : joinedFacts Tryz.pinned.checked.prog 4 Tryz.f4 (Rows.OpenSpec.upto Rows.printBackSpec).bare Rows.printBackUptoRow = true := by kernel_rfl
theorem said_PrintBack : Rows.PrintBackUptoSaid :=
  OpenClaim.holds_of_cond 4 Tryz.f4 rfl rfl rfl rfl rfl rfl rfl ⟨rfl, rfl, rfl, rfl, rfl⟩ rfl rfl rfl rfl rfl (by kernel_rfl) Tryz.func4 jf_PrintBack
    (of_decide_eq_true (by kernel_rfl)) (by unfold Func.isWrapper; rw [if_neg (of_decide_eq_false (by kernel_rfl))]; exact ⟨rfl, rfl⟩)
    (fun os started H enc _ F => by rw [OpenClaim.pre_eq_preRow]; exact lifted_PrintBack os started H enc F)

theorem plain_PrintBack (f : FuncId) (fn : Func) (hf : Tryz.pinned.checked.prog.funcNamed "oriel/oriellaw07.PrintBack" = some f) (hfn : Tryz.pinned.checked.prog.funcs[f]? = some fn) :
    true = Tryz.pinned.checked.prog.looks [] ∧ ∀ (j : Nat) t, fn.params[j]? = some t → Tryz.pinned.checked.prog.wantsStandIn t = false := by
  obtain rfl : f = 4 := Option.some.inj ((show Tryz.prog.funcNamed "oriel/oriellaw07.PrintBack" = some 4 by kernel_rfl).symm.trans hf) |>.symm
  obtain rfl : fn = Tryz.f4 := (Option.some.inj (Tryz.func4.symm.trans hfn)).symm
  refine ⟨by kernel_rfl, fun j t ht => ?_⟩
  rw [Tryz.params4] at ht
  have hm : t = 9 ∨ t = 30 := by simpa using Array.mem_of_getElem? ht
  rcases hm with rfl | rfl
  · exact (show Tryz.prog.wantsStandIn 9 = false by kernel_rfl)
  · exact (show Tryz.prog.wantsStandIn 30 = false by kernel_rfl)

/-- THE CARD -/
theorem card_PrintBack : Rows.PrintBackUptoCardSaid :=
  Claim7.holds_tied_plain_at .later [] _ _ _ _ said_PrintBack (fun _ h => by cases h) (by kernel_rfl) (fun _ h => by cases h) printBackUpto_row_tie rfl ⟨rfl, rfl⟩ (by kernel_rfl) rfl plain_PrintBack (by kernel_rfl)
end Go.Proofs.YtfbkoieodflcpaaGreatDoor
