/-
  aggs: may of any argument; SUM, LARGE behind their names.
-/
import Derived.Test.YtaomlgpakbjegaaGreatDoorRows
import Derived.Test.YtaomlgpakbjegaaGreatDoorBase
import Derived.Test.YtaomlgpakbjegaaGreatDoorRowB
import Derived.Test.YtaomlgpakbjegaaGreatDoorMg4
import Derived.Test.YtaomlgpakbjegaaGreatDoorValA
import Derived.Test.YtaomlgpakbjegaaGreatDoorValB
import Derived.Test.YtaomlgpakbjegaaGreatDoorValC
import Derived.Test.YtaomlgpakbjegaaGreatDoorAddrC
import Derived.Test.YtaomlgpakbjegaaGreatDoorAddrI
import Derived.Test.YtaomlgpakbjegaaGreatDoorMapK
import Derived.Test.YtaomlgpakbjegaaGreatDoorArgK
import Derived.Test.YtaomlgpakbjegaaGreatDoorAArg
import Derived.Test.YtaomlgpakbjegaaGreatDoorProg
import Derived.Test.YtaomlgpakbjegaaGreatDoorShelfB
import Derived.Test.YtaomlgpakbjegaaGreatDoorDFlo
import Derived.Test.YtaomlgpakbjegaaGreatDoorMg1
import Derived.Test.YtaomlgpakbjegaaGreatDoorMg15
import Derived.Test.YtaomlgpakbjegaaGreatDoorValL
import Derived.Test.YtaomlgpakbjegaaGreatDoorNCallK
import Derived.Test.YtaomlgpakbjegaaGreatDoorAItm
import Derived.Test.YtaomlgpakbjegaaGreatDoorAAmo
import Derived.Test.YtaomlgpakbjegaaGreatDoorASum
import Derived.Test.YtaomlgpakbjegaaGreatDoorAFind
import Derived.Test.YtaomlgpakbjegaaGreatDoorACall
import Derived.Test.YtaomlgpakbjegaaGreatDoorACallB
import Derived.Test.YtaomlgpakbjegaaGreatDoorANum
import Derived.Test.YtaomlgpakbjegaaGreatDoorAInt
import Derived.Test.YtaomlgpakbjegaaGreatDoorALar
import Derived.Test.YtaomlgpakbjegaaGreatDoorACol
import Derived.Laws.EntriesVeiled
import Derived.WalkSpells
import Derived.WalkLawsBesides
import Derived.StillTactics
import Derived.Laws.Pointers
import Derived.Deep.RegionHeld3
import Derived.Deep.QuietTactic
import Derived.BigQuiet
import Derived.RowKit3
import Derived.Lib.Hide
import Derived.Lib.OthersKept
import Derived.OwnWalk
import Derived.Lib.IndexLaws
import Derived.Lib.ItoaMem
import Derived.WalkKit
import Derived.ProofKit
import Derived.OpenShut
import Derived.Carry
import Derived.ChangeSame
import Derived.Deep.Draws
import Derived.Maps.OwnSet
import Derived.Maps.AppendAt
import Derived.Shelf.SlGeneric
import Derived.Shelf.SortM.Plain
import Derived.Shelf.SortM.SortNone
import Derived.Ground.SlgmProg
import Derived.Laws.BitsAllLaws
import Derived.Shelf.Strings.Builder1
import Derived.Shelf.Strings.Builder2
import Derived.Shelf.Strings.OnBuilder
import Derived.Shelf.Strings.Trim
import Derived.Shelf.Small.Utf8
import Derived.Shelf.Small.Bits
import Derived.Shelf.Small.Strs
import Derived.Shelf.Small.Wraps
import Derived.Shelf.Strings.BuilderF
import Derived.Shelf.Strings.BuilderK
import Derived.Shelf.Strconv.Itoa0
import Derived.Shelf.Strconv.Itoa1
import Derived.Shelf.LaysM
import Derived.Shelf.Strconv.Itoa2
import Derived.Ground.MpProg
import Derived.Shelf.Pu.ParseUintPublic10
import Derived.Shelf.Strings.Search1
import Derived.Shelf.Strings.Search2
import Derived.Shelf.Strings.Search3
import Derived.Shelf.Strings.Cut
import Derived.Shelf.Strings.Shaped
import Derived.Shelf.Strings.Prefix
import Derived.Shelf.Strings.Runes
import Derived.Shelf.Strings.AsciiSet
import Derived.Shelf.Bits.Mul64
import Derived.Shelf.Strings.Repeat
import Derived.Shelf.Unicode.DecodeSlow
import Derived.Lib.TrimByte
import Derived.Lib.Bytealg
import Derived.Lib.SlTrimSet
import Derived.Lib.ParseIntB
import Derived.Shelf.Strings.SlTrimAscii
import Derived.Lib.SmallJoins
import Derived.Deep.RegionWith
import Derived.Laws.Externs
import Derived.IntWalk
import Derived.Sort.OwnSorted
import Derived.Sort.OwnSortedInts
import Derived.Deep.AppendLies
import Derived.Deep.RegionLaw
namespace Go.Proofs.YtaomlgpakbjegaaGreatDoor
open Go.RowKit

theorem gmay_any (x : AL) (w : World) (hin : x.In w w.heap.size) : Calls Tryz.prog 59 #[.agg #[.bool x.many, .int .i64 x.v.t, .int .i64 x.v.n, .string x.v.s, .bool x.v.b, .int .i64 x.v.c, .int .i64 x.t, .int .i64 x.l, .int .i64 x.b, .int .i64 x.r, .slice x.A x.es.length x.cap]] w fun e w' => e = .returned (.bool (argMay x)) ∧ Below w.heap.size w w' := by
  obtain ⟨h1, h2, h3, h4⟩ := hin
  obtain ⟨m, ⟨t, n, s, b, c⟩, rt, rl, rb, rr, A, cap, es⟩ := x
  have hn : -9223372036854775808 ≤ n ∧ n ≤ 9223372036854775807 := h1
  unfold argMay
  cases m
  · have e : decide (es.length = 0) = decide (es = []) := by cases es <;> simp
    rw [if_neg (by simp)]
    have := gmay_single t n s b c hn rt rl rb rr A es.length cap w
    rw [e] at this
    exact this
  · rw [if_pos rfl]
    cases hm : mayRectB rt rl rb rr
    · have := gmay_m0 t n s b c hn rt rl rb rr A es.length cap hm w
      simpa using this
    · cases hz : vEq t n s b c 0 0 ⟨#[]⟩ false 0
      · have := gmay_m1 t n s b c hn rt rl rb rr A es.length cap hm hz w
        simpa [vZero, hz] using this
      · have := gmay_many t n s b c hn rt rl rb rr A es.length cap ⟨true, ⟨t, n, s, b, c⟩, rt, rl, rb, rr, A, cap, es⟩ rfl rfl rfl rfl rfl rfl hm hz w h2 h3 h4
        simpa [vZero, hz] using this
theorem mays_any (l : List AL) : MaysA l := ⟨fun x _ w h => gmay_any x w h⟩
/-- a list of arguments, with room for itself -/
def ArgsC (w : World) (v : Value) (l : List AL) : Prop := ∃ A cap, v = .slice A l.length cap ∧ l.length ≤ cap ∧ RdB w w.heap.size A 11 (l.map AL.cs) ∧ ∀ x ∈ l, x.In w w.heap.size
theorem callA_of {name : ByteArray} {l : List AL} {text : Int} {r : VL} (h0 : 0 ≤ text ∧ text ≤ 1024) (h : l.all argMay = true) (ht : takesA name (l.map fun x => x.many) = true) (hn : ∀ x ∈ l, ¬ x.v.t = 4) : callA name l text r = r := by
  unfold callA
  rw [if_neg (by omega), h, if_neg (by simp), ht, if_neg (by simp)]
  unfold callAS
  rw [List.find?_eq_none.2 (by intro x hx; simpa using hn x hx)]
/-- a call of the laws -/
theorem lacall_any {name : ByteArray} {l : List AL} {text : Int} {r : VL} (hs : name.size ≤ 16) (hlen : l.length ≤ 16) (h0 : 0 ≤ text ∧ text ≤ 1024) (h : l.all argMay = true) (ht : takesA name (l.map fun x => x.many) = true) (hn : ∀ x ∈ l, ¬ x.v.t = 4) (hD : DoA name l text r) {w : World} (hTab : Tab w) {v : Value} (hv : ArgsC w v l) : Calls Tryz.prog 27 #[.string name, v, .int .i64 text] w fun e w' => e = .returned (.agg #[.int .i64 (r).t, .int .i64 (r).n, .string (r).s, .bool (r).b, .int .i64 (r).c]) ∧ Below w.heap.size w w' := by
  obtain ⟨A, cap, rfl, hcap, hR, hin⟩ := hv
  have := acall_any name (by omega) l (by omega) text h0 r (mays_any l) (fun _ _ _ => hD) w hTab A cap hcap hR hin
  rwa [callA_of h0 h ht hn] at this
theorem fourth_of {a b c d a' b' c' d' : Value} (h : Value.agg #[a, b, c, d] = Value.agg #[a', b', c', d']) : d = d' := by
  injection h with h
  injection h with h
  injection h with _ h
  injection h with _ h
  injection h with _ h
  injection h with h _
set_option maxRecDepth 100000 in
theorem ata_SUM (l : List AL) (hlen : l.length ≤ 16) (hN : (itemsL l).length ≤ 2932031007402) (text : Int) : DoA ⟨#[83, 85, 77]⟩ l text (faultR (itemsL l) (fitL (numsL (itemsL l)).sum)) := ⟨fun w bl base kd lo hi d A cap hlk hBx hTab hcap hR hin => by
  have e : lookL aZero (aTab bl) ⟨#[83, 85, 77]⟩ = .agg #[.string ⟨#[120]⟩, .int .i64 1, .int .i64 16, .func (.func 185) #[] #[.pointer (some ⟨bl.getD 0 0, 0, none⟩)]] := by kernel_rfl
  have hd := fourth_of (e.symm.trans hlk)
  exact ⟨185, #[.pointer (some ⟨bl.getD 0 0, 0, none⟩)], hd.symm, fun _ _ => by simp [go_sem], anum_any l (by omega) hN text w A cap hR hin (bl.getD 0 0) 121 #[] (hBx (bl.getD 0 0, .func (.func 121) #[] #[]) (by simp [aSrc])).2 (fun _ _ => by simp [go_sem]) _ (fun _ w2 A2 cap2 _ h => asumf_any _ (nums_ok (items_ok hin)) (Nat.le_trans (numsL_len _) hN) w2 A2 cap2 h)⟩⟩
set_option maxRecDepth 100000 in
theorem ata_LARGE (x0 x1 : AL) (hN : (itemsL [x0]).length ≤ 2932031007402) (text : Int) : DoA ⟨#[76, 65, 82, 71, 69]⟩ [x0, x1] text (largeR x0 x1) := ⟨fun w bl base kd lo hi d A cap hlk hBx hTab hcap hR hin => by
  have e : lookL aZero (aTab bl) ⟨#[76, 65, 82, 71, 69]⟩ = .agg #[.string ⟨#[114, 118]⟩, .int .i64 2, .int .i64 2, .func (.func 139) #[] #[]] := by kernel_rfl
  have hd := fourth_of (e.symm.trans hlk)
  exact ⟨139, #[], hd.symm, fun _ _ => by simp [go_sem], alarge_any x0 x1 hN text w A cap hR hin hcap⟩⟩
end Go.Proofs.YtaomlgpakbjegaaGreatDoor
