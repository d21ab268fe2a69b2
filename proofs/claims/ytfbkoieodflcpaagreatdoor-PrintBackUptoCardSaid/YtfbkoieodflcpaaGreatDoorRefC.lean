/-
  refs: Check.
-/
import Derived.Test.YtfbkoieodflcpaaGreatDoorMg3
import Derived.Test.YtfbkoieodflcpaaGreatDoorRows
import Derived.Test.YtfbkoieodflcpaaGreatDoorMg0
import Derived.Test.YtfbkoieodflcpaaGreatDoorProg
import Derived.Test.YtfbkoieodflcpaaGreatDoorShelf
import Derived.Test.YtfbkoieodflcpaaGreatDoorMg4
import Derived.Test.YtfbkoieodflcpaaGreatDoorAddrC
import Derived.Test.YtfbkoieodflcpaaGreatDoorMg6
import Derived.Test.YtfbkoieodflcpaaGreatDoorValA
import Derived.Test.YtfbkoieodflcpaaGreatDoorValB
import Derived.Test.YtfbkoieodflcpaaGreatDoorMg9
import Derived.Test.YtfbkoieodflcpaaGreatDoorMg10
import Derived.Test.YtfbkoieodflcpaaGreatDoorMg11
import Derived.Test.YtfbkoieodflcpaaGreatDoorLexS
import Derived.Test.YtfbkoieodflcpaaGreatDoorRefN
import Derived.Test.YtfbkoieodflcpaaGreatDoorRefM
import Derived.Test.YtfbkoieodflcpaaGreatDoorRefY
import Derived.Test.YtfbkoieodflcpaaGreatDoorMg15
import Derived.Test.YtfbkoieodflcpaaGreatDoorRefD
import Derived.WalkSpells
import Derived.WalkLawsBesides
import Derived.StillTactics
import Derived.Laws.Pointers
import Derived.Deep.RegionHeld3
import Derived.Deep.QuietTactic
import Derived.BigQuiet
import Derived.RowKit3
import Derived.Lib.Hide
import Derived.Lib.OthersKept
import Derived.OwnWalk
import Derived.Lib.IndexLaws
import Derived.Lib.ItoaMem
import Derived.Lib.TrimByte
import Derived.Lib.SlTrimSet
import Derived.Lib.ParseIntB
import Derived.WalkKit
import Derived.ProofKit
import Derived.OpenShut
import Derived.Carry
import Derived.ChangeSame
import Derived.Deep.Draws
import Derived.Shelf.Strings.Builder1
import Derived.Shelf.Strings.Builder2
import Derived.Shelf.Strings.Trim
import Derived.Shelf.Small.Utf8
import Derived.Shelf.Small.Strs
import Derived.Shelf.Small.Wraps
import Derived.Shelf.Strings.BuilderF
import Derived.Shelf.Strings.BuilderK
import Derived.Shelf.Utf8.RuneCount
import Derived.Shelf.Strconv.Itoa0
import Derived.Shelf.Strconv.Itoa1
import Derived.Shelf.LaysM
import Derived.Shelf.Strconv.Itoa2
import Derived.Shelf.Strconv.Itoa3
import Derived.Ground.MpProg
import Derived.Shelf.Pu.ParseUintPublic10
import Derived.Shelf.Strings.Search1
import Derived.Shelf.Strings.Search2
import Derived.Shelf.Strings.Search3
import Derived.Shelf.Strings.Cut
import Derived.Shelf.Strings.Count
import Derived.Shelf.Strings.Shaped
import Derived.Shelf.Strings.Prefix
import Derived.Shelf.Strings.Split
import Derived.Shelf.Strings.Replace
import Derived.Shelf.Strings.SplitShaped
import Derived.Shelf.Unicode.Decode
import Derived.Shelf.Strings.Runes
import Derived.Shelf.Strings.RuneCount
import Derived.Shelf.Strings.AsciiSet
import Derived.Shelf.Unicode.DecodeSlow
import Derived.Shelf.Unicode.DecodeAny
import Derived.Shelf.Unicode.DecodeLast
import Derived.Lib.ItoaNum
import Derived.Maps.OwnSet
import Derived.Maps.AppendAt
import Derived.Outline
import Derived.Deep.CutRange
namespace Go.Proofs.YtfbkoieodflcpaaGreatDoor
open Go.RowKit

set_option maxRecDepth 100000 in
set_option maxHeartbeats 4000000 in
theorem refcheck0 (ns : List NL) (hlen : ns.length ≤ 9223372036854775807) (hok : ∀ n ∈ ns, n.ok) (ho : depthP ns = none) (w : World) (A : Option Addr) (cap : Nat) (hR : RdB w w.heap.size A 15 (ns.map NL.cs)) : Calls Tryz.prog 10 #[.agg #[.slice A ns.length cap]] w fun e w' => e = .returned (.int .i64 20) ∧ Below w.heap.size w w' := by
  have C : ∀ w0 : World, Below w.heap.size w w0 → Calls Tryz.prog 27 #[.agg #[.slice A ns.length cap]] w0 fun e w' => e = .returned (.tuple #[.int .i64 0, .bool false]) ∧ Below w0.heap.size w0 w' := fun w0 hb0 => refdepth ns hlen hok w0 A cap ((hR.below hb0).mono hb0.size) (none) ho
  have CH := Lib.hid C
  clear C hR ho hok
  go_enter Tryz.func10, Tryz.ntmps10
  go_wp2_with fail
  go_at_call 27
  refine (CH.out _ ((Below.refl _ _).alloc (Nat.le_refl _) _)).mono ?_
  rintro e w1 ⟨rfl, hb⟩
  have hbr : Below w.heap.size w w1 := ((Below.refl _ _).alloc (Nat.le_refl _) _).trans (hb.mono (by simp))
  go_wp2
  go_ret
  exact ⟨rfl, hbr⟩
set_option maxRecDepth 100000 in
set_option maxHeartbeats 4000000 in
theorem refcheck1 (ns : List NL) (hlen : ns.length ≤ 9223372036854775807) (hok : ∀ n ∈ ns, n.ok) (d : Int) (hd : d ≤ 32) (ho : depthP ns = some d) (w : World) (A : Option Addr) (cap : Nat) (hR : RdB w w.heap.size A 15 (ns.map NL.cs)) : Calls Tryz.prog 10 #[.agg #[.slice A ns.length cap]] w fun e w' => e = .returned (.int .i64 0) ∧ Below w.heap.size w w' := by
  have C : ∀ w0 : World, Below w.heap.size w w0 → Calls Tryz.prog 27 #[.agg #[.slice A ns.length cap]] w0 fun e w' => e = .returned (.tuple #[.int .i64 d, .bool true]) ∧ Below w0.heap.size w0 w' := fun w0 hb0 => refdepth ns hlen hok w0 A cap ((hR.below hb0).mono hb0.size) (some d) ho
  have CH := Lib.hid C
  clear C hR ho hok
  have hd2 : ¬ (d > 32) := by omega
  go_enter Tryz.func10, Tryz.ntmps10
  go_wp2_with fail
  go_at_call 27
  refine (CH.out _ ((Below.refl _ _).alloc (Nat.le_refl _) _)).mono ?_
  rintro e w1 ⟨rfl, hb⟩
  have hbr : Below w.heap.size w w1 := ((Below.refl _ _).alloc (Nat.le_refl _) _).trans (hb.mono (by simp))
  go_wp2
  go_ret
  exact ⟨rfl, hbr⟩
set_option maxRecDepth 100000 in
set_option maxHeartbeats 4000000 in
theorem refcheck2 (ns : List NL) (hlen : ns.length ≤ 9223372036854775807) (hok : ∀ n ∈ ns, n.ok) (d : Int) (hd : 32 < d) (ho : depthP ns = some d) (w : World) (A : Option Addr) (cap : Nat) (hR : RdB w w.heap.size A 15 (ns.map NL.cs)) : Calls Tryz.prog 10 #[.agg #[.slice A ns.length cap]] w fun e w' => e = .returned (.int .i64 20) ∧ Below w.heap.size w w' := by
  have C : ∀ w0 : World, Below w.heap.size w w0 → Calls Tryz.prog 27 #[.agg #[.slice A ns.length cap]] w0 fun e w' => e = .returned (.tuple #[.int .i64 d, .bool true]) ∧ Below w0.heap.size w0 w' := fun w0 hb0 => refdepth ns hlen hok w0 A cap ((hR.below hb0).mono hb0.size) (some d) ho
  have CH := Lib.hid C
  clear C hR ho hok
  have hd2 : d > 32 := by omega
  go_enter Tryz.func10, Tryz.ntmps10
  go_wp2_with fail
  go_at_call 27
  refine (CH.out _ ((Below.refl _ _).alloc (Nat.le_refl _) _)).mono ?_
  rintro e w1 ⟨rfl, hb⟩
  have hbr : Below w.heap.size w w1 := ((Below.refl _ _).alloc (Nat.le_refl _) _).trans (hb.mono (by simp))
  go_wp2
  go_ret
  exact ⟨rfl, hbr⟩
theorem refcheck (ns : List NL) (hlen : ns.length ≤ 9223372036854775807) (hok : ∀ n ∈ ns, n.ok) (w : World) (A : Option Addr) (cap : Nat) (hR : RdB w w.heap.size A 15 (ns.map NL.cs)) (r : Bool) (h : checkP ns = r) : Calls Tryz.prog 10 #[.agg #[.slice A ns.length cap]] w fun e w' => e = .returned (.int .i64 (if r then 0 else 20)) ∧ Below w.heap.size w w' := by
  subst h
  unfold checkP
  cases ho : depthP ns with
  | none => exact refcheck0 ns hlen hok ho w A cap hR
  | some d =>
    by_cases hd : d ≤ 32
    · have h := refcheck1 ns hlen hok d hd ho w A cap hR
      simpa [hd] using h
    · have h := refcheck2 ns hlen hok d (by omega) ho w A cap hR
      simpa [hd] using h
end Go.Proofs.YtfbkoieodflcpaaGreatDoor
