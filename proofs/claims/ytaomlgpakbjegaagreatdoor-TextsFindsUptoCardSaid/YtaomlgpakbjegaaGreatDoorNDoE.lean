/-
  nums: slices.Contains.
-/
import Derived.Test.YtaomlgpakbjegaaGreatDoorRows
import Derived.Test.YtaomlgpakbjegaaGreatDoorBase
import Derived.Test.YtaomlgpakbjegaaGreatDoorRowB
import Derived.Test.YtaomlgpakbjegaaGreatDoorDecA
import Derived.Test.YtaomlgpakbjegaaGreatDoorValA
import Derived.Test.YtaomlgpakbjegaaGreatDoorValB
import Derived.Test.YtaomlgpakbjegaaGreatDoorMg10
import Derived.Test.YtaomlgpakbjegaaGreatDoorValC
import Derived.Test.YtaomlgpakbjegaaGreatDoorAddrC
import Derived.Test.YtaomlgpakbjegaaGreatDoorAddrI
import Derived.Test.YtaomlgpakbjegaaGreatDoorMapK
import Derived.Test.YtaomlgpakbjegaaGreatDoorMg14
import Derived.Test.YtaomlgpakbjegaaGreatDoorProg
import Derived.Test.YtaomlgpakbjegaaGreatDoorShelf
import Derived.Test.YtaomlgpakbjegaaGreatDoorFmtU
import Derived.Test.YtaomlgpakbjegaaGreatDoorPrintL
import Derived.Test.YtaomlgpakbjegaaGreatDoorDPrint
import Derived.Test.YtaomlgpakbjegaaGreatDoorRPr
import Derived.WalkSpells
import Derived.WalkLawsBesides
import Derived.StillTactics
import Derived.Laws.Pointers
import Derived.Deep.RegionHeld3
import Derived.Deep.QuietTactic
import Derived.BigQuiet
import Derived.RowKit3
import Derived.Lib.Hide
import Derived.Lib.OthersKept
import Derived.OwnWalk
import Derived.Lib.IndexLaws
import Derived.Lib.ItoaMem
import Derived.WalkKit
import Derived.ProofKit
import Derived.OpenShut
import Derived.Carry
import Derived.ChangeSame
import Derived.Deep.Draws
import Derived.Maps.OwnSet
import Derived.Maps.AppendAt
import Derived.Laws.BitsAllLaws
import Derived.Shelf.Strings.Builder1
import Derived.Shelf.Strings.Builder2
import Derived.Shelf.Strings.OnBuilder
import Derived.Shelf.Strings.Trim
import Derived.Shelf.Small.Bits
import Derived.Shelf.Small.Strs
import Derived.Shelf.Small.Wraps
import Derived.Shelf.Strings.BuilderF
import Derived.Shelf.Strings.BuilderK
import Derived.Shelf.Strconv.Itoa0
import Derived.Shelf.Strconv.Itoa1
import Derived.Shelf.LaysM
import Derived.Shelf.Strconv.Itoa2
import Derived.Ground.MpProg
import Derived.Shelf.Pu.ParseUintPublic10
import Derived.Shelf.Strings.Search1
import Derived.Shelf.Strings.Search2
import Derived.Shelf.Strings.Search3
import Derived.Shelf.Strings.Cut
import Derived.Shelf.Strings.Prefix
import Derived.Shelf.Strings.Runes
import Derived.Shelf.Strings.AsciiSet
import Derived.Shelf.Bits.Mul64
import Derived.Shelf.Strings.Repeat
import Derived.Lib.TrimByte
import Derived.Lib.Bytealg
import Derived.Lib.SlTrimSet
import Derived.Lib.ParseIntB
import Derived.Shelf.Strings.SlTrimAscii
import Derived.Lib.SmallJoins
import Derived.Deep.RegionWith
namespace Go.Proofs.YtaomlgpakbjegaaGreatDoor
open Go.RowKit

/-- an index of a list, or -1 -/
structure cbAt (l : List Bool) (v : Bool) (w : World) (e : Ending) (w' : World) : Prop where
  out : ∃ r : Int, e = .returned (.int .i64 r) ∧ decide (0 ≤ r) = l.any (fun y => (v == y))
  same : w = w'
set_option maxHeartbeats 1000000 in
theorem cb_idx (l : List Bool) (v : Bool) (hlen : l.length ≤ 9223372036854775807) (w : World) (A : Option Addr) (cap : Nat) (hA : RdB w w.heap.size A 1 (l.map fun (x : Bool) => [.bool x])) : Calls Tryz.prog 119 #[.slice A l.length cap, .bool v] w (cbAt l v w) := by
  have hA' := Lib.hid hA
  clear hA
  go_enter Tryz.func119, Tryz.ntmps119
  go_wp2
  go_loop [8] (fun i => ∃ k : Nat, k ≤ l.length ∧ i = .int .i64 (k : Int) ∧ Hid ((l.take k).any (fun y => (v == y)) = false)) (fun i => l.length - (intOf i).toNat)
  case atStart => exact ⟨0, Nat.zero_le _, rfl, Lib.hid rfl⟩
  case round =>
    obtain ⟨k, hk, rfl, hno⟩ := hrel
    by_cases hlt : k < l.length
    · obtain ⟨x, hx⟩ : ∃ x, l[k]? = some x := ⟨_, List.getElem?_eq_getElem hlt⟩
      obtain ⟨b, o, rfl, hb, hcell⟩ := hA'.out k [.bool x] (by rw [List.getElem?_map, hx]; rfl)
      have hck : w.cell? ⟨b, o + k, none⟩ = some (.bool x) := by simpa using hcell 0 _ rfl
      have hts : (l.take (k + 1)).any (fun y => (v == y)) = (v == x) := by rw [List.take_add_one, hx, Option.toList_some, List.any_append, hno.out]; simp
      have hts' := Lib.hid hts
      have hmem := Lib.hid (List.mem_of_getElem? hx)
      have hkl : (k : Int) < (l.length : Int) := by omega
      clear hx hcell hts
      cases heq : (v == x)
      · rw [heq] at hts'
        have hq : ((v == x)) = false := heq
        go_wp2
        go_round
        case rel => exact ⟨k + 1, by omega, by go_num, hts'⟩
        case measure => simp [intOf]; omega
      · have heq' := Lib.hid heq
        have hq : ((v == x)) = true := heq
        go_wp2
        go_ret
        exact ⟨⟨_, rfl, by rw [eq_comm, show decide (0 ≤ (k : Int)) = true by simp, List.any_eq_true]; exact ⟨x, hmem.out, heq'.out⟩⟩, rfl⟩
    · obtain rfl : k = l.length := by omega
      go_wp2
      go_ret
      have := hno.out
      rw [List.take_length] at this
      exact ⟨⟨_, rfl, by rw [this]; rfl⟩, rfl⟩
set_option maxHeartbeats 1000000 in
theorem cb_has (l : List Bool) (v : Bool) (hlen : l.length ≤ 9223372036854775807) (z : Bool) (hz : l.any (fun y => (v == y)) = z) (w : World) (A : Option Addr) (cap : Nat) (hA : RdB w w.heap.size A 1 (l.map fun (x : Bool) => [.bool x])) : Calls Tryz.prog 58 #[.slice A l.length cap, .bool v] w fun e w' => e = .returned (.bool z) ∧ w = w' := by
  have C := Lib.hid (cb_idx l v hlen w A cap hA)
  have hz' := Lib.hid hz
  clear hA hz
  go_enter Tryz.func58, Tryz.ntmps58
  go_wp2_with fail
  refine C.out.mono ?_
  clear C
  rintro e w' ⟨⟨r, rfl, hr⟩, rfl⟩
  have hr' := Lib.hid hr
  clear hr
  go_wp2
  go_ret
  exact ⟨ret_b (by rw [hr'.out, hz'.out]), rfl⟩
/-- an index of a list, or -1 -/
structure cuAt (l : List Nat) (v : Nat) (w : World) (e : Ending) (w' : World) : Prop where
  out : ∃ r : Int, e = .returned (.int .i64 r) ∧ decide (0 ≤ r) = l.any (fun y => ((v : Int) == (y : Int)))
  same : w = w'
end Go.Proofs.YtaomlgpakbjegaaGreatDoor
