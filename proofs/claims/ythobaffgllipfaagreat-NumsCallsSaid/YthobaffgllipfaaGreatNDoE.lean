/-
  nums: slices.Contains.
-/
import Derived.Test.YthobaffgllipfaaGreatRows
import Derived.Test.YthobaffgllipfaaGreatBase
import Derived.Test.YthobaffgllipfaaGreatMg3
import Derived.Test.YthobaffgllipfaaGreatValA
import Derived.Test.YthobaffgllipfaaGreatValB
import Derived.Test.YthobaffgllipfaaGreatDecS
import Derived.Test.YthobaffgllipfaaGreatValC
import Derived.Test.YthobaffgllipfaaGreatAddrC
import Derived.Test.YthobaffgllipfaaGreatMg9
import Derived.Test.YthobaffgllipfaaGreatMapK
import Derived.Test.YthobaffgllipfaaGreatDMod
import Derived.Test.YthobaffgllipfaaGreatDFlo
import Derived.Test.YthobaffgllipfaaGreatProg
import Derived.Test.YthobaffgllipfaaGreatMg12
import Derived.Test.YthobaffgllipfaaGreatDRnd
import Derived.Test.YthobaffgllipfaaGreatMg14
import Derived.Test.YthobaffgllipfaaGreatKnuth
import Derived.Test.YthobaffgllipfaaGreatDDiv
import Derived.Test.YthobaffgllipfaaGreatMg17
import Derived.Test.YthobaffgllipfaaGreatNDoA
import Derived.Test.YthobaffgllipfaaGreatNDoB
import Derived.Test.YthobaffgllipfaaGreatNDoC
import Derived.Test.YthobaffgllipfaaGreatNDoD
import Derived.WalkSpells
import Derived.WalkLawsBesides
import Derived.StillTactics
import Derived.Laws.Pointers
import Derived.Deep.RegionHeld3
import Derived.Deep.QuietTactic
import Derived.BigQuiet
import Derived.RowKit3
import Derived.Lib.Hide
import Derived.Lib.OthersKept
import Derived.OwnWalk
import Derived.Lib.IndexLaws
import Derived.Lib.ItoaMem
import Derived.WalkKit
import Derived.ProofKit
import Derived.OpenShut
import Derived.Carry
import Derived.ChangeSame
import Derived.Deep.Draws
import Derived.Maps.OwnSet
import Derived.Maps.AppendAt
import Derived.Laws.BitsAllLaws
import Derived.Shelf.Small.Bits
import Derived.Shelf.Strconv.Itoa0
import Derived.Shelf.Bits.Mul64
import Derived.Lib.TrimByte
import Derived.Lib.Bytealg
import Derived.Lib.SlTrimSet
import Derived.Lib.ParseIntB
import Derived.Shelf.Strings.SlTrimAscii
import Derived.Lib.SmallJoins
import Derived.Deep.RegionWith
namespace Go.Proofs.YthobaffgllipfaaGreat
open Go.RowKit

/-- an index of a list, or -1 -/
structure cbAt (l : List Bool) (v : Bool) (w : World) (e : Ending) (w' : World) : Prop where
  out : ∃ r : Int, e = .returned (.int .i64 r) ∧ decide (0 ≤ r) = l.any (fun y => (v == y))
  same : w = w'
set_option maxHeartbeats 1000000 in
theorem cb_idx (l : List Bool) (v : Bool) (hlen : l.length ≤ 9223372036854775807) (w : World) (A : Option Addr) (cap : Nat) (hA : RdB w w.heap.size A 1 (l.map fun (x : Bool) => [.bool x])) : Calls Tryz.prog 78 #[.slice A l.length cap, .bool v] w (cbAt l v w) := by
  have hA' := Lib.hid hA
  clear hA
  go_enter Tryz.func78, Tryz.ntmps78
  go_wp2
  go_loop [8] (fun i => ∃ k : Nat, k ≤ l.length ∧ i = .int .i64 (k : Int) ∧ Hid ((l.take k).any (fun y => (v == y)) = false)) (fun i => l.length - (intOf i).toNat)
  case atStart => exact ⟨0, Nat.zero_le _, rfl, Lib.hid rfl⟩
  case round =>
    obtain ⟨k, hk, rfl, hno⟩ := hrel
    by_cases hlt : k < l.length
    · obtain ⟨x, hx⟩ : ∃ x, l[k]? = some x := ⟨_, List.getElem?_eq_getElem hlt⟩
      obtain ⟨b, o, rfl, hb, hcell⟩ := hA'.out k [.bool x] (by rw [List.getElem?_map, hx]; rfl)
      have hck : w.cell? ⟨b, o + k, none⟩ = some (.bool x) := by simpa using hcell 0 _ rfl
      have hts : (l.take (k + 1)).any (fun y => (v == y)) = (v == x) := by rw [List.take_add_one, hx, Option.toList_some, List.any_append, hno.out]; simp
      have hts' := Lib.hid hts
      have hmem := Lib.hid (List.mem_of_getElem? hx)
      have hkl : (k : Int) < (l.length : Int) := by omega
      clear hx hcell hts
      cases heq : (v == x)
      · rw [heq] at hts'
        have hq : ((v == x)) = false := heq
        go_wp2
        go_round
        case rel => exact ⟨k + 1, by omega, by go_num, hts'⟩
        case measure => simp [intOf]; omega
      · have heq' := Lib.hid heq
        have hq : ((v == x)) = true := heq
        go_wp2
        go_ret
        exact ⟨⟨_, rfl, by rw [eq_comm, show decide (0 ≤ (k : Int)) = true by simp, List.any_eq_true]; exact ⟨x, hmem.out, heq'.out⟩⟩, rfl⟩
    · obtain rfl : k = l.length := by omega
      go_wp2
      go_ret
      have := hno.out
      rw [List.take_length] at this
      exact ⟨⟨_, rfl, by rw [this]; rfl⟩, rfl⟩
set_option maxHeartbeats 1000000 in
theorem cb_has (l : List Bool) (v : Bool) (hlen : l.length ≤ 9223372036854775807) (z : Bool) (hz : l.any (fun y => (v == y)) = z) (w : World) (A : Option Addr) (cap : Nat) (hA : RdB w w.heap.size A 1 (l.map fun (x : Bool) => [.bool x])) : Calls Tryz.prog 29 #[.slice A l.length cap, .bool v] w fun e w' => e = .returned (.bool z) ∧ w = w' := by
  have C := Lib.hid (cb_idx l v hlen w A cap hA)
  have hz' := Lib.hid hz
  clear hA hz
  go_enter Tryz.func29, Tryz.ntmps29
  go_wp2_with fail
  refine C.out.mono ?_
  clear C
  rintro e w' ⟨⟨r, rfl, hr⟩, rfl⟩
  have hr' := Lib.hid hr
  clear hr
  go_wp2
  go_ret
  exact ⟨ret_b (by rw [hr'.out, hz'.out]), rfl⟩
/-- an index of a list, or -1 -/
structure cuAt (l : List Nat) (v : Nat) (w : World) (e : Ending) (w' : World) : Prop where
  out : ∃ r : Int, e = .returned (.int .i64 r) ∧ decide (0 ≤ r) = l.any (fun y => ((v : Int) == (y : Int)))
  same : w = w'
set_option maxHeartbeats 1000000 in
theorem cu_idx (l : List Nat) (v : Nat) (hlen : l.length ≤ 9223372036854775807) (w : World) (A : Option Addr) (cap : Nat) (hA : RdB w w.heap.size A 1 (l.map fun (x : Nat) => [.int .u64 (x : Int)])) : Calls Tryz.prog 110 #[.slice A l.length cap, .int .u64 (v : Int)] w (cuAt l v w) := by
  have hA' := Lib.hid hA
  clear hA
  go_enter Tryz.func110, Tryz.ntmps110
  go_wp2
  go_loop [8] (fun i => ∃ k : Nat, k ≤ l.length ∧ i = .int .i64 (k : Int) ∧ Hid ((l.take k).any (fun y => ((v : Int) == (y : Int))) = false)) (fun i => l.length - (intOf i).toNat)
  case atStart => exact ⟨0, Nat.zero_le _, rfl, Lib.hid rfl⟩
  case round =>
    obtain ⟨k, hk, rfl, hno⟩ := hrel
    by_cases hlt : k < l.length
    · obtain ⟨x, hx⟩ : ∃ x, l[k]? = some x := ⟨_, List.getElem?_eq_getElem hlt⟩
      obtain ⟨b, o, rfl, hb, hcell⟩ := hA'.out k [.int .u64 (x : Int)] (by rw [List.getElem?_map, hx]; rfl)
      have hck : w.cell? ⟨b, o + k, none⟩ = some (.int .u64 (x : Int)) := by simpa using hcell 0 _ rfl
      have hts : (l.take (k + 1)).any (fun y => ((v : Int) == (y : Int))) = ((v : Int) == (x : Int)) := by rw [List.take_add_one, hx, Option.toList_some, List.any_append, hno.out]; simp
      have hts' := Lib.hid hts
      have hmem := Lib.hid (List.mem_of_getElem? hx)
      have hkl : (k : Int) < (l.length : Int) := by omega
      clear hx hcell hts
      cases heq : ((v : Int) == (x : Int))
      · rw [heq] at hts'
        have hq : (((v : Int) == (x : Int))) = false := heq
        go_wp2
        go_round
        case rel => exact ⟨k + 1, by omega, by go_num, hts'⟩
        case measure => simp [intOf]; omega
      · have heq' := Lib.hid heq
        have hq : (((v : Int) == (x : Int))) = true := heq
        go_wp2
        go_ret
        exact ⟨⟨_, rfl, by rw [eq_comm, show decide (0 ≤ (k : Int)) = true by simp, List.any_eq_true]; exact ⟨x, hmem.out, heq'.out⟩⟩, rfl⟩
    · obtain rfl : k = l.length := by omega
      go_wp2
      go_ret
      have := hno.out
      rw [List.take_length] at this
      exact ⟨⟨_, rfl, by rw [this]; rfl⟩, rfl⟩
set_option maxHeartbeats 1000000 in
theorem cu_has (l : List Nat) (v : Nat) (hlen : l.length ≤ 9223372036854775807) (z : Bool) (hz : l.any (fun y => ((v : Int) == (y : Int))) = z) (w : World) (A : Option Addr) (cap : Nat) (hA : RdB w w.heap.size A 1 (l.map fun (x : Nat) => [.int .u64 (x : Int)])) : Calls Tryz.prog 91 #[.slice A l.length cap, .int .u64 (v : Int)] w fun e w' => e = .returned (.bool z) ∧ w = w' := by
  have C := Lib.hid (cu_idx l v hlen w A cap hA)
  have hz' := Lib.hid hz
  clear hA hz
  go_enter Tryz.func91, Tryz.ntmps91
  go_wp2_with fail
  refine C.out.mono ?_
  clear C
  rintro e w' ⟨⟨r, rfl, hr⟩, rfl⟩
  have hr' := Lib.hid hr
  clear hr
  go_wp2
  go_ret
  exact ⟨ret_b (by rw [hr'.out, hz'.out]), rfl⟩
end Go.Proofs.YthobaffgllipfaaGreat
