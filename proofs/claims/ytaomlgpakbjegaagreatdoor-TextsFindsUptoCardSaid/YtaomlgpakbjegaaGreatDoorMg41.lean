/-
  texts: REPT behind its name; texts: CONCAT behind its name.
-/
import Derived.Test.YtaomlgpakbjegaaGreatDoorRows
import Derived.Test.YtaomlgpakbjegaaGreatDoorBase
import Derived.Test.YtaomlgpakbjegaaGreatDoorMapK
import Derived.Test.YtaomlgpakbjegaaGreatDoorProg
import Derived.Test.YtaomlgpakbjegaaGreatDoorShelf
import Derived.Test.YtaomlgpakbjegaaGreatDoorTFind
import Derived.Test.YtaomlgpakbjegaaGreatDoorRowB
import Derived.Test.YtaomlgpakbjegaaGreatDoorDecA
import Derived.Test.YtaomlgpakbjegaaGreatDoorValA
import Derived.Test.YtaomlgpakbjegaaGreatDoorValB
import Derived.Test.YtaomlgpakbjegaaGreatDoorMg10
import Derived.Test.YtaomlgpakbjegaaGreatDoorValC
import Derived.Test.YtaomlgpakbjegaaGreatDoorAddrC
import Derived.Test.YtaomlgpakbjegaaGreatDoorAddrI
import Derived.Test.YtaomlgpakbjegaaGreatDoorMg14
import Derived.Test.YtaomlgpakbjegaaGreatDoorFmtU
import Derived.Test.YtaomlgpakbjegaaGreatDoorPrintL
import Derived.Test.YtaomlgpakbjegaaGreatDoorDPrint
import Derived.Test.YtaomlgpakbjegaaGreatDoorRPr
import Derived.Test.YtaomlgpakbjegaaGreatDoorNDoE
import Derived.Test.YtaomlgpakbjegaaGreatDoorTCall
import Derived.Test.YtaomlgpakbjegaaGreatDoorValD
import Derived.Test.YtaomlgpakbjegaaGreatDoorMg21
import Derived.Test.YtaomlgpakbjegaaGreatDoorValJ
import Derived.Test.YtaomlgpakbjegaaGreatDoorValL
import Derived.Test.YtaomlgpakbjegaaGreatDoorNCallK
import Derived.Test.YtaomlgpakbjegaaGreatDoorTCallK
import Derived.Test.YtaomlgpakbjegaaGreatDoorTDoA
import Derived.Test.YtaomlgpakbjegaaGreatDoorTCallB
import Derived.Test.YtaomlgpakbjegaaGreatDoorTDoB
import Derived.Test.YtaomlgpakbjegaaGreatDoorTDoC
import Derived.Test.YtaomlgpakbjegaaGreatDoorTDoD
import Derived.Test.YtaomlgpakbjegaaGreatDoorTArg
import Derived.Test.YtaomlgpakbjegaaGreatDoorTLaw
import Derived.Test.YtaomlgpakbjegaaGreatDoorTAt
import Derived.Test.YtaomlgpakbjegaaGreatDoorTDoF
import Derived.Test.YtaomlgpakbjegaaGreatDoorTJoiL
import Derived.Test.YtaomlgpakbjegaaGreatDoorTDoG
import Derived.WalkSpells
import Derived.WalkLawsBesides
import Derived.StillTactics
import Derived.Laws.Pointers
import Derived.Deep.RegionHeld3
import Derived.Deep.QuietTactic
import Derived.BigQuiet
import Derived.RowKit3
import Derived.Lib.Hide
import Derived.Lib.OthersKept
import Derived.OwnWalk
import Derived.Lib.IndexLaws
import Derived.Lib.ItoaMem
import Derived.WalkKit
import Derived.ProofKit
import Derived.OpenShut
import Derived.Carry
import Derived.ChangeSame
import Derived.Deep.Draws
import Derived.Maps.OwnSet
import Derived.Maps.AppendAt
import Derived.Shelf.Strings.Builder1
import Derived.Shelf.Strings.Builder2
import Derived.Shelf.Strings.OnBuilder
import Derived.Shelf.Strings.Trim
import Derived.Shelf.Small.Bits
import Derived.Shelf.Small.Strs
import Derived.Shelf.Small.Wraps
import Derived.Shelf.Strings.BuilderF
import Derived.Shelf.Strings.BuilderK
import Derived.Shelf.Strconv.Itoa0
import Derived.Shelf.Strconv.Itoa1
import Derived.Shelf.LaysM
import Derived.Shelf.Strconv.Itoa2
import Derived.Ground.MpProg
import Derived.Shelf.Pu.ParseUintPublic10
import Derived.Shelf.Strings.Search1
import Derived.Shelf.Strings.Search2
import Derived.Shelf.Strings.Search3
import Derived.Shelf.Strings.Cut
import Derived.Shelf.Strings.Prefix
import Derived.Shelf.Strings.Runes
import Derived.Shelf.Strings.AsciiSet
import Derived.Shelf.Bits.Mul64
import Derived.Shelf.Strings.Repeat
import Derived.Laws.EntriesVeiled
import Derived.Laws.BitsAllLaws
import Derived.Lib.TrimByte
import Derived.Lib.Bytealg
import Derived.Lib.SlTrimSet
import Derived.Lib.ParseIntB
import Derived.Shelf.Strings.SlTrimAscii
import Derived.Lib.SmallJoins
import Derived.Deep.RegionWith
import Derived.IntWalk
import Derived.Laws.IdiomStrings
import Derived.RegionTactic
import Derived.ChangeAlike
import Derived.Lib.Repeat
import Derived.Lib.IndexMore
namespace Go.Proofs.YtaomlgpakbjegaaGreatDoor
open Go.RowKit

theorem repS_none (m : Nat) : repS ⟨#[]⟩ m = ⟨#[]⟩ := by
  have h := repS_size ⟨#[]⟩ m
  have h2 : (repS ⟨#[]⟩ m).size = 0 := by rw [h]; exact Nat.mul_zero m
  exact ByteArray.size_eq_zero_iff.1 h2
theorem repS_zero (s : ByteArray) : repS s 0 = ⟨#[]⟩ := rfl
theorem do_REPT (s : ByteArray) (m : Nat) (hm : m ≤ 922337203685477) (text : Int) (ht : 0 ≤ text ∧ text ≤ 1024) (vs vn : Value) (w : World) (hS : RdStr w vs [s]) (hN : RdInt w vn [(m : Int)]) : Calls Tryz.prog 94 #[.agg #[vs, vn, .int .i64 text]] w fun e w' => e = .returned (.agg #[.int .i64 (toldT text (repS s m)).t, .int .i64 (toldT text (repS s m)).n, .string (toldT text (repS s m)).s, .bool (toldT text (repS s m)).b, .int .i64 (toldT text (repS s m)).c]) ∧ Below w.heap.size w w' := by
  by_cases h0 : s = ⟨#[]⟩
  · subst h0
    rw [repS_none]
    exact tdo_REPT0s (m : Int) (by omega) (by omega) text vs vn w hS hN
  · by_cases h1 : m = 0
    · subst h1
      rw [repS_zero]
      exact tdo_REPT0n s h0 text vs vn w hS hN
    · have hp : 0 < s.size := by
        rcases Nat.eq_zero_or_pos s.size with h | h
        · exact absurd (ByteArray.size_eq_zero_iff.1 h) h0
        · exact h
      by_cases hq : text / (s.size : Int) < (m : Int)
      · have hr : toldT text (repS s m) = errL 7 := by
          unfold toldT
          rw [if_pos]
          rw [repS_size, Int.natCast_mul]
          have := (Int.ediv_lt_iff_lt_mul (a := text) (b := (m : Int)) (c := (s.size : Int)) (by omega)).1 hq
          exact this
        rw [hr]
        exact tdo_REPTl s (m : Int) (by omega) (by omega) hp text ht hq vs vn w hS hN
      · exact tdo_REPT1 s m (by omega) hp text ht (by omega) vs vn w hS hN
set_option maxRecDepth 100000 in
theorem at_REPT (s : ByteArray) (m : Nat) (hm : m ≤ 922337203685477) (text : Int) (h9 : 0 ≤ text ∧ text ≤ 1024) : DoT ⟨#[82, 69, 80, 84]⟩ [s] [(m : Int)] text (toldT text (repS s m)) := ⟨fun w b0 b1 b2 b3 kd lo d vs vn h q0 q1 q2 q3 ht hS hN => by
  have e : lookL tZero (tTab b0 b1 b2 b3) ⟨#[82, 69, 80, 84]⟩ = .agg #[.string ⟨#[115, 110]⟩, .int .i64 2, .func (.func 94) #[] #[]] := by kernel_rfl
  have hd := third_of (e.symm.trans h)
  exact ⟨94, #[], hd.symm, fun _ _ => by simp [go_sem], do_REPT s m hm text h9 vs vn w hS hN⟩⟩
theorem kd_REPT : tKd ⟨#[82, 69, 80, 84]⟩ = ⟨#[115, 110]⟩ := by kernel_rfl
set_option maxRecDepth 100000 in
theorem lcall_REPT (s : ByteArray) (m : Nat) (hm : m ≤ 922337203685477) (text : Int) (h0 : 0 ≤ text ∧ text ≤ 1024) {w : World} (hTab : Tab w) {v : Value} (hv : ArgsAt w v [txA s, whA (m : Int)]) : Calls Tryz.prog 15 #[.string ⟨#[82, 69, 80, 84]⟩, v, .int .i64 text] w fun e w' => e = .returned (.agg #[.int .i64 (toldT text (repS s m)).t, .int .i64 (toldT text (repS s m)).n, .string (toldT text (repS s m)).s, .bool (toldT text (repS s m)).b, .int .i64 (toldT text (repS s m)).c]) ∧ Below w.heap.size w w' :=
  lcall_any (by decide) (by simp) h0 (by
    intro x hx
    simp only [List.mem_cons, List.not_mem_nil, or_false] at hx
    rcases hx with rfl | rfl
    · exact isa_t s
    · exact isa_n (m : Int) (by omega)) (by kernel_rfl) (by
    unfold tPairs gE; rw [kd_REPT]
    simp [wh_e (m : Int) (by omega)]) (by
    unfold tPairs gS; rw [kd_REPT]
    simp [tx_asT]) (by
    unfold tPairs gN; rw [kd_REPT]
    simp [wh_whole (m : Int) (by omega)]) (at_REPT s m hm text h0) hTab hv
end Go.Proofs.YtaomlgpakbjegaaGreatDoor
namespace Go.Proofs.YtaomlgpakbjegaaGreatDoor
open Go.RowKit

set_option maxRecDepth 100000 in
theorem at_CONCAT (l : List ByteArray) (L : List Int) (hl : 0 < l.length) (hll : l.length ≤ 1649267441664) (text : Int) (h9 : 0 ≤ text ∧ text ≤ 1024) : DoT ⟨#[67, 79, 78, 67, 65, 84]⟩ l L text (toldT text (joinS l)) := ⟨fun w b0 b1 b2 b3 kd lo d vs vn h q0 q1 q2 q3 ht hS hN => by
  have e : lookL tZero (tTab b0 b1 b2 b3) ⟨#[67, 79, 78, 67, 65, 84]⟩ = .agg #[.string ⟨#[115, 115, 115, 115, 115, 115, 115, 115, 115, 115, 115, 115, 115, 115, 115, 115]⟩, .int .i64 1, .func (.func 98) #[] #[]] := by kernel_rfl
  have hd := third_of (e.symm.trans h)
  exact ⟨98, #[], hd.symm, fun _ _ => by simp [go_sem], tdo_CONCAT l L hl hll text h9 vs vn w hS hN⟩⟩
theorem kd_CONCAT : tKd ⟨#[67, 79, 78, 67, 65, 84]⟩ = ⟨#[115, 115, 115, 115, 115, 115, 115, 115, 115, 115, 115, 115, 115, 115, 115, 115]⟩ := by kernel_rfl
set_option maxRecDepth 100000 in
theorem lcall_CONCAT (a b c : ByteArray) (text : Int) (h0 : 0 ≤ text ∧ text ≤ 1024) {w : World} (hTab : Tab w) {v : Value} (hv : ArgsAt w v [txA a, txA b, txA c]) : Calls Tryz.prog 15 #[.string ⟨#[67, 79, 78, 67, 65, 84]⟩, v, .int .i64 text] w fun e w' => e = .returned (.agg #[.int .i64 (toldT text (joinS [a, b, c])).t, .int .i64 (toldT text (joinS [a, b, c])).n, .string (toldT text (joinS [a, b, c])).s, .bool (toldT text (joinS [a, b, c])).b, .int .i64 (toldT text (joinS [a, b, c])).c]) ∧ Below w.heap.size w w' :=
  lcall_any (by decide) (by simp) h0 (by
    intro x hx
    simp only [List.mem_cons, List.not_mem_nil, or_false] at hx
    rcases hx with rfl | rfl | rfl
    · exact isa_t a
    · exact isa_t b
    · exact isa_t c) (by kernel_rfl) (by
    unfold tPairs gE; rw [kd_CONCAT]
    simp) (by
    unfold tPairs gS; rw [kd_CONCAT]
    simp [tx_asT]) (by
    unfold tPairs gN; rw [kd_CONCAT]
    simp) (at_CONCAT [a, b, c] [] (by simp) (by simp) text h0) hTab hv
theorem lcall_bad {name : ByteArray} (hs : name.size ≤ 16) {l : List AL} (hl : l.length ≤ 3) (text : Int) (ht : text < 0 ∨ 1024 < text) (w : World) {v : Value} (hv : ArgsAt w v l) : Calls Tryz.prog 15 #[.string name, v, .int .i64 text] w fun e w' => e = .returned (.agg #[.int .i64 (errL 8).t, .int .i64 (errL 8).n, .string (errL 8).s, .bool (errL 8).b, .int .i64 (errL 8).c]) ∧ Below w.heap.size w w' := by
  obtain ⟨A, cap, rfl, hR⟩ := hv
  have := tcall_bad name (by omega) l (by omega) text ht (errL 8) w A cap
  rwa [show callT name l text (errL 8) = errL 8 by unfold callT; rw [if_pos ht]] at this
end Go.Proofs.YtaomlgpakbjegaaGreatDoor
