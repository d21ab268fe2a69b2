/-
  texts: LEFT, RIGHT, REV, UPPER, LOWER behind their names.
-/
import Derived.Test.YtaomlgpakbjegaaGreatDoorRows
import Derived.Test.YtaomlgpakbjegaaGreatDoorBase
import Derived.Test.YtaomlgpakbjegaaGreatDoorMapK
import Derived.Test.YtaomlgpakbjegaaGreatDoorProg
import Derived.Test.YtaomlgpakbjegaaGreatDoorShelf
import Derived.Test.YtaomlgpakbjegaaGreatDoorTFind
import Derived.Test.YtaomlgpakbjegaaGreatDoorRowB
import Derived.Test.YtaomlgpakbjegaaGreatDoorDecA
import Derived.Test.YtaomlgpakbjegaaGreatDoorValA
import Derived.Test.YtaomlgpakbjegaaGreatDoorValB
import Derived.Test.YtaomlgpakbjegaaGreatDoorMg10
import Derived.Test.YtaomlgpakbjegaaGreatDoorValC
import Derived.Test.YtaomlgpakbjegaaGreatDoorAddrC
import Derived.Test.YtaomlgpakbjegaaGreatDoorAddrI
import Derived.Test.YtaomlgpakbjegaaGreatDoorMg14
import Derived.Test.YtaomlgpakbjegaaGreatDoorFmtU
import Derived.Test.YtaomlgpakbjegaaGreatDoorPrintL
import Derived.Test.YtaomlgpakbjegaaGreatDoorDPrint
import Derived.Test.YtaomlgpakbjegaaGreatDoorRPr
import Derived.Test.YtaomlgpakbjegaaGreatDoorNDoE
import Derived.Test.YtaomlgpakbjegaaGreatDoorTCall
import Derived.Test.YtaomlgpakbjegaaGreatDoorValD
import Derived.Test.YtaomlgpakbjegaaGreatDoorMg21
import Derived.Test.YtaomlgpakbjegaaGreatDoorValJ
import Derived.Test.YtaomlgpakbjegaaGreatDoorValL
import Derived.Test.YtaomlgpakbjegaaGreatDoorNCallK
import Derived.Test.YtaomlgpakbjegaaGreatDoorTCallK
import Derived.Test.YtaomlgpakbjegaaGreatDoorTDoA
import Derived.Test.YtaomlgpakbjegaaGreatDoorTCallB
import Derived.Test.YtaomlgpakbjegaaGreatDoorTDoB
import Derived.Test.YtaomlgpakbjegaaGreatDoorTDoC
import Derived.Test.YtaomlgpakbjegaaGreatDoorTDoD
import Derived.Test.YtaomlgpakbjegaaGreatDoorTArg
import Derived.Test.YtaomlgpakbjegaaGreatDoorTLaw
import Derived.Test.YtaomlgpakbjegaaGreatDoorTAt
import Derived.WalkSpells
import Derived.WalkLawsBesides
import Derived.StillTactics
import Derived.Laws.Pointers
import Derived.Deep.RegionHeld3
import Derived.Deep.QuietTactic
import Derived.BigQuiet
import Derived.RowKit3
import Derived.Lib.Hide
import Derived.Lib.OthersKept
import Derived.OwnWalk
import Derived.Lib.IndexLaws
import Derived.Lib.ItoaMem
import Derived.WalkKit
import Derived.ProofKit
import Derived.OpenShut
import Derived.Carry
import Derived.ChangeSame
import Derived.Deep.Draws
import Derived.Maps.OwnSet
import Derived.Maps.AppendAt
import Derived.Shelf.Strings.Builder1
import Derived.Shelf.Strings.Builder2
import Derived.Shelf.Strings.OnBuilder
import Derived.Shelf.Strings.Trim
import Derived.Shelf.Small.Bits
import Derived.Shelf.Small.Strs
import Derived.Shelf.Small.Wraps
import Derived.Shelf.Strings.BuilderF
import Derived.Shelf.Strings.BuilderK
import Derived.Shelf.Strconv.Itoa0
import Derived.Shelf.Strconv.Itoa1
import Derived.Shelf.LaysM
import Derived.Shelf.Strconv.Itoa2
import Derived.Ground.MpProg
import Derived.Shelf.Pu.ParseUintPublic10
import Derived.Shelf.Strings.Search1
import Derived.Shelf.Strings.Search2
import Derived.Shelf.Strings.Search3
import Derived.Shelf.Strings.Cut
import Derived.Shelf.Strings.Prefix
import Derived.Shelf.Strings.Runes
import Derived.Shelf.Strings.AsciiSet
import Derived.Shelf.Bits.Mul64
import Derived.Shelf.Strings.Repeat
import Derived.Laws.EntriesVeiled
import Derived.Laws.BitsAllLaws
import Derived.Lib.TrimByte
import Derived.Lib.Bytealg
import Derived.Lib.SlTrimSet
import Derived.Lib.ParseIntB
import Derived.Shelf.Strings.SlTrimAscii
import Derived.Lib.SmallJoins
import Derived.Deep.RegionWith
import Derived.IntWalk
import Derived.Laws.IdiomStrings
import Derived.RegionTactic
import Derived.ChangeAlike
namespace Go.Proofs.YtaomlgpakbjegaaGreatDoor
open Go.RowKit

set_option maxHeartbeats 1000000 in
theorem upper_any (s : ByteArray) (hs : s.size ≤ 1024) (w : World) : Calls Tryz.prog 90 #[.string s] w fun e w' => e = .returned (.string (caseS 97 65 s)) ∧ Below w.heap.size w w' := by
  go_enter Tryz.func90, Tryz.ntmps90
  go_wp2_with fail
  refine (each_any s hs 97 65 ⟨by omega, by omega⟩ _).mono ?_
  rintro e w1 ⟨rfl, hb⟩
  go_wp2
  go_ret
  exact ⟨rfl, hb⟩
set_option maxHeartbeats 1000000 in
theorem lower_any (s : ByteArray) (hs : s.size ≤ 1024) (w : World) : Calls Tryz.prog 92 #[.string s] w fun e w' => e = .returned (.string (caseS 65 97 s)) ∧ Below w.heap.size w w' := by
  go_enter Tryz.func92, Tryz.ntmps92
  go_wp2_with fail
  refine (each_any s hs 65 97 ⟨by omega, by omega⟩ _).mono ?_
  rintro e w1 ⟨rfl, hb⟩
  go_wp2
  go_ret
  exact ⟨rfl, hb⟩
set_option maxRecDepth 100000 in
theorem at_LEFT (s : ByteArray) (hs : s.size ≤ 1024) (n : Int) (hn : -922337203685477 ≤ n ∧ n ≤ 922337203685477) (hz : 0 ≤ n) (text : Int) : DoT ⟨#[76, 69, 70, 84]⟩ [s] [n] text (toldT text (cutD s n)) := ⟨fun w b0 b1 b2 b3 kd lo d vs vn h q0 q1 q2 q3 ht hS hN => by
  have e : lookL tZero (tTab b0 b1 b2 b3) ⟨#[76, 69, 70, 84]⟩ = .agg #[.string ⟨#[115, 110]⟩, .int .i64 1, .func (.func 86) #[] #[]] := by kernel_rfl
  have hd := third_of (e.symm.trans h)
  exact ⟨86, #[], hd.symm, fun _ _ => by simp [go_sem], tdo_LEFT1 s hs n hn hz text vs vn w hS hN⟩⟩
set_option maxRecDepth 100000 in
theorem at_RIGHT (s : ByteArray) (hs : s.size ≤ 1024) (n : Int) (hn : -922337203685477 ≤ n ∧ n ≤ 922337203685477) (hz : 0 ≤ n) (text : Int) : DoT ⟨#[82, 73, 71, 72, 84]⟩ [s] [n] text (toldT text (rightD s n)) := ⟨fun w b0 b1 b2 b3 kd lo d vs vn h q0 q1 q2 q3 ht hS hN => by
  have e : lookL tZero (tTab b0 b1 b2 b3) ⟨#[82, 73, 71, 72, 84]⟩ = .agg #[.string ⟨#[115, 110]⟩, .int .i64 1, .func (.func 87) #[] #[]] := by kernel_rfl
  have hd := third_of (e.symm.trans h)
  exact ⟨87, #[], hd.symm, fun _ _ => by simp [go_sem], tdo_RIGHT1 s hs n hn hz text vs vn w hS hN⟩⟩
theorem caseS_size (a b : Nat) (s : ByteArray) : (caseS a b s).size = s.size := by
  show (List.map _ _).toArray.size = s.data.size
  simp
theorem revS_size (s : ByteArray) : (revS s).size = s.size := by
  show (List.reverse _).toArray.size = s.data.size
  simp
set_option maxRecDepth 100000 in
theorem at_REV (s : ByteArray) (hs : s.size ≤ 1024) (text : Int) : DoT ⟨#[82, 69, 86]⟩ [s] [] text (toldT text (revS s)) := ⟨fun w b0 b1 b2 b3 kd lo d vs vn h q0 q1 q2 q3 ht hS hN => by
  have e : lookL tZero (tTab b0 b1 b2 b3) ⟨#[82, 69, 86]⟩ = .agg #[.string ⟨#[115]⟩, .int .i64 1, .func (.func 165) #[] #[.pointer (some ⟨b3, 0, none⟩)]] := by kernel_rfl
  have hd := third_of (e.symm.trans h)
  exact ⟨165, #[.pointer (some ⟨b3, 0, none⟩)], hd.symm, fun _ _ => by simp [go_sem], tdo_TEXT 103 s (revS s) (by rw [revS_size]; omega) (fun w => rev_any s hs w) (fun _ _ => by simp [go_sem]) text vs vn w hS hN b3 (cell_lt q3) q3⟩⟩
set_option maxRecDepth 100000 in
theorem at_UPPER (s : ByteArray) (hs : s.size ≤ 1024) (text : Int) : DoT ⟨#[85, 80, 80, 69, 82]⟩ [s] [] text (toldT text (caseS 97 65 s)) := ⟨fun w b0 b1 b2 b3 kd lo d vs vn h q0 q1 q2 q3 ht hS hN => by
  have e : lookL tZero (tTab b0 b1 b2 b3) ⟨#[85, 80, 80, 69, 82]⟩ = .agg #[.string ⟨#[115]⟩, .int .i64 1, .func (.func 165) #[] #[.pointer (some ⟨b0, 0, none⟩)]] := by kernel_rfl
  have hd := third_of (e.symm.trans h)
  exact ⟨165, #[.pointer (some ⟨b0, 0, none⟩)], hd.symm, fun _ _ => by simp [go_sem], tdo_TEXT 90 s (caseS 97 65 s) (by rw [caseS_size]; omega) (fun w => upper_any s hs w) (fun _ _ => by simp [go_sem]) text vs vn w hS hN b0 (cell_lt q0) q0⟩⟩
set_option maxRecDepth 100000 in
theorem at_LOWER (s : ByteArray) (hs : s.size ≤ 1024) (text : Int) : DoT ⟨#[76, 79, 87, 69, 82]⟩ [s] [] text (toldT text (caseS 65 97 s)) := ⟨fun w b0 b1 b2 b3 kd lo d vs vn h q0 q1 q2 q3 ht hS hN => by
  have e : lookL tZero (tTab b0 b1 b2 b3) ⟨#[76, 79, 87, 69, 82]⟩ = .agg #[.string ⟨#[115]⟩, .int .i64 1, .func (.func 165) #[] #[.pointer (some ⟨b1, 0, none⟩)]] := by kernel_rfl
  have hd := third_of (e.symm.trans h)
  exact ⟨165, #[.pointer (some ⟨b1, 0, none⟩)], hd.symm, fun _ _ => by simp [go_sem], tdo_TEXT 92 s (caseS 65 97 s) (by rw [caseS_size]; omega) (fun w => lower_any s hs w) (fun _ _ => by simp [go_sem]) text vs vn w hS hN b1 (cell_lt q1) q1⟩⟩
theorem kd_LEFT : tKd ⟨#[76, 69, 70, 84]⟩ = ⟨#[115, 110]⟩ := by kernel_rfl
theorem kd_RIGHT : tKd ⟨#[82, 73, 71, 72, 84]⟩ = ⟨#[115, 110]⟩ := by kernel_rfl
theorem kd_REV : tKd ⟨#[82, 69, 86]⟩ = ⟨#[115]⟩ := by kernel_rfl
theorem kd_UPPER : tKd ⟨#[85, 80, 80, 69, 82]⟩ = ⟨#[115]⟩ := by kernel_rfl
theorem kd_LOWER : tKd ⟨#[76, 79, 87, 69, 82]⟩ = ⟨#[115]⟩ := by kernel_rfl
set_option maxRecDepth 100000 in
theorem lcall_LEFT (s : ByteArray) (hs : s.size ≤ 1024) (n : Int) (hn : -922337203685477 ≤ n ∧ n ≤ 922337203685477) (hz : 0 ≤ n) (text : Int) (h0 : 0 ≤ text ∧ text ≤ 1024) {w : World} (hTab : Tab w) {v : Value} (hv : ArgsAt w v [txA s, whA n]) : Calls Tryz.prog 15 #[.string ⟨#[76, 69, 70, 84]⟩, v, .int .i64 text] w fun e w' => e = .returned (.agg #[.int .i64 (toldT text (cutD s n)).t, .int .i64 (toldT text (cutD s n)).n, .string (toldT text (cutD s n)).s, .bool (toldT text (cutD s n)).b, .int .i64 (toldT text (cutD s n)).c]) ∧ Below w.heap.size w w' :=
  lcall_any (by decide) (by simp) h0 (by
    intro x hx
    simp only [List.mem_cons, List.not_mem_nil, or_false] at hx
    rcases hx with rfl | rfl
    · exact isa_t s
    · exact isa_n n hn) (by kernel_rfl) (by
    unfold tPairs gE; rw [kd_LEFT]
    simp [wh_e n hn]) (by
    unfold tPairs gS; rw [kd_LEFT]
    simp [tx_asT]) (by
    unfold tPairs gN; rw [kd_LEFT]
    simp [wh_whole n hn]) (at_LEFT s hs n hn hz text) hTab hv
set_option maxRecDepth 100000 in
theorem lcall_RIGHT (s : ByteArray) (hs : s.size ≤ 1024) (n : Int) (hn : -922337203685477 ≤ n ∧ n ≤ 922337203685477) (hz : 0 ≤ n) (text : Int) (h0 : 0 ≤ text ∧ text ≤ 1024) {w : World} (hTab : Tab w) {v : Value} (hv : ArgsAt w v [txA s, whA n]) : Calls Tryz.prog 15 #[.string ⟨#[82, 73, 71, 72, 84]⟩, v, .int .i64 text] w fun e w' => e = .returned (.agg #[.int .i64 (toldT text (rightD s n)).t, .int .i64 (toldT text (rightD s n)).n, .string (toldT text (rightD s n)).s, .bool (toldT text (rightD s n)).b, .int .i64 (toldT text (rightD s n)).c]) ∧ Below w.heap.size w w' :=
  lcall_any (by decide) (by simp) h0 (by
    intro x hx
    simp only [List.mem_cons, List.not_mem_nil, or_false] at hx
    rcases hx with rfl | rfl
    · exact isa_t s
    · exact isa_n n hn) (by kernel_rfl) (by
    unfold tPairs gE; rw [kd_RIGHT]
    simp [wh_e n hn]) (by
    unfold tPairs gS; rw [kd_RIGHT]
    simp [tx_asT]) (by
    unfold tPairs gN; rw [kd_RIGHT]
    simp [wh_whole n hn]) (at_RIGHT s hs n hn hz text) hTab hv
set_option maxRecDepth 100000 in
theorem lcall_REV (s : ByteArray) (hs : s.size ≤ 1024) (text : Int) (h0 : 0 ≤ text ∧ text ≤ 1024) {w : World} (hTab : Tab w) {v : Value} (hv : ArgsAt w v [txA s]) : Calls Tryz.prog 15 #[.string ⟨#[82, 69, 86]⟩, v, .int .i64 text] w fun e w' => e = .returned (.agg #[.int .i64 (toldT text (revS s)).t, .int .i64 (toldT text (revS s)).n, .string (toldT text (revS s)).s, .bool (toldT text (revS s)).b, .int .i64 (toldT text (revS s)).c]) ∧ Below w.heap.size w w' :=
  lcall_any (by decide) (by simp) h0 (by
    intro x hx
    simp only [List.mem_cons, List.not_mem_nil, or_false] at hx
    subst hx
    exact isa_t s) (by kernel_rfl) (by
    unfold tPairs gE; rw [kd_REV]
    simp) (by
    unfold tPairs gS; rw [kd_REV]
    simp [tx_asT]) (by
    unfold tPairs gN; rw [kd_REV]
    simp) (at_REV s hs text) hTab hv
set_option maxRecDepth 100000 in
theorem lcall_UPPER (s : ByteArray) (hs : s.size ≤ 1024) (text : Int) (h0 : 0 ≤ text ∧ text ≤ 1024) {w : World} (hTab : Tab w) {v : Value} (hv : ArgsAt w v [txA s]) : Calls Tryz.prog 15 #[.string ⟨#[85, 80, 80, 69, 82]⟩, v, .int .i64 text] w fun e w' => e = .returned (.agg #[.int .i64 (toldT text (caseS 97 65 s)).t, .int .i64 (toldT text (caseS 97 65 s)).n, .string (toldT text (caseS 97 65 s)).s, .bool (toldT text (caseS 97 65 s)).b, .int .i64 (toldT text (caseS 97 65 s)).c]) ∧ Below w.heap.size w w' :=
  lcall_any (by decide) (by simp) h0 (by
    intro x hx
    simp only [List.mem_cons, List.not_mem_nil, or_false] at hx
    subst hx
    exact isa_t s) (by kernel_rfl) (by
    unfold tPairs gE; rw [kd_UPPER]
    simp) (by
    unfold tPairs gS; rw [kd_UPPER]
    simp [tx_asT]) (by
    unfold tPairs gN; rw [kd_UPPER]
    simp) (at_UPPER s hs text) hTab hv
set_option maxRecDepth 100000 in
theorem lcall_LOWER (s : ByteArray) (hs : s.size ≤ 1024) (text : Int) (h0 : 0 ≤ text ∧ text ≤ 1024) {w : World} (hTab : Tab w) {v : Value} (hv : ArgsAt w v [txA s]) : Calls Tryz.prog 15 #[.string ⟨#[76, 79, 87, 69, 82]⟩, v, .int .i64 text] w fun e w' => e = .returned (.agg #[.int .i64 (toldT text (caseS 65 97 s)).t, .int .i64 (toldT text (caseS 65 97 s)).n, .string (toldT text (caseS 65 97 s)).s, .bool (toldT text (caseS 65 97 s)).b, .int .i64 (toldT text (caseS 65 97 s)).c]) ∧ Below w.heap.size w w' :=
  lcall_any (by decide) (by simp) h0 (by
    intro x hx
    simp only [List.mem_cons, List.not_mem_nil, or_false] at hx
    subst hx
    exact isa_t s) (by kernel_rfl) (by
    unfold tPairs gE; rw [kd_LOWER]
    simp) (by
    unfold tPairs gS; rw [kd_LOWER]
    simp [tx_asT]) (by
    unfold tPairs gN; rw [kd_LOWER]
    simp) (at_LOWER s hs text) hTab hv
end Go.Proofs.YtaomlgpakbjegaaGreatDoor
