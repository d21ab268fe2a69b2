/-
  texts: SUBST, FIND behind their names.
-/
import Derived.Test.YtaomlgpakbjegaaGreatDoorRows
import Derived.Test.YtaomlgpakbjegaaGreatDoorBase
import Derived.Test.YtaomlgpakbjegaaGreatDoorMapK
import Derived.Test.YtaomlgpakbjegaaGreatDoorProg
import Derived.Test.YtaomlgpakbjegaaGreatDoorShelf
import Derived.Test.YtaomlgpakbjegaaGreatDoorTFind
import Derived.Test.YtaomlgpakbjegaaGreatDoorRowB
import Derived.Test.YtaomlgpakbjegaaGreatDoorDecA
import Derived.Test.YtaomlgpakbjegaaGreatDoorValA
import Derived.Test.YtaomlgpakbjegaaGreatDoorValB
import Derived.Test.YtaomlgpakbjegaaGreatDoorMg10
import Derived.Test.YtaomlgpakbjegaaGreatDoorValC
import Derived.Test.YtaomlgpakbjegaaGreatDoorAddrC
import Derived.Test.YtaomlgpakbjegaaGreatDoorAddrI
import Derived.Test.YtaomlgpakbjegaaGreatDoorMg14
import Derived.Test.YtaomlgpakbjegaaGreatDoorFmtU
import Derived.Test.YtaomlgpakbjegaaGreatDoorPrintL
import Derived.Test.YtaomlgpakbjegaaGreatDoorDPrint
import Derived.Test.YtaomlgpakbjegaaGreatDoorRPr
import Derived.Test.YtaomlgpakbjegaaGreatDoorNDoE
import Derived.Test.YtaomlgpakbjegaaGreatDoorTCall
import Derived.Test.YtaomlgpakbjegaaGreatDoorValD
import Derived.Test.YtaomlgpakbjegaaGreatDoorMg21
import Derived.Test.YtaomlgpakbjegaaGreatDoorValJ
import Derived.Test.YtaomlgpakbjegaaGreatDoorValL
import Derived.Test.YtaomlgpakbjegaaGreatDoorNCallK
import Derived.Test.YtaomlgpakbjegaaGreatDoorTCallK
import Derived.Test.YtaomlgpakbjegaaGreatDoorTDoA
import Derived.Test.YtaomlgpakbjegaaGreatDoorTCallB
import Derived.Test.YtaomlgpakbjegaaGreatDoorTDoB
import Derived.Test.YtaomlgpakbjegaaGreatDoorTDoC
import Derived.Test.YtaomlgpakbjegaaGreatDoorTDoD
import Derived.Test.YtaomlgpakbjegaaGreatDoorTArg
import Derived.Test.YtaomlgpakbjegaaGreatDoorTLaw
import Derived.Test.YtaomlgpakbjegaaGreatDoorTAt
import Derived.Test.YtaomlgpakbjegaaGreatDoorTJoiL
import Derived.Test.YtaomlgpakbjegaaGreatDoorTDoG
import Derived.Test.YtaomlgpakbjegaaGreatDoorTDoH
import Derived.Test.YtaomlgpakbjegaaGreatDoorTDoI
import Derived.WalkSpells
import Derived.WalkLawsBesides
import Derived.StillTactics
import Derived.Laws.Pointers
import Derived.Deep.RegionHeld3
import Derived.Deep.QuietTactic
import Derived.BigQuiet
import Derived.RowKit3
import Derived.Lib.Hide
import Derived.Lib.OthersKept
import Derived.OwnWalk
import Derived.Lib.IndexLaws
import Derived.Lib.ItoaMem
import Derived.WalkKit
import Derived.ProofKit
import Derived.OpenShut
import Derived.Carry
import Derived.ChangeSame
import Derived.Deep.Draws
import Derived.Maps.OwnSet
import Derived.Maps.AppendAt
import Derived.Shelf.Strings.Builder1
import Derived.Shelf.Strings.Builder2
import Derived.Shelf.Strings.OnBuilder
import Derived.Shelf.Strings.Trim
import Derived.Shelf.Small.Bits
import Derived.Shelf.Small.Strs
import Derived.Shelf.Small.Wraps
import Derived.Shelf.Strings.BuilderF
import Derived.Shelf.Strings.BuilderK
import Derived.Shelf.Strconv.Itoa0
import Derived.Shelf.Strconv.Itoa1
import Derived.Shelf.LaysM
import Derived.Shelf.Strconv.Itoa2
import Derived.Ground.MpProg
import Derived.Shelf.Pu.ParseUintPublic10
import Derived.Shelf.Strings.Search1
import Derived.Shelf.Strings.Search2
import Derived.Shelf.Strings.Search3
import Derived.Shelf.Strings.Cut
import Derived.Shelf.Strings.Prefix
import Derived.Shelf.Strings.Runes
import Derived.Shelf.Strings.AsciiSet
import Derived.Shelf.Bits.Mul64
import Derived.Shelf.Strings.Repeat
import Derived.Laws.EntriesVeiled
import Derived.Laws.BitsAllLaws
import Derived.Lib.TrimByte
import Derived.Lib.Bytealg
import Derived.Lib.SlTrimSet
import Derived.Lib.ParseIntB
import Derived.Shelf.Strings.SlTrimAscii
import Derived.Lib.SmallJoins
import Derived.Deep.RegionWith
import Derived.IntWalk
import Derived.Laws.IdiomStrings
import Derived.RegionTactic
import Derived.ChangeAlike
import Derived.Lib.Repeat
import Derived.Lib.IndexMore
namespace Go.Proofs.YtaomlgpakbjegaaGreatDoor
open Go.RowKit

set_option maxRecDepth 100000 in
theorem at_SUBST (s t u : ByteArray) (hs : s.size < 4294967281) (hu : t.size < 4294967281 → u.size ≤ 4294967296) (hne : ¬ t = ⟨#[]⟩) (text : Int) (h9 : 0 ≤ text ∧ text ≤ 1024) : DoT ⟨#[83, 85, 66, 83, 84]⟩ [s, t, u] [] text (toldT text (substS s t u)) := ⟨fun w b0 b1 b2 b3 kd lo d vs vn h q0 q1 q2 q3 ht hS hN => by
  have e : lookL tZero (tTab b0 b1 b2 b3) ⟨#[83, 85, 66, 83, 84]⟩ = .agg #[.string ⟨#[115, 115, 115]⟩, .int .i64 3, .func (.func 96) #[] #[]] := by kernel_rfl
  have hd := third_of (e.symm.trans h)
  exact ⟨96, #[], hd.symm, fun _ _ => by simp [go_sem], (Exists.elim ht.2 fun mx hmx => tdo_SUBST1 s t u hs hu hne mx text h9 vs vn w hS hN hmx)⟩⟩
theorem kd_SUBST : tKd ⟨#[83, 85, 66, 83, 84]⟩ = ⟨#[115, 115, 115]⟩ := by kernel_rfl
set_option maxRecDepth 100000 in
theorem lcall_SUBST (s t u : ByteArray) (hs : s.size < 4294967281) (hu : t.size < 4294967281 → u.size ≤ 4294967296) (hne : ¬ t = ⟨#[]⟩) (text : Int) (h0 : 0 ≤ text ∧ text ≤ 1024) {w : World} (hTab : Tab w) {v : Value} (hv : ArgsAt w v [txA s, txA t, txA u]) : Calls Tryz.prog 15 #[.string ⟨#[83, 85, 66, 83, 84]⟩, v, .int .i64 text] w fun e w' => e = .returned (.agg #[.int .i64 (toldT text (substS s t u)).t, .int .i64 (toldT text (substS s t u)).n, .string (toldT text (substS s t u)).s, .bool (toldT text (substS s t u)).b, .int .i64 (toldT text (substS s t u)).c]) ∧ Below w.heap.size w w' :=
  lcall_any (by decide) (by simp) h0 (by
    intro x hx
    simp only [List.mem_cons, List.not_mem_nil, or_false] at hx
    rcases hx with rfl | rfl | rfl
    · exact isa_t s
    · exact isa_t t
    · exact isa_t u) (by kernel_rfl) (by
    unfold tPairs gE; rw [kd_SUBST]
    simp) (by
    unfold tPairs gS; rw [kd_SUBST]
    simp [tx_asT]) (by
    unfold tPairs gN; rw [kd_SUBST]
    simp) (at_SUBST s t u hs hu hne text h0) hTab hv
/-- what FIND answers -/
def findL (t s : ByteArray) (n : Int) : VL :=
  if n < 1 then errL 8
  else if (s.size : Int) + 1 < n then errL 6
  else if Lib.index (s.extract (n.toNat - 1) s.size).data.toList t.data.toList < 0 then errL 6
  else numL ((n + Lib.index (s.extract (n.toNat - 1) s.size).data.toList t.data.toList) * 10000)
theorem do_FIND (t s : ByteArray) (hs : s.size ≤ 1048576) (n : Int) (hn : -922337203685477 ≤ n ∧ n ≤ 922337203685477) (mx text : Int) (vs vn : Value) (w : World) (hS : RdStr w vs [t, s]) (hN : RdInt w vn [n]) (hmx : w.cell? ⟨2, 0, none⟩ = some (.int .i64 mx)) : Calls Tryz.prog 95 #[.agg #[vs, vn, .int .i64 text]] w fun e w' => e = .returned (.agg #[.int .i64 (findL t s n).t, .int .i64 (findL t s n).n, .string (findL t s n).s, .bool (findL t s n).b, .int .i64 (findL t s n).c]) ∧ Below w.heap.size w w' := by
  unfold findL
  by_cases h1 : n < 1
  · rw [if_pos h1]; exact tdo_FINDx t s hs n hn h1 text vs vn w hS hN
  · rw [if_neg h1]
    by_cases h2 : (s.size : Int) + 1 < n
    · rw [if_pos h2]; exact tdo_FINDm t s hs n hn (by omega) h2 text vs vn w hS hN
    · rw [if_neg h2]
      by_cases h3 : Lib.index (s.extract (n.toNat - 1) s.size).data.toList t.data.toList < 0
      · rw [if_pos h3]; exact tdo_FINDn1 t s hs n hn (by omega) (by omega) _ rfl h3 mx text vs vn w hS hN hmx
      · rw [if_neg h3]
        obtain ⟨i, hi, hl, _⟩ := index_occ _ t.data.toList (Int.not_lt.1 h3)
        have hl2 : i ≤ s.size := Nat.le_trans hl (ext_size_le s (n.toNat - 1) s.size)
        exact tdo_FINDy1 t s hs n hn (by omega) (by omega) _ rfl (Int.not_lt.1 h3) (by rw [hi]; omega) mx text vs vn w hS hN hmx
set_option maxRecDepth 100000 in
theorem at_FIND (t s : ByteArray) (hs : s.size ≤ 1048576) (n : Int) (hn : -922337203685477 ≤ n ∧ n ≤ 922337203685477) (text : Int) : DoT ⟨#[70, 73, 78, 68]⟩ [t, s] [n] text (findL t s n) := ⟨fun w b0 b1 b2 b3 kd lo d vs vn h q0 q1 q2 q3 ht hS hN => by
  have e : lookL tZero (tTab b0 b1 b2 b3) ⟨#[70, 73, 78, 68]⟩ = .agg #[.string ⟨#[115, 115, 110]⟩, .int .i64 2, .func (.func 95) #[] #[]] := by kernel_rfl
  have hd := third_of (e.symm.trans h)
  exact ⟨95, #[], hd.symm, fun _ _ => by simp [go_sem], (Exists.elim ht.2 fun mx hmx => do_FIND t s hs n hn mx text vs vn w hS hN hmx)⟩⟩
theorem kd_FIND : tKd ⟨#[70, 73, 78, 68]⟩ = ⟨#[115, 115, 110]⟩ := by kernel_rfl
set_option maxRecDepth 100000 in
theorem lcall_FIND (t s : ByteArray) (hs : s.size ≤ 1048576) (n : Int) (hn : -922337203685477 ≤ n ∧ n ≤ 922337203685477) (text : Int) (h0 : 0 ≤ text ∧ text ≤ 1024) {w : World} (hTab : Tab w) {v : Value} (hv : ArgsAt w v [txA t, txA s, whA n]) : Calls Tryz.prog 15 #[.string ⟨#[70, 73, 78, 68]⟩, v, .int .i64 text] w fun e w' => e = .returned (.agg #[.int .i64 (findL t s n).t, .int .i64 (findL t s n).n, .string (findL t s n).s, .bool (findL t s n).b, .int .i64 (findL t s n).c]) ∧ Below w.heap.size w w' :=
  lcall_any (by decide) (by simp) h0 (by
    intro x hx
    simp only [List.mem_cons, List.not_mem_nil, or_false] at hx
    rcases hx with rfl | rfl | rfl
    · exact isa_t t
    · exact isa_t s
    · exact isa_n n hn) (by kernel_rfl) (by
    unfold tPairs gE; rw [kd_FIND]
    simp [wh_e n hn]) (by
    unfold tPairs gS; rw [kd_FIND]
    simp [tx_asT]) (by
    unfold tPairs gN; rw [kd_FIND]
    simp [wh_whole n hn]) (at_FIND t s hs n hn text) hTab hv
end Go.Proofs.YtaomlgpakbjegaaGreatDoor
