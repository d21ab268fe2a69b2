/-
  Arguments: may they be? (nums, joint); nums: the walk of NumsCalls.
-/
import Derived.Test.YthobaffgllipfaaGreatRows
import Derived.Test.YthobaffgllipfaaGreatBase
import Derived.Test.YthobaffgllipfaaGreatMg3
import Derived.Test.YthobaffgllipfaaGreatValA
import Derived.Test.YthobaffgllipfaaGreatValB
import Derived.Test.YthobaffgllipfaaGreatDecS
import Derived.Test.YthobaffgllipfaaGreatValC
import Derived.Test.YthobaffgllipfaaGreatAddrC
import Derived.Test.YthobaffgllipfaaGreatMg9
import Derived.Test.YthobaffgllipfaaGreatMapK
import Derived.Test.YthobaffgllipfaaGreatArgM
import Derived.Test.YthobaffgllipfaaGreatNFind
import Derived.Test.YthobaffgllipfaaGreatDMod
import Derived.Test.YthobaffgllipfaaGreatDFlo
import Derived.Test.YthobaffgllipfaaGreatProg
import Derived.Test.YthobaffgllipfaaGreatMg12
import Derived.Test.YthobaffgllipfaaGreatDRnd
import Derived.Test.YthobaffgllipfaaGreatMg14
import Derived.Test.YthobaffgllipfaaGreatKnuth
import Derived.Test.YthobaffgllipfaaGreatDDiv
import Derived.Test.YthobaffgllipfaaGreatMg17
import Derived.Test.YthobaffgllipfaaGreatNDoA
import Derived.Test.YthobaffgllipfaaGreatNDoB
import Derived.Test.YthobaffgllipfaaGreatNDoC
import Derived.Test.YthobaffgllipfaaGreatNDoD
import Derived.Test.YthobaffgllipfaaGreatNDoE
import Derived.Test.YthobaffgllipfaaGreatNCall
import Derived.Test.YthobaffgllipfaaGreatValL
import Derived.Test.YthobaffgllipfaaGreatNCallK
import Derived.Test.YthobaffgllipfaaGreatNCallB
import Derived.Test.YthobaffgllipfaaGreatNDoF
import Derived.Test.YthobaffgllipfaaGreatMg28
import Derived.Test.YthobaffgllipfaaGreatNDoQ
import Derived.Test.YthobaffgllipfaaGreatNDoP
import Derived.Test.YthobaffgllipfaaGreatNDoAt2
import Derived.Test.YthobaffgllipfaaGreatDPowB
import Derived.Test.YthobaffgllipfaaGreatDPowC
import Derived.Test.YthobaffgllipfaaGreatNDoAt3
import Derived.Test.YthobaffgllipfaaGreatR8A
import Derived.Test.YthobaffgllipfaaGreatR8B
import Derived.Test.YthobaffgllipfaaGreatMg37
import Derived.Test.YthobaffgllipfaaGreatRGrD
import Derived.Test.YthobaffgllipfaaGreatMg39
import Derived.Test.YthobaffgllipfaaGreatMg40
import Derived.Test.YthobaffgllipfaaGreatRQuo
import Derived.Test.YthobaffgllipfaaGreatRPow
import Derived.Test.YthobaffgllipfaaGreatRPowJ
import Derived.Test.YthobaffgllipfaaGreatR8C
import Derived.Test.YthobaffgllipfaaGreatRArgM
import Derived.Test.YthobaffgllipfaaGreatR8D
import Derived.Test.YthobaffgllipfaaGreatNLaw
import Derived.Test.YthobaffgllipfaaGreatNKn
import Derived.Test.YthobaffgllipfaaGreatLNTak
import Derived.Test.YthobaffgllipfaaGreatR8E
import Derived.WalkSpells
import Derived.WalkLawsBesides
import Derived.StillTactics
import Derived.Laws.Pointers
import Derived.Deep.RegionHeld3
import Derived.Deep.QuietTactic
import Derived.BigQuiet
import Derived.RowKit3
import Derived.Lib.Hide
import Derived.Lib.OthersKept
import Derived.OwnWalk
import Derived.Lib.IndexLaws
import Derived.Lib.ItoaMem
import Derived.WalkKit
import Derived.ProofKit
import Derived.OpenShut
import Derived.Carry
import Derived.ChangeSame
import Derived.Deep.Draws
import Derived.Maps.OwnSet
import Derived.Maps.AppendAt
import Derived.Laws.EntriesVeiled
import Derived.Laws.BitsAllLaws
import Derived.Shelf.Small.Bits
import Derived.Shelf.Strconv.Itoa0
import Derived.Shelf.Bits.Mul64
import Derived.Lib.TrimByte
import Derived.Lib.Bytealg
import Derived.Lib.SlTrimSet
import Derived.Lib.ParseIntB
import Derived.Shelf.Strings.SlTrimAscii
import Derived.Lib.SmallJoins
import Derived.Deep.RegionWith
import Derived.Laws.Externs
import Derived.Laws.AppendOwnNone
namespace Go.Proofs.YthobaffgllipfaaGreat
open Go.RowKit

theorem nmay_any (x : AL) (w : World) (hin : x.In w w.heap.size) : Calls Tryz.prog 7 #[.agg #[.bool x.many, .int .i64 x.v.t, .int .i64 x.v.n, .string x.v.s, .bool x.v.b, .int .i64 x.v.c, .int .i64 x.t, .int .i64 x.l, .int .i64 x.b, .int .i64 x.r, .slice x.A x.es.length x.cap]] w fun e w' => e = .returned (.bool (argMay x)) ∧ Below w.heap.size w w' := by
  obtain ⟨h1, h2, h3, h4⟩ := hin
  obtain ⟨m, ⟨t, n, s, b, c⟩, rt, rl, rb, rr, A, cap, es⟩ := x
  have hn : -9223372036854775808 ≤ n ∧ n ≤ 9223372036854775807 := h1
  unfold argMay
  cases m
  · have e : decide (es.length = 0) = decide (es = []) := by cases es <;> simp
    rw [if_neg (by simp)]
    have := nmay_single t n s b c hn rt rl rb rr A es.length cap w
    rw [e] at this
    exact this
  · rw [if_pos rfl]
    cases hm : mayRectB rt rl rb rr
    · have := nmay_m0 t n s b c hn rt rl rb rr A es.length cap hm w
      simpa using this
    · cases hz : vEq t n s b c 0 0 ⟨#[]⟩ false 0
      · have := nmay_m1 t n s b c hn rt rl rb rr A es.length cap hm hz w
        simpa [vZero, hz] using this
      · have := nmay_many t n s b c hn rt rl rb rr A es.length cap ⟨true, ⟨t, n, s, b, c⟩, rt, rl, rb, rr, A, cap, es⟩ rfl rfl rfl rfl rfl rfl hm hz w h2 h3 h4
        simpa [vZero, hz] using this
end Go.Proofs.YthobaffgllipfaaGreat
namespace Go.Proofs.YthobaffgllipfaaGreat
open Go.RowKit

set_option maxRecDepth 100000 in
set_option maxHeartbeats 1000000 in
theorem walk_NumsCalls (name : ByteArray) (hs : name.size ≤ 9223372036854775807) (l : List AL) (hlen : l.length ≤ 1649267441664) (text : Int) (w : World) (A : Option Addr) (cap : Nat) (hR : RdB w w.heap.size A 11 (l.map AL.cs)) (hin : ∀ x ∈ l, x.In w w.heap.size) :
    Calls Tryz.prog 3 #[.string name, .slice A l.length cap, .int .i64 text] w fun e w' => e = .returned (.bool true) ∧ Below w.heap.size w w' := by
  have C1 := ncall_any name hs l hlen text (doR name (l.map fun x => x.v.asN)) ⟨fun x hx w2 hi => nmay_any x w2 hi⟩ (fun ht => doAt_all name _ (fun y hy => by
    obtain ⟨a, ha, rfl⟩ := List.mem_map.1 hy
    exact asN_in a.v (hin a ha).1) (by rw [List.length_map]; exact ht)) w A cap hR hin
  have C2 : ∀ w2 : World, Below w.heap.size w w2 → Calls Tryz.prog 5 #[.string name, .slice A l.length cap, .int .i64 text] w2 fun e w' => e = .returned (.agg #[.int .i64 (callR name l (doR name (l.map fun x => x.v.asN))).t, .int .i64 (callR name l (doR name (l.map fun x => x.v.asN))).n, .string (callR name l (doR name (l.map fun x => x.v.asN))).s, .bool (callR name l (doR name (l.map fun x => x.v.asN))).b, .int .i64 (callR name l (doR name (l.map fun x => x.v.asN))).c]) ∧ Below w2.heap.size w2 w' := fun w2 hb =>
    r8call_any name l hlen text w2 A cap ((hR.below hb).mono hb.size) (fun x hx => ((hin x hx).below hb).mono hb.size)
  generalize callR name l (doR name (l.map fun x => x.v.asN)) = V at C1 C2
  obtain ⟨vt, vn, vs, vb, vc⟩ := V
  have C1' := Lib.hid C1
  have C2' := Lib.hid C2
  have hvs := vEq_self vt vn vs vb vc
  clear C1 C2 hR hin
  go_enter Tryz.func3, Tryz.ntmps3
  go_wp2_with fail
  refine C1'.out.mono ?_
  rintro e w1 ⟨rfl, hb1⟩
  go_wp2_with fail
  refine (C2'.out _ hb1).mono ?_
  rintro e w2 ⟨rfl, hb2⟩
  have g2 : Below w.heap.size w w2 := hb1.trans (hb2.mono hb1.size)
  go_wp2_with fail
  refine (nknown _).mono ?_
  rintro e w3 ⟨rfl, hb3⟩
  go_wp2
  go_ret
  exact ⟨rfl, g2.trans (hb3.mono g2.size)⟩
end Go.Proofs.YthobaffgllipfaaGreat
