/-
  Values, entries, arguments that came in; One argument that came in.
-/
import Derived.Test.YtaomlgpakbjegaaGreatDoorRows
import Derived.Test.YtaomlgpakbjegaaGreatDoorBase
import Derived.Test.YtaomlgpakbjegaaGreatDoorRowB
import Derived.Test.YtaomlgpakbjegaaGreatDoorRdK
import Derived.Test.YtaomlgpakbjegaaGreatDoorMg4
import Derived.Test.YtaomlgpakbjegaaGreatDoorValA
import Derived.Test.YtaomlgpakbjegaaGreatDoorValB
import Derived.Test.YtaomlgpakbjegaaGreatDoorValC
import Derived.Test.YtaomlgpakbjegaaGreatDoorAddrC
import Derived.Test.YtaomlgpakbjegaaGreatDoorAddrI
import Derived.Test.YtaomlgpakbjegaaGreatDoorMapK
import Derived.Test.YtaomlgpakbjegaaGreatDoorArgK
import Derived.WalkSpells
import Derived.WalkLawsBesides
import Derived.StillTactics
import Derived.Laws.Pointers
import Derived.Deep.RegionHeld3
import Derived.Deep.QuietTactic
import Derived.BigQuiet
import Derived.RowKit3
import Derived.Lib.Hide
import Derived.Lib.OthersKept
import Derived.OwnWalk
import Derived.Lib.IndexLaws
import Derived.Lib.ItoaMem
import Derived.WalkKit
import Derived.ProofKit
import Derived.OpenShut
import Derived.Carry
import Derived.ChangeSame
import Derived.Deep.Draws
import Derived.Deep.Slices
import Derived.ChangeSlices
import Derived.Maps.OwnSet
import Derived.Maps.AppendAt
namespace Go.Proofs.YtaomlgpakbjegaaGreatDoor
open Go.RowKit Go.ChangeShapes Go.WideShapes Go.Deep

section
variable {H : Type} {enc : TypeId × Value → H} {w : World} {sp : Nat → Bool} {held : Bool}
theorem rd_ent (fuel : Nat) (us : List Value) (z : DataW H × List MemPlace) (h : DataW.trod enc Tryz.prog w 0 sp held fuel 59 us = some z) : ∃ x : EL, us = x.cs ∧ x.v.ok := by
  have g := readsAll_of_trod 6 59 [3, 3, 23, 2, 9, 4, 24] fuel us z (by kernel_rfl) h
  obtain ⟨_, _, rfl, g0, _, _, rfl, g1, _, _, rfl, g2, _, _, rfl, g3, _, _, rfl, g4, _, _, rfl, g5, _, _, rfl, g6, rfl⟩ := g
  obtain ⟨r, rfl, b_r⟩ := Reads1.i64 Tryz.underlying3 g0
  obtain ⟨q, rfl, b_q⟩ := Reads1.i64 Tryz.underlying3 g1
  obtain ⟨t, rfl, b_t⟩ := Reads1.i64 Tryz.underlying23 g2
  obtain ⟨n, rfl, b_n⟩ := Reads1.i64 Tryz.underlying2 g3
  obtain ⟨s, rfl, b_s⟩ := Reads1.string Tryz.underlying9 g4
  obtain ⟨b, rfl⟩ := Reads1.bool Tryz.underlying4 g5
  obtain ⟨c, rfl, b_c⟩ := Reads1.i64 Tryz.underlying24 g6
  exact ⟨⟨r, q, ⟨t, n, s, b, c⟩⟩, rfl, b_n⟩
theorem rd_arg (fuel : Nat) (us : List Value) (z : DataW H × List MemPlace) (h : DataW.trod enc Tryz.prog w 0 sp held fuel 38 us = some z) : ∃ x : AL, us = x.cs ∧ x.In w w.heap.size := by
  have g := readsAll_of_trod 6 38 [4, 23, 2, 9, 4, 24, 3, 3, 3, 3, 36] fuel us z (by kernel_rfl) h
  obtain ⟨_, _, rfl, g0, _, _, rfl, g1, _, _, rfl, g2, _, _, rfl, g3, _, _, rfl, g4, _, _, rfl, g5, _, _, rfl, g6, _, _, rfl, g7, _, _, rfl, g8, _, _, rfl, g9, _, _, rfl, g10, rfl⟩ := g
  obtain ⟨m, rfl⟩ := Reads1.bool Tryz.underlying4 g0
  obtain ⟨t, rfl, b_t⟩ := Reads1.i64 Tryz.underlying23 g1
  obtain ⟨n, rfl, b_n⟩ := Reads1.i64 Tryz.underlying2 g2
  obtain ⟨s, rfl, b_s⟩ := Reads1.string Tryz.underlying9 g3
  obtain ⟨b, rfl⟩ := Reads1.bool Tryz.underlying4 g4
  obtain ⟨c, rfl, b_c⟩ := Reads1.i64 Tryz.underlying24 g5
  obtain ⟨rt, rfl, b_rt⟩ := Reads1.i64 Tryz.underlying3 g6
  obtain ⟨rl, rfl, b_rl⟩ := Reads1.i64 Tryz.underlying3 g7
  obtain ⟨rb, rfl, b_rb⟩ := Reads1.i64 Tryz.underlying3 g8
  obtain ⟨rr, rfl, b_rr⟩ := Reads1.i64 Tryz.underlying3 g9
  obtain ⟨f10, y10, g10⟩ := g10
  obtain ⟨E, l, cap, rfl, hl, hcap, hR, hp, _, _⟩ := rd_sliceK 7 (by omega) EL.cs (fun x => x.v.ok) (fun _ => rfl) Tryz.underlying36 (by kernel_rfl) rd_ent g10
  unfold maxLen at hcap
  exact ⟨⟨m, ⟨t, n, s, b, c⟩, rt, rl, rb, rr, E, cap, l⟩, rfl, b_n, hR, hp, by show l.length ≤ _; omega⟩
end
end Go.Proofs.YtaomlgpakbjegaaGreatDoor
namespace Go.Proofs.YtaomlgpakbjegaaGreatDoor
open Go.RowKit Go.ChangeShapes Go.WideShapes Go.Deep

section
variable {H : Type} {enc : TypeId × Value → H} {w : World} {sp : Nat → Bool} {held : Bool}
set_option maxRecDepth 100000 in
theorem rd_arg1 {r : Reach} {b0 : Nat} {v : Value} {d : DataW H} {ps : List MemPlace} (hval : Value.okWide Tryz.prog w r b0 38 v) (h : DataW.Trod enc Tryz.prog w 0 sp held 38 v d ps) : ∃ x : AL, v = .agg #[.bool x.many, .int .i64 x.v.t, .int .i64 x.v.n, .string x.v.s, .bool x.v.b, .int .i64 x.v.c, .int .i64 x.t, .int .i64 x.l, .int .i64 x.b, .int .i64 x.r, .slice x.A x.es.length x.cap] ∧ x.In w w.heap.size := by
  obtain ⟨fs, hfs⟩ : ∃ fs, Tryz.prog.underlying 38 = some (.struct fs) := ⟨_, Tryz.underlying38⟩
  obtain ⟨cs, rfl, _⟩ := okWide_struct hfs hval
  obtain ⟨fuel, hf⟩ := h
  obtain ⟨x, hx, hin⟩ := rd_arg fuel cs.toList (d, ps) hf
  refine ⟨x, ?_, hin⟩
  congr 1
  apply Array.toList_inj.1
  rw [hx]
  rfl
end
end Go.Proofs.YtaomlgpakbjegaaGreatDoor
