/-
  Values, entries, arguments that came in.
-/
import Derived.Test.YtaomlgpakbjegaaGreatDoorRows
import Derived.Test.YtaomlgpakbjegaaGreatDoorBase
import Derived.Test.YtaomlgpakbjegaaGreatDoorRowB
import Derived.Test.YtaomlgpakbjegaaGreatDoorRdK
import Derived.Test.YtaomlgpakbjegaaGreatDoorDecA
import Derived.Test.YtaomlgpakbjegaaGreatDoorValA
import Derived.Test.YtaomlgpakbjegaaGreatDoorValB
import Derived.Test.YtaomlgpakbjegaaGreatDoorMg8
import Derived.Test.YtaomlgpakbjegaaGreatDoorValC
import Derived.Test.YtaomlgpakbjegaaGreatDoorAddrC
import Derived.Test.YtaomlgpakbjegaaGreatDoorAddrI
import Derived.Test.YtaomlgpakbjegaaGreatDoorMapK
import Derived.Test.YtaomlgpakbjegaaGreatDoorMg13
import Derived.WalkSpells
import Derived.WalkLawsBesides
import Derived.StillTactics
import Derived.Laws.Pointers
import Derived.Deep.RegionHeld3
import Derived.Deep.QuietTactic
import Derived.BigQuiet
import Derived.RowKit3
import Derived.Lib.Hide
import Derived.Lib.OthersKept
import Derived.OwnWalk
import Derived.Lib.IndexLaws
import Derived.Lib.ItoaMem
import Derived.WalkKit
import Derived.ProofKit
import Derived.OpenShut
import Derived.Carry
import Derived.ChangeSame
import Derived.Deep.Draws
import Derived.Deep.Slices
import Derived.ChangeSlices
import Derived.Maps.OwnSet
import Derived.Maps.AppendAt
namespace Go.Proofs.YtaomlgpakbjegaaGreatDoor
open Go.RowKit Go.ChangeShapes Go.WideShapes Go.Deep

section
variable {H : Type} {enc : TypeId × Value → H} {w : World} {sp : Nat → Bool} {held : Bool}
theorem rd_val (fuel : Nat) (us : List Value) (z : DataW H × List MemPlace) (h : DataW.trod enc Tryz.prog w 0 sp held fuel 26 us = some z) : ∃ x : VL, us = x.cs ∧ x.ok := by
  have g := readsAll_of_trod 6 26 [23, 2, 9, 4, 24] fuel us z (by kernel_rfl) h
  obtain ⟨_, _, rfl, g0, _, _, rfl, g1, _, _, rfl, g2, _, _, rfl, g3, _, _, rfl, g4, rfl⟩ := g
  obtain ⟨t, rfl, b_t⟩ := Reads1.i64 Tryz.underlying23 g0
  obtain ⟨n, rfl, b_n⟩ := Reads1.i64 Tryz.underlying2 g1
  obtain ⟨s, rfl, b_s⟩ := Reads1.string Tryz.underlying9 g2
  obtain ⟨b, rfl⟩ := Reads1.bool Tryz.underlying4 g3
  obtain ⟨c, rfl, b_c⟩ := Reads1.i64 Tryz.underlying24 g4
  exact ⟨⟨t, n, s, b, c⟩, rfl, b_n⟩
set_option maxRecDepth 100000 in
theorem rd_vals {r : Reach} {b0 : Nat} {v : Value} {d : DataW H} {ps : List MemPlace} (hval : Value.okWide Tryz.prog w r b0 94 v) (h : DataW.Trod enc Tryz.prog w 0 sp held 94 v d ps) : ∃ (A : Option Addr) (l : List VL) (cap : Nat), v = .slice A l.length cap ∧ l.length ≤ cap ∧ cap ≤ maxLen ∧ RdB w w.heap.size A 5 (l.map VL.cs) ∧ (∀ x ∈ l, x.ok) ∧ (l = [] ∨ ∃ es sr, d = .slice es sr ∧ es.length = l.length) ∧ (A = none → l.length = 0 ∧ cap = 0) :=
  rd_argK 5 (by omega) VL.cs VL.ok (fun _ => rfl) Tryz.underlying94 (by kernel_rfl) rd_val hval h
theorem rd_ent (fuel : Nat) (us : List Value) (z : DataW H × List MemPlace) (h : DataW.trod enc Tryz.prog w 0 sp held fuel 59 us = some z) : ∃ x : EL, us = x.cs ∧ x.v.ok := by
  have g := readsAll_of_trod 6 59 [3, 3, 23, 2, 9, 4, 24] fuel us z (by kernel_rfl) h
  obtain ⟨_, _, rfl, g0, _, _, rfl, g1, _, _, rfl, g2, _, _, rfl, g3, _, _, rfl, g4, _, _, rfl, g5, _, _, rfl, g6, rfl⟩ := g
  obtain ⟨r, rfl, b_r⟩ := Reads1.i64 Tryz.underlying3 g0
  obtain ⟨q, rfl, b_q⟩ := Reads1.i64 Tryz.underlying3 g1
  obtain ⟨t, rfl, b_t⟩ := Reads1.i64 Tryz.underlying23 g2
  obtain ⟨n, rfl, b_n⟩ := Reads1.i64 Tryz.underlying2 g3
  obtain ⟨s, rfl, b_s⟩ := Reads1.string Tryz.underlying9 g4
  obtain ⟨b, rfl⟩ := Reads1.bool Tryz.underlying4 g5
  obtain ⟨c, rfl, b_c⟩ := Reads1.i64 Tryz.underlying24 g6
  exact ⟨⟨r, q, ⟨t, n, s, b, c⟩⟩, rfl, b_n⟩
theorem rd_arg (fuel : Nat) (us : List Value) (z : DataW H × List MemPlace) (h : DataW.trod enc Tryz.prog w 0 sp held fuel 38 us = some z) : ∃ x : AL, us = x.cs ∧ x.In w w.heap.size := by
  have g := readsAll_of_trod 6 38 [4, 23, 2, 9, 4, 24, 3, 3, 3, 3, 36] fuel us z (by kernel_rfl) h
  obtain ⟨_, _, rfl, g0, _, _, rfl, g1, _, _, rfl, g2, _, _, rfl, g3, _, _, rfl, g4, _, _, rfl, g5, _, _, rfl, g6, _, _, rfl, g7, _, _, rfl, g8, _, _, rfl, g9, _, _, rfl, g10, rfl⟩ := g
  obtain ⟨m, rfl⟩ := Reads1.bool Tryz.underlying4 g0
  obtain ⟨t, rfl, b_t⟩ := Reads1.i64 Tryz.underlying23 g1
  obtain ⟨n, rfl, b_n⟩ := Reads1.i64 Tryz.underlying2 g2
  obtain ⟨s, rfl, b_s⟩ := Reads1.string Tryz.underlying9 g3
  obtain ⟨b, rfl⟩ := Reads1.bool Tryz.underlying4 g4
  obtain ⟨c, rfl, b_c⟩ := Reads1.i64 Tryz.underlying24 g5
  obtain ⟨rt, rfl, b_rt⟩ := Reads1.i64 Tryz.underlying3 g6
  obtain ⟨rl, rfl, b_rl⟩ := Reads1.i64 Tryz.underlying3 g7
  obtain ⟨rb, rfl, b_rb⟩ := Reads1.i64 Tryz.underlying3 g8
  obtain ⟨rr, rfl, b_rr⟩ := Reads1.i64 Tryz.underlying3 g9
  obtain ⟨f10, y10, g10⟩ := g10
  obtain ⟨E, l, cap, rfl, hl, hcap, hR, hp, _, _⟩ := rd_sliceK 7 (by omega) EL.cs (fun x => x.v.ok) (fun _ => rfl) Tryz.underlying36 (by kernel_rfl) rd_ent g10
  unfold maxLen at hcap
  exact ⟨⟨m, ⟨t, n, s, b, c⟩, rt, rl, rb, rr, E, cap, l⟩, rfl, b_n, hR, hp, by show l.length ≤ _; omega⟩
set_option maxRecDepth 100000 in
theorem rd_args {r : Reach} {b0 : Nat} {v : Value} {d : DataW H} {ps : List MemPlace} (hval : Value.okWide Tryz.prog w r b0 22 v) (h : DataW.Trod enc Tryz.prog w 0 sp held 22 v d ps) : ∃ (A : Option Addr) (l : List AL) (cap : Nat), v = .slice A l.length cap ∧ l.length ≤ cap ∧ cap ≤ maxLen ∧ RdB w w.heap.size A 11 (l.map AL.cs) ∧ (∀ x ∈ l, x.In w w.heap.size) ∧ (l = [] ∨ ∃ es sr, d = .slice es sr ∧ es.length = l.length) ∧ (A = none → l.length = 0 ∧ cap = 0) :=
  rd_argK 11 (by omega) AL.cs (fun x => x.In w w.heap.size) (fun _ => rfl) Tryz.underlying22 (by kernel_rfl) rd_arg hval h
end
end Go.Proofs.YtaomlgpakbjegaaGreatDoor
