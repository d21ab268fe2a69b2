/-
  refs: may whole.
-/
import Derived.Test.YtfbkoieodflcpaaDoorMg4
import Derived.Test.YtfbkoieodflcpaaDoorRows
import Derived.Test.YtfbkoieodflcpaaDoorBase
import Derived.Test.YtfbkoieodflcpaaDoorProg
import Derived.Test.YtfbkoieodflcpaaDoorShelf
import Derived.Test.YtfbkoieodflcpaaDoorAddrC
import Derived.Test.YtfbkoieodflcpaaDoorNames
import Derived.Test.YtfbkoieodflcpaaDoorMg7
import Derived.Test.YtfbkoieodflcpaaDoorDecA
import Derived.Test.YtfbkoieodflcpaaDoorValA
import Derived.Test.YtfbkoieodflcpaaDoorValB
import Derived.Test.YtfbkoieodflcpaaDoorMg11
import Derived.Test.YtfbkoieodflcpaaDoorLexP
import Derived.Test.YtfbkoieodflcpaaDoorRowB
import Derived.Test.YtfbkoieodflcpaaDoorMapK
import Derived.Test.YtfbkoieodflcpaaDoorArgK
import Derived.Test.YtfbkoieodflcpaaDoorRefP
import Derived.Test.YtfbkoieodflcpaaDoorMg17
import Derived.Test.YtfbkoieodflcpaaDoorRefN
import Derived.Test.YtfbkoieodflcpaaDoorRefM
import Derived.Test.YtfbkoieodflcpaaDoorRefY
import Derived.Test.YtfbkoieodflcpaaDoorRefQ
import Derived.WalkSpells
import Derived.WalkLawsBesides
import Derived.StillTactics
import Derived.Laws.Pointers
import Derived.Deep.RegionHeld3
import Derived.Deep.QuietTactic
import Derived.BigQuiet
import Derived.RowKit3
import Derived.Lib.Hide
import Derived.Lib.OthersKept
import Derived.OwnWalk
import Derived.Lib.IndexLaws
import Derived.Lib.ItoaMem
import Derived.Lib.TrimByte
import Derived.Lib.SlTrimSet
import Derived.Lib.ParseIntB
import Derived.WalkKit
import Derived.ProofKit
import Derived.OpenShut
import Derived.Carry
import Derived.ChangeSame
import Derived.Deep.Draws
import Derived.Shelf.Strings.Builder1
import Derived.Shelf.Strings.Builder2
import Derived.Shelf.Strings.Trim
import Derived.Shelf.Small.Utf8
import Derived.Shelf.Small.Strs
import Derived.Shelf.Strings.BuilderF
import Derived.Shelf.Strings.BuilderK
import Derived.Shelf.Strconv.Itoa0
import Derived.Shelf.Strconv.Itoa1
import Derived.Shelf.LaysM
import Derived.Shelf.Strconv.Itoa2
import Derived.Shelf.Strconv.Itoa3
import Derived.Shelf.Strings.Search1
import Derived.Shelf.Strings.Search2
import Derived.Shelf.Strings.Search3
import Derived.Shelf.Strings.Count
import Derived.Shelf.Strings.Shaped
import Derived.Shelf.Strings.Split
import Derived.Shelf.Strings.Replace
import Derived.Shelf.Strings.Runes
import Derived.Shelf.Strings.AsciiSet
import Derived.Shelf.Unicode.DecodeSlow
import Derived.Lib.ItoaNum
import Derived.Maps.OwnSet
import Derived.Maps.AppendAt
namespace Go.Proofs.YtfbkoieodflcpaaDoor
open Go.RowKit

def NL.ok (n : NL) : Prop := n.v.ok ∧ n.name.size ≤ 9223372036854775807
set_option maxHeartbeats 1000000 in
theorem refmay (n : NL) (ho : n.ok) (z : Bool) (h : n.may = z) (w : World) : Calls Tryd.prog 34 #[.agg #[.int .i64 n.kind, .int .i64 n.v.t, .int .i64 n.v.n, .string n.v.s, .bool n.v.b, .int .i64 n.v.c, .int .i64 n.r, .int .i64 n.c, .int .i64 n.t, .int .i64 n.l, .int .i64 n.b, .int .i64 n.q, .int .i64 n.op, .string n.name, .int .i64 n.args]] w fun e w' => e = .returned (.bool z) ∧ Below w.heap.size w w' := by
  subst h
  obtain ⟨hn, hs⟩ := ho
  obtain ⟨kd, ⟨t, m, s, b, c⟩, r, k, rt, rl, rb, rr, op, nm, ag⟩ := n
  obtain ⟨l, rfl⟩ : ∃ l : List UInt8, nm = ⟨l.toArray⟩ := ⟨nm.data.toList, by cases nm; simp⟩
  have hl : l.length ≤ 9223372036854775807 := by simpa [ByteArray.size] using hs
  clear hs
  have key : ∀ (x y : Bool), x = y → ∀ ar W, Calls Tryd.prog 34 ar W (fun e w' => e = .returned (.bool x) ∧ Below W.heap.size W w') → Calls Tryd.prog 34 ar W (fun e w' => e = .returned (.bool y) ∧ Below W.heap.size W w') := fun x y e _ _ h => e ▸ h
  by_cases k1 : kd = 1
  · subst k1
    cases h1 : vMay t m s b c
    · exact key _ _ (by simp [NL.may, VL.may, h1]) _ _ (rmay_v0 t m s b c r k rt rl rb rr op l ag hn h1 w)
    · by_cases h2 : t = 0
      · exact key _ _ (by simp [NL.may, h2]) _ _ (rmay_v1a t m s b c r k rt rl rb rr op l ag hn h1 h2 w)
      · by_cases h3 : 0 ≤ m
        · by_cases h4 : c = 1
          · exact key _ _ (by simp [NL.may, h4]) _ _ (rmay_v1c t m s b c r k rt rl rb rr op l ag hn h1 h2 h3 h4 w)
          · exact key _ _ (by simp [NL.may, VL.may, NL.noC, NL.noR, NL.noO, NL.noN, h1, h2, h3, h4]) _ _ (rmay_v2 t m s b c r k rt rl rb rr op l ag hn h1 h2 h3 h4 w)
        · exact key _ _ (by simp [NL.may, h3]) _ _ (rmay_v1b t m s b c r k rt rl rb rr op l ag hn h1 h2 (by omega) w)
  by_cases k2 : kd = 2
  · subst k2
    cases h1 : mayB r k
    · exact key _ _ (by simp [NL.may, h1]) _ _ (rmay_c0 t m s b c r k rt rl rb rr op l ag h1 w)
    · exact key _ _ (by simp [NL.may, NL.noV, NL.noR, NL.noO, NL.noN, vEq, h1]) _ _ (rmay_c1 t m s b c r k rt rl rb rr op l ag h1 w)
  by_cases k3 : kd = 3
  · subst k3
    cases h1 : mayRectB rt rl rb rr
    · exact key _ _ (by simp [NL.may, h1]) _ _ (rmay_r0 t m s b c r k rt rl rb rr op l ag h1 w)
    · exact key _ _ (by simp [NL.may, NL.noV, NL.noC, NL.noO, NL.noN, vEq, h1]) _ _ (rmay_r1 t m s b c r k rt rl rb rr op l ag h1 w)
  by_cases k4 : kd = 4
  · subst k4
    by_cases h1 : op < 1
    · exact key _ _ (by have h2 : ¬ 1 ≤ op := by omega
                        simp [NL.may, h2]) _ _ (rmay_o0 t m s b c r k rt rl rb rr op l ag h1 w)
    · by_cases h2 : op > 13
      · exact key _ _ (by have h3 : ¬ op ≤ 13 := by omega
                          simp [NL.may, h3]) _ _ (rmay_o1 t m s b c r k rt rl rb rr op l ag h1 h2 w)
      · exact key _ _ (by have h3 : op ≤ 13 := by omega
                          have h4 : 1 ≤ op := by omega
                          simp [NL.may, NL.noV, NL.noC, NL.noR, NL.noN, vEq, h3, h4]) _ _ (rmay_o2 t m s b c r k rt rl rb rr op l ag h1 h2 w)
  by_cases k5 : kd = 5
  · subst k5
    cases h1 : namedB l
    · exact key _ _ (by simp [NL.may, h1]) _ _ (rmay_n0 t m s b c r k rt rl rb rr op l ag hl h1 w)
    · by_cases h2 : ag < 0
      · exact key _ _ (by have h4 : ¬ 0 ≤ ag := by omega
                          simp [NL.may, h4]) _ _ (rmay_n1 t m s b c r k rt rl rb rr op l ag hl h1 h2 w)
      · by_cases h3 : ag > 16
        · exact key _ _ (by have h4 : ¬ ag ≤ 16 := by omega
                            simp [NL.may, h4]) _ _ (rmay_n2 t m s b c r k rt rl rb rr op l ag hl h1 h2 h3 w)
        · exact key _ _ (by have h4 : ag ≤ 16 := by omega
                            have h5 : 0 ≤ ag := by omega
                            simp [NL.may, NL.noV, NL.noC, NL.noR, NL.noO, vEq, h1, h4, h5]) _ _ (rmay_n3 t m s b c r k rt rl rb rr op l ag hl h1 h2 h3 w)
  exact key _ _ (by simp [NL.may, k1, k2, k3, k4, k5]) _ _ (rmay_no t m s b c r k rt rl rb rr op l ag kd k1 k2 k3 k4 k5 w)
end Go.Proofs.YtfbkoieodflcpaaDoor
