/-
  nums: each function behind its name.
-/
import Derived.Test.YthobaffgllipfaaRows
import Derived.Test.YthobaffgllipfaaBase
import Derived.Test.YthobaffgllipfaaMapK
import Derived.Test.YthobaffgllipfaaNFind
import Derived.Test.YthobaffgllipfaaRowB
import Derived.Test.YthobaffgllipfaaDecA
import Derived.Test.YthobaffgllipfaaValA
import Derived.Test.YthobaffgllipfaaValB
import Derived.Test.YthobaffgllipfaaDecS
import Derived.Test.YthobaffgllipfaaValC
import Derived.Test.YthobaffgllipfaaAddrC
import Derived.Test.YthobaffgllipfaaAddrI
import Derived.Test.YthobaffgllipfaaArgK
import Derived.Test.YthobaffgllipfaaDMod
import Derived.Test.YthobaffgllipfaaDFlo
import Derived.Test.YthobaffgllipfaaProg
import Derived.Test.YthobaffgllipfaaShelf
import Derived.Test.YthobaffgllipfaaPrintL
import Derived.Test.YthobaffgllipfaaDPrint
import Derived.Test.YthobaffgllipfaaDRnd
import Derived.Test.YthobaffgllipfaaDSqr
import Derived.Test.YthobaffgllipfaaKnuth
import Derived.Test.YthobaffgllipfaaDDiv
import Derived.Test.YthobaffgllipfaaDecK
import Derived.Test.YthobaffgllipfaaDDivA
import Derived.Test.YthobaffgllipfaaNDoA
import Derived.Test.YthobaffgllipfaaNDoB
import Derived.Test.YthobaffgllipfaaNDoC
import Derived.Test.YthobaffgllipfaaNDoD
import Derived.Test.YthobaffgllipfaaNDoE
import Derived.Test.YthobaffgllipfaaNCall
import Derived.Test.YthobaffgllipfaaValE
import Derived.Test.YthobaffgllipfaaValF
import Derived.Test.YthobaffgllipfaaValL
import Derived.Test.YthobaffgllipfaaNCallK
import Derived.Test.YthobaffgllipfaaNCallB
import Derived.Test.YthobaffgllipfaaNDoF
import Derived.Test.YthobaffgllipfaaNDoG
import Derived.Test.YthobaffgllipfaaNDoQ
import Derived.WalkSpells
import Derived.WalkLawsBesides
import Derived.StillTactics
import Derived.Laws.Pointers
import Derived.Deep.RegionHeld3
import Derived.Deep.QuietTactic
import Derived.BigQuiet
import Derived.RowKit3
import Derived.Lib.Hide
import Derived.Lib.OthersKept
import Derived.OwnWalk
import Derived.Lib.IndexLaws
import Derived.Lib.ItoaMem
import Derived.WalkKit
import Derived.ProofKit
import Derived.OpenShut
import Derived.Carry
import Derived.ChangeSame
import Derived.Deep.Draws
import Derived.Maps.OwnSet
import Derived.Maps.AppendAt
import Derived.Laws.EntriesVeiled
import Derived.Laws.BitsAllLaws
import Derived.Shelf.Small.Bits
import Derived.Shelf.Strconv.Itoa0
import Derived.Shelf.Bits.Mul64
import Derived.Lib.TrimByte
import Derived.Lib.Bytealg
import Derived.Lib.SlTrimSet
import Derived.Lib.ParseIntB
import Derived.Shelf.Strings.SlTrimAscii
import Derived.Lib.SmallJoins
import Derived.Deep.RegionWith
namespace Go.Proofs.Ythobaffgllipfaa
open Go.RowKit

theorem do_GCD (l : List Int) (hl : ∀ x ∈ l, -9223372036854775807 ≤ x ∧ x ≤ 9223372036854775807) (hlen : l.length ≤ 1649267441664) (h1 : 1 ≤ l.length) (w : World) (gb cap : Nat) (hg : gb < w.heap.size) (hcap : l.length ≤ cap) (hc : ∀ (j : Nat) (x : Int), l[j]? = some x → w.cell? ⟨gb, j, none⟩ = some (.int .i64 x)) : Calls Try.prog 42 #[.slice (some ⟨gb, 0, none⟩) l.length cap] w fun e w' => e = .returned (.agg #[.int .i64 (gcdL l).t, .int .i64 (gcdL l).n, .string (gcdL l).s, .bool (gcdL l).b, .int .i64 (gcdL l).c]) ∧ Below w.heap.size w w' := by
  unfold gcdL
  cases h : allWhole l
  · exact do_GCD0 l hl hlen w gb cap hg hcap hc h
  · exact do_GCD1 l hl hlen w gb cap hg hcap hc h1 h _ rfl (fun x hx => by
      unfold wholesN at hx
      obtain ⟨y, hy, rfl⟩ := List.mem_map.1 hx
      have := hl y hy
      omega)
theorem third_of {a b c a' b' c' : Value} (h : Value.agg #[a, b, c] = Value.agg #[a', b', c']) : c = c' := by
  injection h with h
  injection h with h
  injection h with _ h
  injection h with _ h
  injection h with h _
set_option maxRecDepth 100000 in
theorem at_ABS (x : Int) (hx : -9223372036854775807 ≤ x ∧ x ≤ 9223372036854775807) : DoAt ⟨#[65, 66, 83]⟩ [x] (numL (max x (-x))) := ⟨fun w b0 b1 b2 lo mo d h hb0 hb1 hb2 hc0 hc1 hc2 gb cap hg hcap hc => by
  have e : lookL nZero (nTab b0 b1 b2) ⟨#[65, 66, 83]⟩ = .agg #[.int .i64 1, .int .i64 1, .func (.func 24) #[] #[]] := by kernel_rfl
  have hd := third_of (e.symm.trans h)
  exact ⟨24, #[], hd.symm, fun _ _ => by simp [go_sem], do_ABS x hx w gb 1 cap hg (by omega) hcap (hc 0 x rfl)⟩⟩
set_option maxRecDepth 100000 in
theorem at_GCD (l : List Int) (hl : ∀ x ∈ l, -9223372036854775807 ≤ x ∧ x ≤ 9223372036854775807) (hlen : l.length ≤ 1649267441664) (h1 : 1 ≤ l.length) : DoAt ⟨#[71, 67, 68]⟩ l (gcdL l) := ⟨fun w b0 b1 b2 lo mo d h hb0 hb1 hb2 hc0 hc1 hc2 gb cap hg hcap hc => by
  have e : lookL nZero (nTab b0 b1 b2) ⟨#[71, 67, 68]⟩ = .agg #[.int .i64 1, .int .i64 16, .func (.func 42) #[] #[]] := by kernel_rfl
  have hd := third_of (e.symm.trans h)
  exact ⟨42, #[], hd.symm, fun _ _ => by simp [go_sem], do_GCD l hl hlen h1 w gb cap hg hcap hc⟩⟩
end Go.Proofs.Ythobaffgllipfaa
