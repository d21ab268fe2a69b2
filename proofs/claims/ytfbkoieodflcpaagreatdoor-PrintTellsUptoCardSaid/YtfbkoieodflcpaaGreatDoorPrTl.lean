/-
  oriellaw07.PrintTells: the walk.
-/
import Derived.Test.YtfbkoieodflcpaaGreatDoorMg3
import Derived.Test.YtfbkoieodflcpaaGreatDoorRows
import Derived.Test.YtfbkoieodflcpaaGreatDoorBase
import Derived.Test.YtfbkoieodflcpaaGreatDoorProg
import Derived.Test.YtfbkoieodflcpaaGreatDoorShelf
import Derived.Test.YtfbkoieodflcpaaGreatDoorAddrC
import Derived.Test.YtfbkoieodflcpaaGreatDoorMg5
import Derived.Test.YtfbkoieodflcpaaGreatDoorDecA
import Derived.Test.YtfbkoieodflcpaaGreatDoorValA
import Derived.Test.YtfbkoieodflcpaaGreatDoorValB
import Derived.Test.YtfbkoieodflcpaaGreatDoorMg9
import Derived.Test.YtfbkoieodflcpaaGreatDoorMapK
import Derived.Test.YtfbkoieodflcpaaGreatDoorRefP
import Derived.Test.YtfbkoieodflcpaaGreatDoorRefQ
import Derived.Test.YtfbkoieodflcpaaGreatDoorRefName
import Derived.Test.YtfbkoieodflcpaaGreatDoorShelfC
import Derived.Test.YtfbkoieodflcpaaGreatDoorMg2
import Derived.Test.YtfbkoieodflcpaaGreatDoorNameX
import Derived.Test.YtfbkoieodflcpaaGreatDoorNameY
import Derived.Test.YtfbkoieodflcpaaGreatDoorDPrint
import Derived.Test.YtfbkoieodflcpaaGreatDoorValK
import Derived.Test.YtfbkoieodflcpaaGreatDoorRPr
import Derived.Test.YtfbkoieodflcpaaGreatDoorValL
import Derived.Test.YtfbkoieodflcpaaGreatDoorPrP
import Derived.Test.YtfbkoieodflcpaaGreatDoorPrA
import Derived.Test.YtfbkoieodflcpaaGreatDoorT07
import Derived.Test.YtfbkoieodflcpaaGreatDoorRefN
import Derived.Test.YtfbkoieodflcpaaGreatDoorRefM
import Derived.Test.YtfbkoieodflcpaaGreatDoorRefY
import Derived.Test.YtfbkoieodflcpaaGreatDoorRefZ
import Derived.Test.YtfbkoieodflcpaaGreatDoorRLev
import Derived.Test.YtfbkoieodflcpaaGreatDoorT07B
import Derived.Test.YtfbkoieodflcpaaGreatDoorT07C
import Derived.Test.YtfbkoieodflcpaaGreatDoorT07D
import Derived.Test.YtfbkoieodflcpaaGreatDoorPrS
import Derived.Test.YtfbkoieodflcpaaGreatDoorPrT
import Derived.Test.YtfbkoieodflcpaaGreatDoorT07E
import Derived.Test.YtfbkoieodflcpaaGreatDoorRNam
import Derived.Test.YtfbkoieodflcpaaGreatDoorRNod
import Derived.Test.YtfbkoieodflcpaaGreatDoorRNodB
import Derived.Test.YtfbkoieodflcpaaGreatDoorRPt
import Derived.Test.YtfbkoieodflcpaaGreatDoorRPtB
import Derived.Test.YtfbkoieodflcpaaGreatDoorRPut
import Derived.Test.YtfbkoieodflcpaaGreatDoorT07F
import Derived.Test.YtfbkoieodflcpaaGreatDoorRefD
import Derived.Test.YtfbkoieodflcpaaGreatDoorRefC
import Derived.Test.YtfbkoieodflcpaaGreatDoorBld
import Derived.Test.YtfbkoieodflcpaaGreatDoorPrB
import Derived.Test.YtfbkoieodflcpaaGreatDoorPrL
import Derived.WalkSpells
import Derived.WalkLawsBesides
import Derived.StillTactics
import Derived.Laws.Pointers
import Derived.Deep.RegionHeld3
import Derived.Deep.QuietTactic
import Derived.BigQuiet
import Derived.RowKit3
import Derived.Lib.Hide
import Derived.Lib.OthersKept
import Derived.OwnWalk
import Derived.Lib.IndexLaws
import Derived.Lib.ItoaMem
import Derived.Lib.TrimByte
import Derived.Lib.SlTrimSet
import Derived.Lib.ParseIntB
import Derived.WalkKit
import Derived.ProofKit
import Derived.OpenShut
import Derived.Carry
import Derived.ChangeSame
import Derived.Deep.Draws
import Derived.Shelf.Strings.Builder1
import Derived.Shelf.Strings.Builder2
import Derived.Shelf.Strings.Trim
import Derived.Shelf.Small.Utf8
import Derived.Shelf.Small.Strs
import Derived.Shelf.Small.Wraps
import Derived.Shelf.Strings.BuilderF
import Derived.Shelf.Strings.BuilderK
import Derived.Shelf.Strconv.Itoa0
import Derived.Shelf.Strconv.Itoa1
import Derived.Shelf.LaysM
import Derived.Shelf.Strconv.Itoa2
import Derived.Shelf.Strconv.Itoa3
import Derived.Shelf.Strings.Search1
import Derived.Shelf.Strings.Search2
import Derived.Shelf.Strings.Search3
import Derived.Shelf.Strings.Cut
import Derived.Shelf.Strings.Count
import Derived.Shelf.Strings.Shaped
import Derived.Shelf.Strings.Prefix
import Derived.Shelf.Strings.Split
import Derived.Shelf.Strings.Replace
import Derived.Shelf.Strings.Runes
import Derived.Shelf.Strings.AsciiSet
import Derived.Shelf.Unicode.DecodeSlow
import Derived.Lib.ItoaNum
import Derived.Maps.OwnSet
import Derived.Maps.AppendAt
import Derived.Ground.MpProg
import Derived.Shelf.Pu.ParseUintPublic10
import Derived.Lib.Bytealg
import Derived.Lib.Replace
import Derived.Outline
import Derived.Deep.CutRange
import Derived.Deep.AppendLies
namespace Go.Proofs.YtfbkoieodflcpaaGreatDoor
open Go.RowKit

set_option maxRecDepth 100000 in
set_option maxHeartbeats 4000000 in
theorem ptells_no (ns : List NL) (hlen : ns.length ≤ 9223372036854775807) (hok : ∀ n ∈ ns, n.ok) (w : World) (ht : Tab w) (A : Option Addr) (cap : Nat) (_hcap : ns.length ≤ cap) (hR : RdB w w.heap.size A 15 (ns.map NL.cs)) (hc : checkP ns = false) : Calls Tryz.prog 3 #[.agg #[.slice A ns.length cap]] w fun e w' => e = .returned (.bool true) ∧ Below w.heap.size w w' := by
  obtain ⟨S, hS⟩ : ∃ S : ByteArray, ⟨#[]⟩ = S := ⟨_, rfl⟩
  have C : ∀ w0 : World, Below w.heap.size w w0 → Calls Tryz.prog 5 #[.agg #[.slice A ns.length cap]] w0 fun e w' => e = .returned (.tuple #[.string S, .int .i64 20]) ∧ Below w0.heap.size w0 w' := fun w0 hb0 => by rw [← hS]; exact print_no ns hlen hok w0 A cap ((hR.below hb0).mono hb0.size) hc
  have C2 : ∀ w0 : World, Below w.heap.size w w0 → Calls Tryz.prog 6 #[.agg #[.slice A ns.length cap]] w0 fun e w' => e = .returned (.tuple #[.string S, .int .i64 20]) ∧ Below w0.heap.size w0 w' := fun w0 hb0 => by rw [← hS]; exact r7print_no ns hok w0 A cap ((hR.below hb0).mono hb0.size) hc
  have CH := Lib.hid C
  have C2H := Lib.hid C2
  have htH := Lib.hid ht
  clear C C2 hR hc hok ht hS
  go_enter Tryz.func3, Tryz.ntmps3
  go_wp2_with fail
  go_at_call 5
  refine (CH.out _ ((Below.refl _ _).alloc (Nat.le_refl _) _)).mono ?_
  rintro e w1 ⟨rfl, hb⟩
  have hbr : Below w.heap.size w w1 := ((Below.refl _ _).alloc (Nat.le_refl _) (.cells #[.slice A ns.length cap] 24)).trans (hb.mono (by simp))
  have hf1 : w1.cell? ⟨w.heap.size, 0, none⟩ = some (.slice A ns.length cap) := (hb.cell (p := ⟨w.heap.size, 0, none⟩) (by show _ < (World.alloc _ _).heap.size; simp)).trans (by simp [go_sem])
  clear hb
  go_wp2_with fail
  go_at_call 6
  refine (C2H.out _ hbr).mono ?_
  rintro e w2 ⟨rfl, hb⟩
  have hbr2 : Below w.heap.size w w2 := hbr.trans (hb.mono hbr.size)
  clear hb hf1
  go_wp2_with fail
  go_at_call 7
  refine (plives _ (Tab.below htH.out hbr2)).mono ?_
  rintro e w3 ⟨rfl, hb⟩
  have hbr3 : Below w.heap.size w w3 := hbr2.trans (hb.mono hbr2.size)
  go_wp2
  go_ret
  exact ⟨rfl, hbr3⟩
set_option maxRecDepth 100000 in
set_option maxHeartbeats 4000000 in
theorem ptells_yes (ns : List NL) (hlen : ns.length ≤ 9223372036854775807) (hok : ∀ n ∈ ns, n.ok) (hsz : ∀ n ∈ ns, n.v.s.size ≤ 1048576) (w : World) (ht : Tab w) (A : Option Addr) (cap : Nat) (hcap : ns.length ≤ cap) (hR : RdB w w.heap.size A 15 (ns.map NL.cs)) (hc : checkP ns = true) : Calls Tryz.prog 3 #[.agg #[.slice A ns.length cap]] w fun e w' => e = .returned (.bool true) ∧ Below w.heap.size w w' := by
  obtain ⟨S, hS⟩ : ∃ S : ByteArray, ⟨(formT ns).toArray⟩ = S := ⟨_, rfl⟩
  have C : ∀ w0 : World, Below w.heap.size w w0 → Calls Tryz.prog 5 #[.agg #[.slice A ns.length cap]] w0 fun e w' => e = .returned (.tuple #[.string S, .int .i64 0]) ∧ Below w0.heap.size w0 w' := fun w0 hb0 => by rw [← hS]; exact print_yes ns hlen hok hsz w0 (Tab.below ht hb0) A cap ((hR.below hb0).mono hb0.size) hc
  have C2 : ∀ w0 : World, Below w.heap.size w w0 → Calls Tryz.prog 6 #[.agg #[.slice A ns.length cap]] w0 fun e w' => e = .returned (.tuple #[.string S, .int .i64 0]) ∧ Below w0.heap.size w0 w' := fun w0 hb0 => by rw [← hS]; exact r7print_yes ns hok hsz w0 (Tab.below ht hb0) A cap hcap ((hR.below hb0).mono hb0.size) hc
  have CH := Lib.hid C
  have C2H := Lib.hid C2
  have htH := Lib.hid ht
  clear C C2 hR hc hok ht hS hsz
  go_enter Tryz.func3, Tryz.ntmps3
  go_wp2_with fail
  go_at_call 5
  refine (CH.out _ ((Below.refl _ _).alloc (Nat.le_refl _) _)).mono ?_
  rintro e w1 ⟨rfl, hb⟩
  have hbr : Below w.heap.size w w1 := ((Below.refl _ _).alloc (Nat.le_refl _) (.cells #[.slice A ns.length cap] 24)).trans (hb.mono (by simp))
  have hf1 : w1.cell? ⟨w.heap.size, 0, none⟩ = some (.slice A ns.length cap) := (hb.cell (p := ⟨w.heap.size, 0, none⟩) (by show _ < (World.alloc _ _).heap.size; simp)).trans (by simp [go_sem])
  clear hb
  go_wp2_with fail
  go_at_call 6
  refine (C2H.out _ hbr).mono ?_
  rintro e w2 ⟨rfl, hb⟩
  have hbr2 : Below w.heap.size w w2 := hbr.trans (hb.mono hbr.size)
  clear hb hf1
  go_wp2_with fail
  go_at_call 7
  refine (plives _ (Tab.below htH.out hbr2)).mono ?_
  rintro e w3 ⟨rfl, hb⟩
  have hbr3 : Below w.heap.size w w3 := hbr2.trans (hb.mono hbr2.size)
  go_wp2
  go_ret
  exact ⟨rfl, hbr3⟩
theorem walk_PrintTells (ns : List NL) (hlen : ns.length ≤ 1048576) (hok : ∀ n ∈ ns, n.ok) (hsz : ∀ n ∈ ns, n.v.s.size ≤ 1048576) (w : World) (ht : Tab w) (A : Option Addr) (cap : Nat) (hcap : ns.length ≤ cap) (hR : RdB w w.heap.size A 15 (ns.map NL.cs)) : Calls Tryz.prog 3 #[.agg #[.slice A ns.length cap]] w fun e w' => e = .returned (.bool true) ∧ Below w.heap.size w w' := by
  cases hc : checkP ns
  · exact ptells_no ns (by omega) hok w ht A cap hcap hR hc
  · exact ptells_yes ns (by omega) hok hsz w ht A cap hcap hR hc
end Go.Proofs.YtfbkoieodflcpaaGreatDoor
