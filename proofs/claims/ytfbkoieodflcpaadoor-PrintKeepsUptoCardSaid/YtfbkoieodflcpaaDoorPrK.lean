/-
  oriellaw07.PrintKeeps: the walk.
-/
import Derived.Test.YtfbkoieodflcpaaDoorPrintL
import Derived.Test.YtfbkoieodflcpaaDoorNumL
import Derived.Test.YtfbkoieodflcpaaDoorRows
import Derived.Test.YtfbkoieodflcpaaDoorBase
import Derived.Test.YtfbkoieodflcpaaDoorProg
import Derived.Test.YtfbkoieodflcpaaDoorShelf
import Derived.Test.YtfbkoieodflcpaaDoorAddrC
import Derived.Test.YtfbkoieodflcpaaDoorNames
import Derived.Test.YtfbkoieodflcpaaDoorParseW
import Derived.Test.YtfbkoieodflcpaaDoorDecA
import Derived.Test.YtfbkoieodflcpaaDoorValA
import Derived.Test.YtfbkoieodflcpaaDoorValB
import Derived.Test.YtfbkoieodflcpaaDoorDecS
import Derived.Test.YtfbkoieodflcpaaDoorLexP
import Derived.Test.YtfbkoieodflcpaaDoorRowB
import Derived.Test.YtfbkoieodflcpaaDoorMapK
import Derived.Test.YtfbkoieodflcpaaDoorArgK
import Derived.Test.YtfbkoieodflcpaaDoorRefP
import Derived.Test.YtfbkoieodflcpaaDoorRefName
import Derived.Test.YtfbkoieodflcpaaDoorLexR
import Derived.Test.YtfbkoieodflcpaaDoorLexS
import Derived.Test.YtfbkoieodflcpaaDoorRefN
import Derived.Test.YtfbkoieodflcpaaDoorRefM
import Derived.Test.YtfbkoieodflcpaaDoorRefY
import Derived.Test.YtfbkoieodflcpaaDoorRefQ
import Derived.Test.YtfbkoieodflcpaaDoorRefZ
import Derived.Test.YtfbkoieodflcpaaDoorRefD
import Derived.Test.YtfbkoieodflcpaaDoorRefC
import Derived.Test.YtfbkoieodflcpaaDoorShelfC
import Derived.Test.YtfbkoieodflcpaaDoorFmtU
import Derived.Test.YtfbkoieodflcpaaDoorNameX
import Derived.Test.YtfbkoieodflcpaaDoorNameY
import Derived.Test.YtfbkoieodflcpaaDoorValE
import Derived.Test.YtfbkoieodflcpaaDoorValF
import Derived.Test.YtfbkoieodflcpaaDoorDPrint
import Derived.Test.YtfbkoieodflcpaaDoorValL
import Derived.Test.YtfbkoieodflcpaaDoorPrP
import Derived.Test.YtfbkoieodflcpaaDoorPrA
import Derived.Test.YtfbkoieodflcpaaDoorPrS
import Derived.Test.YtfbkoieodflcpaaDoorPrT
import Derived.Test.YtfbkoieodflcpaaDoorBld
import Derived.Test.YtfbkoieodflcpaaDoorPrB
import Derived.Test.YtfbkoieodflcpaaDoorPrL
import Derived.Test.YtfbkoieodflcpaaDoorPrK0
import Derived.Test.YtfbkoieodflcpaaDoorPrSm
import Derived.Laws.MakeOwn
import Derived.WalkSpells
import Derived.WalkLawsBesides
import Derived.StillTactics
import Derived.Laws.Pointers
import Derived.Deep.RegionHeld3
import Derived.Deep.QuietTactic
import Derived.BigQuiet
import Derived.RowKit3
import Derived.Lib.Hide
import Derived.Lib.OthersKept
import Derived.OwnWalk
import Derived.Lib.IndexLaws
import Derived.Lib.ItoaMem
import Derived.Lib.TrimByte
import Derived.Lib.SlTrimSet
import Derived.Lib.ParseIntB
import Derived.WalkKit
import Derived.ProofKit
import Derived.OpenShut
import Derived.Carry
import Derived.ChangeSame
import Derived.Deep.Draws
import Derived.Shelf.Strings.Builder1
import Derived.Shelf.Strings.Builder2
import Derived.Shelf.Strings.Trim
import Derived.Shelf.Small.Utf8
import Derived.Shelf.Small.Strs
import Derived.Shelf.Strings.BuilderF
import Derived.Shelf.Strings.BuilderK
import Derived.Shelf.Strconv.Itoa0
import Derived.Shelf.Strconv.Itoa1
import Derived.Shelf.LaysM
import Derived.Shelf.Strconv.Itoa2
import Derived.Shelf.Strconv.Itoa3
import Derived.Shelf.Strings.Search1
import Derived.Shelf.Unicode.DecodeSlow
import Derived.Lib.ItoaNum
import Derived.Maps.OwnSet
import Derived.Maps.AppendAt
import Derived.Outline
import Derived.Deep.CutRange
import Derived.Shelf.Strings.Search2
import Derived.Shelf.Strings.Search3
import Derived.Shelf.Strings.Count
import Derived.Shelf.Strings.Shaped
import Derived.Shelf.Strings.Split
import Derived.Shelf.Strings.Replace
import Derived.Shelf.Strings.Runes
import Derived.Shelf.Strings.AsciiSet
import Derived.Lib.Bytealg
import Derived.Lib.Replace
import Derived.Deep.AppendLies
namespace Go.Proofs.YtfbkoieodflcpaaDoor
open Go.RowKit

theorem print_tot (ns : List NL) (hlen : ns.length ≤ 9223372036854775807) (hok : ∀ n ∈ ns, n.ok) (hsz : ∀ n ∈ ns, n.v.s.size ≤ 1048576) (w : World) (ht : Tab w) (A : Option Addr) (cap : Nat) (hR : RdB w w.heap.size A 15 (ns.map NL.cs)) : Calls Tryd.prog 6 #[.agg #[.slice A ns.length cap]] w fun e w' => (∃ s c, e = .returned (.tuple #[.string s, .int .i64 c])) ∧ Below w.heap.size w w' := by
  cases hc : checkP ns
  · exact (print_no ns hlen hok w A cap hR hc).mono fun e w' ⟨h, hb⟩ => ⟨⟨_, _, h⟩, hb⟩
  · exact (print_yes ns hlen hok hsz w ht A cap hR hc).mono fun e w' ⟨h, hb⟩ => ⟨⟨_, _, h⟩, hb⟩
theorem zc_at : ∀ (m : Nat) (h : m < 15), (#[.int .i64 0, .int .i64 0, .int .i64 0, .string ⟨#[]⟩, .bool false, .int .i64 0, .int .i64 0, .int .i64 0, .int .i64 0, .int .i64 0, .int .i64 0, .int .i64 0, .int .i64 0, .string ⟨#[]⟩, .int .i64 0] : Array Value)[m]! = nl0.cs[m]'h
  | 0, _ => rfl
  | 1, _ => rfl
  | 2, _ => rfl
  | 3, _ => rfl
  | 4, _ => rfl
  | 5, _ => rfl
  | 6, _ => rfl
  | 7, _ => rfl
  | 8, _ => rfl
  | 9, _ => rfl
  | 10, _ => rfl
  | 11, _ => rfl
  | 12, _ => rfl
  | 13, _ => rfl
  | 14, _ => rfl
set_option maxRecDepth 100000 in
theorem run_make_nodes (N : Nat) (hN : N ≤ 1048576) : ∃ Z : Array Value, Z.toList = nlRow (List.replicate (N + 2) nl0) ∧ ∀ w : World, (Instr.makeSlice 22 (.int .i64 (N : Int)) (.int .i64 ((N : Int) + 2))).run Tryd.prog w = .ok (.slice (some ⟨w.heap.size, 0, none⟩) N (N + 2)) (w.alloc (.cells Z 41)) := by
  obtain ⟨i0, hi, hz0, hz1, hz2⟩ := info_parts node_info
  refine ⟨madeCells (Value.agg #[.int .i64 0, .int .i64 0, .int .i64 0, .string ⟨#[]⟩, .bool false, .int .i64 0, .int .i64 0, .int .i64 0, .int .i64 0, .int .i64 0, .int .i64 0, .int .i64 0, .int .i64 0, .string ⟨#[]⟩, .int .i64 0]).cells ((N + 2) * 15), ?_, fun w => ?_⟩
  · apply List.ext_getElem?
    intro j
    by_cases hj : j < (N + 2) * 15
    · have h1 : (nlRow (List.replicate (N + 2) nl0))[j / 15 * 15 + j % 15]? = some (nl0.cs[j % 15]'(by show _ < 15; omega)) := nlRow_at _ (j / 15) nl0 (by rw [List.getElem?_replicate, if_pos (by omega)]) (j % 15) _ (List.getElem?_eq_getElem _)
      rw [show j / 15 * 15 + j % 15 = j by omega] at h1
      rw [h1]
      have h3 : (madeCells (Value.agg #[.int .i64 0, .int .i64 0, .int .i64 0, .string ⟨#[]⟩, .bool false, .int .i64 0, .int .i64 0, .int .i64 0, .int .i64 0, .int .i64 0, .int .i64 0, .int .i64 0, .int .i64 0, .string ⟨#[]⟩, .int .i64 0]).cells ((N + 2) * 15)).toList[j]? = some ((#[.int .i64 0, .int .i64 0, .int .i64 0, .string ⟨#[]⟩, .bool false, .int .i64 0, .int .i64 0, .int .i64 0, .int .i64 0, .int .i64 0, .int .i64 0, .int .i64 0, .int .i64 0, .string ⟨#[]⟩, .int .i64 0] : Array Value)[j % 15]!) := by
        rw [Array.getElem?_toList]
        unfold madeCells
        rw [Array.getElem?_map, Array.getElem?_range, if_pos hj]
        rfl
      rw [h3]
      exact congrArg some (zc_at _ (Nat.mod_lt _ (by decide)))
    · have h1 : (nlRow (List.replicate (N + 2) nl0)).length ≤ j := by rw [nlRow_len, List.length_replicate]; omega
      have h2 : (madeCells (Value.agg #[.int .i64 0, .int .i64 0, .int .i64 0, .string ⟨#[]⟩, .bool false, .int .i64 0, .int .i64 0, .int .i64 0, .int .i64 0, .int .i64 0, .int .i64 0, .int .i64 0, .int .i64 0, .string ⟨#[]⟩, .int .i64 0]).cells ((N + 2) * 15)).toList.length ≤ j := by rw [Array.length_toList, size_madeCells]; omega
      rw [List.getElem?_eq_none h1, List.getElem?_eq_none h2]
  · have h := run_make (P := Tryd.prog) w 22 41 i0 _ Tryd.underlying22 hi hz0 .i64 .i64 (N : Int) ((N : Int) + 2) (by omega) (by omega) (by rw [hz2]; omega) (by omega)
    rw [hz1, show ((N : Int) + 2).toNat = N + 2 by omega, Int.toNat_natCast] at h
    exact h
set_option maxRecDepth 100000 in
set_option maxHeartbeats 8000000 in
theorem walk_PrintKeeps (ns : List NL) (hlen : ns.length ≤ 1048576) (hok : ∀ n ∈ ns, n.ok) (hsz : ∀ n ∈ ns, n.v.s.size ≤ 1048576) (w : World) (ht : Tab w) (A : Option Addr) (cap : Nat) (hR : RdB w w.heap.size A 15 (ns.map NL.cs)) : Calls Tryd.prog 5 #[.agg #[.slice A ns.length cap]] w fun e w' => e = .returned (.bool true) ∧ Below w.heap.size w w' := by
  obtain ⟨Z, hZ, hmk⟩ := run_make_nodes ns.length hlen
  have hRH := Lib.hid hR
  have htH := Lib.hid ht
  have hZH := Lib.hid hZ
  have hwm : IntKind.i64.wrap ((ns.length : Int) + 2) = (ns.length : Int) + 2 := IntWalk.i64_in _ (by omega)
  have CP : ∀ (w0 : World) (B : Nat) (cs : Array Value), Below w.heap.size w w0 → w0.heap[B]? = some (.cells cs 41 (0, 0)) → cs.toList = nlRow (ns ++ [nl0, nl0]) → Calls Tryd.prog 6 #[.agg #[.slice (some ⟨B, 0, none⟩) ns.length (ns.length + 2)]] w0 fun e w' => (∃ s c, e = .returned (.tuple #[.string s, .int .i64 c])) ∧ Below w0.heap.size w0 w' := fun w0 B cs hb hh he => print_tot ns (by omega) hok hsz w0 (Tab.below ht hb) _ _ (rd_block hh he)
  have CS : ∀ (w0 : World) (B : Nat) (cs : Array Value), Below w.heap.size w w0 → w0.heap[B]? = some (.cells cs 41 (0, 0)) → cs.toList = nlRow (ns ++ [nl0, nl0]) → Calls Tryd.prog 8 #[.agg #[.slice (some ⟨B, 0, none⟩) ns.length (ns.length + 2)], .agg #[.slice A ns.length cap]] w0 fun e w' => e = .returned (.bool true) ∧ Below w0.heap.size w0 w' := fun w0 B cs hb hh he => rsame_refl ns (by omega) w0 _ _ _ _ (rd_block hh he) ((hR.below hb).mono hb.size)
  have CPH := Lib.hid CP
  have CSH := Lib.hid CS
  clear CP CS hR ht hZ hok hsz
  go_enter Tryd.func5, Tryd.ntmps5
  go_wp2
  have hh0 := heap_alloc_new (w.alloc (.cells #[.slice A ns.length cap] 24)) (.cells Z 41)
  simp only [World.size_alloc] at hh0
  obtain ⟨w1, hw1⟩ : ∃ w1, (w.alloc (.cells #[.slice A ns.length cap] 24)) = w1 := ⟨_, rfl⟩
  have hbw1 : Below w.heap.size w w1 := by rw [← hw1]; exact (Below.refl _ _).alloc (Nat.le_refl _) _
  have hfw1 : w1.cell? ⟨w.heap.size, 0, none⟩ = some (.slice A ns.length cap) := by rw [← hw1]; simp [go_sem]
  have hbs1 : Below (w.heap.size + 1) w1 ((w.alloc (.cells #[.slice A ns.length cap] 24)).alloc (.cells Z 41)) := by rw [← hw1]; exact (Below.refl _ _).alloc (by simp) _
  clear hw1
  go_loopw [4] (fun i wr => ∃ (j : Nat) (cs : Array Value), j ≤ ns.length ∧ i = .int .i64 (j : Int) ∧ wr.heap[w.heap.size + 1]? = some (.cells cs 41 (0, 0)) ∧ Hid (cs.toList = nlRow (ns.take j ++ List.replicate (ns.length + 2 - j) nl0)) ∧ Below (w.heap.size + 1) w1 wr) (fun i _ => ns.length - (intOf i).toNat)
  case atStart => exact ⟨0, Z, by omega, rfl, hh0, Lib.hid (by rw [hZH.out]; rfl), hbs1⟩
  case round =>
    clear hh0 hmk hbs1
    obtain ⟨j, cs, hj, rfl, hh, hcs, hbr⟩ := hrel
    have hb0 : Below w.heap.size w wr := hbw1.trans (hbr.mono (by omega))
    have hl1 : w.heap.size + 1 < wr.heap.size := (Array.getElem?_eq_some_iff.1 hh).1
    have hf1 : wr.cell? ⟨w.heap.size, 0, none⟩ = some (.slice A ns.length cap) := (hbr.cell (p := ⟨w.heap.size, 0, none⟩) (by show w.heap.size < w.heap.size + 1; omega)).trans hfw1
    by_cases hlt : j < ns.length
    · obtain ⟨n, hn⟩ : ∃ n, ns[j]? = some n := ⟨_, List.getElem?_eq_getElem hlt⟩
      obtain ⟨ab, ao, hA2, hab, hcA⟩ := (hRH.out.below hb0) j n.cs (by rw [List.getElem?_map, hn]; rfl)
      obtain rfl : A = some ⟨ab, ao, none⟩ := hA2
      have ha0 : wr.cell? ⟨ab, ao + j * 15, none⟩ = some (.int .i64 n.kind) := hcA 0 _ rfl
      have ha1 : wr.cell? ⟨ab, ao + j * 15 + 1, none⟩ = some (.int .i64 n.v.t) := hcA 1 _ rfl
      have ha2 : wr.cell? ⟨ab, ao + j * 15 + 2, none⟩ = some (.int .i64 n.v.n) := hcA 2 _ rfl
      have ha3 : wr.cell? ⟨ab, ao + j * 15 + 3, none⟩ = some (.string n.v.s) := hcA 3 _ rfl
      have ha4 : wr.cell? ⟨ab, ao + j * 15 + 4, none⟩ = some (.bool n.v.b) := hcA 4 _ rfl
      have ha5 : wr.cell? ⟨ab, ao + j * 15 + 5, none⟩ = some (.int .i64 n.v.c) := hcA 5 _ rfl
      have ha6 : wr.cell? ⟨ab, ao + j * 15 + 6, none⟩ = some (.int .i64 n.r) := hcA 6 _ rfl
      have ha7 : wr.cell? ⟨ab, ao + j * 15 + 7, none⟩ = some (.int .i64 n.c) := hcA 7 _ rfl
      have ha8 : wr.cell? ⟨ab, ao + j * 15 + 8, none⟩ = some (.int .i64 n.t) := hcA 8 _ rfl
      have ha9 : wr.cell? ⟨ab, ao + j * 15 + 9, none⟩ = some (.int .i64 n.l) := hcA 9 _ rfl
      have ha10 : wr.cell? ⟨ab, ao + j * 15 + 10, none⟩ = some (.int .i64 n.b) := hcA 10 _ rfl
      have ha11 : wr.cell? ⟨ab, ao + j * 15 + 11, none⟩ = some (.int .i64 n.q) := hcA 11 _ rfl
      have ha12 : wr.cell? ⟨ab, ao + j * 15 + 12, none⟩ = some (.int .i64 n.op) := hcA 12 _ rfl
      have ha13 : wr.cell? ⟨ab, ao + j * 15 + 13, none⟩ = some (.string n.name) := hcA 13 _ rfl
      have ha14 : wr.cell? ⟨ab, ao + j * 15 + 14, none⟩ = some (.int .i64 n.args) := hcA 14 _ rfl
      have hjl : (ns.take j).length = j := by rw [List.length_take]; omega
      have hdl : ns.length + 2 - j = (ns.length + 1 - j) + 1 := by omega
      have hd : ∀ k u, nl0.cs[k]? = some u → wr.cell? ⟨w.heap.size + 1, j * 15 + k, none⟩ = some u := fun k u hu => by
        rw [blk_cell hh, ← Array.getElem?_toList, hcs.out]
        exact nlRow_at _ j nl0 (by rw [List.getElem?_append_right (by omega), hjl, Nat.sub_self, hdl]; rfl) k u hu
      have hd0 : wr.cell? ⟨w.heap.size + 1, j * 15, none⟩ = some (.int .i64 0) := hd 0 _ rfl
      have hd1 : wr.cell? ⟨w.heap.size + 1, j * 15 + 1, none⟩ = some (.int .i64 0) := hd 1 _ rfl
      have hd2 : wr.cell? ⟨w.heap.size + 1, j * 15 + 2, none⟩ = some (.int .i64 0) := hd 2 _ rfl
      have hd3 : wr.cell? ⟨w.heap.size + 1, j * 15 + 3, none⟩ = some (.string ⟨#[]⟩) := hd 3 _ rfl
      have hd4 : wr.cell? ⟨w.heap.size + 1, j * 15 + 4, none⟩ = some (.bool false) := hd 4 _ rfl
      have hd5 : wr.cell? ⟨w.heap.size + 1, j * 15 + 5, none⟩ = some (.int .i64 0) := hd 5 _ rfl
      have hd6 : wr.cell? ⟨w.heap.size + 1, j * 15 + 6, none⟩ = some (.int .i64 0) := hd 6 _ rfl
      have hd7 : wr.cell? ⟨w.heap.size + 1, j * 15 + 7, none⟩ = some (.int .i64 0) := hd 7 _ rfl
      have hd8 : wr.cell? ⟨w.heap.size + 1, j * 15 + 8, none⟩ = some (.int .i64 0) := hd 8 _ rfl
      have hd9 : wr.cell? ⟨w.heap.size + 1, j * 15 + 9, none⟩ = some (.int .i64 0) := hd 9 _ rfl
      have hd10 : wr.cell? ⟨w.heap.size + 1, j * 15 + 10, none⟩ = some (.int .i64 0) := hd 10 _ rfl
      have hd11 : wr.cell? ⟨w.heap.size + 1, j * 15 + 11, none⟩ = some (.int .i64 0) := hd 11 _ rfl
      have hd12 : wr.cell? ⟨w.heap.size + 1, j * 15 + 12, none⟩ = some (.int .i64 0) := hd 12 _ rfl
      have hd13 : wr.cell? ⟨w.heap.size + 1, j * 15 + 13, none⟩ = some (.string ⟨#[]⟩) := hd 13 _ rfl
      have hd14 : wr.cell? ⟨w.heap.size + 1, j * 15 + 14, none⟩ = some (.int .i64 0) := hd 14 _ rfl
      have hfz := fun k => blk_frozen hh k
      have hz0 : wr.frozen? ⟨w.heap.size + 1, j * 15, none⟩ = false := hfz (j * 15)
      have hz1 : wr.frozen? ⟨w.heap.size + 1, j * 15 + 1, none⟩ = false := hfz (j * 15 + 1)
      have hz2 : wr.frozen? ⟨w.heap.size + 1, j * 15 + 2, none⟩ = false := hfz (j * 15 + 2)
      have hz3 : wr.frozen? ⟨w.heap.size + 1, j * 15 + 3, none⟩ = false := hfz (j * 15 + 3)
      have hz4 : wr.frozen? ⟨w.heap.size + 1, j * 15 + 4, none⟩ = false := hfz (j * 15 + 4)
      have hz5 : wr.frozen? ⟨w.heap.size + 1, j * 15 + 5, none⟩ = false := hfz (j * 15 + 5)
      have hz6 : wr.frozen? ⟨w.heap.size + 1, j * 15 + 6, none⟩ = false := hfz (j * 15 + 6)
      have hz7 : wr.frozen? ⟨w.heap.size + 1, j * 15 + 7, none⟩ = false := hfz (j * 15 + 7)
      have hz8 : wr.frozen? ⟨w.heap.size + 1, j * 15 + 8, none⟩ = false := hfz (j * 15 + 8)
      have hz9 : wr.frozen? ⟨w.heap.size + 1, j * 15 + 9, none⟩ = false := hfz (j * 15 + 9)
      have hz10 : wr.frozen? ⟨w.heap.size + 1, j * 15 + 10, none⟩ = false := hfz (j * 15 + 10)
      have hz11 : wr.frozen? ⟨w.heap.size + 1, j * 15 + 11, none⟩ = false := hfz (j * 15 + 11)
      have hz12 : wr.frozen? ⟨w.heap.size + 1, j * 15 + 12, none⟩ = false := hfz (j * 15 + 12)
      have hz13 : wr.frozen? ⟨w.heap.size + 1, j * 15 + 13, none⟩ = false := hfz (j * 15 + 13)
      have hz14 : wr.frozen? ⟨w.heap.size + 1, j * 15 + 14, none⟩ = false := hfz (j * 15 + 14)
      obtain ⟨cs2, hh2, hcs2⟩ := store15 (v0 := .int .i64 n.kind) (v1 := .int .i64 n.v.t) (v2 := .int .i64 n.v.n) (v3 := .string n.v.s) (v4 := .bool n.v.b) (v5 := .int .i64 n.v.c) (v6 := .int .i64 n.r) (v7 := .int .i64 n.c) (v8 := .int .i64 n.t) (v9 := .int .i64 n.l) (v10 := .int .i64 n.b) (v11 := .int .i64 n.q) (v12 := .int .i64 n.op) (v13 := .string n.name) (v14 := .int .i64 n.args) hh (X := nlRow (ns.take j)) (c := nl0.cs) (Y := nlRow (List.replicate (ns.length + 1 - j) nl0)) (by rw [hcs.out, nlRow_app, hdl, List.replicate_succ]; rfl) (p := j * 15) (by rw [nlRow_len, hjl]) rfl
      have hcs3 := Lib.hid (show cs2.toList = nlRow (ns.take (j + 1) ++ List.replicate (ns.length + 2 - (j + 1)) nl0) by
        rw [hcs2, List.take_add_one, hn, show ns.length + 2 - (j + 1) = ns.length + 1 - j by omega, List.append_assoc, nlRow_app, nlRow_app]
        rfl)
      have hb2 : Below (w.heap.size + 1) w1 (((((((((((((((wr.setCell ⟨w.heap.size + 1, j * 15, none⟩ (.int .i64 n.kind)).setCell ⟨w.heap.size + 1, j * 15 + 1, none⟩ (.int .i64 n.v.t)).setCell ⟨w.heap.size + 1, j * 15 + 2, none⟩ (.int .i64 n.v.n)).setCell ⟨w.heap.size + 1, j * 15 + 3, none⟩ (.string n.v.s)).setCell ⟨w.heap.size + 1, j * 15 + 4, none⟩ (.bool n.v.b)).setCell ⟨w.heap.size + 1, j * 15 + 5, none⟩ (.int .i64 n.v.c)).setCell ⟨w.heap.size + 1, j * 15 + 6, none⟩ (.int .i64 n.r)).setCell ⟨w.heap.size + 1, j * 15 + 7, none⟩ (.int .i64 n.c)).setCell ⟨w.heap.size + 1, j * 15 + 8, none⟩ (.int .i64 n.t)).setCell ⟨w.heap.size + 1, j * 15 + 9, none⟩ (.int .i64 n.l)).setCell ⟨w.heap.size + 1, j * 15 + 10, none⟩ (.int .i64 n.b)).setCell ⟨w.heap.size + 1, j * 15 + 11, none⟩ (.int .i64 n.q)).setCell ⟨w.heap.size + 1, j * 15 + 12, none⟩ (.int .i64 n.op)).setCell ⟨w.heap.size + 1, j * 15 + 13, none⟩ (.string n.name)).setCell ⟨w.heap.size + 1, j * 15 + 14, none⟩ (.int .i64 n.args)) 
          := by exact (((((((((((((((hbr).setCell (p := ⟨w.heap.size + 1, j * 15, none⟩) (Nat.le_refl _) (.int .i64 n.kind)).setCell (p := ⟨w.heap.size + 1, j * 15 + 1, none⟩) (Nat.le_refl _) (.int .i64 n.v.t)).setCell (p := ⟨w.heap.size + 1, j * 15 + 2, none⟩) (Nat.le_refl _) (.int .i64 n.v.n)).setCell (p := ⟨w.heap.size + 1, j * 15 + 3, none⟩) (Nat.le_refl _) (.string n.v.s)).setCell (p := ⟨w.heap.size + 1, j * 15 + 4, none⟩) (Nat.le_refl _) (.bool n.v.b)).setCell (p := ⟨w.heap.size + 1, j * 15 + 5, none⟩) (Nat.le_refl _) (.int .i64 n.v.c)).setCell (p := ⟨w.heap.size + 1, j * 15 + 6, none⟩) (Nat.le_refl _) (.int .i64 n.r)).setCell (p := ⟨w.heap.size + 1, j * 15 + 7, none⟩) (Nat.le_refl _) (.int .i64 n.c)).setCell (p := ⟨w.heap.size + 1, j * 15 + 8, none⟩) (Nat.le_refl _) (.int .i64 n.t)).setCell (p := ⟨w.heap.size + 1, j * 15 + 9, none⟩) (Nat.le_refl _) (.int .i64 n.l)).setCell (p := ⟨w.heap.size + 1, j * 15 + 10, none⟩) (Nat.le_refl _) (.int .i64 n.b)).setCell (p := ⟨w.heap.size + 1, j * 15 + 11, none⟩) (Nat.le_refl _) (.int .i64 n.q)).setCell (p := ⟨w.heap.size + 1, j * 15 + 12, none⟩) (Nat.le_refl _) (.int .i64 n.op)).setCell (p := ⟨w.heap.size + 1, j * 15 + 13, none⟩) (Nat.le_refl _) (.string n.name)).setCell (p := ⟨w.heap.size + 1, j * 15 + 14, none⟩) (Nat.le_refl _) (.int .i64 n.args)
      have hh2H := Lib.hid hh2
      have hb2H := Lib.hid hb2
      have hkl : (j : Int) < (ns.length : Int) := by omega
      have hkl2 : (j : Int) < (ns.length : Int) + 2 := by omega
      have hk0 : (0 : Int) ≤ (j : Int) := by omega
      have hne : ab ≠ w.heap.size + 1 := by omega
      clear hcA hd hfz hh hh2 hcs2 hb2 hbr hcs hn hjl hdl hb0
      go_wp2
      go_roundw
      case rel => exact ⟨j + 1, cs2, by omega, by go_num, hh2H.out, hcs3, hb2H.out⟩
      case measure => simp [intOf]; omega
    · obtain rfl : j = ns.length := by omega
      have hjj : ¬ ((ns.length : Int) < (ns.length : Int)) := by omega
      have hcs1 := Lib.hid (show cs.toList = nlRow (ns ++ [nl0, nl0]) by
        rw [hcs.out, List.take_of_length_le (Nat.le_refl _), show ns.length + 2 - ns.length = 2 by omega]; rfl)
      clear hcs
      go_wp2_with fail
      go_at_call 6
      refine (CPH.out _ _ cs hb0 hh hcs1.out).mono ?_
      rintro e w2 ⟨⟨ps, pc, rfl⟩, hb2⟩
      have hh2 := (hb2.block (w.heap.size + 1) hl1).trans hh
      have hbe2 : Below w.heap.size w w2 := hb0.trans (hb2.mono hb0.size)
      have hf2 : w2.cell? ⟨w.heap.size, 0, none⟩ = some (.slice A ns.length cap) := (hb2.cell (p := ⟨w.heap.size, 0, none⟩) (by dsimp only; omega)).trans hf1
      have hl2 : w.heap.size + 1 < w2.heap.size := Nat.lt_of_lt_of_le hl1 hb2.size
      clear hb2 hh hf1 hb0 hbr
      go_wp2_with fail
      go_at_call 8
      refine (CSH.out _ _ cs hbe2 hh2 hcs1.out).mono ?_
      rintro e w3 ⟨rfl, hb3⟩
      have hh3 := (hb3.block (w.heap.size + 1) hl2).trans hh2
      have hbe3 : Below w.heap.size w w3 := hbe2.trans (hb3.mono hbe2.size)
      clear hb3 hh2 hf2 hbe2
      have hlb : ns.length ≤ ns.length + 2 := by omega
      go_wp2_with fail
      go_loopw [7] (fun i wr => ∃ m : Nat, ns.length ≤ m ∧ m ≤ ns.length + 2 ∧ i = .int .i64 (m : Int) ∧ Below w3.heap.size w3 wr) (fun i _ => ns.length + 2 - (intOf i).toNat)
      case atStart => exact ⟨ns.length, by omega, by omega, rfl, Below.refl _ _⟩
      case round =>
        obtain ⟨m, hm1, hm2, rfl, hbr⟩ := hrel
        have hl3 : w.heap.size + 1 < w3.heap.size := (Array.getElem?_eq_some_iff.1 hh3).1
        have hh4 := (hbr.block (w.heap.size + 1) hl3).trans hh3
        have hbe4 : Below w.heap.size w wr := hbe3.trans (hbr.mono hbe3.size)
        by_cases hlt2 : m < ns.length + 2
        · have hd : ∀ k u, nl0.cs[k]? = some u → wr.cell? ⟨w.heap.size + 1, m * 15 + k, none⟩ = some u := fun k u hu => by
            rw [blk_cell hh4, ← Array.getElem?_toList, hcs1.out]
            refine nlRow_at _ m nl0 ?_ k u hu
            rw [List.getElem?_append_right hm1]
            have h9 : m - ns.length = 0 ∨ m - ns.length = 1 := by omega
            rcases h9 with h9 | h9 <;> (rw [h9]; rfl)
          have hd0 : wr.cell? ⟨w.heap.size + 1, m * 15, none⟩ = some (.int .i64 0) := hd 0 _ rfl
          have hd1 : wr.cell? ⟨w.heap.size + 1, m * 15 + 1, none⟩ = some (.int .i64 0) := hd 1 _ rfl
          have hd2 : wr.cell? ⟨w.heap.size + 1, m * 15 + 2, none⟩ = some (.int .i64 0) := hd 2 _ rfl
          have hd3 : wr.cell? ⟨w.heap.size + 1, m * 15 + 3, none⟩ = some (.string ⟨#[]⟩) := hd 3 _ rfl
          have hd4 : wr.cell? ⟨w.heap.size + 1, m * 15 + 4, none⟩ = some (.bool false) := hd 4 _ rfl
          have hd5 : wr.cell? ⟨w.heap.size + 1, m * 15 + 5, none⟩ = some (.int .i64 0) := hd 5 _ rfl
          have hd6 : wr.cell? ⟨w.heap.size + 1, m * 15 + 6, none⟩ = some (.int .i64 0) := hd 6 _ rfl
          have hd7 : wr.cell? ⟨w.heap.size + 1, m * 15 + 7, none⟩ = some (.int .i64 0) := hd 7 _ rfl
          have hd8 : wr.cell? ⟨w.heap.size + 1, m * 15 + 8, none⟩ = some (.int .i64 0) := hd 8 _ rfl
          have hd9 : wr.cell? ⟨w.heap.size + 1, m * 15 + 9, none⟩ = some (.int .i64 0) := hd 9 _ rfl
          have hd10 : wr.cell? ⟨w.heap.size + 1, m * 15 + 10, none⟩ = some (.int .i64 0) := hd 10 _ rfl
          have hd11 : wr.cell? ⟨w.heap.size + 1, m * 15 + 11, none⟩ = some (.int .i64 0) := hd 11 _ rfl
          have hd12 : wr.cell? ⟨w.heap.size + 1, m * 15 + 12, none⟩ = some (.int .i64 0) := hd 12 _ rfl
          have hd13 : wr.cell? ⟨w.heap.size + 1, m * 15 + 13, none⟩ = some (.string ⟨#[]⟩) := hd 13 _ rfl
          have hd14 : wr.cell? ⟨w.heap.size + 1, m * 15 + 14, none⟩ = some (.int .i64 0) := hd 14 _ rfl
          have hkl : (m : Int) < (ns.length : Int) + 2 := by omega
          have hk0 : (0 : Int) ≤ (m : Int) := by omega
          have hwm1 : IntKind.i64.wrap ((m : Int) + 1) = (m : Int) + 1 := IntWalk.i64_in _ (by omega)
          clear hd
          go_wp2
          go_roundw
          case rel => exact ⟨m + 1, by omega, by omega, by go_num, hbr⟩
          case measure => simp [intOf]; omega
        · obtain rfl : m = ns.length + 2 := by omega
          have hjj2 : ¬ ((ns.length : Int) + 2 < (ns.length : Int) + 2) := by omega
          go_wp2_with fail
          go_at_call 7
          refine (plives _ (Tab.below htH.out hbe4)).mono ?_
          rintro e w5 ⟨rfl, hb5⟩
          go_wp2
          go_ret
          exact ⟨rfl, hbe4.trans (hb5.mono hbe4.size)⟩
end Go.Proofs.YtfbkoieodflcpaaDoor
