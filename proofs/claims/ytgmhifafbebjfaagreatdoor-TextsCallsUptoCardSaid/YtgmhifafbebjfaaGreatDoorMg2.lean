/-
  strconv.FormatUint at base 10: the decimal numeral, for every uint64; The witness' world of this seat's cards of package dec; the table of powers of ten out of a row's list.
-/
import Derived.Test.YtgmhifafbebjfaaGreatDoorMg0
import Derived.Test.YtgmhifafbebjfaaGreatDoorCards
import Derived.Test.YtgmhifafbebjfaaGreatDoorTie
import Derived.Lib.ItoaMem
import Derived.Deep.DeepHandedRow
import Derived.Lib.LaidTab
import Derived.Shelf.Vars
namespace Go.Proofs.YtgmhifafbebjfaaGreatDoor
open Go.RowKit

/-- the library's table of powers of ten is as the program's text lays it -/
def TabP (w : World) : Prop := Lib.TabIs Tryz.prog w "internal/strconv.uint64pow10" .u64 Lib.pow10Tab
theorem gPow : Tryz.prog.globalNamed "internal/strconv.uint64pow10" = some 3 := by kernel_rfl
theorem TabP.below {w w' : World} (h : TabP w) (hb : Below w.heap.size w w') : TabP w' := by
  have h' : Lib.TabIs Tryz.prog w "internal/strconv.uint64pow10" .u64 Lib.pow10Tab := h
  show Lib.TabIs Tryz.prog w' "internal/strconv.uint64pow10" .u64 Lib.pow10Tab
  unfold Lib.TabIs World.var? at h' ⊢
  rw [gPow] at h' ⊢
  simp only [Option.bind_some] at h' ⊢
  have hlt : 3 < w.heap.size := by
    rcases Nat.lt_or_ge 3 w.heap.size with h1 | h1
    · exact h1
    · rw [Array.getElem?_eq_none h1] at h'; cases h'
  rw [hb.block _ hlt]
  exact h'
theorem below_grow (w : World) (n : Nat) (os : Array Obj) : Below w.heap.size w (Sort.grow (w.drewN n) os) := by
  refine ⟨rfl, rfl, rfl, by simp [Sort.grow], fun k hk => ?_⟩
  show (w.heap ++ os)[k]? = _
  rw [Array.getElem?_append_left hk]
/-- .. and a variable of the library's that its searches read holds a number -/
def Tab (w : World) : Prop := TabP w ∧ ∃ m, w.cell? ⟨2, 0, none⟩ = some (.int .i64 m)
theorem Tab.below {w w' : World} (h : Tab w) (hb : Below w.heap.size w w') : Tab w' := by
  obtain ⟨h1, m, h2⟩ := h
  exact ⟨h1.below hb, m, (hb.cell (p := ⟨2, 0, none⟩) (World.block_lt_of_cell? _ _ h2)).trans h2⟩

theorem holds0 (w : World) (T : TypeId) (nd : Nat) (hs : nd ≤ 24) : Sort.Holds (fun (b : UInt8) => Value.int .u8 (b.toNat : Int)) (w.alloc (.cells Lib.zeros24 T)) w.heap.size 0 (Array.replicate nd (0 : UInt8)) := fun j hj => by
  have hj' : j < nd := by simpa using hj
  refine ⟨?_, World.frozen?_alloc_new _ _ _ _⟩
  rw [World.cell?_alloc_new, Lib.zeros24_at _ (by omega), getElem!_pos _ j hj]
  simp
theorem fin0 (w : World) (o : Obj) (dk : Array UInt8) (k : Nat) : ∃ os, (Sort.putRow (fun (b : UInt8) => Value.int .u8 (b.toNat : Int)) (w.alloc o) w.heap.size 0 dk).drewN k = Sort.grow (w.drewN k) os := by
  rw [Sort.alloc_eq_grow]
  obtain ⟨os', _, e⟩ := Sort.putRow_grow_new (fun (b : UInt8) => Value.int .u8 (b.toNat : Int)) w #[o] w.heap.size 0 dk (Nat.le_refl _)
  exact ⟨os', by rw [e]; rfl⟩

set_option maxHeartbeats 400000 in
theorem fmtU_small (u : Nat) (hu : u < 100) (w : World) : Calls Tryz.prog 199 #[.int .u64 u, .int .i64 10] w fun e w' => e = .returned (.string ⟨(Lib.decDigits u).toArray⟩) ∧ Below w.heap.size w w' := by
  go_enter Tryz.func199, Tryz.ntmps199
  go_wp2_with (go_at_call 224; refine (Tryz.internal_strconv_small u hu _).mono ?_; rintro e w' ⟨rfl, rfl⟩)
  go_ret
  exact ⟨rfl, Below.refl _ _⟩
set_option maxRecDepth 100000 in
set_option maxHeartbeats 1000000 in
theorem fmtU_big (u : Nat) (hu : 100 ≤ u) (hu64 : u < 18446744073709551616) (w : World) (ht : Tab w) : Calls Tryz.prog 199 #[.int .u64 u, .int .i64 10] w fun e w' => e = .returned (.string ⟨(Lib.decDigits u).toArray⟩) ∧ Below w.heap.size w w' := by
  have hu1 : 1 ≤ u := by omega
  have hnd20 : Lib.nDigits u ≤ 20 := by have := Lib.numDigits_eq u hu1 hu64; split at this <;> omega
  have hal : Tryz.prog.arrayLen 225 = 24 := by simp [Program.arrayLen, Tryz.underlying225]
  have hsl : ∀ W, (Instr.sliceAt 225 (.pointer (some ⟨w.heap.size, 0, none⟩)) none (some (.int .i64 (Lib.nDigits u : Int))) none).run Tryz.prog W = .ok (.slice (some ⟨w.heap.size, 0, none⟩) (Lib.nDigits u) 24) W := fun W => by
    rw [run_sliceAt_array_h W 225 ⟨w.heap.size, 0, none⟩ (by simp [Program.arrayLen, Program.elem, Tryz.underlying225]) .i64 (Lib.nDigits u : Int) (by omega) (by rw [hal]; omega)]
    go_simp
  have hH0 := holds0 w 225 (Lib.nDigits u) (by omega)
  have hfmt := Tryz.internal_strconv_formatBase10 w.heap.size 0 24 u (Array.replicate (Lib.nDigits u) 0) (w.alloc (.cells Lib.zeros24 225)) hH0 (by rw [Array.size_replicate]; exact Lib.lt_pow_nDigits u) hu64 (by rw [Array.size_replicate]; omega)
  rw [Array.size_replicate] at hfmt
  have HH0 := Lib.hid hH0
  have HF := Lib.hid hfmt
  have hta : Tab (w.alloc (.cells Lib.zeros24 225)) := Tab.below ht ((Below.refl _ _).alloc (Nat.le_refl _) _)
  clear hH0 hal hfmt
  go_enter Tryz.func199, Tryz.ntmps199
  go_wp2_with (go_at_call 225; refine (Tryz.internal_strconv_numDigits u hu1 hu64 _ hta.1).mono ?_; rintro e w' ⟨rfl, rfl⟩)
  refine HF.out.mono ?_
  rintro e w' ⟨rfl, k, v', dk, rfl, hF⟩
  have hcv : (convert 61 9 (.slice (some ⟨w.heap.size, 0, none⟩) (Lib.nDigits u) 24)).run Tryz.prog ((Sort.putRow (fun (b : UInt8) => Value.int .u8 (b.toNat : Int)) (w.alloc (.cells Lib.zeros24 225)) w.heap.size 0 dk).drewN k) = .ok (.string ⟨(Lib.decDigits u).toArray⟩) ((Sort.putRow (fun (b : UInt8) => Value.int .u8 (b.toNat : Int)) (w.alloc (.cells Lib.zeros24 225)) w.heap.size 0 dk).drewN k) := by
    have h := run_convert_bytes_back (P := Tryz.prog) ((Sort.putRow (fun (b : UInt8) => Value.int .u8 (b.toNat : Int)) (w.alloc (.cells Lib.zeros24 225)) w.heap.size 0 dk).drewN k) 61 9 5 ⟨w.heap.size, 0, none⟩ 24 (Lib.decDigits u) Tryz.underlying61 Tryz.underlying5 Tryz.underlying9 (fun j hj => by
      rw [Lib.row_is_numeral hF j hj, Lib.add_plain, World.cell?_drewN]
      exact Sort.cell?_putRow (fun (b : UInt8) => Value.int .u8 (b.toNat : Int)) _ w.heap.size 0 _ dk HH0.out (by rw [hF.size, Array.size_replicate]) j (by rw [hF.size]; rw [Lib.decDigits_length] at hj; exact hj))
    rw [Lib.decDigits_length] at h
    exact h
  go_wp2
  go_ret
  obtain ⟨os, eo⟩ := fin0 w (.cells Lib.zeros24 225) dk k
  exact ⟨rfl, by rw [eo]; exact below_grow w k os⟩
theorem fmtU_any (u : Nat) (hu64 : u < 18446744073709551616) (w : World) (ht : Tab w) : Calls Tryz.prog 158 #[.int .u64 u, .int .i64 10] w fun e w' => e = .returned (.string ⟨(Lib.decDigits u).toArray⟩) ∧ Below w.heap.size w w' := by
  by_cases h : u < 100
  · have hc := Lib.hid (fmtU_small u h)
    go_enter Tryz.func158, Tryz.ntmps158
    go_wp2_with (go_at_call 199; refine (hc.out _).mono ?_; rintro e w' ⟨rfl, hb⟩)
    go_ret
    exact ⟨rfl, hb⟩
  · have hc := Lib.hid (fmtU_big u (Nat.not_lt.1 h) hu64 w ht)
    go_enter Tryz.func158, Tryz.ntmps158
    go_wp2_with (go_at_call 199; refine hc.out.mono ?_; rintro e w' ⟨rfl, hb⟩)
    go_ret
    exact ⟨rfl, hb⟩
end Go.Proofs.YtgmhifafbebjfaaGreatDoor
namespace Go.Proofs.YtgmhifafbebjfaaGreatDoor
open Go.ChangeShapes Go.WideShapes Go.ChangeAt Go.RowKit
open Go.ChangeMaps (open_string)

/-- a table's cells, as they are laid -/
def setCellsD (cs : Array Value) : Obj → Obj
  | .cells _ t frozen => .cells cs t frozen
  | o => o
/-- the cells of a table of integers -/
def flatDD : Nat → DataW Unit → List Value
  | _, .lit (.int k v) => [.int k v]
  | n + 1, .agg l => (l.map (flatDD n)).flatten
  | _, _ => []
/-- a world for the witness: the settled one, each listed variable as the text lays it -/
noncomputable def laidWorldD (os : Os) : World :=
  let N := (World.settled Tryz.prog os).heap.size
  let w0 := World.holding Tryz.prog os ⟨#[.cells #[.string ⟨#[118, 97, 108, 117, 101, 32, 111, 117, 116, 32, 111, 102, 32, 114, 97, 110, 103, 101]⟩] 269, .cells #[.string ⟨#[105, 110, 118, 97, 108, 105, 100, 32, 115, 121, 110, 116, 97, 120]⟩] 269], #[], []⟩
  { w0 with heap := (((((((w0.heap.modify 8 (setCellsD (flatDD 9 (Rows.laid_math_bits_deBruijn32tab : DataW Unit)).toArray)).modify 9 (setCellsD (flatDD 9 (Rows.laid_math_bits_deBruijn64tab : DataW Unit)).toArray)).modify 3 (setCellsD (flatDD 9 (Rows.laid_internal_strconv_uint64pow10 : DataW Unit)).toArray)).modify 5 (setCellsD (flatDD 9 (Rows.laid_unicode_utf8_acceptRanges : DataW Unit)).toArray)).modify 4 (setCellsD (flatDD 9 (Rows.laid_unicode_utf8_first : DataW Unit)).toArray)).modify 7 (setCellsD #[.iface 267 (.pointer (some ⟨N, 0, none⟩))])).modify 6 (setCellsD #[.iface 267 (.pointer (some ⟨N + 1, 0, none⟩))])) }
theorem laidMet_tailD {P : Program} {W : World} {x : String × DataW Unit} {rest : List (String × DataW Unit)} (h : laidMet P (x :: rest) W) : laidMet P rest W := by
  obtain ⟨ps, ⟨g, t, cs, fuel, p, q, h1, h2, h3, h4, h5, e⟩, hn, hc⟩ := h
  exact ⟨q, h5, (by rw [e] at hn; exact (List.nodup_append.1 hn).2.1), fun b off hq => hc b off (by rw [e]; simp [hq])⟩
theorem cellsTabD : Tryz.prog.cellsOf 246 = 20 := by kernel_rfl
theorem cellsU64D : Tryz.prog.cellsOf 119 = 1 := by kernel_rfl
theorem typePowD : (Tryz.prog.globals[3]?).map (·.type) = some 246 := by kernel_rfl
theorem tab_ofD {rest : List (String × DataW Unit)} {W : World} (h : laidMet Tryz.prog (("internal/strconv.uint64pow10", Lib.tabData .u64 Lib.pow10Tab) :: rest) W) (hs : W.ShapedOpen Tryz.prog) : Tab W :=
  ⟨Lib.tabIs_of_head gPow typePowD Tryz.underlying246 Tryz.underlying119 cellsU64D cellsTabD h,
    cell_of_shapedOpen_int (zero := #[.int .i64 0]) (t := 3) hs (of_decide_eq_true (by kernel_rfl)) (by kernel_rfl) rfl (by kernel_rfl) (by kernel_rfl) Tryz.underlying3⟩
end Go.Proofs.YtgmhifafbebjfaaGreatDoor
