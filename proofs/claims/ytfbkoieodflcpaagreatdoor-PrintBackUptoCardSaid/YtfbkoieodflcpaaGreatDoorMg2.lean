/-
  strconv.FormatUint at base 10: the decimal numeral, for every uint64; The witness' world of this seat's cards of package dec; the table of powers of ten out of a row's list; Print of package dec: the text of any number.
-/
import Derived.Test.YtfbkoieodflcpaaGreatDoorRows
import Derived.Test.YtfbkoieodflcpaaGreatDoorMg0
import Derived.Test.YtfbkoieodflcpaaGreatDoorProg
import Derived.Test.YtfbkoieodflcpaaGreatDoorShelf
import Derived.Test.YtfbkoieodflcpaaGreatDoorCards
import Derived.Test.YtfbkoieodflcpaaGreatDoorTie
import Derived.Test.YtfbkoieodflcpaaGreatDoorMg9
import Derived.Test.YtfbkoieodflcpaaGreatDoorMg3
import Derived.WalkSpells
import Derived.WalkLawsBesides
import Derived.StillTactics
import Derived.Laws.Pointers
import Derived.Deep.RegionHeld3
import Derived.Deep.QuietTactic
import Derived.BigQuiet
import Derived.RowKit3
import Derived.Lib.Hide
import Derived.Lib.OthersKept
import Derived.OwnWalk
import Derived.Lib.IndexLaws
import Derived.Lib.ItoaMem
import Derived.WalkKit
import Derived.ProofKit
import Derived.OpenShut
import Derived.Carry
import Derived.ChangeSame
import Derived.Deep.Draws
import Derived.Shelf.Strings.Builder1
import Derived.Shelf.Strings.Builder2
import Derived.Shelf.Strings.Trim
import Derived.Shelf.Small.Utf8
import Derived.Shelf.Small.Strs
import Derived.Shelf.Small.Wraps
import Derived.Shelf.Strings.BuilderF
import Derived.Shelf.Strings.BuilderK
import Derived.Shelf.Utf8.RuneCount
import Derived.Shelf.Strconv.Itoa0
import Derived.Shelf.Strconv.Itoa1
import Derived.Shelf.LaysM
import Derived.Shelf.Strconv.Itoa2
import Derived.Shelf.Strconv.Itoa3
import Derived.Ground.MpProg
import Derived.Shelf.Pu.ParseUintPublic10
import Derived.Shelf.Strings.Search1
import Derived.Shelf.Strings.Search2
import Derived.Shelf.Strings.Search3
import Derived.Shelf.Strings.Cut
import Derived.Shelf.Strings.Count
import Derived.Shelf.Strings.Shaped
import Derived.Shelf.Strings.Prefix
import Derived.Shelf.Strings.Split
import Derived.Shelf.Strings.Replace
import Derived.Shelf.Strings.SplitShaped
import Derived.Shelf.Unicode.Decode
import Derived.Shelf.Strings.Runes
import Derived.Shelf.Strings.RuneCount
import Derived.Shelf.Strings.AsciiSet
import Derived.Shelf.Unicode.DecodeSlow
import Derived.Shelf.Unicode.DecodeAny
import Derived.Shelf.Unicode.DecodeLast
import Derived.Deep.DeepHandedRow
import Derived.Lib.LaidTab
import Derived.Shelf.Vars
import Derived.Lib.TrimByte
namespace Go.Proofs.YtfbkoieodflcpaaGreatDoor
open Go.RowKit

/-- the library's table of powers of ten is as the program's text lays it -/
def TabP (w : World) : Prop := Lib.TabIs Tryz.prog w "internal/strconv.uint64pow10" .u64 Lib.pow10Tab
theorem gPow : Tryz.prog.globalNamed "internal/strconv.uint64pow10" = some 0 := by kernel_rfl
theorem TabP.below {w w' : World} (h : TabP w) (hb : Below w.heap.size w w') : TabP w' := by
  have h' : Lib.TabIs Tryz.prog w "internal/strconv.uint64pow10" .u64 Lib.pow10Tab := h
  show Lib.TabIs Tryz.prog w' "internal/strconv.uint64pow10" .u64 Lib.pow10Tab
  unfold Lib.TabIs World.var? at h' ⊢
  rw [gPow] at h' ⊢
  simp only [Option.bind_some] at h' ⊢
  have hlt : 0 < w.heap.size := by
    rcases Nat.lt_or_ge 0 w.heap.size with h1 | h1
    · exact h1
    · rw [Array.getElem?_eq_none h1] at h'; cases h'
  rw [hb.block _ hlt]
  exact h'
theorem below_grow (w : World) (n : Nat) (os : Array Obj) : Below w.heap.size w (Sort.grow (w.drewN n) os) := by
  refine ⟨rfl, rfl, rfl, by simp [Sort.grow], fun k hk => ?_⟩
  show (w.heap ++ os)[k]? = _
  rw [Array.getElem?_append_left hk]
/-- .. and a variable of the library's that its searches read holds a number -/
def Tab (w : World) : Prop := TabP w ∧ ∃ m, w.cell? ⟨1, 0, none⟩ = some (.int .i64 m)
theorem Tab.below {w w' : World} (h : Tab w) (hb : Below w.heap.size w w') : Tab w' := by
  obtain ⟨h1, m, h2⟩ := h
  exact ⟨h1.below hb, m, (hb.cell (p := ⟨1, 0, none⟩) (World.block_lt_of_cell? _ _ h2)).trans h2⟩

theorem holds0 (w : World) (T : TypeId) (nd : Nat) (hs : nd ≤ 24) : Sort.Holds (fun (b : UInt8) => Value.int .u8 (b.toNat : Int)) (w.alloc (.cells Lib.zeros24 T)) w.heap.size 0 (Array.replicate nd (0 : UInt8)) := fun j hj => by
  have hj' : j < nd := by simpa using hj
  refine ⟨?_, World.frozen?_alloc_new _ _ _ _⟩
  rw [World.cell?_alloc_new, Lib.zeros24_at _ (by omega), getElem!_pos _ j hj]
  simp
theorem fin0 (w : World) (o : Obj) (dk : Array UInt8) (k : Nat) : ∃ os, (Sort.putRow (fun (b : UInt8) => Value.int .u8 (b.toNat : Int)) (w.alloc o) w.heap.size 0 dk).drewN k = Sort.grow (w.drewN k) os := by
  rw [Sort.alloc_eq_grow]
  obtain ⟨os', _, e⟩ := Sort.putRow_grow_new (fun (b : UInt8) => Value.int .u8 (b.toNat : Int)) w #[o] w.heap.size 0 dk (Nat.le_refl _)
  exact ⟨os', by rw [e]; rfl⟩

set_option maxHeartbeats 400000 in
theorem fmtU_small (u : Nat) (hu : u < 100) (w : World) : Calls Tryz.prog 99 #[.int .u64 u, .int .i64 10] w fun e w' => e = .returned (.string ⟨(Lib.decDigits u).toArray⟩) ∧ Below w.heap.size w w' := by
  go_enter Tryz.func99, Tryz.ntmps99
  go_wp2_with (go_at_call 129; refine (Tryz.internal_strconv_small u hu _).mono ?_; rintro e w' ⟨rfl, rfl⟩)
  go_ret
  exact ⟨rfl, Below.refl _ _⟩
set_option maxRecDepth 100000 in
set_option maxHeartbeats 1000000 in
theorem fmtU_big (u : Nat) (hu : 100 ≤ u) (hu64 : u < 18446744073709551616) (w : World) (ht : Tab w) : Calls Tryz.prog 99 #[.int .u64 u, .int .i64 10] w fun e w' => e = .returned (.string ⟨(Lib.decDigits u).toArray⟩) ∧ Below w.heap.size w w' := by
  have hu1 : 1 ≤ u := by omega
  have hnd20 : Lib.nDigits u ≤ 20 := by have := Lib.numDigits_eq u hu1 hu64; split at this <;> omega
  have hal : Tryz.prog.arrayLen 173 = 24 := by simp [Program.arrayLen, Tryz.underlying173]
  have hsl : ∀ W, (Instr.sliceAt 173 (.pointer (some ⟨w.heap.size, 0, none⟩)) none (some (.int .i64 (Lib.nDigits u : Int))) none).run Tryz.prog W = .ok (.slice (some ⟨w.heap.size, 0, none⟩) (Lib.nDigits u) 24) W := fun W => by
    rw [run_sliceAt_array_h W 173 ⟨w.heap.size, 0, none⟩ (by simp [Program.arrayLen, Program.elem, Tryz.underlying173]) .i64 (Lib.nDigits u : Int) (by omega) (by rw [hal]; omega)]
    go_simp
  have hH0 := holds0 w 173 (Lib.nDigits u) (by omega)
  have hfmt := Tryz.internal_strconv_formatBase10 w.heap.size 0 24 u (Array.replicate (Lib.nDigits u) 0) (w.alloc (.cells Lib.zeros24 173)) hH0 (by rw [Array.size_replicate]; exact Lib.lt_pow_nDigits u) hu64 (by rw [Array.size_replicate]; omega)
  rw [Array.size_replicate] at hfmt
  have HH0 := Lib.hid hH0
  have HF := Lib.hid hfmt
  have hta : Tab (w.alloc (.cells Lib.zeros24 173)) := Tab.below ht ((Below.refl _ _).alloc (Nat.le_refl _) _)
  clear hH0 hal hfmt
  go_enter Tryz.func99, Tryz.ntmps99
  go_wp2_with (go_at_call 130; refine (Tryz.internal_strconv_numDigits u hu1 hu64 _ hta.1).mono ?_; rintro e w' ⟨rfl, rfl⟩)
  refine HF.out.mono ?_
  rintro e w' ⟨rfl, k, v', dk, rfl, hF⟩
  have hcv : (convert 57 9 (.slice (some ⟨w.heap.size, 0, none⟩) (Lib.nDigits u) 24)).run Tryz.prog ((Sort.putRow (fun (b : UInt8) => Value.int .u8 (b.toNat : Int)) (w.alloc (.cells Lib.zeros24 173)) w.heap.size 0 dk).drewN k) = .ok (.string ⟨(Lib.decDigits u).toArray⟩) ((Sort.putRow (fun (b : UInt8) => Value.int .u8 (b.toNat : Int)) (w.alloc (.cells Lib.zeros24 173)) w.heap.size 0 dk).drewN k) := by
    have h := run_convert_bytes_back (P := Tryz.prog) ((Sort.putRow (fun (b : UInt8) => Value.int .u8 (b.toNat : Int)) (w.alloc (.cells Lib.zeros24 173)) w.heap.size 0 dk).drewN k) 57 9 5 ⟨w.heap.size, 0, none⟩ 24 (Lib.decDigits u) Tryz.underlying57 Tryz.underlying5 Tryz.underlying9 (fun j hj => by
      rw [Lib.row_is_numeral hF j hj, Lib.add_plain, World.cell?_drewN]
      exact Sort.cell?_putRow (fun (b : UInt8) => Value.int .u8 (b.toNat : Int)) _ w.heap.size 0 _ dk HH0.out (by rw [hF.size, Array.size_replicate]) j (by rw [hF.size]; rw [Lib.decDigits_length] at hj; exact hj))
    rw [Lib.decDigits_length] at h
    exact h
  go_wp2
  go_ret
  obtain ⟨os, eo⟩ := fin0 w (.cells Lib.zeros24 173) dk k
  exact ⟨rfl, by rw [eo]; exact below_grow w k os⟩
theorem fmtU_any (u : Nat) (hu64 : u < 18446744073709551616) (w : World) (ht : Tab w) : Calls Tryz.prog 62 #[.int .u64 u, .int .i64 10] w fun e w' => e = .returned (.string ⟨(Lib.decDigits u).toArray⟩) ∧ Below w.heap.size w w' := by
  by_cases h : u < 100
  · have hc := Lib.hid (fmtU_small u h)
    go_enter Tryz.func62, Tryz.ntmps62
    go_wp2_with (go_at_call 99; refine (hc.out _).mono ?_; rintro e w' ⟨rfl, hb⟩)
    go_ret
    exact ⟨rfl, hb⟩
  · have hc := Lib.hid (fmtU_big u (Nat.not_lt.1 h) hu64 w ht)
    go_enter Tryz.func62, Tryz.ntmps62
    go_wp2_with (go_at_call 99; refine hc.out.mono ?_; rintro e w' ⟨rfl, hb⟩)
    go_ret
    exact ⟨rfl, hb⟩
end Go.Proofs.YtfbkoieodflcpaaGreatDoor
namespace Go.Proofs.YtfbkoieodflcpaaGreatDoor
open Go.ChangeShapes Go.WideShapes Go.ChangeAt Go.RowKit
open Go.ChangeMaps (open_string)

/-- a table's cells, as they are laid -/
def setCellsD (cs : Array Value) : Obj → Obj
  | .cells _ t frozen => .cells cs t frozen
  | o => o
/-- the cells of a table of integers -/
def flatDD : Nat → DataW Unit → List Value
  | _, .lit (.int k v) => [.int k v]
  | n + 1, .agg l => (l.map (flatDD n)).flatten
  | _, _ => []
/-- a world for the witness: the settled one, each listed variable as the text lays it -/
noncomputable def laidWorldD (os : Os) : World :=
  let N := (World.settled Tryz.prog os).heap.size
  let w0 := World.holding Tryz.prog os ⟨#[.cells #[.string ⟨#[118, 97, 108, 117, 101, 32, 111, 117, 116, 32, 111, 102, 32, 114, 97, 110, 103, 101]⟩] 210, .cells #[.string ⟨#[105, 110, 118, 97, 108, 105, 100, 32, 115, 121, 110, 116, 97, 120]⟩] 210], #[], []⟩
  { w0 with heap := (((((((w0.heap.modify 6 (setCellsD (flatDD 9 (Rows.laid_math_bits_deBruijn32tab : DataW Unit)).toArray)).modify 7 (setCellsD (flatDD 9 (Rows.laid_math_bits_deBruijn64tab : DataW Unit)).toArray)).modify 0 (setCellsD (flatDD 9 (Rows.laid_internal_strconv_uint64pow10 : DataW Unit)).toArray)).modify 3 (setCellsD (flatDD 9 (Rows.laid_unicode_utf8_acceptRanges : DataW Unit)).toArray)).modify 2 (setCellsD (flatDD 9 (Rows.laid_unicode_utf8_first : DataW Unit)).toArray)).modify 5 (setCellsD #[.iface 208 (.pointer (some ⟨N, 0, none⟩))])).modify 4 (setCellsD #[.iface 208 (.pointer (some ⟨N + 1, 0, none⟩))])) }
theorem laidMet_tailD {P : Program} {W : World} {x : String × DataW Unit} {rest : List (String × DataW Unit)} (h : laidMet P (x :: rest) W) : laidMet P rest W := by
  obtain ⟨ps, ⟨g, t, cs, fuel, p, q, h1, h2, h3, h4, h5, e⟩, hn, hc⟩ := h
  exact ⟨q, h5, (by rw [e] at hn; exact (List.nodup_append.1 hn).2.1), fun b off hq => hc b off (by rw [e]; simp [hq])⟩
theorem cellsTabD : Tryz.prog.cellsOf 181 = 20 := by kernel_rfl
theorem cellsU64D : Tryz.prog.cellsOf 112 = 1 := by kernel_rfl
theorem typePowD : (Tryz.prog.globals[0]?).map (·.type) = some 181 := by kernel_rfl
theorem tab_ofD {rest : List (String × DataW Unit)} {W : World} (h : laidMet Tryz.prog (("internal/strconv.uint64pow10", Lib.tabData .u64 Lib.pow10Tab) :: rest) W) (hs : W.ShapedOpen Tryz.prog) : Tab W :=
  ⟨Lib.tabIs_of_head gPow typePowD Tryz.underlying181 Tryz.underlying112 cellsU64D cellsTabD h,
    cell_of_shapedOpen_int (zero := #[.int .i64 0]) (t := 3) hs (of_decide_eq_true (by kernel_rfl)) (by kernel_rfl) rfl (by kernel_rfl) (by kernel_rfl) Tryz.underlying3⟩
end Go.Proofs.YtfbkoieodflcpaaGreatDoor
namespace Go.Proofs.YtfbkoieodflcpaaGreatDoor
open Go.RowKit

theorem absI_nat (x : Int) : absI x = (x.natAbs : Int) := by unfold absI; split <;> omega
theorem size_nat (x : Int) (N : Nat) (hx : -9223372036854775808 ≤ x ∧ x ≤ 9223372036854775807) (h : x.natAbs = N) (w : World) : Calls Tryz.prog 61 #[.int .i64 x] w fun e w' => e = .returned (.tuple #[.int .u64 N, .bool (decide (x < 0))]) ∧ w = w' := by
  have := size_any x hx w
  rw [absI_nat, h] at this
  exact this
set_option maxHeartbeats 400000 in
theorem dprint_no (x : Int) (h : x = -9223372036854775808) (w : World) : Calls Tryz.prog 28 #[.int .i64 x] w fun e w' => e = .returned (.string ⟨(printL x).toArray⟩) ∧ Below w.heap.size w w' := by
  have hr := Lib.hid (show printL x = [] by simp [printL, h])
  have hx : -9223372036854775808 ≤ x ∧ x ≤ 9223372036854775807 := by omega
  have m1 := may_no h
  clear h
  go_enter Tryz.func28, Tryz.ntmps28
  go_wp2_with (go_at_call 60; refine (dmay_any _ (by first | assumption | (constructor <;> omega)) _).mono ?_; rintro e w1 ⟨rfl, rfl⟩)
  go_ret
  exact ⟨by rw [hr.out]; rfl, Below.refl _ _⟩
set_option maxHeartbeats 1000000 in
theorem dprint0 (x : Int) (hx : -9223372036854775808 ≤ x ∧ x ≤ 9223372036854775807) (h : x ≠ -9223372036854775808) (hs : 0 ≤ x) (N : Nat) (hN : x.natAbs = N) (hN1 : N ≤ 9223372036854775807) (hr : N % 10000 = 0) (w : World) (ht : Tab w) : Calls Tryz.prog 28 #[.int .i64 x] w fun e w' => e = .returned (.string ⟨(printL x).toArray⟩) ∧ Below w.heap.size w w' := by
  have hp : printL x = (Lib.decDigits (N / 10000)) := by
    have e2 : decide (x < 0) = false := by simp; omega
    have e3 : N % 10000 = 0 := hr
    simp [printL, textOf, h, hN, e2, e3]
  have hp' := Lib.hid hp
  clear hp
  have m1 := may_yes h
  have hd : decide (x < 0) = false := by simp; omega
  have hl1 := dec_len20 (u := N / 10000) (by omega)
  have hl2 := frac_len (N % 10000)
  have hN' := Lib.hid hN
  clear hN h
  go_enter Tryz.func28, Tryz.ntmps28
  go_wp2_with (first | (go_at_call 60; refine (dmay_any _ (by first | assumption | (constructor <;> omega)) _).mono ?_; rintro e w1 ⟨rfl, rfl⟩) | (go_at_call 61; refine (size_nat x N hx hN'.out _).mono ?_; rintro e w1 ⟨rfl, rfl⟩))
  rw [show ((N : Int) / 10000) = ((N / 10000 : Nat) : Int) from by omega]
  refine (fmtU_any _ (by omega) _ ht).mono ?_
  rintro e w1 ⟨rfl, hb1⟩
  have ht1 := Tab.below ht hb1
  have z1 := hb1.size
  go_wp2
  go_ret
  exact ⟨by rw [hp'.out]; rfl, hb1⟩
set_option maxHeartbeats 1000000 in
theorem dprint1 (x : Int) (hx : -9223372036854775808 ≤ x ∧ x ≤ 9223372036854775807) (h : x ≠ -9223372036854775808) (hs : 0 ≤ x) (N : Nat) (hN : x.natAbs = N) (hN1 : N ≤ 9223372036854775807) (hr : 0 < N % 10000) (w : World) (ht : Tab w) : Calls Tryz.prog 28 #[.int .i64 x] w fun e w' => e = .returned (.string ⟨(printL x).toArray⟩) ∧ Below w.heap.size w w' := by
  have hp : printL x = (Lib.decDigits (N / 10000) ++ 46 :: frac (N % 10000)) := by
    have e2 : decide (x < 0) = false := by simp; omega
    have e3 : ¬ N % 10000 = 0 := by omega
    simp [printL, textOf, h, hN, e2, e3]
  have hp' := Lib.hid hp
  clear hp
  have m1 := may_yes h
  have hd : decide (x < 0) = false := by simp; omega
  have hl1 := dec_len20 (u := N / 10000) (by omega)
  have hl2 := frac_len (N % 10000)
  have ha2 : ∀ w' : World, (Op.stringOp .add ⟨#[46]⟩ ⟨(frac (N % 10000)).toArray⟩).run Tryz.prog w' = .ok (.string ⟨(46 :: frac (N % 10000)).toArray⟩) w' := fun w' => run_string_add_lists (P := Tryz.prog) w' [46] (frac (N % 10000)) (by decide) (by omega)
  have ha3 : ∀ w' : World, (Op.stringOp .add ⟨(Lib.decDigits (N / 10000)).toArray⟩ ⟨(46 :: frac (N % 10000)).toArray⟩).run Tryz.prog w' = .ok (.string ⟨(Lib.decDigits (N / 10000) ++ 46 :: frac (N % 10000)).toArray⟩) w' := fun w' => run_string_add_lists (P := Tryz.prog) w' (Lib.decDigits (N / 10000)) (46 :: frac (N % 10000)) (by first | omega | (simp; omega)) (by simp; omega)
  have h5 : Lib.decDigits (10000 + N % 10000) = 49 :: four (N % 10000) := dec_five (by omega)
  have hx1 : (⟨(49 :: four (N % 10000)).toArray⟩ : ByteArray).extract 1 ((four (N % 10000)).length + 1) = ⟨(four (N % 10000)).toArray⟩ := by
    apply ByteArray.ext
    simp [four]
  have h5' := Lib.hid h5
  clear h5
  have hN' := Lib.hid hN
  clear hN h
  go_enter Tryz.func28, Tryz.ntmps28
  go_wp2_with (first | (go_at_call 60; refine (dmay_any _ (by first | assumption | (constructor <;> omega)) _).mono ?_; rintro e w1 ⟨rfl, rfl⟩) | (go_at_call 61; refine (size_nat x N hx hN'.out _).mono ?_; rintro e w1 ⟨rfl, rfl⟩))
  rw [show ((N : Int) / 10000) = ((N / 10000 : Nat) : Int) from by omega]
  refine (fmtU_any _ (by omega) _ ht).mono ?_
  rintro e w1 ⟨rfl, hb1⟩
  have ht1 := Tab.below ht hb1
  have z1 := hb1.size
  go_wp2_with fail
  rw [show (10000 + (N : Int) % 10000) = ((10000 + N % 10000 : Nat) : Int) from by omega]
  refine (fmtU_any _ (by omega) _ ht1).mono ?_
  rintro e w2 ⟨rfl, hb2⟩
  rw [h5'.out]
  go_wp2_with fail
  refine (Tryz.strings_TrimRight_one ⟨(four (N % 10000)).toArray⟩ 48 (by decide) _ (by show (four (N % 10000)).toArray.size ≤ _; simp [four])).mono ?_
  rintro e w3 ⟨rfl, rfl⟩
  rw [show Lib.trimRightB (⟨(four (N % 10000)).toArray⟩ : ByteArray).data.toList 48 = frac (N % 10000) from by simp [frac]]
  go_wp2
  go_ret
  exact ⟨by rw [hp'.out]; rfl, by (repeat (first | (with_reducible exact Below.refl _ _) | (with_reducible refine Below.alloc ?_ (by first | omega | (dsimp only; omega) | (simp <;> omega)) _) | (with_reducible refine Below.setCell ?_ (by first | omega | (dsimp only; omega) | (simp <;> omega)) _) | (with_reducible refine Below.drew ?_) | (with_reducible refine below_drewN ?_ _) | (with_reducible refine Below.trans ?_ (Below.mono (by assumption) (by first | omega | (dsimp only; omega) | (simp <;> omega))))))⟩
set_option maxHeartbeats 1000000 in
theorem dprint2 (x : Int) (hx : -9223372036854775808 ≤ x ∧ x ≤ 9223372036854775807) (h : x ≠ -9223372036854775808) (hs : x < 0) (N : Nat) (hN : x.natAbs = N) (hN1 : N ≤ 9223372036854775807) (hr : N % 10000 = 0) (w : World) (ht : Tab w) : Calls Tryz.prog 28 #[.int .i64 x] w fun e w' => e = .returned (.string ⟨(printL x).toArray⟩) ∧ Below w.heap.size w w' := by
  have hp : printL x = 45 :: (Lib.decDigits (N / 10000)) := by
    have e2 : decide (x < 0) = true := by simp; omega
    have e3 : N % 10000 = 0 := hr
    simp [printL, textOf, h, hN, e2, e3]
  have hp' := Lib.hid hp
  clear hp
  have m1 := may_yes h
  have hd : decide (x < 0) = true := by simp; omega
  have hl1 := dec_len20 (u := N / 10000) (by omega)
  have hl2 := frac_len (N % 10000)
  have ha1 : ∀ w' : World, (Op.stringOp .add ⟨#[45]⟩ ⟨(Lib.decDigits (N / 10000)).toArray⟩).run Tryz.prog w' = .ok (.string ⟨(45 :: Lib.decDigits (N / 10000)).toArray⟩) w' := fun w' => run_string_add_lists (P := Tryz.prog) w' [45] (Lib.decDigits (N / 10000)) (by decide) (by omega)
  have hN' := Lib.hid hN
  clear hN h
  go_enter Tryz.func28, Tryz.ntmps28
  go_wp2_with (first | (go_at_call 60; refine (dmay_any _ (by first | assumption | (constructor <;> omega)) _).mono ?_; rintro e w1 ⟨rfl, rfl⟩) | (go_at_call 61; refine (size_nat x N hx hN'.out _).mono ?_; rintro e w1 ⟨rfl, rfl⟩))
  rw [show ((N : Int) / 10000) = ((N / 10000 : Nat) : Int) from by omega]
  refine (fmtU_any _ (by omega) _ ht).mono ?_
  rintro e w1 ⟨rfl, hb1⟩
  have ht1 := Tab.below ht hb1
  have z1 := hb1.size
  go_wp2
  go_ret
  exact ⟨by rw [hp'.out]; rfl, hb1⟩
set_option maxHeartbeats 1000000 in
theorem dprint3 (x : Int) (hx : -9223372036854775808 ≤ x ∧ x ≤ 9223372036854775807) (h : x ≠ -9223372036854775808) (hs : x < 0) (N : Nat) (hN : x.natAbs = N) (hN1 : N ≤ 9223372036854775807) (hr : 0 < N % 10000) (w : World) (ht : Tab w) : Calls Tryz.prog 28 #[.int .i64 x] w fun e w' => e = .returned (.string ⟨(printL x).toArray⟩) ∧ Below w.heap.size w w' := by
  have hp : printL x = 45 :: (Lib.decDigits (N / 10000) ++ 46 :: frac (N % 10000)) := by
    have e2 : decide (x < 0) = true := by simp; omega
    have e3 : ¬ N % 10000 = 0 := by omega
    simp [printL, textOf, h, hN, e2, e3]
  have hp' := Lib.hid hp
  clear hp
  have m1 := may_yes h
  have hd : decide (x < 0) = true := by simp; omega
  have hl1 := dec_len20 (u := N / 10000) (by omega)
  have hl2 := frac_len (N % 10000)
  have ha1 : ∀ w' : World, (Op.stringOp .add ⟨#[45]⟩ ⟨(Lib.decDigits (N / 10000)).toArray⟩).run Tryz.prog w' = .ok (.string ⟨(45 :: Lib.decDigits (N / 10000)).toArray⟩) w' := fun w' => run_string_add_lists (P := Tryz.prog) w' [45] (Lib.decDigits (N / 10000)) (by decide) (by omega)
  have ha2 : ∀ w' : World, (Op.stringOp .add ⟨#[46]⟩ ⟨(frac (N % 10000)).toArray⟩).run Tryz.prog w' = .ok (.string ⟨(46 :: frac (N % 10000)).toArray⟩) w' := fun w' => run_string_add_lists (P := Tryz.prog) w' [46] (frac (N % 10000)) (by decide) (by omega)
  have ha3 : ∀ w' : World, (Op.stringOp .add ⟨(45 :: Lib.decDigits (N / 10000)).toArray⟩ ⟨(46 :: frac (N % 10000)).toArray⟩).run Tryz.prog w' = .ok (.string ⟨(45 :: Lib.decDigits (N / 10000) ++ 46 :: frac (N % 10000)).toArray⟩) w' := fun w' => run_string_add_lists (P := Tryz.prog) w' (45 :: Lib.decDigits (N / 10000)) (46 :: frac (N % 10000)) (by first | omega | (simp; omega)) (by simp; omega)
  have h5 : Lib.decDigits (10000 + N % 10000) = 49 :: four (N % 10000) := dec_five (by omega)
  have hx1 : (⟨(49 :: four (N % 10000)).toArray⟩ : ByteArray).extract 1 ((four (N % 10000)).length + 1) = ⟨(four (N % 10000)).toArray⟩ := by
    apply ByteArray.ext
    simp [four]
  have h5' := Lib.hid h5
  clear h5
  have hN' := Lib.hid hN
  clear hN h
  go_enter Tryz.func28, Tryz.ntmps28
  go_wp2_with (first | (go_at_call 60; refine (dmay_any _ (by first | assumption | (constructor <;> omega)) _).mono ?_; rintro e w1 ⟨rfl, rfl⟩) | (go_at_call 61; refine (size_nat x N hx hN'.out _).mono ?_; rintro e w1 ⟨rfl, rfl⟩))
  rw [show ((N : Int) / 10000) = ((N / 10000 : Nat) : Int) from by omega]
  refine (fmtU_any _ (by omega) _ ht).mono ?_
  rintro e w1 ⟨rfl, hb1⟩
  have ht1 := Tab.below ht hb1
  have z1 := hb1.size
  go_wp2_with fail
  rw [show (10000 + (N : Int) % 10000) = ((10000 + N % 10000 : Nat) : Int) from by omega]
  refine (fmtU_any _ (by omega) _ ht1).mono ?_
  rintro e w2 ⟨rfl, hb2⟩
  rw [h5'.out]
  go_wp2_with fail
  refine (Tryz.strings_TrimRight_one ⟨(four (N % 10000)).toArray⟩ 48 (by decide) _ (by show (four (N % 10000)).toArray.size ≤ _; simp [four])).mono ?_
  rintro e w3 ⟨rfl, rfl⟩
  rw [show Lib.trimRightB (⟨(four (N % 10000)).toArray⟩ : ByteArray).data.toList 48 = frac (N % 10000) from by simp [frac]]
  go_wp2
  go_ret
  exact ⟨by rw [hp'.out]; rfl, by (repeat (first | (with_reducible exact Below.refl _ _) | (with_reducible refine Below.alloc ?_ (by first | omega | (dsimp only; omega) | (simp <;> omega)) _) | (with_reducible refine Below.setCell ?_ (by first | omega | (dsimp only; omega) | (simp <;> omega)) _) | (with_reducible refine Below.drew ?_) | (with_reducible refine below_drewN ?_ _) | (with_reducible refine Below.trans ?_ (Below.mono (by assumption) (by first | omega | (dsimp only; omega) | (simp <;> omega))))))⟩
theorem dprint_any (x : Int) (hx : -9223372036854775808 ≤ x ∧ x ≤ 9223372036854775807) (w : World) (ht : Tab w) : Calls Tryz.prog 28 #[.int .i64 x] w fun e w' => e = .returned (.string ⟨(printL x).toArray⟩) ∧ Below w.heap.size w w' := by
  by_cases h : x = -9223372036854775808
  · exact dprint_no x h w
  have hN1 : x.natAbs ≤ 9223372036854775807 := by omega
  by_cases hs : x < 0 <;> by_cases hr : x.natAbs % 10000 = 0
  · exact dprint2 x hx h hs _ rfl hN1 hr w ht
  · exact dprint3 x hx h hs _ rfl hN1 (by omega) w ht
  · exact dprint0 x hx h (by omega) _ rfl hN1 hr w ht
  · exact dprint1 x hx h (by omega) _ rfl hN1 (by omega) w ht
end Go.Proofs.YtfbkoieodflcpaaGreatDoor
