/-
  aggs: COUNT, COUNTA, BLANKS, COUNTIF, ROWS, COLS behind their names; what may be, told plainly.
-/
import Derived.Test.YtaomlgpakbjegaaGreatDoorRows
import Derived.Test.YtaomlgpakbjegaaGreatDoorBase
import Derived.Test.YtaomlgpakbjegaaGreatDoorRowB
import Derived.Test.YtaomlgpakbjegaaGreatDoorMg5
import Derived.Test.YtaomlgpakbjegaaGreatDoorValA
import Derived.Test.YtaomlgpakbjegaaGreatDoorValB
import Derived.Test.YtaomlgpakbjegaaGreatDoorValC
import Derived.Test.YtaomlgpakbjegaaGreatDoorAddrC
import Derived.Test.YtaomlgpakbjegaaGreatDoorMg10
import Derived.Test.YtaomlgpakbjegaaGreatDoorMapK
import Derived.Test.YtaomlgpakbjegaaGreatDoorAArg
import Derived.Test.YtaomlgpakbjegaaGreatDoorProg
import Derived.Test.YtaomlgpakbjegaaGreatDoorMg3
import Derived.Test.YtaomlgpakbjegaaGreatDoorShelf
import Derived.Test.YtaomlgpakbjegaaGreatDoorMg2
import Derived.Test.YtaomlgpakbjegaaGreatDoorMg12
import Derived.Test.YtaomlgpakbjegaaGreatDoorDPrint
import Derived.Test.YtaomlgpakbjegaaGreatDoorRPr
import Derived.Test.YtaomlgpakbjegaaGreatDoorKnuth
import Derived.Test.YtaomlgpakbjegaaGreatDoorDDiv
import Derived.Test.YtaomlgpakbjegaaGreatDoorDDig
import Derived.Test.YtaomlgpakbjegaaGreatDoorCutW
import Derived.Test.YtaomlgpakbjegaaGreatDoorDParse
import Derived.Test.YtaomlgpakbjegaaGreatDoorDecK
import Derived.Test.YtaomlgpakbjegaaGreatDoorDDivA
import Derived.Test.YtaomlgpakbjegaaGreatDoorValD
import Derived.Test.YtaomlgpakbjegaaGreatDoorMg23
import Derived.Test.YtaomlgpakbjegaaGreatDoorValL
import Derived.Test.YtaomlgpakbjegaaGreatDoorMg25
import Derived.Test.YtaomlgpakbjegaaGreatDoorAItm
import Derived.Test.YtaomlgpakbjegaaGreatDoorAAmo
import Derived.Test.YtaomlgpakbjegaaGreatDoorASum
import Derived.Test.YtaomlgpakbjegaaGreatDoorAFind
import Derived.Test.YtaomlgpakbjegaaGreatDoorACall
import Derived.Test.YtaomlgpakbjegaaGreatDoorACallB
import Derived.Test.YtaomlgpakbjegaaGreatDoorANum
import Derived.Test.YtaomlgpakbjegaaGreatDoorALar
import Derived.Test.YtaomlgpakbjegaaGreatDoorACol
import Derived.Test.YtaomlgpakbjegaaGreatDoorMg40
import Derived.Test.YtaomlgpakbjegaaGreatDoorACnt
import Derived.Test.YtaomlgpakbjegaaGreatDoorACif
import Derived.Test.YtaomlgpakbjegaaGreatDoorAClo
import Derived.Test.YtaomlgpakbjegaaGreatDoorAKn
import Derived.WalkSpells
import Derived.WalkLawsBesides
import Derived.StillTactics
import Derived.Laws.Pointers
import Derived.Deep.RegionHeld3
import Derived.Deep.QuietTactic
import Derived.BigQuiet
import Derived.RowKit3
import Derived.Lib.Hide
import Derived.Lib.OthersKept
import Derived.OwnWalk
import Derived.Lib.IndexLaws
import Derived.Lib.ItoaMem
import Derived.WalkKit
import Derived.ProofKit
import Derived.OpenShut
import Derived.Carry
import Derived.ChangeSame
import Derived.Deep.Draws
import Derived.Maps.OwnSet
import Derived.Maps.AppendAt
import Derived.Shelf.SlGeneric
import Derived.Shelf.SortM.Plain
import Derived.Shelf.SortM.SortNone
import Derived.Ground.SlgmProg
import Derived.Laws.EntriesVeiled
import Derived.Laws.BitsAllLaws
import Derived.Shelf.Strings.Builder1
import Derived.Shelf.Strings.Builder2
import Derived.Shelf.Strings.OnBuilder
import Derived.Shelf.Strings.Trim
import Derived.Shelf.Small.Utf8
import Derived.Shelf.Small.Bits
import Derived.Shelf.Small.Strs
import Derived.Shelf.Small.Wraps
import Derived.Shelf.Strings.BuilderF
import Derived.Shelf.Strings.BuilderK
import Derived.Shelf.Strconv.Itoa0
import Derived.Shelf.Strconv.Itoa1
import Derived.Shelf.LaysM
import Derived.Shelf.Strconv.Itoa2
import Derived.Ground.MpProg
import Derived.Shelf.Pu.ParseUintPublic10
import Derived.Shelf.Strings.Search1
import Derived.Shelf.Strings.Search2
import Derived.Shelf.Strings.Search3
import Derived.Shelf.Strings.Cut
import Derived.Shelf.Strings.Shaped
import Derived.Shelf.Strings.Prefix
import Derived.Shelf.Strings.Runes
import Derived.Shelf.Strings.AsciiSet
import Derived.Shelf.Bits.Mul64
import Derived.Shelf.Strings.Repeat
import Derived.Shelf.Unicode.DecodeSlow
import Derived.Lib.TrimByte
import Derived.Lib.Bytealg
import Derived.Lib.SlTrimSet
import Derived.Lib.ParseIntB
import Derived.Shelf.Strings.SlTrimAscii
import Derived.Lib.SmallJoins
import Derived.Deep.RegionWith
import Derived.Laws.Externs
import Derived.IntWalk
import Derived.Sort.OwnSorted
import Derived.Sort.OwnSortedInts
import Derived.Deep.AppendLies
import Derived.Deep.RegionLaw
namespace Go.Proofs.YtaomlgpakbjegaaGreatDoor
open Go.RowKit

set_option maxRecDepth 100000 in
theorem ata_COUNT (l : List AL) (hlen : l.length ≤ 16) (hN : (itemsL l).length ≤ 2932031007402) (text : Int) : DoA ⟨#[67, 79, 85, 78, 84]⟩ l text (numL (((itemsL l).countP (fun v => decide (v.t = 1)) : Nat) * 10000)) := ⟨fun w bl base kd lo hi d A cap hlk hBx hTab hcap hR hin => by
  have e : lookL aZero (aTab bl) ⟨#[67, 79, 85, 78, 84]⟩ = .agg #[.string ⟨#[120]⟩, .int .i64 1, .int .i64 16, .func (.func 195) #[] #[.pointer (some ⟨bl.getD 10 0, 0, none⟩)]] := by kernel_rfl
  have hd := fourth_of (e.symm.trans hlk)
  exact ⟨195, #[.pointer (some ⟨bl.getD 10 0, 0, none⟩)], hd.symm, fun _ _ => by simp [go_sem], acnt_any l (by omega) hN text w A cap hR hin (bl.getD 10 0) 131 (hBx (bl.getD 10 0, .func (.func 131) #[] #[]) (by simp [aSrc])).2 (fun _ _ => by simp [go_sem]) (fun v => decide (v.t = 1)) (fun x z hz w => aisn_any x z hz w)⟩⟩
set_option maxRecDepth 100000 in
theorem ata_COUNTA (l : List AL) (hlen : l.length ≤ 16) (hN : (itemsL l).length ≤ 2932031007402) (text : Int) : DoA ⟨#[67, 79, 85, 78, 84, 65]⟩ l text (numL (((itemsL l).countP (fun v => !decide (v.t = 0)) : Nat) * 10000)) := ⟨fun w bl base kd lo hi d A cap hlk hBx hTab hcap hR hin => by
  have e : lookL aZero (aTab bl) ⟨#[67, 79, 85, 78, 84, 65]⟩ = .agg #[.string ⟨#[120]⟩, .int .i64 1, .int .i64 16, .func (.func 195) #[] #[.pointer (some ⟨bl.getD 11 0, 0, none⟩)]] := by kernel_rfl
  have hd := fourth_of (e.symm.trans hlk)
  exact ⟨195, #[.pointer (some ⟨bl.getD 11 0, 0, none⟩)], hd.symm, fun _ _ => by simp [go_sem], acnt_any l (by omega) hN text w A cap hR hin (bl.getD 11 0) 132 (hBx (bl.getD 11 0, .func (.func 132) #[] #[]) (by simp [aSrc])).2 (fun _ _ => by simp [go_sem]) (fun v => !decide (v.t = 0)) (fun x z hz w => aisv_any x z hz w)⟩⟩
set_option maxRecDepth 100000 in
theorem ata_BLANKS (x0 : AL) (hm : mayRectB x0.t x0.l x0.b x0.r = true) (hlen : x0.es.length ≤ 2932031007402) (text : Int) : DoA ⟨#[66, 76, 65, 78, 75, 83]⟩ [x0] text (cifL x0 v0) := ⟨fun w bl base kd lo hi d A cap hlk hBx hTab hcap hR hin => by
  have e : lookL aZero (aTab bl) ⟨#[66, 76, 65, 78, 75, 83]⟩ = .agg #[.string ⟨#[114]⟩, .int .i64 1, .int .i64 1, .func (.func 133) #[] #[]] := by kernel_rfl
  have hd := fourth_of (e.symm.trans hlk)
  exact ⟨133, #[], hd.symm, fun _ _ => by simp [go_sem], ablanks_any x0 hm hlen text w A cap hR hin⟩⟩
set_option maxRecDepth 100000 in
theorem ata_COUNTIF (x0 x1 : AL) (hm : mayRectB x0.t x0.l x0.b x0.r = true) (hlen : x0.es.length ≤ 2932031007402) (text : Int) : DoA ⟨#[67, 79, 85, 78, 84, 73, 70]⟩ [x0, x1] text (cifL x0 x1.v) := ⟨fun w bl base kd lo hi d A cap hlk hBx hTab hcap hR hin => by
  have e : lookL aZero (aTab bl) ⟨#[67, 79, 85, 78, 84, 73, 70]⟩ = .agg #[.string ⟨#[114, 118]⟩, .int .i64 2, .int .i64 2, .func (.func 135) #[] #[]] := by kernel_rfl
  have hd := fourth_of (e.symm.trans hlk)
  exact ⟨135, #[], hd.symm, fun _ _ => by simp [go_sem], acountif_any x0 x1 hm hlen text w A cap hR hin⟩⟩
set_option maxRecDepth 100000 in
theorem ata_ROWS (x0 : AL) (hm : mayRectB x0.t x0.l x0.b x0.r = true) (text : Int) : DoA ⟨#[82, 79, 87, 83]⟩ [x0] text (numL (rowsL x0 * 10000)) := ⟨fun w bl base kd lo hi d A cap hlk hBx hTab hcap hR hin => by
  have e : lookL aZero (aTab bl) ⟨#[82, 79, 87, 83]⟩ = .agg #[.string ⟨#[114]⟩, .int .i64 1, .int .i64 1, .func (.func 141) #[] #[]] := by kernel_rfl
  have hd := fourth_of (e.symm.trans hlk)
  exact ⟨141, #[], hd.symm, fun _ _ => by simp [go_sem], arowsf_any x0 hm text w A cap hR hin⟩⟩
set_option maxRecDepth 100000 in
theorem ata_COLS (x0 : AL) (hm : mayRectB x0.t x0.l x0.b x0.r = true) (text : Int) : DoA ⟨#[67, 79, 76, 83]⟩ [x0] text (numL (colsL x0 * 10000)) := ⟨fun w bl base kd lo hi d A cap hlk hBx hTab hcap hR hin => by
  have e : lookL aZero (aTab bl) ⟨#[67, 79, 76, 83]⟩ = .agg #[.string ⟨#[114]⟩, .int .i64 1, .int .i64 1, .func (.func 144) #[] #[]] := by kernel_rfl
  have hd := fourth_of (e.symm.trans hlk)
  exact ⟨144, #[], hd.symm, fun _ _ => by simp [go_sem], acolsf_any x0 hm text w A cap hR hin⟩⟩
theorem may_parts {x : AL} (h : x.many = true) (hm : argMay x = true) : mayRectB x.t x.l x.b x.r = true ∧ x.v.t = 0 ∧ entsOk x = true := by
  unfold argMay at hm
  rw [if_pos h] at hm
  simp only [Bool.and_eq_true] at hm
  refine ⟨hm.1.1, ?_, hm.2⟩
  have h2 := hm.1.2
  unfold vZero vEq at h2
  simp only [Bool.and_eq_true, decide_eq_true_eq] at h2
  exact h2.1.1.1.1
theorem ent_parts {x : AL} (h : entsOk x = true) (k : Nat) (e : EL) (he : x.es[k]? = some e) : inB x.t x.l x.b x.r e.r e.c = true ∧ e.v.may = true ∧ (∀ j d, k = j + 1 → x.es[j]? = some d → befB d.r d.c e.r e.c = true) := by
  unfold entsOk at h
  have h2 := (List.all_eq_true.1 h) k (List.mem_range.2 (List.getElem?_eq_some_iff.1 he).1)
  unfold entOk at h2
  rw [he] at h2
  simp only [Bool.and_eq_true] at h2
  refine ⟨h2.1.1, h2.1.2, ?_⟩
  intro j d hk hd
  subst hk
  have h3 := h2.2
  simp only [hd] at h3
  exact h3
theorem ent_key {x : AL} (hm : mayRectB x.t x.l x.b x.r = true) (h : entsOk x = true) : ∀ (k : Nat) (e : EL), x.es[k]? = some e → (k : Int) ≤ e.r * 16384 + e.c ∧ e.r ≤ 1048576 ∧ 0 ≤ e.r ∧ 0 ≤ e.c ∧ e.c ≤ 16384 := by
  obtain ⟨h1, h2, h3, h4, h5, h6⟩ := rect_in hm
  intro k
  induction k with
  | zero =>
    intro e he
    obtain ⟨a1, -, -⟩ := ent_parts h 0 e he
    unfold inB at a1
    simp only [Bool.and_eq_true, decide_eq_true_eq] at a1
    refine ⟨?_, ?_, ?_, ?_, ?_⟩ <;> omega
  | succ k ih =>
    intro e he
    obtain ⟨a1, -, a3⟩ := ent_parts h (k + 1) e he
    unfold inB at a1
    simp only [Bool.and_eq_true, decide_eq_true_eq] at a1
    obtain ⟨d, hd⟩ : ∃ d, x.es[k]? = some d := ⟨_, List.getElem?_eq_getElem (by have := (List.getElem?_eq_some_iff.1 he).1; omega)⟩
    obtain ⟨i1, i2, i3, i4, i5⟩ := ih d hd
    have b := a3 k d rfl hd
    unfold befB at b
    simp only [Bool.or_eq_true, Bool.and_eq_true, decide_eq_true_eq] at b
    refine ⟨?_, ?_, ?_, ?_, ?_⟩ <;> omega
theorem ent_len {x : AL} (hm : mayRectB x.t x.l x.b x.r = true) (h : entsOk x = true) : x.es.length ≤ 17179900000 := by
  rcases Nat.eq_zero_or_pos x.es.length with h0 | h0
  · omega
  · obtain ⟨a, b, c, d, e⟩ := ent_key hm h (x.es.length - 1) _ (List.getElem?_eq_getElem (by omega))
    omega
theorem blank_iff {v : VL} (h : v.may = true) : v.eqv v0 = decide (v.t = 0) := by
  unfold VL.may vMay at h
  simp only [Bool.and_eq_true, Bool.or_eq_true, decide_eq_true_eq, Bool.not_eq_true'] at h
  unfold VL.eqv vEq v0
  by_cases ht : v.t = 0
  · obtain ⟨⟨⟨⟨⟨⟨⟨g1, g2⟩, g3⟩, g4⟩, g5⟩, g6⟩, g7⟩, g8⟩ := h
    have e1 : v.n = 0 := by rcases g3 with h9 | h9; omega; exact h9
    have e2 : v.s = ⟨#[]⟩ := by rcases g4 with h9 | h9; omega; exact h9
    have e3 : v.b = false := by rcases g5 with h9 | h9; omega; exact h9
    have e4 : v.c = 0 := by rcases g6 with h9 | h9; omega; exact h9
    simp [ht, e1, e2, e3, e4]
  · simp [ht]
/-- of a rectangle the Blank cells and the others are all -/
theorem cnt_split {x : AL} (h : entsOk x = true) : ((x.es.countP fun e => e.v.eqv v0) : Nat) + (x.es.map EL.v).countP (fun v => !decide (v.t = 0)) = x.es.length := by
  rw [List.countP_map, List.length_eq_countP_add_countP (p := fun e : EL => e.v.eqv v0)]
  congr 1
  apply List.countP_congr
  intro e he
  obtain ⟨k, hk⟩ := List.getElem?_of_mem he
  obtain ⟨-, h2, -⟩ := ent_parts h k e hk
  simp [blank_iff h2]
theorem cnt_le (l : List VL) : l.countP (fun v => decide (v.t = 1)) ≤ l.countP (fun v => !decide (v.t = 0)) := by
  apply List.countP_mono_left
  intro v _ h
  simp at h
  simp [h]
theorem items_many {x : AL} (h : x.many = true) : itemsL [x] = x.es.map EL.v := by
  simp [itemsL, itemsX, h]
theorem numL_form {y : Int} (h : y ≠ -9223372036854775808) : numL y = ⟨1, y, ⟨#[]⟩, false, 0⟩ := by
  unfold numL numT numN numF
  rw [if_neg h, if_neg h, if_neg h]
theorem ArgsC.below {w w' : World} {v : Value} {l : List AL} (h : ArgsC w v l) (hb : Below w.heap.size w w') : ArgsC w' v l := by
  obtain ⟨A, cap, e, hc, hR, hin⟩ := h
  exact ⟨A, cap, e, hc, (hR.below hb).mono hb.size, fun x hx => ((hin x hx).below hb).mono hb.size⟩
theorem kx_BLANKS {w : World} {v : Value} (x : AL) (hm : x.many = true) (hy : argMay x = true) (hTab : Tab w) (hv : ArgsC w v [x]) : Calls Tryz.prog 27 #[.string ⟨#[66, 76, 65, 78, 75, 83]⟩, v, .int .i64 0] w fun e w' => e = .returned (.agg #[.int .i64 ((cifL x v0)).t, .int .i64 ((cifL x v0)).n, .string ((cifL x v0)).s, .bool ((cifL x v0)).b, .int .i64 ((cifL x v0)).c]) ∧ Below w.heap.size w w' := by
  obtain ⟨m1, m2, m3⟩ := may_parts hm hy
  have hlen := ent_len m1 m3
  have hN : (itemsL [x]).length ≤ 2932031007402 := by rw [items_many hm, List.length_map]; omega
  exact lacall_any (name := ⟨#[66, 76, 65, 78, 75, 83]⟩) (text := 0) (by decide) (by simp) (by omega) (by simp [hy]) (by rw [show ([x].map fun x => x.many) = [true] by simp [hm]]; decide +kernel) (by intro z hz; simp at hz; subst hz; omega) (ata_BLANKS x m1 (by omega) 0) hTab hv
theorem kx_COUNTIF {w : World} {v : Value} (x y : AL) (hm : x.many = true) (hy : argMay x = true) (ym : y.many = false) (yy : argMay y = true) (y4 : ¬ y.v.t = 4) (hTab : Tab w) (hv : ArgsC w v [x, y]) : Calls Tryz.prog 27 #[.string ⟨#[67, 79, 85, 78, 84, 73, 70]⟩, v, .int .i64 0] w fun e w' => e = .returned (.agg #[.int .i64 ((cifL x y.v)).t, .int .i64 ((cifL x y.v)).n, .string ((cifL x y.v)).s, .bool ((cifL x y.v)).b, .int .i64 ((cifL x y.v)).c]) ∧ Below w.heap.size w w' := by
  obtain ⟨m1, m2, m3⟩ := may_parts hm hy
  have hlen := ent_len m1 m3
  have hN : (itemsL [x]).length ≤ 2932031007402 := by rw [items_many hm, List.length_map]; omega
  exact lacall_any (name := ⟨#[67, 79, 85, 78, 84, 73, 70]⟩) (text := 0) (by decide) (by simp) (by omega) (by simp [hy, yy]) (by rw [show ([x, y].map fun x => x.many) = [true, false] by simp [hm, ym]]; decide +kernel) (by intro z hz; simp at hz; rcases hz with rfl | rfl; omega; exact y4) (ata_COUNTIF x y m1 (by omega) 0) hTab hv
theorem kx_ROWS {w : World} {v : Value} (x : AL) (hm : x.many = true) (hy : argMay x = true) (hTab : Tab w) (hv : ArgsC w v [x]) : Calls Tryz.prog 27 #[.string ⟨#[82, 79, 87, 83]⟩, v, .int .i64 0] w fun e w' => e = .returned (.agg #[.int .i64 ((numL (rowsL x * 10000))).t, .int .i64 ((numL (rowsL x * 10000))).n, .string ((numL (rowsL x * 10000))).s, .bool ((numL (rowsL x * 10000))).b, .int .i64 ((numL (rowsL x * 10000))).c]) ∧ Below w.heap.size w w' := by
  obtain ⟨m1, m2, m3⟩ := may_parts hm hy
  have hlen := ent_len m1 m3
  have hN : (itemsL [x]).length ≤ 2932031007402 := by rw [items_many hm, List.length_map]; omega
  exact lacall_any (name := ⟨#[82, 79, 87, 83]⟩) (text := 0) (by decide) (by simp) (by omega) (by simp [hy]) (by rw [show ([x].map fun x => x.many) = [true] by simp [hm]]; decide +kernel) (by intro z hz; simp at hz; subst hz; omega) (ata_ROWS x m1 0) hTab hv
theorem kx_COLS {w : World} {v : Value} (x : AL) (hm : x.many = true) (hy : argMay x = true) (hTab : Tab w) (hv : ArgsC w v [x]) : Calls Tryz.prog 27 #[.string ⟨#[67, 79, 76, 83]⟩, v, .int .i64 0] w fun e w' => e = .returned (.agg #[.int .i64 ((numL (colsL x * 10000))).t, .int .i64 ((numL (colsL x * 10000))).n, .string ((numL (colsL x * 10000))).s, .bool ((numL (colsL x * 10000))).b, .int .i64 ((numL (colsL x * 10000))).c]) ∧ Below w.heap.size w w' := by
  obtain ⟨m1, m2, m3⟩ := may_parts hm hy
  have hlen := ent_len m1 m3
  have hN : (itemsL [x]).length ≤ 2932031007402 := by rw [items_many hm, List.length_map]; omega
  exact lacall_any (name := ⟨#[67, 79, 76, 83]⟩) (text := 0) (by decide) (by simp) (by omega) (by simp [hy]) (by rw [show ([x].map fun x => x.many) = [true] by simp [hm]]; decide +kernel) (by intro z hz; simp at hz; subst hz; omega) (ata_COLS x m1 0) hTab hv
theorem kx_COUNT {w : World} {v : Value} (x : AL) (hm : x.many = true) (hy : argMay x = true) (hTab : Tab w) (hv : ArgsC w v [x]) : Calls Tryz.prog 27 #[.string ⟨#[67, 79, 85, 78, 84]⟩, v, .int .i64 0] w fun e w' => e = .returned (.agg #[.int .i64 ((numL (((itemsL [x]).countP (fun v => decide (v.t = 1)) : Nat) * 10000))).t, .int .i64 ((numL (((itemsL [x]).countP (fun v => decide (v.t = 1)) : Nat) * 10000))).n, .string ((numL (((itemsL [x]).countP (fun v => decide (v.t = 1)) : Nat) * 10000))).s, .bool ((numL (((itemsL [x]).countP (fun v => decide (v.t = 1)) : Nat) * 10000))).b, .int .i64 ((numL (((itemsL [x]).countP (fun v => decide (v.t = 1)) : Nat) * 10000))).c]) ∧ Below w.heap.size w w' := by
  obtain ⟨m1, m2, m3⟩ := may_parts hm hy
  have hlen := ent_len m1 m3
  have hN : (itemsL [x]).length ≤ 2932031007402 := by rw [items_many hm, List.length_map]; omega
  exact lacall_any (name := ⟨#[67, 79, 85, 78, 84]⟩) (text := 0) (by decide) (by simp) (by omega) (by simp [hy]) (by rw [show ([x].map fun x => x.many) = [true] by simp [hm]]; decide +kernel) (by intro z hz; simp at hz; subst hz; omega) (ata_COUNT [x] (by simp) hN 0) hTab hv
theorem kx_COUNTA {w : World} {v : Value} (x : AL) (hm : x.many = true) (hy : argMay x = true) (hTab : Tab w) (hv : ArgsC w v [x]) : Calls Tryz.prog 27 #[.string ⟨#[67, 79, 85, 78, 84, 65]⟩, v, .int .i64 0] w fun e w' => e = .returned (.agg #[.int .i64 ((numL (((itemsL [x]).countP (fun v => !decide (v.t = 0)) : Nat) * 10000))).t, .int .i64 ((numL (((itemsL [x]).countP (fun v => !decide (v.t = 0)) : Nat) * 10000))).n, .string ((numL (((itemsL [x]).countP (fun v => !decide (v.t = 0)) : Nat) * 10000))).s, .bool ((numL (((itemsL [x]).countP (fun v => !decide (v.t = 0)) : Nat) * 10000))).b, .int .i64 ((numL (((itemsL [x]).countP (fun v => !decide (v.t = 0)) : Nat) * 10000))).c]) ∧ Below w.heap.size w w' := by
  obtain ⟨m1, m2, m3⟩ := may_parts hm hy
  have hlen := ent_len m1 m3
  have hN : (itemsL [x]).length ≤ 2932031007402 := by rw [items_many hm, List.length_map]; omega
  exact lacall_any (name := ⟨#[67, 79, 85, 78, 84, 65]⟩) (text := 0) (by decide) (by simp) (by omega) (by simp [hy]) (by rw [show ([x].map fun x => x.many) = [true] by simp [hm]]; decide +kernel) (by intro z hz; simp at hz; subst hz; omega) (ata_COUNTA [x] (by simp) hN 0) hTab hv
end Go.Proofs.YtaomlgpakbjegaaGreatDoor
