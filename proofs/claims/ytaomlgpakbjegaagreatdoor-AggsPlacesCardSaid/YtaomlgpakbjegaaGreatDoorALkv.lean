/-
  aggs: lookup, three arguments (LOOKUP).
-/
import Derived.Test.YtaomlgpakbjegaaGreatDoorRows
import Derived.Test.YtaomlgpakbjegaaGreatDoorBase
import Derived.Test.YtaomlgpakbjegaaGreatDoorRowB
import Derived.Test.YtaomlgpakbjegaaGreatDoorMg4
import Derived.Test.YtaomlgpakbjegaaGreatDoorValA
import Derived.Test.YtaomlgpakbjegaaGreatDoorValB
import Derived.Test.YtaomlgpakbjegaaGreatDoorValC
import Derived.Test.YtaomlgpakbjegaaGreatDoorAddrC
import Derived.Test.YtaomlgpakbjegaaGreatDoorAddrI
import Derived.Test.YtaomlgpakbjegaaGreatDoorMapK
import Derived.Test.YtaomlgpakbjegaaGreatDoorArgK
import Derived.Test.YtaomlgpakbjegaaGreatDoorAArg
import Derived.Test.YtaomlgpakbjegaaGreatDoorProg
import Derived.Test.YtaomlgpakbjegaaGreatDoorShelfB
import Derived.Test.YtaomlgpakbjegaaGreatDoorDFlo
import Derived.Test.YtaomlgpakbjegaaGreatDoorMg1
import Derived.Test.YtaomlgpakbjegaaGreatDoorMg15
import Derived.Test.YtaomlgpakbjegaaGreatDoorValL
import Derived.Test.YtaomlgpakbjegaaGreatDoorNCallK
import Derived.Test.YtaomlgpakbjegaaGreatDoorAItm
import Derived.Test.YtaomlgpakbjegaaGreatDoorAAmo
import Derived.Test.YtaomlgpakbjegaaGreatDoorASum
import Derived.Test.YtaomlgpakbjegaaGreatDoorAFind
import Derived.Test.YtaomlgpakbjegaaGreatDoorACall
import Derived.Test.YtaomlgpakbjegaaGreatDoorACallB
import Derived.Test.YtaomlgpakbjegaaGreatDoorANum
import Derived.Test.YtaomlgpakbjegaaGreatDoorAInt
import Derived.Test.YtaomlgpakbjegaaGreatDoorALar
import Derived.Test.YtaomlgpakbjegaaGreatDoorACol
import Derived.Test.YtaomlgpakbjegaaGreatDoorAAt
import Derived.Test.YtaomlgpakbjegaaGreatDoorACnt
import Derived.Test.YtaomlgpakbjegaaGreatDoorACif
import Derived.Test.YtaomlgpakbjegaaGreatDoorMg31
import Derived.Test.YtaomlgpakbjegaaGreatDoorAKn
import Derived.Test.YtaomlgpakbjegaaGreatDoorAPlc
import Derived.Test.YtaomlgpakbjegaaGreatDoorAHld
import Derived.Test.YtaomlgpakbjegaaGreatDoorAAlk
import Derived.Test.YtaomlgpakbjegaaGreatDoorALku
import Derived.Outline
import Derived.Deep.CutRange
import Derived.Deep.CutBlock
import Derived.Maps.AppendAt
import Derived.WalkSpells
import Derived.WalkLawsBesides
import Derived.StillTactics
import Derived.Laws.Pointers
import Derived.Deep.RegionHeld3
import Derived.Deep.QuietTactic
import Derived.BigQuiet
import Derived.RowKit3
import Derived.Lib.Hide
import Derived.Lib.OthersKept
import Derived.OwnWalk
import Derived.Lib.IndexLaws
import Derived.Lib.ItoaMem
import Derived.WalkKit
import Derived.ProofKit
import Derived.OpenShut
import Derived.Carry
import Derived.ChangeSame
import Derived.Deep.Draws
import Derived.Maps.OwnSet
import Derived.Shelf.SlGeneric
import Derived.Shelf.SortM.Plain
import Derived.Shelf.SortM.SortNone
import Derived.Ground.SlgmProg
import Derived.Laws.EntriesVeiled
import Derived.Laws.BitsAllLaws
import Derived.Shelf.Strings.Builder1
import Derived.Shelf.Strings.Builder2
import Derived.Shelf.Strings.OnBuilder
import Derived.Shelf.Strings.Trim
import Derived.Shelf.Small.Utf8
import Derived.Shelf.Small.Bits
import Derived.Shelf.Small.Strs
import Derived.Shelf.Small.Wraps
import Derived.Shelf.Strings.BuilderF
import Derived.Shelf.Strings.BuilderK
import Derived.Shelf.Strconv.Itoa0
import Derived.Shelf.Strconv.Itoa1
import Derived.Shelf.LaysM
import Derived.Shelf.Strconv.Itoa2
import Derived.Ground.MpProg
import Derived.Shelf.Pu.ParseUintPublic10
import Derived.Shelf.Strings.Search1
import Derived.Shelf.Strings.Search2
import Derived.Shelf.Strings.Search3
import Derived.Shelf.Strings.Cut
import Derived.Shelf.Strings.Shaped
import Derived.Shelf.Strings.Prefix
import Derived.Shelf.Strings.Runes
import Derived.Shelf.Strings.AsciiSet
import Derived.Shelf.Bits.Mul64
import Derived.Shelf.Strings.Repeat
import Derived.Shelf.Unicode.DecodeSlow
import Derived.Lib.TrimByte
import Derived.Lib.Bytealg
import Derived.Lib.SlTrimSet
import Derived.Lib.ParseIntB
import Derived.Shelf.Strings.SlTrimAscii
import Derived.Lib.SmallJoins
import Derived.Deep.RegionWith
import Derived.Laws.Externs
import Derived.IntWalk
import Derived.Sort.OwnSorted
import Derived.Sort.OwnSortedInts
import Derived.Deep.AppendLies
import Derived.Deep.RegionLaw
namespace Go.Proofs.YtaomlgpakbjegaaGreatDoor
open Go.RowKit

set_option maxRecDepth 100000 in
set_option maxHeartbeats 8000000 in
theorem alook3 (x0 x1 x2 : AL) (hm1 : mayRectB x1.t x1.l x1.b x1.r = true) (he1 : entsOk x1 = true) (hm2 : mayRectB x2.t x2.l x2.b x2.r = true) (he2 : entsOk x2 = true) (text : Int) (w : World) (A : Option Addr) (cap : Nat) (hR : RdB w w.heap.size A 11 ([x0, x1, x2].map AL.cs)) (hin : ∀ x ∈ [x0, x1, x2], x.In w w.heap.size) : Calls Tryz.prog 137 #[.slice A 3 cap, .int .i64 text] w fun e w' => e = .returned (.agg #[.int .i64 ((if ((decide (1 < rowsL x1) && decide (1 < colsL x1)) || !(decide (rowsL x1 = rowsL x2) && decide (colsL x1 = colsL x2))) = true then errL 8 else lookR3 x0.v x1 x2)).t, .int .i64 ((if ((decide (1 < rowsL x1) && decide (1 < colsL x1)) || !(decide (rowsL x1 = rowsL x2) && decide (colsL x1 = colsL x2))) = true then errL 8 else lookR3 x0.v x1 x2)).n, .string ((if ((decide (1 < rowsL x1) && decide (1 < colsL x1)) || !(decide (rowsL x1 = rowsL x2) && decide (colsL x1 = colsL x2))) = true then errL 8 else lookR3 x0.v x1 x2)).s, .bool ((if ((decide (1 < rowsL x1) && decide (1 < colsL x1)) || !(decide (rowsL x1 = rowsL x2) && decide (colsL x1 = colsL x2))) = true then errL 8 else lookR3 x0.v x1 x2)).b, .int .i64 ((if ((decide (1 < rowsL x1) && decide (1 < colsL x1)) || !(decide (rowsL x1 = rowsL x2) && decide (colsL x1 = colsL x2))) = true then errL 8 else lookR3 x0.v x1 x2)).c]) ∧ Below w.heap.size w w' := by
  have b0 : Below w.heap.size w (w.alloc (.cells #[.int .i64 0, .int .i64 0, .string ⟨#[]⟩, .bool false, .int .i64 0] 26)) := (Below.refl _ _).alloc (Nat.le_refl _) _
  obtain ⟨ab, ao, hA2, hab, hcell⟩ := hR 0 x0.cs rfl
  obtain rfl : A = some ⟨ab, ao, none⟩ := hA2
  have hx0_1 : w.cell? ⟨ab, ao + 1, none⟩ = some (.int .i64 x0.v.t) := by have h9 := hcell 1 _ rfl; simpa using h9
  have hx0_2 : w.cell? ⟨ab, ao + 2, none⟩ = some (.int .i64 x0.v.n) := by have h9 := hcell 2 _ rfl; simpa using h9
  have hx0_3 : w.cell? ⟨ab, ao + 3, none⟩ = some (.string x0.v.s) := by have h9 := hcell 3 _ rfl; simpa using h9
  have hx0_4 : w.cell? ⟨ab, ao + 4, none⟩ = some (.bool x0.v.b) := by have h9 := hcell 4 _ rfl; simpa using h9
  have hx0_5 : w.cell? ⟨ab, ao + 5, none⟩ = some (.int .i64 x0.v.c) := by have h9 := hcell 5 _ rfl; simpa using h9
  have hcell1 : ∀ (j : Nat) (u : Value), x1.cs[j]? = some u → w.cell? ⟨ab, ao + 1 * 11 + j, none⟩ = some u := by
    obtain ⟨ab2, ao2, hA3, _, hcell1⟩ := hR 1 x1.cs rfl
    cases hA3
    exact hcell1
  have hx1_0 : w.cell? ⟨ab, ao + 11, none⟩ = some (.bool x1.many) := by have h9 := hcell1 0 _ rfl; simpa using h9
  have hx1_1 : w.cell? ⟨ab, ao + 11 + 1, none⟩ = some (.int .i64 x1.v.t) := by have h9 := hcell1 1 _ rfl; simpa using h9
  have hx1_2 : w.cell? ⟨ab, ao + 11 + 2, none⟩ = some (.int .i64 x1.v.n) := by have h9 := hcell1 2 _ rfl; simpa using h9
  have hx1_3 : w.cell? ⟨ab, ao + 11 + 3, none⟩ = some (.string x1.v.s) := by have h9 := hcell1 3 _ rfl; simpa using h9
  have hx1_4 : w.cell? ⟨ab, ao + 11 + 4, none⟩ = some (.bool x1.v.b) := by have h9 := hcell1 4 _ rfl; simpa using h9
  have hx1_5 : w.cell? ⟨ab, ao + 11 + 5, none⟩ = some (.int .i64 x1.v.c) := by have h9 := hcell1 5 _ rfl; simpa using h9
  have hx1_6 : w.cell? ⟨ab, ao + 11 + 6, none⟩ = some (.int .i64 x1.t) := by have h9 := hcell1 6 _ rfl; simpa using h9
  have hx1_7 : w.cell? ⟨ab, ao + 11 + 7, none⟩ = some (.int .i64 x1.l) := by have h9 := hcell1 7 _ rfl; simpa using h9
  have hx1_8 : w.cell? ⟨ab, ao + 11 + 8, none⟩ = some (.int .i64 x1.b) := by have h9 := hcell1 8 _ rfl; simpa using h9
  have hx1_9 : w.cell? ⟨ab, ao + 11 + 9, none⟩ = some (.int .i64 x1.r) := by have h9 := hcell1 9 _ rfl; simpa using h9
  have hx1_10 : w.cell? ⟨ab, ao + 11 + 10, none⟩ = some (.slice x1.A x1.es.length x1.cap) := by have h9 := hcell1 10 _ rfl; simpa using h9
  clear hcell1
  have hcell2 : ∀ (j : Nat) (u : Value), x2.cs[j]? = some u → w.cell? ⟨ab, ao + 2 * 11 + j, none⟩ = some u := by
    obtain ⟨ab2, ao2, hA3, _, hcell2⟩ := hR 2 x2.cs rfl
    cases hA3
    exact hcell2
  have hx2_0 : w.cell? ⟨ab, ao + 22, none⟩ = some (.bool x2.many) := by have h9 := hcell2 0 _ rfl; simpa using h9
  have hx2_1 : w.cell? ⟨ab, ao + 22 + 1, none⟩ = some (.int .i64 x2.v.t) := by have h9 := hcell2 1 _ rfl; simpa using h9
  have hx2_2 : w.cell? ⟨ab, ao + 22 + 2, none⟩ = some (.int .i64 x2.v.n) := by have h9 := hcell2 2 _ rfl; simpa using h9
  have hx2_3 : w.cell? ⟨ab, ao + 22 + 3, none⟩ = some (.string x2.v.s) := by have h9 := hcell2 3 _ rfl; simpa using h9
  have hx2_4 : w.cell? ⟨ab, ao + 22 + 4, none⟩ = some (.bool x2.v.b) := by have h9 := hcell2 4 _ rfl; simpa using h9
  have hx2_5 : w.cell? ⟨ab, ao + 22 + 5, none⟩ = some (.int .i64 x2.v.c) := by have h9 := hcell2 5 _ rfl; simpa using h9
  have hx2_6 : w.cell? ⟨ab, ao + 22 + 6, none⟩ = some (.int .i64 x2.t) := by have h9 := hcell2 6 _ rfl; simpa using h9
  have hx2_7 : w.cell? ⟨ab, ao + 22 + 7, none⟩ = some (.int .i64 x2.l) := by have h9 := hcell2 7 _ rfl; simpa using h9
  have hx2_8 : w.cell? ⟨ab, ao + 22 + 8, none⟩ = some (.int .i64 x2.b) := by have h9 := hcell2 8 _ rfl; simpa using h9
  have hx2_9 : w.cell? ⟨ab, ao + 22 + 9, none⟩ = some (.int .i64 x2.r) := by have h9 := hcell2 9 _ rfl; simpa using h9
  have hx2_10 : w.cell? ⟨ab, ao + 22 + 10, none⟩ = some (.slice x2.A x2.es.length x2.cap) := by have h9 := hcell2 10 _ rfl; simpa using h9
  clear hcell2
  have hne : ab ≠ w.heap.size := by omega
  obtain ⟨q1, q2, q3, q4, q5, q6⟩ := rect_in hm1
  obtain ⟨R, hRr⟩ : ∃ R, rowsL x1 = R := ⟨_, rfl⟩
  obtain ⟨C, hCc⟩ : ∃ C, colsL x1 = C := ⟨_, rfl⟩
  have hRb : 1 ≤ R ∧ R ≤ 1048576 := by unfold rowsL at hRr; omega
  have hCb : 1 ≤ C ∧ C ≤ 16384 := by unfold colsL at hCc; omega
  have CR : ∀ w, Hid (Calls Tryz.prog 143 #[.agg #[.bool x1.many, .int .i64 x1.v.t, .int .i64 x1.v.n, .string x1.v.s, .bool x1.v.b, .int .i64 x1.v.c, .int .i64 x1.t, .int .i64 x1.l, .int .i64 x1.b, .int .i64 x1.r, .slice x1.A x1.es.length x1.cap]] w fun e w' => e = .returned (.int .i64 R) ∧ Below w.heap.size w w') := fun w => Lib.hid (by rw [← hRr]; exact arows_any x1 hm1 w)
  have CC : ∀ w, Hid (Calls Tryz.prog 145 #[.agg #[.bool x1.many, .int .i64 x1.v.t, .int .i64 x1.v.n, .string x1.v.s, .bool x1.v.b, .int .i64 x1.v.c, .int .i64 x1.t, .int .i64 x1.l, .int .i64 x1.b, .int .i64 x1.r, .slice x1.A x1.es.length x1.cap]] w fun e w' => e = .returned (.int .i64 C) ∧ Below w.heap.size w w') := fun w => Lib.hid (by rw [← hCc]; exact acols_any x1 hm1 w)
  have hin1 := Lib.hid (hin x1 (by simp))
  have CH : ∀ w1, Below w.heap.size w w1 → Hid (Calls Tryz.prog 197 #[.agg #[.bool x1.many, .int .i64 x1.v.t, .int .i64 x1.v.n, .string x1.v.s, .bool x1.v.b, .int .i64 x1.v.c, .int .i64 x1.t, .int .i64 x1.l, .int .i64 x1.b, .int .i64 x1.r, .slice x1.A x1.es.length x1.cap]] w1 fun e w' => (∃ b, e = .returned (.map (some b)) ∧ w1.heap.size ≤ b ∧ OwnP w' b (heldL x1)) ∧ Below w1.heap.size w1 w') := fun w1 h1 => Lib.hid (aheld_any x1 hm1 he1 w1 ((hin1.out.below h1).mono h1.size))
  have hin2 := Lib.hid (hin x2 (by simp))
  have CH2 : ∀ w1, Below w.heap.size w w1 → Hid (Calls Tryz.prog 197 #[.agg #[.bool x2.many, .int .i64 x2.v.t, .int .i64 x2.v.n, .string x2.v.s, .bool x2.v.b, .int .i64 x2.v.c, .int .i64 x2.t, .int .i64 x2.l, .int .i64 x2.b, .int .i64 x2.r, .slice x2.A x2.es.length x2.cap]] w1 fun e w' => (∃ b, e = .returned (.map (some b)) ∧ w1.heap.size ≤ b ∧ OwnP w' b (heldL x2)) ∧ Below w1.heap.size w1 w') := fun w1 h1 => Lib.hid (aheld_any x2 hm2 he2 w1 ((hin2.out.below h1).mono h1.size))
  obtain ⟨al, hal⟩ : ∃ al, (decide (rowsL x1 = rowsL x2) && decide (colsL x1 = colsL x2)) = al := ⟨_, rfl⟩
  have CAl : ∀ w, Hid (Calls Tryz.prog 196 #[.agg #[.bool x1.many, .int .i64 x1.v.t, .int .i64 x1.v.n, .string x1.v.s, .bool x1.v.b, .int .i64 x1.v.c, .int .i64 x1.t, .int .i64 x1.l, .int .i64 x1.b, .int .i64 x1.r, .slice x1.A x1.es.length x1.cap], .agg #[.bool x2.many, .int .i64 x2.v.t, .int .i64 x2.v.n, .string x2.v.s, .bool x2.v.b, .int .i64 x2.v.c, .int .i64 x2.t, .int .i64 x2.l, .int .i64 x2.b, .int .i64 x2.r, .slice x2.A x2.es.length x2.cap]] w fun e w' => e = .returned (.bool al) ∧ Below w.heap.size w w') := fun w => Lib.hid (by rw [← hal]; exact aalike_any x1 x2 hm1 hm2 w)
  obtain ⟨rs, hres⟩ : ∃ r, (if ((decide (1 < rowsL x1) && decide (1 < colsL x1)) || !(decide (rowsL x1 = rowsL x2) && decide (colsL x1 = colsL x2))) = true then errL 8 else lookR3 x0.v x1 x2) = r := ⟨_, rfl⟩
  rw [hres]
  obtain ⟨bad, hbad0⟩ : ∃ bad, ((decide (1 < rowsL x1) && decide (1 < colsL x1)) || !(decide (rowsL x1 = rowsL x2) && decide (colsL x1 = colsL x2))) = bad := ⟨_, rfl⟩
  rw [hbad0] at hres
  have hres' := Lib.hid hres
  clear hres
  rw [hal, hRr, hCc] at hbad0
  have hbad := Lib.hid hbad0
  have hP1 : 1 ≤ R * C ∧ R * C ≤ 17179869184 := ⟨by have := Int.mul_le_mul hRb.1 hCb.1 (by omega) (by omega); simpa using this, by have := Int.mul_le_mul hRb.2 hCb.2 (by omega) (by omega); simpa using this⟩
  obtain ⟨N, hN⟩ : ∃ N : Nat, R * C = (N : Int) := ⟨(R * C).toNat, by omega⟩
  have hwN : IntKind.i64.wrap (R * C) = (N : Int) := by rw [hN]; exact IntWalk.i64_in _ (by omega)
  have hNb : N ≤ 17179869184 := by omega
  have hfr : Hid (Ffirst x0.v x1 N = firstF x0.v x1) := Lib.hid (by unfold firstF; rw [hRr, hCc, hN, Int.toNat_natCast])
  have hRr' := Lib.hid hRr
  have hCc' := Lib.hid hCc
  clear hcell hR hin hbad0 hRr hCc hm1 he1 q1 q2 q3 q4 q5 q6 hN hP1 hal hm2 he2
  go_enter Tryz.func137, Tryz.ntmps137
  go_upto_region 1 with (fail)
  go_cut [5, 6] from 10 to 16 (fun a b wc => ∃ P Q, a = .pointer (some ⟨P, 0, none⟩) ∧ b = .pointer (some ⟨Q, 0, none⟩) ∧ w.heap.size + 1 ≤ P ∧ w.heap.size + 1 ≤ Q ∧ wc.heap[P]? = some (.cells #[.int .i64 x0.v.t, .int .i64 x0.v.n, .string x0.v.s, .bool x0.v.b, .int .i64 x0.v.c] 26 (0, 0)) ∧ wc.heap[Q]? = some (.cells #[.bool x1.many, .int .i64 x1.v.t, .int .i64 x1.v.n, .string x1.v.s, .bool x1.v.b, .int .i64 x1.v.c, .int .i64 x1.t, .int .i64 x1.l, .int .i64 x1.b, .int .i64 x1.r, .slice x1.A x1.es.length x1.cap] 38 (0, 0)) ∧ Below (w.heap.size + 1) (w.alloc (.cells #[.int .i64 0, .int .i64 0, .string ⟨#[]⟩, .bool false, .int .i64 0] 26)) wc)
  case first =>
    refine wp_region_noPanic ?_
    refine wp_region_held_drew (S := fun w' => w'.cell? ⟨ab, ao + 1, none⟩ = some (.int .i64 x0.v.t) ∧ w'.cell? ⟨ab, ao + 2, none⟩ = some (.int .i64 x0.v.n) ∧ w'.cell? ⟨ab, ao + 3, none⟩ = some (.string x0.v.s) ∧ w'.cell? ⟨ab, ao + 4, none⟩ = some (.bool x0.v.b) ∧ w'.cell? ⟨ab, ao + 5, none⟩ = some (.int .i64 x0.v.c) ∧ w'.cell? ⟨ab, ao + 11, none⟩ = some (.bool x1.many) ∧ w'.cell? ⟨ab, ao + 11 + 1, none⟩ = some (.int .i64 x1.v.t) ∧ w'.cell? ⟨ab, ao + 11 + 2, none⟩ = some (.int .i64 x1.v.n) ∧ w'.cell? ⟨ab, ao + 11 + 3, none⟩ = some (.string x1.v.s) ∧ w'.cell? ⟨ab, ao + 11 + 4, none⟩ = some (.bool x1.v.b) ∧ w'.cell? ⟨ab, ao + 11 + 5, none⟩ = some (.int .i64 x1.v.c) ∧ w'.cell? ⟨ab, ao + 11 + 6, none⟩ = some (.int .i64 x1.t) ∧ w'.cell? ⟨ab, ao + 11 + 7, none⟩ = some (.int .i64 x1.l) ∧ w'.cell? ⟨ab, ao + 11 + 8, none⟩ = some (.int .i64 x1.b) ∧ w'.cell? ⟨ab, ao + 11 + 9, none⟩ = some (.int .i64 x1.r) ∧ w'.cell? ⟨ab, ao + 11 + 10, none⟩ = some (.slice x1.A x1.es.length x1.cap) ∧ Below (w.heap.size + 1) (w.alloc (.cells #[.int .i64 0, .int .i64 0, .string ⟨#[]⟩, .bool false, .int .i64 0] 26)) w' ∧ w.heap.size + 1 ≤ w'.heap.size) (by kernel_rfl) (by (try dsimp only); refine ⟨?_, ?_, ?_, ?_, ?_, ?_, ?_, ?_, ?_, ?_, ?_, ?_, ?_, ?_, ?_, ?_, ?_, ?_⟩ <;> first | exact dr_cell hab (by assumption) | exact Below.drew (Below.refl _ _) | (simp; done)) (fun hHeld => ?_)
    generalize (w.alloc (.cells #[.int .i64 0, .int .i64 0, .string ⟨#[]⟩, .bool false, .int .i64 0] 26)).drew = wz at *
    refine wpAnyH_take (i := 0) (oi := ⟨_, _, _, _, _, _⟩) (v := ?v69) rfl (by kernel_rfl) (by kernel_rfl) (by kernel_rfl) (fun _ _ _ h => h) (Or.inl ⟨by rfl, ?hy69⟩) hHeld ?rest69
    case hy69 => (intro w2 hSw; (try dsimp only at hSw); go_split_ands; go_simp; first | done | with_reducible rfl)
    try simp only [Act.put, List.setIfInBounds_toArray, List.set_cons_zero, List.set_cons_succ]
    refine wpAnyH_take (i := 1) (oi := ⟨_, _, _, _, _, _⟩) (v := ?v70) rfl (by kernel_rfl) (by kernel_rfl) (by kernel_rfl) (fun _ _ _ h => h) (Or.inl ⟨by rfl, ?hy70⟩) hHeld ?rest70
    case hy70 => (intro w2 hSw; (try dsimp only at hSw); go_split_ands; go_simp; first | done | with_reducible rfl)
    try simp only [Act.put, List.setIfInBounds_toArray, List.set_cons_zero, List.set_cons_succ]
    refine wpAnyH_take (i := 2) (oi := ⟨_, _, _, _, _, _⟩) (v := ?v71) rfl (by kernel_rfl) (by kernel_rfl) (by kernel_rfl) (fun _ _ _ h => h) (Or.inl ⟨by rfl, ?hy71⟩) hHeld ?rest71
    case hy71 => (intro w2 hSw; (try dsimp only at hSw); go_split_ands; go_simp; first | done | with_reducible rfl)
    try simp only [Act.put, List.setIfInBounds_toArray, List.set_cons_zero, List.set_cons_succ]
    refine wpAnyH_take (i := 3) (oi := ⟨_, _, _, _, _, _⟩) (v := ?v72) rfl (by kernel_rfl) (by kernel_rfl) (by kernel_rfl) (fun _ _ _ h => h) (Or.inl ⟨by rfl, ?hy72⟩) hHeld ?rest72
    case hy72 => (intro w2 hSw; (try dsimp only at hSw); go_split_ands; go_simp; first | done | with_reducible rfl)
    try simp only [Act.put, List.setIfInBounds_toArray, List.set_cons_zero, List.set_cons_succ]
    refine wpAnyH_take (i := 4) (oi := ⟨_, _, _, _, _, _⟩) (v := ?v73) rfl (by kernel_rfl) (by kernel_rfl) (by kernel_rfl) (fun _ _ _ h => h) (Or.inl ⟨by rfl, ?hy73⟩) hHeld ?rest73
    case hy73 => (intro w2 hSw; (try dsimp only at hSw); go_split_ands; go_simp; first | done | with_reducible rfl)
    try simp only [Act.put, List.setIfInBounds_toArray, List.set_cons_zero, List.set_cons_succ]
    refine wpAnyH_take (i := 5) (oi := ⟨_, _, _, _, _, _⟩) (v := ?v74) rfl (by kernel_rfl) (by kernel_rfl) (by kernel_rfl) (fun _ _ _ h => h) (Or.inl ⟨by rfl, ?hy74⟩) hHeld ?rest74
    case hy74 => (intro w2 hSw; (try dsimp only at hSw); go_split_ands; go_simp; first | done | with_reducible rfl)
    try simp only [Act.put, List.setIfInBounds_toArray, List.set_cons_zero, List.set_cons_succ]
    refine wpAnyH_take (i := 6) (oi := ⟨_, _, _, _, _, _⟩) (v := ?v75) rfl (by kernel_rfl) (by kernel_rfl) (by kernel_rfl) (fun _ _ _ h => h) (Or.inl ⟨by rfl, ?hy75⟩) hHeld ?rest75
    case hy75 => (intro w2 hSw; (try dsimp only at hSw); go_split_ands; go_simp; first | done | with_reducible rfl)
    try simp only [Act.put, List.setIfInBounds_toArray, List.set_cons_zero, List.set_cons_succ]
    refine wpAnyH_ready (rs := [7, 8]) (by kernel_rfl) (by simp) ?_
    refine AllReadyH.cons (o := ⟨_, _, _, _, _, _⟩) rfl (fun K hK => ?_) (AllReadyH.cons (o := ⟨_, _, _, _, _, _⟩) rfl (fun K hK => ?_) AllReadyH.nil)
    · go_split_ands
      go_simp
      have hBq : Below (w.heap.size + 1) (w.alloc (.cells #[.int .i64 0, .int .i64 0, .string ⟨#[]⟩, .bool false, .int .i64 0] 26)) wz := by assumption
      have hZq : w.heap.size + 1 ≤ wz.heap.size := by assumption
      have hpP := blk_new wz #[.int .i64 0, .int .i64 0, .string ⟨#[]⟩, .bool false, .int .i64 0] 26
      have hzP : wz.heap.size < (wz.alloc (.cells #[.int .i64 0, .int .i64 0, .string ⟨#[]⟩, .bool false, .int .i64 0] 26)).heap.size := by simp
      refine hK.out _ _ ?_ (fun hHeld => ?_)
      · ((try dsimp only); refine ⟨?_, ?_, ?_, ?_, ?_, ?_, ?_, ?_, ?_, ?_, ?_, ?_, ?_, ?_, ?_, ?_, ?_, ?_⟩ <;> first | exact bx_cellp (by dsimp only; omega) (by assumption) | exact Below.alloc (by assumption) (by omega) _ | (simp; omega))
      clear hK K hBq
      try simp only [Act.put, List.setIfInBounds_toArray, List.set_cons_zero, List.set_cons_succ]
      generalize (wz.alloc (.cells #[.int .i64 0, .int .i64 0, .string ⟨#[]⟩, .bool false, .int .i64 0] 26)) = wn76 at *
      obtain ⟨P, hPe⟩ : ∃ b, wz.heap.size = b := ⟨_, rfl⟩
      rw [hPe] at hpP hzP ⊢
      have hlP : w.heap.size + 1 ≤ P := by omega
      clear hZq hPe
      refine wpAnyH_ready (rs := [8]) (by kernel_rfl) (by simp) ?_
      refine AllReadyH.cons (o := ⟨_, _, _, _, _, _⟩) rfl (fun K hK => ?_) AllReadyH.nil
      go_split_ands
      go_simp
      have hBq : Below (w.heap.size + 1) (w.alloc (.cells #[.int .i64 0, .int .i64 0, .string ⟨#[]⟩, .bool false, .int .i64 0] 26)) wn76 := by assumption
      have hZq : w.heap.size + 1 ≤ wn76.heap.size := by assumption
      have hpQ := blk_new wn76 #[.bool false, .int .i64 0, .int .i64 0, .string ⟨#[]⟩, .bool false, .int .i64 0, .int .i64 0, .int .i64 0, .int .i64 0, .int .i64 0, .slice none 0 0] 38
      have hzQ : wn76.heap.size < (wn76.alloc (.cells #[.bool false, .int .i64 0, .int .i64 0, .string ⟨#[]⟩, .bool false, .int .i64 0, .int .i64 0, .int .i64 0, .int .i64 0, .int .i64 0, .slice none 0 0] 38)).heap.size := by simp
      have hpP := blk_alloc hpP (.cells #[.bool false, .int .i64 0, .int .i64 0, .string ⟨#[]⟩, .bool false, .int .i64 0, .int .i64 0, .int .i64 0, .int .i64 0, .int .i64 0, .slice none 0 0] 38)
      refine hK.out _ _ ?_ (fun hHeld => ?_)
      · ((try dsimp only); refine ⟨?_, ?_, ?_, ?_, ?_, ?_, ?_, ?_, ?_, ?_, ?_, ?_, ?_, ?_, ?_, ?_, ?_, ?_⟩ <;> first | exact bx_cellp (by dsimp only; omega) (by assumption) | exact Below.alloc (by assumption) (by omega) _ | (simp; omega))
      clear hK K hBq
      try simp only [Act.put, List.setIfInBounds_toArray, List.set_cons_zero, List.set_cons_succ]
      generalize (wn76.alloc (.cells #[.bool false, .int .i64 0, .int .i64 0, .string ⟨#[]⟩, .bool false, .int .i64 0, .int .i64 0, .int .i64 0, .int .i64 0, .int .i64 0, .slice none 0 0] 38)) = wn77 at *
      obtain ⟨Q, hQe⟩ : ∃ b, wn76.heap.size = b := ⟨_, rfl⟩
      rw [hQe] at hpQ hzQ ⊢
      have hlQ : w.heap.size + 1 ≤ Q := by omega
      have hne : P ≠ Q := by omega
      clear hZq hQe
      refine wpAnyH_ready (rs := [9]) (by kernel_rfl) (by simp) ?_
      refine AllReadyH.cons (o := ⟨_, _, _, _, _, _⟩) rfl (fun K hK => ?_) AllReadyH.nil
      go_split_ands
      have hcl0 : wn77.cell? ⟨P, 0, none⟩ = some (.int .i64 0) := blk_cell hpP 0
      have hcl1 : wn77.cell? ⟨P, 1, none⟩ = some (.int .i64 0) := blk_cell hpP 1
      have hcl2 : wn77.cell? ⟨P, 2, none⟩ = some (.string ⟨#[]⟩) := blk_cell hpP 2
      have hcl3 : wn77.cell? ⟨P, 3, none⟩ = some (.bool false) := blk_cell hpP 3
      have hcl4 : wn77.cell? ⟨P, 4, none⟩ = some (.int .i64 0) := blk_cell hpP 4
      have hfz0 : wn77.frozen? ⟨P, 0, none⟩ = false := blk_frozen hpP 0
      have hfz1 : wn77.frozen? ⟨P, 1, none⟩ = false := blk_frozen hpP 1
      have hfz2 : wn77.frozen? ⟨P, 2, none⟩ = false := blk_frozen hpP 2
      have hfz3 : wn77.frozen? ⟨P, 3, none⟩ = false := blk_frozen hpP 3
      have hfz4 : wn77.frozen? ⟨P, 4, none⟩ = false := blk_frozen hpP 4
      go_simp
      have hBq : Below (w.heap.size + 1) (w.alloc (.cells #[.int .i64 0, .int .i64 0, .string ⟨#[]⟩, .bool false, .int .i64 0] 26)) wn77 := by assumption
      have hZq : w.heap.size + 1 ≤ wn77.heap.size := by assumption
      have hPab : P ≠ ab := by omega
      clear hcl0 hfz0 hcl1 hfz1 hcl2 hfz2 hcl3 hfz3 hcl4 hfz4
      refine hK.out _ _ ?_ (fun hHeld => ?_)
      · (refine ⟨?_, ?_, ?_, ?_, ?_, ?_, ?_, ?_, ?_, ?_, ?_, ?_, ?_, ?_, ?_, ?_, ?_, ?_⟩ <;> first | exact cell_sc5 hPab (by assumption) | exact below5 hBq hlP | exact size_sc5 hZq)
      clear hK K
      try simp only [Act.put, List.setIfInBounds_toArray, List.set_cons_zero, List.set_cons_succ]
      have hpQ2 : (((((wn77.setCell ⟨P, 0, none⟩ (.int .i64 x0.v.t)).setCell ⟨P, 1, none⟩ (.int .i64 x0.v.n)).setCell ⟨P, 2, none⟩ (.string x0.v.s)).setCell ⟨P, 3, none⟩ (.bool x0.v.b)).setCell ⟨P, 4, none⟩ (.int .i64 x0.v.c)).heap[Q]? = some (.cells #[.bool false, .int .i64 0, .int .i64 0, .string ⟨#[]⟩, .bool false, .int .i64 0, .int .i64 0, .int .i64 0, .int .i64 0, .int .i64 0, .slice none 0 0] 38 (0, 0)) := kfar5 (Ne.symm hne) hpQ
      have hpP2 : (((((wn77.setCell ⟨P, 0, none⟩ (.int .i64 x0.v.t)).setCell ⟨P, 1, none⟩ (.int .i64 x0.v.n)).setCell ⟨P, 2, none⟩ (.string x0.v.s)).setCell ⟨P, 3, none⟩ (.bool x0.v.b)).setCell ⟨P, 4, none⟩ (.int .i64 x0.v.c)).heap[P]? = some (.cells #[.int .i64 x0.v.t, .int .i64 x0.v.n, .string x0.v.s, .bool x0.v.b, .int .i64 x0.v.c] 26 (0, 0)) := row5 hpP
      clear hpP hpQ hBq hZq
      generalize (((((wn77.setCell ⟨P, 0, none⟩ (.int .i64 x0.v.t)).setCell ⟨P, 1, none⟩ (.int .i64 x0.v.n)).setCell ⟨P, 2, none⟩ (.string x0.v.s)).setCell ⟨P, 3, none⟩ (.bool x0.v.b)).setCell ⟨P, 4, none⟩ (.int .i64 x0.v.c)) = wn78 at *
      refine wpAnyH_ready (rs := [10]) (by kernel_rfl) (by simp) ?_
      refine AllReadyH.cons (o := ⟨_, _, _, _, _, _⟩) rfl (fun K hK => ?_) AllReadyH.nil
      go_split_ands
      have hcl0 : wn78.cell? ⟨Q, 0, none⟩ = some (.bool false) := blk_cell hpQ2 0
      have hcl1 : wn78.cell? ⟨Q, 1, none⟩ = some (.int .i64 0) := blk_cell hpQ2 1
      have hcl2 : wn78.cell? ⟨Q, 2, none⟩ = some (.int .i64 0) := blk_cell hpQ2 2
      have hcl3 : wn78.cell? ⟨Q, 3, none⟩ = some (.string ⟨#[]⟩) := blk_cell hpQ2 3
      have hcl4 : wn78.cell? ⟨Q, 4, none⟩ = some (.bool false) := blk_cell hpQ2 4
      have hcl5 : wn78.cell? ⟨Q, 5, none⟩ = some (.int .i64 0) := blk_cell hpQ2 5
      have hcl6 : wn78.cell? ⟨Q, 6, none⟩ = some (.int .i64 0) := blk_cell hpQ2 6
      have hcl7 : wn78.cell? ⟨Q, 7, none⟩ = some (.int .i64 0) := blk_cell hpQ2 7
      have hcl8 : wn78.cell? ⟨Q, 8, none⟩ = some (.int .i64 0) := blk_cell hpQ2 8
      have hcl9 : wn78.cell? ⟨Q, 9, none⟩ = some (.int .i64 0) := blk_cell hpQ2 9
      have hcl10 : wn78.cell? ⟨Q, 10, none⟩ = some (.slice none 0 0) := blk_cell hpQ2 10
      have hfz0 : wn78.frozen? ⟨Q, 0, none⟩ = false := blk_frozen hpQ2 0
      have hfz1 : wn78.frozen? ⟨Q, 1, none⟩ = false := blk_frozen hpQ2 1
      have hfz2 : wn78.frozen? ⟨Q, 2, none⟩ = false := blk_frozen hpQ2 2
      have hfz3 : wn78.frozen? ⟨Q, 3, none⟩ = false := blk_frozen hpQ2 3
      have hfz4 : wn78.frozen? ⟨Q, 4, none⟩ = false := blk_frozen hpQ2 4
      have hfz5 : wn78.frozen? ⟨Q, 5, none⟩ = false := blk_frozen hpQ2 5
      have hfz6 : wn78.frozen? ⟨Q, 6, none⟩ = false := blk_frozen hpQ2 6
      have hfz7 : wn78.frozen? ⟨Q, 7, none⟩ = false := blk_frozen hpQ2 7
      have hfz8 : wn78.frozen? ⟨Q, 8, none⟩ = false := blk_frozen hpQ2 8
      have hfz9 : wn78.frozen? ⟨Q, 9, none⟩ = false := blk_frozen hpQ2 9
      have hfz10 : wn78.frozen? ⟨Q, 10, none⟩ = false := blk_frozen hpQ2 10
      go_simp
      have hBq : Below (w.heap.size + 1) (w.alloc (.cells #[.int .i64 0, .int .i64 0, .string ⟨#[]⟩, .bool false, .int .i64 0] 26)) wn78 := by assumption
      have hZq : w.heap.size + 1 ≤ wn78.heap.size := by assumption
      have hQab : Q ≠ ab := by omega
      clear hcl0 hfz0 hcl1 hfz1 hcl2 hfz2 hcl3 hfz3 hcl4 hfz4 hcl5 hfz5 hcl6 hfz6 hcl7 hfz7 hcl8 hfz8 hcl9 hfz9 hcl10 hfz10
      have hBf : Below (w.heap.size + 1) (w.alloc (.cells #[.int .i64 0, .int .i64 0, .string ⟨#[]⟩, .bool false, .int .i64 0] 26)) (((((((((((wn78.setCell ⟨Q, 0, none⟩ (.bool x1.many)).setCell ⟨Q, 1, none⟩ (.int .i64 x1.v.t)).setCell ⟨Q, 2, none⟩ (.int .i64 x1.v.n)).setCell ⟨Q, 3, none⟩ (.string x1.v.s)).setCell ⟨Q, 4, none⟩ (.bool x1.v.b)).setCell ⟨Q, 5, none⟩ (.int .i64 x1.v.c)).setCell ⟨Q, 6, none⟩ (.int .i64 x1.t)).setCell ⟨Q, 7, none⟩ (.int .i64 x1.l)).setCell ⟨Q, 8, none⟩ (.int .i64 x1.b)).setCell ⟨Q, 9, none⟩ (.int .i64 x1.r)).setCell ⟨Q, 10, none⟩ (.slice x1.A x1.es.length x1.cap)) := below11 hBq hlQ
      have hpQ3 : (((((((((((wn78.setCell ⟨Q, 0, none⟩ (.bool x1.many)).setCell ⟨Q, 1, none⟩ (.int .i64 x1.v.t)).setCell ⟨Q, 2, none⟩ (.int .i64 x1.v.n)).setCell ⟨Q, 3, none⟩ (.string x1.v.s)).setCell ⟨Q, 4, none⟩ (.bool x1.v.b)).setCell ⟨Q, 5, none⟩ (.int .i64 x1.v.c)).setCell ⟨Q, 6, none⟩ (.int .i64 x1.t)).setCell ⟨Q, 7, none⟩ (.int .i64 x1.l)).setCell ⟨Q, 8, none⟩ (.int .i64 x1.b)).setCell ⟨Q, 9, none⟩ (.int .i64 x1.r)).setCell ⟨Q, 10, none⟩ (.slice x1.A x1.es.length x1.cap)).heap[Q]? = some (.cells #[.bool x1.many, .int .i64 x1.v.t, .int .i64 x1.v.n, .string x1.v.s, .bool x1.v.b, .int .i64 x1.v.c, .int .i64 x1.t, .int .i64 x1.l, .int .i64 x1.b, .int .i64 x1.r, .slice x1.A x1.es.length x1.cap] 38 (0, 0)) := row11 hpQ2
      have hpP3 : (((((((((((wn78.setCell ⟨Q, 0, none⟩ (.bool x1.many)).setCell ⟨Q, 1, none⟩ (.int .i64 x1.v.t)).setCell ⟨Q, 2, none⟩ (.int .i64 x1.v.n)).setCell ⟨Q, 3, none⟩ (.string x1.v.s)).setCell ⟨Q, 4, none⟩ (.bool x1.v.b)).setCell ⟨Q, 5, none⟩ (.int .i64 x1.v.c)).setCell ⟨Q, 6, none⟩ (.int .i64 x1.t)).setCell ⟨Q, 7, none⟩ (.int .i64 x1.l)).setCell ⟨Q, 8, none⟩ (.int .i64 x1.b)).setCell ⟨Q, 9, none⟩ (.int .i64 x1.r)).setCell ⟨Q, 10, none⟩ (.slice x1.A x1.es.length x1.cap)).heap[P]? = some (.cells #[.int .i64 x0.v.t, .int .i64 x0.v.n, .string x0.v.s, .bool x0.v.b, .int .i64 x0.v.c] 26 (0, 0)) := kfar11 hne hpP2
      have hk0 : (((((((((((wn78.setCell ⟨Q, 0, none⟩ (.bool x1.many)).setCell ⟨Q, 1, none⟩ (.int .i64 x1.v.t)).setCell ⟨Q, 2, none⟩ (.int .i64 x1.v.n)).setCell ⟨Q, 3, none⟩ (.string x1.v.s)).setCell ⟨Q, 4, none⟩ (.bool x1.v.b)).setCell ⟨Q, 5, none⟩ (.int .i64 x1.v.c)).setCell ⟨Q, 6, none⟩ (.int .i64 x1.t)).setCell ⟨Q, 7, none⟩ (.int .i64 x1.l)).setCell ⟨Q, 8, none⟩ (.int .i64 x1.b)).setCell ⟨Q, 9, none⟩ (.int .i64 x1.r)).setCell ⟨Q, 10, none⟩ (.slice x1.A x1.es.length x1.cap)).cell? ⟨ab, ao + 1, none⟩ = some (.int .i64 x0.v.t) := cell_sc11 hQab (by with_reducible assumption)
      have hk1 : (((((((((((wn78.setCell ⟨Q, 0, none⟩ (.bool x1.many)).setCell ⟨Q, 1, none⟩ (.int .i64 x1.v.t)).setCell ⟨Q, 2, none⟩ (.int .i64 x1.v.n)).setCell ⟨Q, 3, none⟩ (.string x1.v.s)).setCell ⟨Q, 4, none⟩ (.bool x1.v.b)).setCell ⟨Q, 5, none⟩ (.int .i64 x1.v.c)).setCell ⟨Q, 6, none⟩ (.int .i64 x1.t)).setCell ⟨Q, 7, none⟩ (.int .i64 x1.l)).setCell ⟨Q, 8, none⟩ (.int .i64 x1.b)).setCell ⟨Q, 9, none⟩ (.int .i64 x1.r)).setCell ⟨Q, 10, none⟩ (.slice x1.A x1.es.length x1.cap)).cell? ⟨ab, ao + 2, none⟩ = some (.int .i64 x0.v.n) := cell_sc11 hQab (by with_reducible assumption)
      have hk2 : (((((((((((wn78.setCell ⟨Q, 0, none⟩ (.bool x1.many)).setCell ⟨Q, 1, none⟩ (.int .i64 x1.v.t)).setCell ⟨Q, 2, none⟩ (.int .i64 x1.v.n)).setCell ⟨Q, 3, none⟩ (.string x1.v.s)).setCell ⟨Q, 4, none⟩ (.bool x1.v.b)).setCell ⟨Q, 5, none⟩ (.int .i64 x1.v.c)).setCell ⟨Q, 6, none⟩ (.int .i64 x1.t)).setCell ⟨Q, 7, none⟩ (.int .i64 x1.l)).setCell ⟨Q, 8, none⟩ (.int .i64 x1.b)).setCell ⟨Q, 9, none⟩ (.int .i64 x1.r)).setCell ⟨Q, 10, none⟩ (.slice x1.A x1.es.length x1.cap)).cell? ⟨ab, ao + 3, none⟩ = some (.string x0.v.s) := cell_sc11 hQab (by with_reducible assumption)
      have hk3 : (((((((((((wn78.setCell ⟨Q, 0, none⟩ (.bool x1.many)).setCell ⟨Q, 1, none⟩ (.int .i64 x1.v.t)).setCell ⟨Q, 2, none⟩ (.int .i64 x1.v.n)).setCell ⟨Q, 3, none⟩ (.string x1.v.s)).setCell ⟨Q, 4, none⟩ (.bool x1.v.b)).setCell ⟨Q, 5, none⟩ (.int .i64 x1.v.c)).setCell ⟨Q, 6, none⟩ (.int .i64 x1.t)).setCell ⟨Q, 7, none⟩ (.int .i64 x1.l)).setCell ⟨Q, 8, none⟩ (.int .i64 x1.b)).setCell ⟨Q, 9, none⟩ (.int .i64 x1.r)).setCell ⟨Q, 10, none⟩ (.slice x1.A x1.es.length x1.cap)).cell? ⟨ab, ao + 4, none⟩ = some (.bool x0.v.b) := cell_sc11 hQab (by with_reducible assumption)
      have hk4 : (((((((((((wn78.setCell ⟨Q, 0, none⟩ (.bool x1.many)).setCell ⟨Q, 1, none⟩ (.int .i64 x1.v.t)).setCell ⟨Q, 2, none⟩ (.int .i64 x1.v.n)).setCell ⟨Q, 3, none⟩ (.string x1.v.s)).setCell ⟨Q, 4, none⟩ (.bool x1.v.b)).setCell ⟨Q, 5, none⟩ (.int .i64 x1.v.c)).setCell ⟨Q, 6, none⟩ (.int .i64 x1.t)).setCell ⟨Q, 7, none⟩ (.int .i64 x1.l)).setCell ⟨Q, 8, none⟩ (.int .i64 x1.b)).setCell ⟨Q, 9, none⟩ (.int .i64 x1.r)).setCell ⟨Q, 10, none⟩ (.slice x1.A x1.es.length x1.cap)).cell? ⟨ab, ao + 5, none⟩ = some (.int .i64 x0.v.c) := cell_sc11 hQab (by with_reducible assumption)
      have hk5 : (((((((((((wn78.setCell ⟨Q, 0, none⟩ (.bool x1.many)).setCell ⟨Q, 1, none⟩ (.int .i64 x1.v.t)).setCell ⟨Q, 2, none⟩ (.int .i64 x1.v.n)).setCell ⟨Q, 3, none⟩ (.string x1.v.s)).setCell ⟨Q, 4, none⟩ (.bool x1.v.b)).setCell ⟨Q, 5, none⟩ (.int .i64 x1.v.c)).setCell ⟨Q, 6, none⟩ (.int .i64 x1.t)).setCell ⟨Q, 7, none⟩ (.int .i64 x1.l)).setCell ⟨Q, 8, none⟩ (.int .i64 x1.b)).setCell ⟨Q, 9, none⟩ (.int .i64 x1.r)).setCell ⟨Q, 10, none⟩ (.slice x1.A x1.es.length x1.cap)).cell? ⟨ab, ao + 11, none⟩ = some (.bool x1.many) := cell_sc11 hQab (by with_reducible assumption)
      have hk6 : (((((((((((wn78.setCell ⟨Q, 0, none⟩ (.bool x1.many)).setCell ⟨Q, 1, none⟩ (.int .i64 x1.v.t)).setCell ⟨Q, 2, none⟩ (.int .i64 x1.v.n)).setCell ⟨Q, 3, none⟩ (.string x1.v.s)).setCell ⟨Q, 4, none⟩ (.bool x1.v.b)).setCell ⟨Q, 5, none⟩ (.int .i64 x1.v.c)).setCell ⟨Q, 6, none⟩ (.int .i64 x1.t)).setCell ⟨Q, 7, none⟩ (.int .i64 x1.l)).setCell ⟨Q, 8, none⟩ (.int .i64 x1.b)).setCell ⟨Q, 9, none⟩ (.int .i64 x1.r)).setCell ⟨Q, 10, none⟩ (.slice x1.A x1.es.length x1.cap)).cell? ⟨ab, ao + 11 + 1, none⟩ = some (.int .i64 x1.v.t) := cell_sc11 hQab (by with_reducible assumption)
      have hk7 : (((((((((((wn78.setCell ⟨Q, 0, none⟩ (.bool x1.many)).setCell ⟨Q, 1, none⟩ (.int .i64 x1.v.t)).setCell ⟨Q, 2, none⟩ (.int .i64 x1.v.n)).setCell ⟨Q, 3, none⟩ (.string x1.v.s)).setCell ⟨Q, 4, none⟩ (.bool x1.v.b)).setCell ⟨Q, 5, none⟩ (.int .i64 x1.v.c)).setCell ⟨Q, 6, none⟩ (.int .i64 x1.t)).setCell ⟨Q, 7, none⟩ (.int .i64 x1.l)).setCell ⟨Q, 8, none⟩ (.int .i64 x1.b)).setCell ⟨Q, 9, none⟩ (.int .i64 x1.r)).setCell ⟨Q, 10, none⟩ (.slice x1.A x1.es.length x1.cap)).cell? ⟨ab, ao + 11 + 2, none⟩ = some (.int .i64 x1.v.n) := cell_sc11 hQab (by with_reducible assumption)
      have hk8 : (((((((((((wn78.setCell ⟨Q, 0, none⟩ (.bool x1.many)).setCell ⟨Q, 1, none⟩ (.int .i64 x1.v.t)).setCell ⟨Q, 2, none⟩ (.int .i64 x1.v.n)).setCell ⟨Q, 3, none⟩ (.string x1.v.s)).setCell ⟨Q, 4, none⟩ (.bool x1.v.b)).setCell ⟨Q, 5, none⟩ (.int .i64 x1.v.c)).setCell ⟨Q, 6, none⟩ (.int .i64 x1.t)).setCell ⟨Q, 7, none⟩ (.int .i64 x1.l)).setCell ⟨Q, 8, none⟩ (.int .i64 x1.b)).setCell ⟨Q, 9, none⟩ (.int .i64 x1.r)).setCell ⟨Q, 10, none⟩ (.slice x1.A x1.es.length x1.cap)).cell? ⟨ab, ao + 11 + 3, none⟩ = some (.string x1.v.s) := cell_sc11 hQab (by with_reducible assumption)
      have hk9 : (((((((((((wn78.setCell ⟨Q, 0, none⟩ (.bool x1.many)).setCell ⟨Q, 1, none⟩ (.int .i64 x1.v.t)).setCell ⟨Q, 2, none⟩ (.int .i64 x1.v.n)).setCell ⟨Q, 3, none⟩ (.string x1.v.s)).setCell ⟨Q, 4, none⟩ (.bool x1.v.b)).setCell ⟨Q, 5, none⟩ (.int .i64 x1.v.c)).setCell ⟨Q, 6, none⟩ (.int .i64 x1.t)).setCell ⟨Q, 7, none⟩ (.int .i64 x1.l)).setCell ⟨Q, 8, none⟩ (.int .i64 x1.b)).setCell ⟨Q, 9, none⟩ (.int .i64 x1.r)).setCell ⟨Q, 10, none⟩ (.slice x1.A x1.es.length x1.cap)).cell? ⟨ab, ao + 11 + 4, none⟩ = some (.bool x1.v.b) := cell_sc11 hQab (by with_reducible assumption)
      have hk10 : (((((((((((wn78.setCell ⟨Q, 0, none⟩ (.bool x1.many)).setCell ⟨Q, 1, none⟩ (.int .i64 x1.v.t)).setCell ⟨Q, 2, none⟩ (.int .i64 x1.v.n)).setCell ⟨Q, 3, none⟩ (.string x1.v.s)).setCell ⟨Q, 4, none⟩ (.bool x1.v.b)).setCell ⟨Q, 5, none⟩ (.int .i64 x1.v.c)).setCell ⟨Q, 6, none⟩ (.int .i64 x1.t)).setCell ⟨Q, 7, none⟩ (.int .i64 x1.l)).setCell ⟨Q, 8, none⟩ (.int .i64 x1.b)).setCell ⟨Q, 9, none⟩ (.int .i64 x1.r)).setCell ⟨Q, 10, none⟩ (.slice x1.A x1.es.length x1.cap)).cell? ⟨ab, ao + 11 + 5, none⟩ = some (.int .i64 x1.v.c) := cell_sc11 hQab (by with_reducible assumption)
      have hk11 : (((((((((((wn78.setCell ⟨Q, 0, none⟩ (.bool x1.many)).setCell ⟨Q, 1, none⟩ (.int .i64 x1.v.t)).setCell ⟨Q, 2, none⟩ (.int .i64 x1.v.n)).setCell ⟨Q, 3, none⟩ (.string x1.v.s)).setCell ⟨Q, 4, none⟩ (.bool x1.v.b)).setCell ⟨Q, 5, none⟩ (.int .i64 x1.v.c)).setCell ⟨Q, 6, none⟩ (.int .i64 x1.t)).setCell ⟨Q, 7, none⟩ (.int .i64 x1.l)).setCell ⟨Q, 8, none⟩ (.int .i64 x1.b)).setCell ⟨Q, 9, none⟩ (.int .i64 x1.r)).setCell ⟨Q, 10, none⟩ (.slice x1.A x1.es.length x1.cap)).cell? ⟨ab, ao + 11 + 6, none⟩ = some (.int .i64 x1.t) := cell_sc11 hQab (by with_reducible assumption)
      have hk12 : (((((((((((wn78.setCell ⟨Q, 0, none⟩ (.bool x1.many)).setCell ⟨Q, 1, none⟩ (.int .i64 x1.v.t)).setCell ⟨Q, 2, none⟩ (.int .i64 x1.v.n)).setCell ⟨Q, 3, none⟩ (.string x1.v.s)).setCell ⟨Q, 4, none⟩ (.bool x1.v.b)).setCell ⟨Q, 5, none⟩ (.int .i64 x1.v.c)).setCell ⟨Q, 6, none⟩ (.int .i64 x1.t)).setCell ⟨Q, 7, none⟩ (.int .i64 x1.l)).setCell ⟨Q, 8, none⟩ (.int .i64 x1.b)).setCell ⟨Q, 9, none⟩ (.int .i64 x1.r)).setCell ⟨Q, 10, none⟩ (.slice x1.A x1.es.length x1.cap)).cell? ⟨ab, ao + 11 + 7, none⟩ = some (.int .i64 x1.l) := cell_sc11 hQab (by with_reducible assumption)
      have hk13 : (((((((((((wn78.setCell ⟨Q, 0, none⟩ (.bool x1.many)).setCell ⟨Q, 1, none⟩ (.int .i64 x1.v.t)).setCell ⟨Q, 2, none⟩ (.int .i64 x1.v.n)).setCell ⟨Q, 3, none⟩ (.string x1.v.s)).setCell ⟨Q, 4, none⟩ (.bool x1.v.b)).setCell ⟨Q, 5, none⟩ (.int .i64 x1.v.c)).setCell ⟨Q, 6, none⟩ (.int .i64 x1.t)).setCell ⟨Q, 7, none⟩ (.int .i64 x1.l)).setCell ⟨Q, 8, none⟩ (.int .i64 x1.b)).setCell ⟨Q, 9, none⟩ (.int .i64 x1.r)).setCell ⟨Q, 10, none⟩ (.slice x1.A x1.es.length x1.cap)).cell? ⟨ab, ao + 11 + 8, none⟩ = some (.int .i64 x1.b) := cell_sc11 hQab (by with_reducible assumption)
      have hk14 : (((((((((((wn78.setCell ⟨Q, 0, none⟩ (.bool x1.many)).setCell ⟨Q, 1, none⟩ (.int .i64 x1.v.t)).setCell ⟨Q, 2, none⟩ (.int .i64 x1.v.n)).setCell ⟨Q, 3, none⟩ (.string x1.v.s)).setCell ⟨Q, 4, none⟩ (.bool x1.v.b)).setCell ⟨Q, 5, none⟩ (.int .i64 x1.v.c)).setCell ⟨Q, 6, none⟩ (.int .i64 x1.t)).setCell ⟨Q, 7, none⟩ (.int .i64 x1.l)).setCell ⟨Q, 8, none⟩ (.int .i64 x1.b)).setCell ⟨Q, 9, none⟩ (.int .i64 x1.r)).setCell ⟨Q, 10, none⟩ (.slice x1.A x1.es.length x1.cap)).cell? ⟨ab, ao + 11 + 9, none⟩ = some (.int .i64 x1.r) := cell_sc11 hQab (by with_reducible assumption)
      have hk15 : (((((((((((wn78.setCell ⟨Q, 0, none⟩ (.bool x1.many)).setCell ⟨Q, 1, none⟩ (.int .i64 x1.v.t)).setCell ⟨Q, 2, none⟩ (.int .i64 x1.v.n)).setCell ⟨Q, 3, none⟩ (.string x1.v.s)).setCell ⟨Q, 4, none⟩ (.bool x1.v.b)).setCell ⟨Q, 5, none⟩ (.int .i64 x1.v.c)).setCell ⟨Q, 6, none⟩ (.int .i64 x1.t)).setCell ⟨Q, 7, none⟩ (.int .i64 x1.l)).setCell ⟨Q, 8, none⟩ (.int .i64 x1.b)).setCell ⟨Q, 9, none⟩ (.int .i64 x1.r)).setCell ⟨Q, 10, none⟩ (.slice x1.A x1.es.length x1.cap)).cell? ⟨ab, ao + 11 + 10, none⟩ = some (.slice x1.A x1.es.length x1.cap) := cell_sc11 hQab (by with_reducible assumption)
      have hZz : w.heap.size + 1 ≤ (((((((((((wn78.setCell ⟨Q, 0, none⟩ (.bool x1.many)).setCell ⟨Q, 1, none⟩ (.int .i64 x1.v.t)).setCell ⟨Q, 2, none⟩ (.int .i64 x1.v.n)).setCell ⟨Q, 3, none⟩ (.string x1.v.s)).setCell ⟨Q, 4, none⟩ (.bool x1.v.b)).setCell ⟨Q, 5, none⟩ (.int .i64 x1.v.c)).setCell ⟨Q, 6, none⟩ (.int .i64 x1.t)).setCell ⟨Q, 7, none⟩ (.int .i64 x1.l)).setCell ⟨Q, 8, none⟩ (.int .i64 x1.b)).setCell ⟨Q, 9, none⟩ (.int .i64 x1.r)).setCell ⟨Q, 10, none⟩ (.slice x1.A x1.es.length x1.cap)).heap.size := size_sc11 hZq
      clear hBq hZq hpQ2 hpP2
      generalize (((((((((((wn78.setCell ⟨Q, 0, none⟩ (.bool x1.many)).setCell ⟨Q, 1, none⟩ (.int .i64 x1.v.t)).setCell ⟨Q, 2, none⟩ (.int .i64 x1.v.n)).setCell ⟨Q, 3, none⟩ (.string x1.v.s)).setCell ⟨Q, 4, none⟩ (.bool x1.v.b)).setCell ⟨Q, 5, none⟩ (.int .i64 x1.v.c)).setCell ⟨Q, 6, none⟩ (.int .i64 x1.t)).setCell ⟨Q, 7, none⟩ (.int .i64 x1.l)).setCell ⟨Q, 8, none⟩ (.int .i64 x1.b)).setCell ⟨Q, 9, none⟩ (.int .i64 x1.r)).setCell ⟨Q, 10, none⟩ (.slice x1.A x1.es.length x1.cap)) = wq at *
      refine hK.out _ _ ?_ (fun hHeld => ?_)
      · ((try dsimp only); refine ⟨?_, ?_, ?_, ?_, ?_, ?_, ?_, ?_, ?_, ?_, ?_, ?_, ?_, ?_, ?_, ?_, ?_, ?_⟩ <;> with_reducible assumption)
      clear hK K
      refine wpAnyH_done (by kernel_rfl) ?_ _
      refine NoPanic.normal ?_
      go_wp2
      go_meet
      case rel => exact ⟨P, Q, rfl, rfl, hlP, hlQ, hpP3, hpQ3, hBf⟩
    · go_split_ands
      go_simp
      have hBq : Below (w.heap.size + 1) (w.alloc (.cells #[.int .i64 0, .int .i64 0, .string ⟨#[]⟩, .bool false, .int .i64 0] 26)) wz := by assumption
      have hZq : w.heap.size + 1 ≤ wz.heap.size := by assumption
      have hpQ := blk_new wz #[.bool false, .int .i64 0, .int .i64 0, .string ⟨#[]⟩, .bool false, .int .i64 0, .int .i64 0, .int .i64 0, .int .i64 0, .int .i64 0, .slice none 0 0] 38
      have hzQ : wz.heap.size < (wz.alloc (.cells #[.bool false, .int .i64 0, .int .i64 0, .string ⟨#[]⟩, .bool false, .int .i64 0, .int .i64 0, .int .i64 0, .int .i64 0, .int .i64 0, .slice none 0 0] 38)).heap.size := by simp
      refine hK.out _ _ ?_ (fun hHeld => ?_)
      · ((try dsimp only); refine ⟨?_, ?_, ?_, ?_, ?_, ?_, ?_, ?_, ?_, ?_, ?_, ?_, ?_, ?_, ?_, ?_, ?_, ?_⟩ <;> first | exact bx_cellp (by dsimp only; omega) (by assumption) | exact Below.alloc (by assumption) (by omega) _ | (simp; omega))
      clear hK K hBq
      try simp only [Act.put, List.setIfInBounds_toArray, List.set_cons_zero, List.set_cons_succ]
      generalize (wz.alloc (.cells #[.bool false, .int .i64 0, .int .i64 0, .string ⟨#[]⟩, .bool false, .int .i64 0, .int .i64 0, .int .i64 0, .int .i64 0, .int .i64 0, .slice none 0 0] 38)) = wn79 at *
      obtain ⟨Q, hQe⟩ : ∃ b, wz.heap.size = b := ⟨_, rfl⟩
      rw [hQe] at hpQ hzQ ⊢
      have hlQ : w.heap.size + 1 ≤ Q := by omega
      clear hZq hQe
      refine wpAnyH_ready (rs := [7]) (by kernel_rfl) (by simp) ?_
      refine AllReadyH.cons (o := ⟨_, _, _, _, _, _⟩) rfl (fun K hK => ?_) AllReadyH.nil
      go_split_ands
      go_simp
      have hBq : Below (w.heap.size + 1) (w.alloc (.cells #[.int .i64 0, .int .i64 0, .string ⟨#[]⟩, .bool false, .int .i64 0] 26)) wn79 := by assumption
      have hZq : w.heap.size + 1 ≤ wn79.heap.size := by assumption
      have hpP := blk_new wn79 #[.int .i64 0, .int .i64 0, .string ⟨#[]⟩, .bool false, .int .i64 0] 26
      have hzP : wn79.heap.size < (wn79.alloc (.cells #[.int .i64 0, .int .i64 0, .string ⟨#[]⟩, .bool false, .int .i64 0] 26)).heap.size := by simp
      have hpQ := blk_alloc hpQ (.cells #[.int .i64 0, .int .i64 0, .string ⟨#[]⟩, .bool false, .int .i64 0] 26)
      refine hK.out _ _ ?_ (fun hHeld => ?_)
      · ((try dsimp only); refine ⟨?_, ?_, ?_, ?_, ?_, ?_, ?_, ?_, ?_, ?_, ?_, ?_, ?_, ?_, ?_, ?_, ?_, ?_⟩ <;> first | exact bx_cellp (by dsimp only; omega) (by assumption) | exact Below.alloc (by assumption) (by omega) _ | (simp; omega))
      clear hK K hBq
      try simp only [Act.put, List.setIfInBounds_toArray, List.set_cons_zero, List.set_cons_succ]
      generalize (wn79.alloc (.cells #[.int .i64 0, .int .i64 0, .string ⟨#[]⟩, .bool false, .int .i64 0] 26)) = wn80 at *
      obtain ⟨P, hPe⟩ : ∃ b, wn79.heap.size = b := ⟨_, rfl⟩
      rw [hPe] at hpP hzP ⊢
      have hlP : w.heap.size + 1 ≤ P := by omega
      have hne : P ≠ Q := by omega
      clear hZq hPe
      refine wpAnyH_ready (rs := [9]) (by kernel_rfl) (by simp) ?_
      refine AllReadyH.cons (o := ⟨_, _, _, _, _, _⟩) rfl (fun K hK => ?_) AllReadyH.nil
      go_split_ands
      have hcl0 : wn80.cell? ⟨P, 0, none⟩ = some (.int .i64 0) := blk_cell hpP 0
      have hcl1 : wn80.cell? ⟨P, 1, none⟩ = some (.int .i64 0) := blk_cell hpP 1
      have hcl2 : wn80.cell? ⟨P, 2, none⟩ = some (.string ⟨#[]⟩) := blk_cell hpP 2
      have hcl3 : wn80.cell? ⟨P, 3, none⟩ = some (.bool false) := blk_cell hpP 3
      have hcl4 : wn80.cell? ⟨P, 4, none⟩ = some (.int .i64 0) := blk_cell hpP 4
      have hfz0 : wn80.frozen? ⟨P, 0, none⟩ = false := blk_frozen hpP 0
      have hfz1 : wn80.frozen? ⟨P, 1, none⟩ = false := blk_frozen hpP 1
      have hfz2 : wn80.frozen? ⟨P, 2, none⟩ = false := blk_frozen hpP 2
      have hfz3 : wn80.frozen? ⟨P, 3, none⟩ = false := blk_frozen hpP 3
      have hfz4 : wn80.frozen? ⟨P, 4, none⟩ = false := blk_frozen hpP 4
      go_simp
      have hBq : Below (w.heap.size + 1) (w.alloc (.cells #[.int .i64 0, .int .i64 0, .string ⟨#[]⟩, .bool false, .int .i64 0] 26)) wn80 := by assumption
      have hZq : w.heap.size + 1 ≤ wn80.heap.size := by assumption
      have hPab : P ≠ ab := by omega
      clear hcl0 hfz0 hcl1 hfz1 hcl2 hfz2 hcl3 hfz3 hcl4 hfz4
      refine hK.out _ _ ?_ (fun hHeld => ?_)
      · (refine ⟨?_, ?_, ?_, ?_, ?_, ?_, ?_, ?_, ?_, ?_, ?_, ?_, ?_, ?_, ?_, ?_, ?_, ?_⟩ <;> first | exact cell_sc5 hPab (by assumption) | exact below5 hBq hlP | exact size_sc5 hZq)
      clear hK K
      try simp only [Act.put, List.setIfInBounds_toArray, List.set_cons_zero, List.set_cons_succ]
      have hpQ2 : (((((wn80.setCell ⟨P, 0, none⟩ (.int .i64 x0.v.t)).setCell ⟨P, 1, none⟩ (.int .i64 x0.v.n)).setCell ⟨P, 2, none⟩ (.string x0.v.s)).setCell ⟨P, 3, none⟩ (.bool x0.v.b)).setCell ⟨P, 4, none⟩ (.int .i64 x0.v.c)).heap[Q]? = some (.cells #[.bool false, .int .i64 0, .int .i64 0, .string ⟨#[]⟩, .bool false, .int .i64 0, .int .i64 0, .int .i64 0, .int .i64 0, .int .i64 0, .slice none 0 0] 38 (0, 0)) := kfar5 (Ne.symm hne) hpQ
      have hpP2 : (((((wn80.setCell ⟨P, 0, none⟩ (.int .i64 x0.v.t)).setCell ⟨P, 1, none⟩ (.int .i64 x0.v.n)).setCell ⟨P, 2, none⟩ (.string x0.v.s)).setCell ⟨P, 3, none⟩ (.bool x0.v.b)).setCell ⟨P, 4, none⟩ (.int .i64 x0.v.c)).heap[P]? = some (.cells #[.int .i64 x0.v.t, .int .i64 x0.v.n, .string x0.v.s, .bool x0.v.b, .int .i64 x0.v.c] 26 (0, 0)) := row5 hpP
      clear hpP hpQ hBq hZq
      generalize (((((wn80.setCell ⟨P, 0, none⟩ (.int .i64 x0.v.t)).setCell ⟨P, 1, none⟩ (.int .i64 x0.v.n)).setCell ⟨P, 2, none⟩ (.string x0.v.s)).setCell ⟨P, 3, none⟩ (.bool x0.v.b)).setCell ⟨P, 4, none⟩ (.int .i64 x0.v.c)) = wn81 at *
      refine wpAnyH_ready (rs := [10]) (by kernel_rfl) (by simp) ?_
      refine AllReadyH.cons (o := ⟨_, _, _, _, _, _⟩) rfl (fun K hK => ?_) AllReadyH.nil
      go_split_ands
      have hcl0 : wn81.cell? ⟨Q, 0, none⟩ = some (.bool false) := blk_cell hpQ2 0
      have hcl1 : wn81.cell? ⟨Q, 1, none⟩ = some (.int .i64 0) := blk_cell hpQ2 1
      have hcl2 : wn81.cell? ⟨Q, 2, none⟩ = some (.int .i64 0) := blk_cell hpQ2 2
      have hcl3 : wn81.cell? ⟨Q, 3, none⟩ = some (.string ⟨#[]⟩) := blk_cell hpQ2 3
      have hcl4 : wn81.cell? ⟨Q, 4, none⟩ = some (.bool false) := blk_cell hpQ2 4
      have hcl5 : wn81.cell? ⟨Q, 5, none⟩ = some (.int .i64 0) := blk_cell hpQ2 5
      have hcl6 : wn81.cell? ⟨Q, 6, none⟩ = some (.int .i64 0) := blk_cell hpQ2 6
      have hcl7 : wn81.cell? ⟨Q, 7, none⟩ = some (.int .i64 0) := blk_cell hpQ2 7
      have hcl8 : wn81.cell? ⟨Q, 8, none⟩ = some (.int .i64 0) := blk_cell hpQ2 8
      have hcl9 : wn81.cell? ⟨Q, 9, none⟩ = some (.int .i64 0) := blk_cell hpQ2 9
      have hcl10 : wn81.cell? ⟨Q, 10, none⟩ = some (.slice none 0 0) := blk_cell hpQ2 10
      have hfz0 : wn81.frozen? ⟨Q, 0, none⟩ = false := blk_frozen hpQ2 0
      have hfz1 : wn81.frozen? ⟨Q, 1, none⟩ = false := blk_frozen hpQ2 1
      have hfz2 : wn81.frozen? ⟨Q, 2, none⟩ = false := blk_frozen hpQ2 2
      have hfz3 : wn81.frozen? ⟨Q, 3, none⟩ = false := blk_frozen hpQ2 3
      have hfz4 : wn81.frozen? ⟨Q, 4, none⟩ = false := blk_frozen hpQ2 4
      have hfz5 : wn81.frozen? ⟨Q, 5, none⟩ = false := blk_frozen hpQ2 5
      have hfz6 : wn81.frozen? ⟨Q, 6, none⟩ = false := blk_frozen hpQ2 6
      have hfz7 : wn81.frozen? ⟨Q, 7, none⟩ = false := blk_frozen hpQ2 7
      have hfz8 : wn81.frozen? ⟨Q, 8, none⟩ = false := blk_frozen hpQ2 8
      have hfz9 : wn81.frozen? ⟨Q, 9, none⟩ = false := blk_frozen hpQ2 9
      have hfz10 : wn81.frozen? ⟨Q, 10, none⟩ = false := blk_frozen hpQ2 10
      go_simp
      have hBq : Below (w.heap.size + 1) (w.alloc (.cells #[.int .i64 0, .int .i64 0, .string ⟨#[]⟩, .bool false, .int .i64 0] 26)) wn81 := by assumption
      have hZq : w.heap.size + 1 ≤ wn81.heap.size := by assumption
      have hQab : Q ≠ ab := by omega
      clear hcl0 hfz0 hcl1 hfz1 hcl2 hfz2 hcl3 hfz3 hcl4 hfz4 hcl5 hfz5 hcl6 hfz6 hcl7 hfz7 hcl8 hfz8 hcl9 hfz9 hcl10 hfz10
      have hBf : Below (w.heap.size + 1) (w.alloc (.cells #[.int .i64 0, .int .i64 0, .string ⟨#[]⟩, .bool false, .int .i64 0] 26)) (((((((((((wn81.setCell ⟨Q, 0, none⟩ (.bool x1.many)).setCell ⟨Q, 1, none⟩ (.int .i64 x1.v.t)).setCell ⟨Q, 2, none⟩ (.int .i64 x1.v.n)).setCell ⟨Q, 3, none⟩ (.string x1.v.s)).setCell ⟨Q, 4, none⟩ (.bool x1.v.b)).setCell ⟨Q, 5, none⟩ (.int .i64 x1.v.c)).setCell ⟨Q, 6, none⟩ (.int .i64 x1.t)).setCell ⟨Q, 7, none⟩ (.int .i64 x1.l)).setCell ⟨Q, 8, none⟩ (.int .i64 x1.b)).setCell ⟨Q, 9, none⟩ (.int .i64 x1.r)).setCell ⟨Q, 10, none⟩ (.slice x1.A x1.es.length x1.cap)) := below11 hBq hlQ
      have hpQ3 : (((((((((((wn81.setCell ⟨Q, 0, none⟩ (.bool x1.many)).setCell ⟨Q, 1, none⟩ (.int .i64 x1.v.t)).setCell ⟨Q, 2, none⟩ (.int .i64 x1.v.n)).setCell ⟨Q, 3, none⟩ (.string x1.v.s)).setCell ⟨Q, 4, none⟩ (.bool x1.v.b)).setCell ⟨Q, 5, none⟩ (.int .i64 x1.v.c)).setCell ⟨Q, 6, none⟩ (.int .i64 x1.t)).setCell ⟨Q, 7, none⟩ (.int .i64 x1.l)).setCell ⟨Q, 8, none⟩ (.int .i64 x1.b)).setCell ⟨Q, 9, none⟩ (.int .i64 x1.r)).setCell ⟨Q, 10, none⟩ (.slice x1.A x1.es.length x1.cap)).heap[Q]? = some (.cells #[.bool x1.many, .int .i64 x1.v.t, .int .i64 x1.v.n, .string x1.v.s, .bool x1.v.b, .int .i64 x1.v.c, .int .i64 x1.t, .int .i64 x1.l, .int .i64 x1.b, .int .i64 x1.r, .slice x1.A x1.es.length x1.cap] 38 (0, 0)) := row11 hpQ2
      have hpP3 : (((((((((((wn81.setCell ⟨Q, 0, none⟩ (.bool x1.many)).setCell ⟨Q, 1, none⟩ (.int .i64 x1.v.t)).setCell ⟨Q, 2, none⟩ (.int .i64 x1.v.n)).setCell ⟨Q, 3, none⟩ (.string x1.v.s)).setCell ⟨Q, 4, none⟩ (.bool x1.v.b)).setCell ⟨Q, 5, none⟩ (.int .i64 x1.v.c)).setCell ⟨Q, 6, none⟩ (.int .i64 x1.t)).setCell ⟨Q, 7, none⟩ (.int .i64 x1.l)).setCell ⟨Q, 8, none⟩ (.int .i64 x1.b)).setCell ⟨Q, 9, none⟩ (.int .i64 x1.r)).setCell ⟨Q, 10, none⟩ (.slice x1.A x1.es.length x1.cap)).heap[P]? = some (.cells #[.int .i64 x0.v.t, .int .i64 x0.v.n, .string x0.v.s, .bool x0.v.b, .int .i64 x0.v.c] 26 (0, 0)) := kfar11 hne hpP2
      have hk0 : (((((((((((wn81.setCell ⟨Q, 0, none⟩ (.bool x1.many)).setCell ⟨Q, 1, none⟩ (.int .i64 x1.v.t)).setCell ⟨Q, 2, none⟩ (.int .i64 x1.v.n)).setCell ⟨Q, 3, none⟩ (.string x1.v.s)).setCell ⟨Q, 4, none⟩ (.bool x1.v.b)).setCell ⟨Q, 5, none⟩ (.int .i64 x1.v.c)).setCell ⟨Q, 6, none⟩ (.int .i64 x1.t)).setCell ⟨Q, 7, none⟩ (.int .i64 x1.l)).setCell ⟨Q, 8, none⟩ (.int .i64 x1.b)).setCell ⟨Q, 9, none⟩ (.int .i64 x1.r)).setCell ⟨Q, 10, none⟩ (.slice x1.A x1.es.length x1.cap)).cell? ⟨ab, ao + 1, none⟩ = some (.int .i64 x0.v.t) := cell_sc11 hQab (by with_reducible assumption)
      have hk1 : (((((((((((wn81.setCell ⟨Q, 0, none⟩ (.bool x1.many)).setCell ⟨Q, 1, none⟩ (.int .i64 x1.v.t)).setCell ⟨Q, 2, none⟩ (.int .i64 x1.v.n)).setCell ⟨Q, 3, none⟩ (.string x1.v.s)).setCell ⟨Q, 4, none⟩ (.bool x1.v.b)).setCell ⟨Q, 5, none⟩ (.int .i64 x1.v.c)).setCell ⟨Q, 6, none⟩ (.int .i64 x1.t)).setCell ⟨Q, 7, none⟩ (.int .i64 x1.l)).setCell ⟨Q, 8, none⟩ (.int .i64 x1.b)).setCell ⟨Q, 9, none⟩ (.int .i64 x1.r)).setCell ⟨Q, 10, none⟩ (.slice x1.A x1.es.length x1.cap)).cell? ⟨ab, ao + 2, none⟩ = some (.int .i64 x0.v.n) := cell_sc11 hQab (by with_reducible assumption)
      have hk2 : (((((((((((wn81.setCell ⟨Q, 0, none⟩ (.bool x1.many)).setCell ⟨Q, 1, none⟩ (.int .i64 x1.v.t)).setCell ⟨Q, 2, none⟩ (.int .i64 x1.v.n)).setCell ⟨Q, 3, none⟩ (.string x1.v.s)).setCell ⟨Q, 4, none⟩ (.bool x1.v.b)).setCell ⟨Q, 5, none⟩ (.int .i64 x1.v.c)).setCell ⟨Q, 6, none⟩ (.int .i64 x1.t)).setCell ⟨Q, 7, none⟩ (.int .i64 x1.l)).setCell ⟨Q, 8, none⟩ (.int .i64 x1.b)).setCell ⟨Q, 9, none⟩ (.int .i64 x1.r)).setCell ⟨Q, 10, none⟩ (.slice x1.A x1.es.length x1.cap)).cell? ⟨ab, ao + 3, none⟩ = some (.string x0.v.s) := cell_sc11 hQab (by with_reducible assumption)
      have hk3 : (((((((((((wn81.setCell ⟨Q, 0, none⟩ (.bool x1.many)).setCell ⟨Q, 1, none⟩ (.int .i64 x1.v.t)).setCell ⟨Q, 2, none⟩ (.int .i64 x1.v.n)).setCell ⟨Q, 3, none⟩ (.string x1.v.s)).setCell ⟨Q, 4, none⟩ (.bool x1.v.b)).setCell ⟨Q, 5, none⟩ (.int .i64 x1.v.c)).setCell ⟨Q, 6, none⟩ (.int .i64 x1.t)).setCell ⟨Q, 7, none⟩ (.int .i64 x1.l)).setCell ⟨Q, 8, none⟩ (.int .i64 x1.b)).setCell ⟨Q, 9, none⟩ (.int .i64 x1.r)).setCell ⟨Q, 10, none⟩ (.slice x1.A x1.es.length x1.cap)).cell? ⟨ab, ao + 4, none⟩ = some (.bool x0.v.b) := cell_sc11 hQab (by with_reducible assumption)
      have hk4 : (((((((((((wn81.setCell ⟨Q, 0, none⟩ (.bool x1.many)).setCell ⟨Q, 1, none⟩ (.int .i64 x1.v.t)).setCell ⟨Q, 2, none⟩ (.int .i64 x1.v.n)).setCell ⟨Q, 3, none⟩ (.string x1.v.s)).setCell ⟨Q, 4, none⟩ (.bool x1.v.b)).setCell ⟨Q, 5, none⟩ (.int .i64 x1.v.c)).setCell ⟨Q, 6, none⟩ (.int .i64 x1.t)).setCell ⟨Q, 7, none⟩ (.int .i64 x1.l)).setCell ⟨Q, 8, none⟩ (.int .i64 x1.b)).setCell ⟨Q, 9, none⟩ (.int .i64 x1.r)).setCell ⟨Q, 10, none⟩ (.slice x1.A x1.es.length x1.cap)).cell? ⟨ab, ao + 5, none⟩ = some (.int .i64 x0.v.c) := cell_sc11 hQab (by with_reducible assumption)
      have hk5 : (((((((((((wn81.setCell ⟨Q, 0, none⟩ (.bool x1.many)).setCell ⟨Q, 1, none⟩ (.int .i64 x1.v.t)).setCell ⟨Q, 2, none⟩ (.int .i64 x1.v.n)).setCell ⟨Q, 3, none⟩ (.string x1.v.s)).setCell ⟨Q, 4, none⟩ (.bool x1.v.b)).setCell ⟨Q, 5, none⟩ (.int .i64 x1.v.c)).setCell ⟨Q, 6, none⟩ (.int .i64 x1.t)).setCell ⟨Q, 7, none⟩ (.int .i64 x1.l)).setCell ⟨Q, 8, none⟩ (.int .i64 x1.b)).setCell ⟨Q, 9, none⟩ (.int .i64 x1.r)).setCell ⟨Q, 10, none⟩ (.slice x1.A x1.es.length x1.cap)).cell? ⟨ab, ao + 11, none⟩ = some (.bool x1.many) := cell_sc11 hQab (by with_reducible assumption)
      have hk6 : (((((((((((wn81.setCell ⟨Q, 0, none⟩ (.bool x1.many)).setCell ⟨Q, 1, none⟩ (.int .i64 x1.v.t)).setCell ⟨Q, 2, none⟩ (.int .i64 x1.v.n)).setCell ⟨Q, 3, none⟩ (.string x1.v.s)).setCell ⟨Q, 4, none⟩ (.bool x1.v.b)).setCell ⟨Q, 5, none⟩ (.int .i64 x1.v.c)).setCell ⟨Q, 6, none⟩ (.int .i64 x1.t)).setCell ⟨Q, 7, none⟩ (.int .i64 x1.l)).setCell ⟨Q, 8, none⟩ (.int .i64 x1.b)).setCell ⟨Q, 9, none⟩ (.int .i64 x1.r)).setCell ⟨Q, 10, none⟩ (.slice x1.A x1.es.length x1.cap)).cell? ⟨ab, ao + 11 + 1, none⟩ = some (.int .i64 x1.v.t) := cell_sc11 hQab (by with_reducible assumption)
      have hk7 : (((((((((((wn81.setCell ⟨Q, 0, none⟩ (.bool x1.many)).setCell ⟨Q, 1, none⟩ (.int .i64 x1.v.t)).setCell ⟨Q, 2, none⟩ (.int .i64 x1.v.n)).setCell ⟨Q, 3, none⟩ (.string x1.v.s)).setCell ⟨Q, 4, none⟩ (.bool x1.v.b)).setCell ⟨Q, 5, none⟩ (.int .i64 x1.v.c)).setCell ⟨Q, 6, none⟩ (.int .i64 x1.t)).setCell ⟨Q, 7, none⟩ (.int .i64 x1.l)).setCell ⟨Q, 8, none⟩ (.int .i64 x1.b)).setCell ⟨Q, 9, none⟩ (.int .i64 x1.r)).setCell ⟨Q, 10, none⟩ (.slice x1.A x1.es.length x1.cap)).cell? ⟨ab, ao + 11 + 2, none⟩ = some (.int .i64 x1.v.n) := cell_sc11 hQab (by with_reducible assumption)
      have hk8 : (((((((((((wn81.setCell ⟨Q, 0, none⟩ (.bool x1.many)).setCell ⟨Q, 1, none⟩ (.int .i64 x1.v.t)).setCell ⟨Q, 2, none⟩ (.int .i64 x1.v.n)).setCell ⟨Q, 3, none⟩ (.string x1.v.s)).setCell ⟨Q, 4, none⟩ (.bool x1.v.b)).setCell ⟨Q, 5, none⟩ (.int .i64 x1.v.c)).setCell ⟨Q, 6, none⟩ (.int .i64 x1.t)).setCell ⟨Q, 7, none⟩ (.int .i64 x1.l)).setCell ⟨Q, 8, none⟩ (.int .i64 x1.b)).setCell ⟨Q, 9, none⟩ (.int .i64 x1.r)).setCell ⟨Q, 10, none⟩ (.slice x1.A x1.es.length x1.cap)).cell? ⟨ab, ao + 11 + 3, none⟩ = some (.string x1.v.s) := cell_sc11 hQab (by with_reducible assumption)
      have hk9 : (((((((((((wn81.setCell ⟨Q, 0, none⟩ (.bool x1.many)).setCell ⟨Q, 1, none⟩ (.int .i64 x1.v.t)).setCell ⟨Q, 2, none⟩ (.int .i64 x1.v.n)).setCell ⟨Q, 3, none⟩ (.string x1.v.s)).setCell ⟨Q, 4, none⟩ (.bool x1.v.b)).setCell ⟨Q, 5, none⟩ (.int .i64 x1.v.c)).setCell ⟨Q, 6, none⟩ (.int .i64 x1.t)).setCell ⟨Q, 7, none⟩ (.int .i64 x1.l)).setCell ⟨Q, 8, none⟩ (.int .i64 x1.b)).setCell ⟨Q, 9, none⟩ (.int .i64 x1.r)).setCell ⟨Q, 10, none⟩ (.slice x1.A x1.es.length x1.cap)).cell? ⟨ab, ao + 11 + 4, none⟩ = some (.bool x1.v.b) := cell_sc11 hQab (by with_reducible assumption)
      have hk10 : (((((((((((wn81.setCell ⟨Q, 0, none⟩ (.bool x1.many)).setCell ⟨Q, 1, none⟩ (.int .i64 x1.v.t)).setCell ⟨Q, 2, none⟩ (.int .i64 x1.v.n)).setCell ⟨Q, 3, none⟩ (.string x1.v.s)).setCell ⟨Q, 4, none⟩ (.bool x1.v.b)).setCell ⟨Q, 5, none⟩ (.int .i64 x1.v.c)).setCell ⟨Q, 6, none⟩ (.int .i64 x1.t)).setCell ⟨Q, 7, none⟩ (.int .i64 x1.l)).setCell ⟨Q, 8, none⟩ (.int .i64 x1.b)).setCell ⟨Q, 9, none⟩ (.int .i64 x1.r)).setCell ⟨Q, 10, none⟩ (.slice x1.A x1.es.length x1.cap)).cell? ⟨ab, ao + 11 + 5, none⟩ = some (.int .i64 x1.v.c) := cell_sc11 hQab (by with_reducible assumption)
      have hk11 : (((((((((((wn81.setCell ⟨Q, 0, none⟩ (.bool x1.many)).setCell ⟨Q, 1, none⟩ (.int .i64 x1.v.t)).setCell ⟨Q, 2, none⟩ (.int .i64 x1.v.n)).setCell ⟨Q, 3, none⟩ (.string x1.v.s)).setCell ⟨Q, 4, none⟩ (.bool x1.v.b)).setCell ⟨Q, 5, none⟩ (.int .i64 x1.v.c)).setCell ⟨Q, 6, none⟩ (.int .i64 x1.t)).setCell ⟨Q, 7, none⟩ (.int .i64 x1.l)).setCell ⟨Q, 8, none⟩ (.int .i64 x1.b)).setCell ⟨Q, 9, none⟩ (.int .i64 x1.r)).setCell ⟨Q, 10, none⟩ (.slice x1.A x1.es.length x1.cap)).cell? ⟨ab, ao + 11 + 6, none⟩ = some (.int .i64 x1.t) := cell_sc11 hQab (by with_reducible assumption)
      have hk12 : (((((((((((wn81.setCell ⟨Q, 0, none⟩ (.bool x1.many)).setCell ⟨Q, 1, none⟩ (.int .i64 x1.v.t)).setCell ⟨Q, 2, none⟩ (.int .i64 x1.v.n)).setCell ⟨Q, 3, none⟩ (.string x1.v.s)).setCell ⟨Q, 4, none⟩ (.bool x1.v.b)).setCell ⟨Q, 5, none⟩ (.int .i64 x1.v.c)).setCell ⟨Q, 6, none⟩ (.int .i64 x1.t)).setCell ⟨Q, 7, none⟩ (.int .i64 x1.l)).setCell ⟨Q, 8, none⟩ (.int .i64 x1.b)).setCell ⟨Q, 9, none⟩ (.int .i64 x1.r)).setCell ⟨Q, 10, none⟩ (.slice x1.A x1.es.length x1.cap)).cell? ⟨ab, ao + 11 + 7, none⟩ = some (.int .i64 x1.l) := cell_sc11 hQab (by with_reducible assumption)
      have hk13 : (((((((((((wn81.setCell ⟨Q, 0, none⟩ (.bool x1.many)).setCell ⟨Q, 1, none⟩ (.int .i64 x1.v.t)).setCell ⟨Q, 2, none⟩ (.int .i64 x1.v.n)).setCell ⟨Q, 3, none⟩ (.string x1.v.s)).setCell ⟨Q, 4, none⟩ (.bool x1.v.b)).setCell ⟨Q, 5, none⟩ (.int .i64 x1.v.c)).setCell ⟨Q, 6, none⟩ (.int .i64 x1.t)).setCell ⟨Q, 7, none⟩ (.int .i64 x1.l)).setCell ⟨Q, 8, none⟩ (.int .i64 x1.b)).setCell ⟨Q, 9, none⟩ (.int .i64 x1.r)).setCell ⟨Q, 10, none⟩ (.slice x1.A x1.es.length x1.cap)).cell? ⟨ab, ao + 11 + 8, none⟩ = some (.int .i64 x1.b) := cell_sc11 hQab (by with_reducible assumption)
      have hk14 : (((((((((((wn81.setCell ⟨Q, 0, none⟩ (.bool x1.many)).setCell ⟨Q, 1, none⟩ (.int .i64 x1.v.t)).setCell ⟨Q, 2, none⟩ (.int .i64 x1.v.n)).setCell ⟨Q, 3, none⟩ (.string x1.v.s)).setCell ⟨Q, 4, none⟩ (.bool x1.v.b)).setCell ⟨Q, 5, none⟩ (.int .i64 x1.v.c)).setCell ⟨Q, 6, none⟩ (.int .i64 x1.t)).setCell ⟨Q, 7, none⟩ (.int .i64 x1.l)).setCell ⟨Q, 8, none⟩ (.int .i64 x1.b)).setCell ⟨Q, 9, none⟩ (.int .i64 x1.r)).setCell ⟨Q, 10, none⟩ (.slice x1.A x1.es.length x1.cap)).cell? ⟨ab, ao + 11 + 9, none⟩ = some (.int .i64 x1.r) := cell_sc11 hQab (by with_reducible assumption)
      have hk15 : (((((((((((wn81.setCell ⟨Q, 0, none⟩ (.bool x1.many)).setCell ⟨Q, 1, none⟩ (.int .i64 x1.v.t)).setCell ⟨Q, 2, none⟩ (.int .i64 x1.v.n)).setCell ⟨Q, 3, none⟩ (.string x1.v.s)).setCell ⟨Q, 4, none⟩ (.bool x1.v.b)).setCell ⟨Q, 5, none⟩ (.int .i64 x1.v.c)).setCell ⟨Q, 6, none⟩ (.int .i64 x1.t)).setCell ⟨Q, 7, none⟩ (.int .i64 x1.l)).setCell ⟨Q, 8, none⟩ (.int .i64 x1.b)).setCell ⟨Q, 9, none⟩ (.int .i64 x1.r)).setCell ⟨Q, 10, none⟩ (.slice x1.A x1.es.length x1.cap)).cell? ⟨ab, ao + 11 + 10, none⟩ = some (.slice x1.A x1.es.length x1.cap) := cell_sc11 hQab (by with_reducible assumption)
      have hZz : w.heap.size + 1 ≤ (((((((((((wn81.setCell ⟨Q, 0, none⟩ (.bool x1.many)).setCell ⟨Q, 1, none⟩ (.int .i64 x1.v.t)).setCell ⟨Q, 2, none⟩ (.int .i64 x1.v.n)).setCell ⟨Q, 3, none⟩ (.string x1.v.s)).setCell ⟨Q, 4, none⟩ (.bool x1.v.b)).setCell ⟨Q, 5, none⟩ (.int .i64 x1.v.c)).setCell ⟨Q, 6, none⟩ (.int .i64 x1.t)).setCell ⟨Q, 7, none⟩ (.int .i64 x1.l)).setCell ⟨Q, 8, none⟩ (.int .i64 x1.b)).setCell ⟨Q, 9, none⟩ (.int .i64 x1.r)).setCell ⟨Q, 10, none⟩ (.slice x1.A x1.es.length x1.cap)).heap.size := size_sc11 hZq
      clear hBq hZq hpQ2 hpP2
      generalize (((((((((((wn81.setCell ⟨Q, 0, none⟩ (.bool x1.many)).setCell ⟨Q, 1, none⟩ (.int .i64 x1.v.t)).setCell ⟨Q, 2, none⟩ (.int .i64 x1.v.n)).setCell ⟨Q, 3, none⟩ (.string x1.v.s)).setCell ⟨Q, 4, none⟩ (.bool x1.v.b)).setCell ⟨Q, 5, none⟩ (.int .i64 x1.v.c)).setCell ⟨Q, 6, none⟩ (.int .i64 x1.t)).setCell ⟨Q, 7, none⟩ (.int .i64 x1.l)).setCell ⟨Q, 8, none⟩ (.int .i64 x1.b)).setCell ⟨Q, 9, none⟩ (.int .i64 x1.r)).setCell ⟨Q, 10, none⟩ (.slice x1.A x1.es.length x1.cap)) = wq at *
      refine hK.out _ _ ?_ (fun hHeld => ?_)
      · ((try dsimp only); refine ⟨?_, ?_, ?_, ?_, ?_, ?_, ?_, ?_, ?_, ?_, ?_, ?_, ?_, ?_, ?_, ?_, ?_, ?_⟩ <;> with_reducible assumption)
      clear hK K
      refine wpAnyH_done (by kernel_rfl) ?_ _
      refine NoPanic.normal ?_
      go_wp2
      go_meet
      case rel => exact ⟨P, Q, rfl, rfl, hlP, hlQ, hpP3, hpQ3, hBf⟩
  case rest =>
    obtain ⟨P, Q, rfl, rfl, hlP, hlQ, hpP, hpQ, hbc⟩ := hcut
    obtain ⟨wa, rfl⟩ : ∃ wa, wa = wc := ⟨_, rfl⟩
    have hPl := (Array.getElem?_eq_some_iff.1 hpP).1
    have hQl := (Array.getElem?_eq_some_iff.1 hpQ).1
    have hq0 : Below w.heap.size w wa := b0.trans (hbc.mono (by omega))
    have habc : ab < wa.heap.size := by omega
    have cq0 : wa.cell? ⟨Q, 0, none⟩ = some (.bool x1.many) := blk_cell hpQ 0
    have cq1 : wa.cell? ⟨Q, 1, none⟩ = some (.int .i64 x1.v.t) := blk_cell hpQ 1
    have cq2 : wa.cell? ⟨Q, 2, none⟩ = some (.int .i64 x1.v.n) := blk_cell hpQ 2
    have cq3 : wa.cell? ⟨Q, 3, none⟩ = some (.string x1.v.s) := blk_cell hpQ 3
    have cq4 : wa.cell? ⟨Q, 4, none⟩ = some (.bool x1.v.b) := blk_cell hpQ 4
    have cq5 : wa.cell? ⟨Q, 5, none⟩ = some (.int .i64 x1.v.c) := blk_cell hpQ 5
    have cq6 : wa.cell? ⟨Q, 6, none⟩ = some (.int .i64 x1.t) := blk_cell hpQ 6
    have cq7 : wa.cell? ⟨Q, 7, none⟩ = some (.int .i64 x1.l) := blk_cell hpQ 7
    have cq8 : wa.cell? ⟨Q, 8, none⟩ = some (.int .i64 x1.b) := blk_cell hpQ 8
    have cq9 : wa.cell? ⟨Q, 9, none⟩ = some (.int .i64 x1.r) := blk_cell hpQ 9
    have cq10 : wa.cell? ⟨Q, 10, none⟩ = some (.slice x1.A x1.es.length x1.cap) := blk_cell hpQ 10
    have c2_0 : wa.cell? ⟨ab, ao + 22, none⟩ = some (.bool x2.many) := (hq0.cell (p := ⟨ab, ao + 22, none⟩) hab).trans hx2_0
    have c2_1 : wa.cell? ⟨ab, ao + 22 + 1, none⟩ = some (.int .i64 x2.v.t) := (hq0.cell (p := ⟨ab, ao + 22 + 1, none⟩) hab).trans hx2_1
    have c2_2 : wa.cell? ⟨ab, ao + 22 + 2, none⟩ = some (.int .i64 x2.v.n) := (hq0.cell (p := ⟨ab, ao + 22 + 2, none⟩) hab).trans hx2_2
    have c2_3 : wa.cell? ⟨ab, ao + 22 + 3, none⟩ = some (.string x2.v.s) := (hq0.cell (p := ⟨ab, ao + 22 + 3, none⟩) hab).trans hx2_3
    have c2_4 : wa.cell? ⟨ab, ao + 22 + 4, none⟩ = some (.bool x2.v.b) := (hq0.cell (p := ⟨ab, ao + 22 + 4, none⟩) hab).trans hx2_4
    have c2_5 : wa.cell? ⟨ab, ao + 22 + 5, none⟩ = some (.int .i64 x2.v.c) := (hq0.cell (p := ⟨ab, ao + 22 + 5, none⟩) hab).trans hx2_5
    have c2_6 : wa.cell? ⟨ab, ao + 22 + 6, none⟩ = some (.int .i64 x2.t) := (hq0.cell (p := ⟨ab, ao + 22 + 6, none⟩) hab).trans hx2_6
    have c2_7 : wa.cell? ⟨ab, ao + 22 + 7, none⟩ = some (.int .i64 x2.l) := (hq0.cell (p := ⟨ab, ao + 22 + 7, none⟩) hab).trans hx2_7
    have c2_8 : wa.cell? ⟨ab, ao + 22 + 8, none⟩ = some (.int .i64 x2.b) := (hq0.cell (p := ⟨ab, ao + 22 + 8, none⟩) hab).trans hx2_8
    have c2_9 : wa.cell? ⟨ab, ao + 22 + 9, none⟩ = some (.int .i64 x2.r) := (hq0.cell (p := ⟨ab, ao + 22 + 9, none⟩) hab).trans hx2_9
    have c2_10 : wa.cell? ⟨ab, ao + 22 + 10, none⟩ = some (.slice x2.A x2.es.length x2.cap) := (hq0.cell (p := ⟨ab, ao + 22 + 10, none⟩) hab).trans hx2_10
    clear hx0_1 hx0_2 hx0_3 hx0_4 hx0_5 hx1_0 hx1_1 hx1_2 hx1_3 hx1_4 hx1_5 hx1_6 hx1_7 hx1_8 hx1_9 hx1_10 hx2_0 hx2_1 hx2_2 hx2_3 hx2_4 hx2_5 hx2_6 hx2_7 hx2_8 hx2_9 hx2_10
    go_upto_region 2 with (fail)
    go_cut [37] from 17 to 37 (fun c wd => c = .bool bad ∧ Below wa.heap.size wa wd)
    case first =>
      by_cases h1 : 1 < R
      · by_cases h2 : 1 < C
        · have hb1 : decide ((1 : Int) < R) = true := by simp; omega
          have hb2 : decide ((1 : Int) < C) = true := by simp; omega
          refine wp_region_noPanic ?_
          refine wp_region_held_drew (S := fun w' => w'.cell? ⟨Q, 0, none⟩ = some (.bool x1.many) ∧ w'.cell? ⟨Q, 1, none⟩ = some (.int .i64 x1.v.t) ∧ w'.cell? ⟨Q, 2, none⟩ = some (.int .i64 x1.v.n) ∧ w'.cell? ⟨Q, 3, none⟩ = some (.string x1.v.s) ∧ w'.cell? ⟨Q, 4, none⟩ = some (.bool x1.v.b) ∧ w'.cell? ⟨Q, 5, none⟩ = some (.int .i64 x1.v.c) ∧ w'.cell? ⟨Q, 6, none⟩ = some (.int .i64 x1.t) ∧ w'.cell? ⟨Q, 7, none⟩ = some (.int .i64 x1.l) ∧ w'.cell? ⟨Q, 8, none⟩ = some (.int .i64 x1.b) ∧ w'.cell? ⟨Q, 9, none⟩ = some (.int .i64 x1.r) ∧ w'.cell? ⟨Q, 10, none⟩ = some (.slice x1.A x1.es.length x1.cap) ∧ w'.cell? ⟨ab, ao + 22, none⟩ = some (.bool x2.many) ∧ w'.cell? ⟨ab, ao + 22 + 1, none⟩ = some (.int .i64 x2.v.t) ∧ w'.cell? ⟨ab, ao + 22 + 2, none⟩ = some (.int .i64 x2.v.n) ∧ w'.cell? ⟨ab, ao + 22 + 3, none⟩ = some (.string x2.v.s) ∧ w'.cell? ⟨ab, ao + 22 + 4, none⟩ = some (.bool x2.v.b) ∧ w'.cell? ⟨ab, ao + 22 + 5, none⟩ = some (.int .i64 x2.v.c) ∧ w'.cell? ⟨ab, ao + 22 + 6, none⟩ = some (.int .i64 x2.t) ∧ w'.cell? ⟨ab, ao + 22 + 7, none⟩ = some (.int .i64 x2.l) ∧ w'.cell? ⟨ab, ao + 22 + 8, none⟩ = some (.int .i64 x2.b) ∧ w'.cell? ⟨ab, ao + 22 + 9, none⟩ = some (.int .i64 x2.r) ∧ w'.cell? ⟨ab, ao + 22 + 10, none⟩ = some (.slice x2.A x2.es.length x2.cap) ∧ Below wa.heap.size wa w' ∧ wa.heap.size ≤ w'.heap.size) (by kernel_rfl) (by (try dsimp only); refine ⟨?_, ?_, ?_, ?_, ?_, ?_, ?_, ?_, ?_, ?_, ?_, ?_, ?_, ?_, ?_, ?_, ?_, ?_, ?_, ?_, ?_, ?_, ?_, ?_⟩ <;> first | assumption | exact Below.drew (Below.refl _ _) | exact Nat.le_refl _) (fun hHeld => ?_)
          generalize wa.drew = wz at *
          refine wpAnyH_take (i := 0) (oi := ⟨_, _, _, _, _, _⟩) (v := ?v82) rfl (by kernel_rfl) (by kernel_rfl) (by kernel_rfl) (fun _ _ _ h => h) (Or.inl ⟨by rfl, ?hy82⟩) hHeld ?rest82
          case hy82 => (intro w2 hSw; (try dsimp only at hSw); go_split_ands; go_simp; first | done | with_reducible rfl)
          try simp only [Act.put, List.setIfInBounds_toArray, List.set_cons_zero, List.set_cons_succ]
          refine wpAnyH_ready (rs := [1]) (by kernel_rfl) (by simp) ?_
          refine AllReadyH.cons (o := ⟨_, _, _, _, _, _⟩) rfl (fun K hK => ?_) AllReadyH.nil
          go_split_ands
          go_simp
          refine ((CR _).out).mono ?_
          rintro e w1 ⟨rfl, hb⟩
          refine hK.out _ _ ?_ (fun hHeld => ?_)
          · ((try dsimp only); refine ⟨?_, ?_, ?_, ?_, ?_, ?_, ?_, ?_, ?_, ?_, ?_, ?_, ?_, ?_, ?_, ?_, ?_, ?_, ?_, ?_, ?_, ?_, ?_, ?_⟩ <;> first | (rw [hb.cell (by dsimp only; omega)]; assumption) | exact Below.trans (by assumption) (hb.mono (by omega)) | (have := hb.size; omega))
          clear hK K hb
          try simp only [Act.put, List.setIfInBounds_toArray, List.set_cons_zero, List.set_cons_succ]
          refine wpAnyH_take (i := 2) (oi := ⟨_, _, _, _, _, _⟩) (v := ?v83) rfl (by kernel_rfl) (by kernel_rfl) (by kernel_rfl) (fun _ _ _ h => h) (Or.inl ⟨by rfl, ?hy83⟩) hHeld ?rest83
          case hy83 => (intro w2 hSw; (try dsimp only at hSw); go_split_ands; go_simp; first | done | with_reducible rfl)
          try simp only [Act.put, List.setIfInBounds_toArray, List.set_cons_zero, List.set_cons_succ]
          refine wpAnyH_take (i := 3) (oi := ⟨_, _, _, _, _, _⟩) (v := ?v84) rfl (by kernel_rfl) (by kernel_rfl) (by kernel_rfl) (fun _ _ _ h => h) (Or.inl ⟨by rfl, ?hy84⟩) hHeld ?rest84
          case hy84 => (intro w2 hSw; (try dsimp only at hSw); go_split_ands; go_simp; first | done | with_reducible rfl)
          try simp only [Act.put, List.setIfInBounds_toArray, List.set_cons_zero, List.set_cons_succ]
          refine wpAnyH_take (i := 4) (oi := ⟨_, _, _, _, _, _⟩) (v := ?v85) rfl (by kernel_rfl) (by kernel_rfl) (by kernel_rfl) (fun _ _ _ h => h) (Or.inl ⟨by rfl, ?hy85⟩) hHeld ?rest85
          case hy85 => (intro w2 hSw; (try dsimp only at hSw); go_split_ands; go_simp; first | done | with_reducible rfl)
          try simp only [Act.put, List.setIfInBounds_toArray, List.set_cons_zero, List.set_cons_succ]
          refine wpAnyH_ready (rs := [5]) (by kernel_rfl) (by simp) ?_
          refine AllReadyH.cons (o := ⟨_, _, _, _, _, _⟩) rfl (fun K hK => ?_) AllReadyH.nil
          go_split_ands
          go_simp
          refine ((CC _).out).mono ?_
          rintro e w1 ⟨rfl, hb⟩
          refine hK.out _ _ ?_ (fun hHeld => ?_)
          · ((try dsimp only); refine ⟨?_, ?_, ?_, ?_, ?_, ?_, ?_, ?_, ?_, ?_, ?_, ?_, ?_, ?_, ?_, ?_, ?_, ?_, ?_, ?_, ?_, ?_, ?_, ?_⟩ <;> first | (rw [hb.cell (by dsimp only; omega)]; assumption) | exact Below.trans (by assumption) (hb.mono (by omega)) | (have := hb.size; omega))
          clear hK K hb
          try simp only [Act.put, List.setIfInBounds_toArray, List.set_cons_zero, List.set_cons_succ]
          refine wpAnyH_take (i := 6) (oi := ⟨_, _, _, _, _, _⟩) (v := ?v86) rfl (by kernel_rfl) (by kernel_rfl) (by kernel_rfl) (fun _ _ _ h => h) (Or.inl ⟨by rfl, ?hy86⟩) hHeld ?rest86
          case hy86 => (intro w2 hSw; (try dsimp only at hSw); go_split_ands; go_simp; first | done | with_reducible rfl)
          try simp only [Act.put, List.setIfInBounds_toArray, List.set_cons_zero, List.set_cons_succ]
          refine wpAnyH_take (i := 7) (oi := ⟨_, _, _, _, _, _⟩) (v := ?v87) rfl (by kernel_rfl) (by kernel_rfl) (by kernel_rfl) (fun _ _ _ h => h) (Or.inl ⟨by rfl, ?hy87⟩) hHeld ?rest87
          case hy87 => (intro w2 hSw; (try dsimp only at hSw); go_split_ands; go_simp; first | done | with_reducible rfl)
          try simp only [Act.put, List.setIfInBounds_toArray, List.set_cons_zero, List.set_cons_succ]
          refine wpAnyH_take (i := 8) (oi := ⟨_, _, _, _, _, _⟩) (v := ?v88) rfl (by kernel_rfl) (by kernel_rfl) (by kernel_rfl) (fun _ _ _ h => h) (Or.inl ⟨by rfl, ?hy88⟩) hHeld ?rest88
          case hy88 => (intro w2 hSw; (try dsimp only at hSw); go_split_ands; go_simp; first | done | with_reducible rfl)
          try simp only [Act.put, List.setIfInBounds_toArray, List.set_cons_zero, List.set_cons_succ]
          refine wpAnyH_take (i := 9) (oi := ⟨_, _, _, _, _, _⟩) (v := undef) rfl (by kernel_rfl) (by kernel_rfl) (by kernel_rfl) (fun _ _ _ h => h) (Or.inr ⟨by rfl, rfl⟩) hHeld ?_
          try simp only [Act.put, List.setIfInBounds_toArray, List.set_cons_zero, List.set_cons_succ]
          refine wpAnyH_take (i := 10) (oi := ⟨_, _, _, _, _, _⟩) (v := undef) rfl (by kernel_rfl) (by kernel_rfl) (by kernel_rfl) (fun _ _ _ h => h) (Or.inr ⟨by rfl, rfl⟩) hHeld ?_
          try simp only [Act.put, List.setIfInBounds_toArray, List.set_cons_zero, List.set_cons_succ]
          refine wpAnyH_take (i := 11) (oi := ⟨_, _, _, _, _, _⟩) (v := undef) rfl (by kernel_rfl) (by kernel_rfl) (by kernel_rfl) (fun _ _ _ h => h) (Or.inr ⟨by rfl, rfl⟩) hHeld ?_
          try simp only [Act.put, List.setIfInBounds_toArray, List.set_cons_zero, List.set_cons_succ]
          refine wpAnyH_take (i := 12) (oi := ⟨_, _, _, _, _, _⟩) (v := undef) rfl (by kernel_rfl) (by kernel_rfl) (by kernel_rfl) (fun _ _ _ h => h) (Or.inr ⟨by rfl, rfl⟩) hHeld ?_
          try simp only [Act.put, List.setIfInBounds_toArray, List.set_cons_zero, List.set_cons_succ]
          refine wpAnyH_take (i := 13) (oi := ⟨_, _, _, _, _, _⟩) (v := undef) rfl (by kernel_rfl) (by kernel_rfl) (by kernel_rfl) (fun _ _ _ h => h) (Or.inr ⟨by rfl, rfl⟩) hHeld ?_
          try simp only [Act.put, List.setIfInBounds_toArray, List.set_cons_zero, List.set_cons_succ]
          refine wpAnyH_take (i := 14) (oi := ⟨_, _, _, _, _, _⟩) (v := undef) rfl (by kernel_rfl) (by kernel_rfl) (by kernel_rfl) (fun _ _ _ h => h) (Or.inr ⟨by rfl, rfl⟩) hHeld ?_
          try simp only [Act.put, List.setIfInBounds_toArray, List.set_cons_zero, List.set_cons_succ]
          refine wpAnyH_take (i := 15) (oi := ⟨_, _, _, _, _, _⟩) (v := undef) rfl (by kernel_rfl) (by kernel_rfl) (by kernel_rfl) (fun _ _ _ h => h) (Or.inr ⟨by rfl, rfl⟩) hHeld ?_
          try simp only [Act.put, List.setIfInBounds_toArray, List.set_cons_zero, List.set_cons_succ]
          refine wpAnyH_take (i := 16) (oi := ⟨_, _, _, _, _, _⟩) (v := undef) rfl (by kernel_rfl) (by kernel_rfl) (by kernel_rfl) (fun _ _ _ h => h) (Or.inr ⟨by rfl, rfl⟩) hHeld ?_
          try simp only [Act.put, List.setIfInBounds_toArray, List.set_cons_zero, List.set_cons_succ]
          refine wpAnyH_take (i := 17) (oi := ⟨_, _, _, _, _, _⟩) (v := undef) rfl (by kernel_rfl) (by kernel_rfl) (by kernel_rfl) (fun _ _ _ h => h) (Or.inr ⟨by rfl, rfl⟩) hHeld ?_
          try simp only [Act.put, List.setIfInBounds_toArray, List.set_cons_zero, List.set_cons_succ]
          refine wpAnyH_take (i := 18) (oi := ⟨_, _, _, _, _, _⟩) (v := undef) rfl (by kernel_rfl) (by kernel_rfl) (by kernel_rfl) (fun _ _ _ h => h) (Or.inr ⟨by rfl, rfl⟩) hHeld ?_
          try simp only [Act.put, List.setIfInBounds_toArray, List.set_cons_zero, List.set_cons_succ]
          refine wpAnyH_take (i := 19) (oi := ⟨_, _, _, _, _, _⟩) (v := undef) rfl (by kernel_rfl) (by kernel_rfl) (by kernel_rfl) (fun _ _ _ h => h) (Or.inr ⟨by rfl, rfl⟩) hHeld ?_
          try simp only [Act.put, List.setIfInBounds_toArray, List.set_cons_zero, List.set_cons_succ]
          refine wpAnyH_take (i := 20) (oi := ⟨_, _, _, _, _, _⟩) (v := ?v89) rfl (by kernel_rfl) (by kernel_rfl) (by kernel_rfl) (fun _ _ _ h => h) (Or.inl ⟨by rfl, ?hy89⟩) hHeld ?rest89
          case hy89 => (intro w2 hSw; (try dsimp only at hSw); go_split_ands; go_simp; first | done | with_reducible rfl)
          try simp only [Act.put, List.setIfInBounds_toArray, List.set_cons_zero, List.set_cons_succ]
          refine wpAnyH_done (by kernel_rfl) ?_ _
          refine NoPanic.normal ?_
          go_split_ands
          go_wp2
          go_meet
          case rel => exact ⟨by rw [← hbad.out]; simp [*], by assumption⟩
        · have hb1 : decide ((1 : Int) < R) = true := by simp; omega
          have hb2 : decide ((1 : Int) < C) = false := by simp; omega
          refine wp_region_noPanic ?_
          refine wp_region_held_drew (S := fun w' => w'.cell? ⟨Q, 0, none⟩ = some (.bool x1.many) ∧ w'.cell? ⟨Q, 1, none⟩ = some (.int .i64 x1.v.t) ∧ w'.cell? ⟨Q, 2, none⟩ = some (.int .i64 x1.v.n) ∧ w'.cell? ⟨Q, 3, none⟩ = some (.string x1.v.s) ∧ w'.cell? ⟨Q, 4, none⟩ = some (.bool x1.v.b) ∧ w'.cell? ⟨Q, 5, none⟩ = some (.int .i64 x1.v.c) ∧ w'.cell? ⟨Q, 6, none⟩ = some (.int .i64 x1.t) ∧ w'.cell? ⟨Q, 7, none⟩ = some (.int .i64 x1.l) ∧ w'.cell? ⟨Q, 8, none⟩ = some (.int .i64 x1.b) ∧ w'.cell? ⟨Q, 9, none⟩ = some (.int .i64 x1.r) ∧ w'.cell? ⟨Q, 10, none⟩ = some (.slice x1.A x1.es.length x1.cap) ∧ w'.cell? ⟨ab, ao + 22, none⟩ = some (.bool x2.many) ∧ w'.cell? ⟨ab, ao + 22 + 1, none⟩ = some (.int .i64 x2.v.t) ∧ w'.cell? ⟨ab, ao + 22 + 2, none⟩ = some (.int .i64 x2.v.n) ∧ w'.cell? ⟨ab, ao + 22 + 3, none⟩ = some (.string x2.v.s) ∧ w'.cell? ⟨ab, ao + 22 + 4, none⟩ = some (.bool x2.v.b) ∧ w'.cell? ⟨ab, ao + 22 + 5, none⟩ = some (.int .i64 x2.v.c) ∧ w'.cell? ⟨ab, ao + 22 + 6, none⟩ = some (.int .i64 x2.t) ∧ w'.cell? ⟨ab, ao + 22 + 7, none⟩ = some (.int .i64 x2.l) ∧ w'.cell? ⟨ab, ao + 22 + 8, none⟩ = some (.int .i64 x2.b) ∧ w'.cell? ⟨ab, ao + 22 + 9, none⟩ = some (.int .i64 x2.r) ∧ w'.cell? ⟨ab, ao + 22 + 10, none⟩ = some (.slice x2.A x2.es.length x2.cap) ∧ Below wa.heap.size wa w' ∧ wa.heap.size ≤ w'.heap.size) (by kernel_rfl) (by (try dsimp only); refine ⟨?_, ?_, ?_, ?_, ?_, ?_, ?_, ?_, ?_, ?_, ?_, ?_, ?_, ?_, ?_, ?_, ?_, ?_, ?_, ?_, ?_, ?_, ?_, ?_⟩ <;> first | assumption | exact Below.drew (Below.refl _ _) | exact Nat.le_refl _) (fun hHeld => ?_)
          generalize wa.drew = wz at *
          refine wpAnyH_take (i := 0) (oi := ⟨_, _, _, _, _, _⟩) (v := ?v90) rfl (by kernel_rfl) (by kernel_rfl) (by kernel_rfl) (fun _ _ _ h => h) (Or.inl ⟨by rfl, ?hy90⟩) hHeld ?rest90
          case hy90 => (intro w2 hSw; (try dsimp only at hSw); go_split_ands; go_simp; first | done | with_reducible rfl)
          try simp only [Act.put, List.setIfInBounds_toArray, List.set_cons_zero, List.set_cons_succ]
          refine wpAnyH_ready (rs := [1]) (by kernel_rfl) (by simp) ?_
          refine AllReadyH.cons (o := ⟨_, _, _, _, _, _⟩) rfl (fun K hK => ?_) AllReadyH.nil
          go_split_ands
          go_simp
          refine ((CR _).out).mono ?_
          rintro e w1 ⟨rfl, hb⟩
          refine hK.out _ _ ?_ (fun hHeld => ?_)
          · ((try dsimp only); refine ⟨?_, ?_, ?_, ?_, ?_, ?_, ?_, ?_, ?_, ?_, ?_, ?_, ?_, ?_, ?_, ?_, ?_, ?_, ?_, ?_, ?_, ?_, ?_, ?_⟩ <;> first | (rw [hb.cell (by dsimp only; omega)]; assumption) | exact Below.trans (by assumption) (hb.mono (by omega)) | (have := hb.size; omega))
          clear hK K hb
          try simp only [Act.put, List.setIfInBounds_toArray, List.set_cons_zero, List.set_cons_succ]
          refine wpAnyH_take (i := 2) (oi := ⟨_, _, _, _, _, _⟩) (v := ?v91) rfl (by kernel_rfl) (by kernel_rfl) (by kernel_rfl) (fun _ _ _ h => h) (Or.inl ⟨by rfl, ?hy91⟩) hHeld ?rest91
          case hy91 => (intro w2 hSw; (try dsimp only at hSw); go_split_ands; go_simp; first | done | with_reducible rfl)
          try simp only [Act.put, List.setIfInBounds_toArray, List.set_cons_zero, List.set_cons_succ]
          refine wpAnyH_take (i := 3) (oi := ⟨_, _, _, _, _, _⟩) (v := ?v92) rfl (by kernel_rfl) (by kernel_rfl) (by kernel_rfl) (fun _ _ _ h => h) (Or.inl ⟨by rfl, ?hy92⟩) hHeld ?rest92
          case hy92 => (intro w2 hSw; (try dsimp only at hSw); go_split_ands; go_simp; first | done | with_reducible rfl)
          try simp only [Act.put, List.setIfInBounds_toArray, List.set_cons_zero, List.set_cons_succ]
          refine wpAnyH_take (i := 4) (oi := ⟨_, _, _, _, _, _⟩) (v := ?v93) rfl (by kernel_rfl) (by kernel_rfl) (by kernel_rfl) (fun _ _ _ h => h) (Or.inl ⟨by rfl, ?hy93⟩) hHeld ?rest93
          case hy93 => (intro w2 hSw; (try dsimp only at hSw); go_split_ands; go_simp; first | done | with_reducible rfl)
          try simp only [Act.put, List.setIfInBounds_toArray, List.set_cons_zero, List.set_cons_succ]
          refine wpAnyH_ready (rs := [5]) (by kernel_rfl) (by simp) ?_
          refine AllReadyH.cons (o := ⟨_, _, _, _, _, _⟩) rfl (fun K hK => ?_) AllReadyH.nil
          go_split_ands
          go_simp
          refine ((CC _).out).mono ?_
          rintro e w1 ⟨rfl, hb⟩
          refine hK.out _ _ ?_ (fun hHeld => ?_)
          · ((try dsimp only); refine ⟨?_, ?_, ?_, ?_, ?_, ?_, ?_, ?_, ?_, ?_, ?_, ?_, ?_, ?_, ?_, ?_, ?_, ?_, ?_, ?_, ?_, ?_, ?_, ?_⟩ <;> first | (rw [hb.cell (by dsimp only; omega)]; assumption) | exact Below.trans (by assumption) (hb.mono (by omega)) | (have := hb.size; omega))
          clear hK K hb
          try simp only [Act.put, List.setIfInBounds_toArray, List.set_cons_zero, List.set_cons_succ]
          refine wpAnyH_take (i := 6) (oi := ⟨_, _, _, _, _, _⟩) (v := ?v94) rfl (by kernel_rfl) (by kernel_rfl) (by kernel_rfl) (fun _ _ _ h => h) (Or.inl ⟨by rfl, ?hy94⟩) hHeld ?rest94
          case hy94 => (intro w2 hSw; (try dsimp only at hSw); go_split_ands; go_simp; first | done | with_reducible rfl)
          try simp only [Act.put, List.setIfInBounds_toArray, List.set_cons_zero, List.set_cons_succ]
          refine wpAnyH_take (i := 7) (oi := ⟨_, _, _, _, _, _⟩) (v := ?v95) rfl (by kernel_rfl) (by kernel_rfl) (by kernel_rfl) (fun _ _ _ h => h) (Or.inl ⟨by rfl, ?hy95⟩) hHeld ?rest95
          case hy95 => (intro w2 hSw; (try dsimp only at hSw); go_split_ands; go_simp; first | done | with_reducible rfl)
          try simp only [Act.put, List.setIfInBounds_toArray, List.set_cons_zero, List.set_cons_succ]
          refine wpAnyH_take (i := 8) (oi := ⟨_, _, _, _, _, _⟩) (v := ?v96) rfl (by kernel_rfl) (by kernel_rfl) (by kernel_rfl) (fun _ _ _ h => h) (Or.inl ⟨by rfl, ?hy96⟩) hHeld ?rest96
          case hy96 => (intro w2 hSw; (try dsimp only at hSw); go_split_ands; go_simp; first | done | with_reducible rfl)
          try simp only [Act.put, List.setIfInBounds_toArray, List.set_cons_zero, List.set_cons_succ]
          refine wpAnyH_take (i := 9) (oi := ⟨_, _, _, _, _, _⟩) (v := ?v97) rfl (by kernel_rfl) (by kernel_rfl) (by kernel_rfl) (fun _ _ _ h => h) (Or.inl ⟨by rfl, ?hy97⟩) hHeld ?rest97
          case hy97 => (intro w2 hSw; (try dsimp only at hSw); go_split_ands; go_simp; first | done | with_reducible rfl)
          try simp only [Act.put, List.setIfInBounds_toArray, List.set_cons_zero, List.set_cons_succ]
          refine wpAnyH_take (i := 10) (oi := ⟨_, _, _, _, _, _⟩) (v := ?v98) rfl (by kernel_rfl) (by kernel_rfl) (by kernel_rfl) (fun _ _ _ h => h) (Or.inl ⟨by rfl, ?hy98⟩) hHeld ?rest98
          case hy98 => (intro w2 hSw; (try dsimp only at hSw); go_split_ands; go_simp; first | done | with_reducible rfl)
          try simp only [Act.put, List.setIfInBounds_toArray, List.set_cons_zero, List.set_cons_succ]
          refine wpAnyH_take (i := 11) (oi := ⟨_, _, _, _, _, _⟩) (v := ?v99) rfl (by kernel_rfl) (by kernel_rfl) (by kernel_rfl) (fun _ _ _ h => h) (Or.inl ⟨by rfl, ?hy99⟩) hHeld ?rest99
          case hy99 => (intro w2 hSw; (try dsimp only at hSw); go_split_ands; go_simp; first | done | with_reducible rfl)
          try simp only [Act.put, List.setIfInBounds_toArray, List.set_cons_zero, List.set_cons_succ]
          refine wpAnyH_take (i := 12) (oi := ⟨_, _, _, _, _, _⟩) (v := ?v100) rfl (by kernel_rfl) (by kernel_rfl) (by kernel_rfl) (fun _ _ _ h => h) (Or.inl ⟨by rfl, ?hy100⟩) hHeld ?rest100
          case hy100 => (intro w2 hSw; (try dsimp only at hSw); go_split_ands; go_simp; first | done | with_reducible rfl)
          try simp only [Act.put, List.setIfInBounds_toArray, List.set_cons_zero, List.set_cons_succ]
          refine wpAnyH_take (i := 13) (oi := ⟨_, _, _, _, _, _⟩) (v := ?v101) rfl (by kernel_rfl) (by kernel_rfl) (by kernel_rfl) (fun _ _ _ h => h) (Or.inl ⟨by rfl, ?hy101⟩) hHeld ?rest101
          case hy101 => (intro w2 hSw; (try dsimp only at hSw); go_split_ands; go_simp; first | done | with_reducible rfl)
          try simp only [Act.put, List.setIfInBounds_toArray, List.set_cons_zero, List.set_cons_succ]
          refine wpAnyH_take (i := 14) (oi := ⟨_, _, _, _, _, _⟩) (v := ?v102) rfl (by kernel_rfl) (by kernel_rfl) (by kernel_rfl) (fun _ _ _ h => h) (Or.inl ⟨by rfl, ?hy102⟩) hHeld ?rest102
          case hy102 => (intro w2 hSw; (try dsimp only at hSw); go_split_ands; go_simp; first | done | with_reducible rfl)
          try simp only [Act.put, List.setIfInBounds_toArray, List.set_cons_zero, List.set_cons_succ]
          refine wpAnyH_take (i := 15) (oi := ⟨_, _, _, _, _, _⟩) (v := ?v103) rfl (by kernel_rfl) (by kernel_rfl) (by kernel_rfl) (fun _ _ _ h => h) (Or.inl ⟨by rfl, ?hy103⟩) hHeld ?rest103
          case hy103 => (intro w2 hSw; (try dsimp only at hSw); go_split_ands; go_simp; first | done | with_reducible rfl)
          try simp only [Act.put, List.setIfInBounds_toArray, List.set_cons_zero, List.set_cons_succ]
          refine wpAnyH_take (i := 16) (oi := ⟨_, _, _, _, _, _⟩) (v := ?v104) rfl (by kernel_rfl) (by kernel_rfl) (by kernel_rfl) (fun _ _ _ h => h) (Or.inl ⟨by rfl, ?hy104⟩) hHeld ?rest104
          case hy104 => (intro w2 hSw; (try dsimp only at hSw); go_split_ands; go_simp; first | done | with_reducible rfl)
          try simp only [Act.put, List.setIfInBounds_toArray, List.set_cons_zero, List.set_cons_succ]
          refine wpAnyH_ready (rs := [17]) (by kernel_rfl) (by simp) ?_
          refine AllReadyH.cons (o := ⟨_, _, _, _, _, _⟩) rfl (fun K hK => ?_) AllReadyH.nil
          go_split_ands
          go_simp
          refine ((CAl _).out).mono ?_
          rintro e w1 ⟨rfl, hb⟩
          refine hK.out _ _ ?_ (fun hHeld => ?_)
          · ((try dsimp only); refine ⟨?_, ?_, ?_, ?_, ?_, ?_, ?_, ?_, ?_, ?_, ?_, ?_, ?_, ?_, ?_, ?_, ?_, ?_, ?_, ?_, ?_, ?_, ?_, ?_⟩ <;> first | (rw [hb.cell (by dsimp only; omega)]; assumption) | exact Below.trans (by assumption) (hb.mono (by omega)) | (have := hb.size; omega))
          clear hK K hb
          try simp only [Act.put, List.setIfInBounds_toArray, List.set_cons_zero, List.set_cons_succ]
          refine wpAnyH_take (i := 18) (oi := ⟨_, _, _, _, _, _⟩) (v := ?v105) rfl (by kernel_rfl) (by kernel_rfl) (by kernel_rfl) (fun _ _ _ h => h) (Or.inl ⟨by rfl, ?hy105⟩) hHeld ?rest105
          case hy105 => (intro w2 hSw; (try dsimp only at hSw); go_split_ands; go_simp; first | done | with_reducible rfl)
          try simp only [Act.put, List.setIfInBounds_toArray, List.set_cons_zero, List.set_cons_succ]
          refine wpAnyH_take (i := 19) (oi := ⟨_, _, _, _, _, _⟩) (v := ?v106) rfl (by kernel_rfl) (by kernel_rfl) (by kernel_rfl) (fun _ _ _ h => h) (Or.inl ⟨by rfl, ?hy106⟩) hHeld ?rest106
          case hy106 => (intro w2 hSw; (try dsimp only at hSw); go_split_ands; go_simp; first | done | with_reducible rfl)
          try simp only [Act.put, List.setIfInBounds_toArray, List.set_cons_zero, List.set_cons_succ]
          refine wpAnyH_take (i := 20) (oi := ⟨_, _, _, _, _, _⟩) (v := ?v107) rfl (by kernel_rfl) (by kernel_rfl) (by kernel_rfl) (fun _ _ _ h => h) (Or.inl ⟨by rfl, ?hy107⟩) hHeld ?rest107
          case hy107 => (intro w2 hSw; (try dsimp only at hSw); go_split_ands; go_simp; first | done | with_reducible rfl)
          try simp only [Act.put, List.setIfInBounds_toArray, List.set_cons_zero, List.set_cons_succ]
          refine wpAnyH_done (by kernel_rfl) ?_ _
          refine NoPanic.normal ?_
          go_split_ands
          go_wp2
          go_meet
          case rel => exact ⟨by rw [← hbad.out]; simp [*], by assumption⟩
      · have hb1 : decide ((1 : Int) < R) = false := by simp; omega
        refine wp_region_noPanic ?_
        refine wp_region_held_drew (S := fun w' => w'.cell? ⟨Q, 0, none⟩ = some (.bool x1.many) ∧ w'.cell? ⟨Q, 1, none⟩ = some (.int .i64 x1.v.t) ∧ w'.cell? ⟨Q, 2, none⟩ = some (.int .i64 x1.v.n) ∧ w'.cell? ⟨Q, 3, none⟩ = some (.string x1.v.s) ∧ w'.cell? ⟨Q, 4, none⟩ = some (.bool x1.v.b) ∧ w'.cell? ⟨Q, 5, none⟩ = some (.int .i64 x1.v.c) ∧ w'.cell? ⟨Q, 6, none⟩ = some (.int .i64 x1.t) ∧ w'.cell? ⟨Q, 7, none⟩ = some (.int .i64 x1.l) ∧ w'.cell? ⟨Q, 8, none⟩ = some (.int .i64 x1.b) ∧ w'.cell? ⟨Q, 9, none⟩ = some (.int .i64 x1.r) ∧ w'.cell? ⟨Q, 10, none⟩ = some (.slice x1.A x1.es.length x1.cap) ∧ w'.cell? ⟨ab, ao + 22, none⟩ = some (.bool x2.many) ∧ w'.cell? ⟨ab, ao + 22 + 1, none⟩ = some (.int .i64 x2.v.t) ∧ w'.cell? ⟨ab, ao + 22 + 2, none⟩ = some (.int .i64 x2.v.n) ∧ w'.cell? ⟨ab, ao + 22 + 3, none⟩ = some (.string x2.v.s) ∧ w'.cell? ⟨ab, ao + 22 + 4, none⟩ = some (.bool x2.v.b) ∧ w'.cell? ⟨ab, ao + 22 + 5, none⟩ = some (.int .i64 x2.v.c) ∧ w'.cell? ⟨ab, ao + 22 + 6, none⟩ = some (.int .i64 x2.t) ∧ w'.cell? ⟨ab, ao + 22 + 7, none⟩ = some (.int .i64 x2.l) ∧ w'.cell? ⟨ab, ao + 22 + 8, none⟩ = some (.int .i64 x2.b) ∧ w'.cell? ⟨ab, ao + 22 + 9, none⟩ = some (.int .i64 x2.r) ∧ w'.cell? ⟨ab, ao + 22 + 10, none⟩ = some (.slice x2.A x2.es.length x2.cap) ∧ Below wa.heap.size wa w' ∧ wa.heap.size ≤ w'.heap.size) (by kernel_rfl) (by (try dsimp only); refine ⟨?_, ?_, ?_, ?_, ?_, ?_, ?_, ?_, ?_, ?_, ?_, ?_, ?_, ?_, ?_, ?_, ?_, ?_, ?_, ?_, ?_, ?_, ?_, ?_⟩ <;> first | assumption | exact Below.drew (Below.refl _ _) | exact Nat.le_refl _) (fun hHeld => ?_)
        generalize wa.drew = wz at *
        refine wpAnyH_take (i := 0) (oi := ⟨_, _, _, _, _, _⟩) (v := ?v108) rfl (by kernel_rfl) (by kernel_rfl) (by kernel_rfl) (fun _ _ _ h => h) (Or.inl ⟨by rfl, ?hy108⟩) hHeld ?rest108
        case hy108 => (intro w2 hSw; (try dsimp only at hSw); go_split_ands; go_simp; first | done | with_reducible rfl)
        try simp only [Act.put, List.setIfInBounds_toArray, List.set_cons_zero, List.set_cons_succ]
        refine wpAnyH_ready (rs := [1]) (by kernel_rfl) (by simp) ?_
        refine AllReadyH.cons (o := ⟨_, _, _, _, _, _⟩) rfl (fun K hK => ?_) AllReadyH.nil
        go_split_ands
        go_simp
        refine ((CR _).out).mono ?_
        rintro e w1 ⟨rfl, hb⟩
        refine hK.out _ _ ?_ (fun hHeld => ?_)
        · ((try dsimp only); refine ⟨?_, ?_, ?_, ?_, ?_, ?_, ?_, ?_, ?_, ?_, ?_, ?_, ?_, ?_, ?_, ?_, ?_, ?_, ?_, ?_, ?_, ?_, ?_, ?_⟩ <;> first | (rw [hb.cell (by dsimp only; omega)]; assumption) | exact Below.trans (by assumption) (hb.mono (by omega)) | (have := hb.size; omega))
        clear hK K hb
        try simp only [Act.put, List.setIfInBounds_toArray, List.set_cons_zero, List.set_cons_succ]
        refine wpAnyH_take (i := 2) (oi := ⟨_, _, _, _, _, _⟩) (v := ?v109) rfl (by kernel_rfl) (by kernel_rfl) (by kernel_rfl) (fun _ _ _ h => h) (Or.inl ⟨by rfl, ?hy109⟩) hHeld ?rest109
        case hy109 => (intro w2 hSw; (try dsimp only at hSw); go_split_ands; go_simp; first | done | with_reducible rfl)
        try simp only [Act.put, List.setIfInBounds_toArray, List.set_cons_zero, List.set_cons_succ]
        refine wpAnyH_take (i := 3) (oi := ⟨_, _, _, _, _, _⟩) (v := ?v110) rfl (by kernel_rfl) (by kernel_rfl) (by kernel_rfl) (fun _ _ _ h => h) (Or.inl ⟨by rfl, ?hy110⟩) hHeld ?rest110
        case hy110 => (intro w2 hSw; (try dsimp only at hSw); go_split_ands; go_simp; first | done | with_reducible rfl)
        try simp only [Act.put, List.setIfInBounds_toArray, List.set_cons_zero, List.set_cons_succ]
        refine wpAnyH_take (i := 4) (oi := ⟨_, _, _, _, _, _⟩) (v := undef) rfl (by kernel_rfl) (by kernel_rfl) (by kernel_rfl) (fun _ _ _ h => h) (Or.inr ⟨by rfl, rfl⟩) hHeld ?_
        try simp only [Act.put, List.setIfInBounds_toArray, List.set_cons_zero, List.set_cons_succ]
        refine wpAnyH_take (i := 5) (oi := ⟨_, _, _, _, _, _⟩) (v := undef) rfl (by kernel_rfl) (by kernel_rfl) (by kernel_rfl) (fun _ _ _ h => h) (Or.inr ⟨by rfl, rfl⟩) hHeld ?_
        try simp only [Act.put, List.setIfInBounds_toArray, List.set_cons_zero, List.set_cons_succ]
        refine wpAnyH_take (i := 6) (oi := ⟨_, _, _, _, _, _⟩) (v := undef) rfl (by kernel_rfl) (by kernel_rfl) (by kernel_rfl) (fun _ _ _ h => h) (Or.inr ⟨by rfl, rfl⟩) hHeld ?_
        try simp only [Act.put, List.setIfInBounds_toArray, List.set_cons_zero, List.set_cons_succ]
        refine wpAnyH_take (i := 7) (oi := ⟨_, _, _, _, _, _⟩) (v := ?v111) rfl (by kernel_rfl) (by kernel_rfl) (by kernel_rfl) (fun _ _ _ h => h) (Or.inl ⟨by rfl, ?hy111⟩) hHeld ?rest111
        case hy111 => (intro w2 hSw; (try dsimp only at hSw); go_split_ands; go_simp; first | done | with_reducible rfl)
        try simp only [Act.put, List.setIfInBounds_toArray, List.set_cons_zero, List.set_cons_succ]
        refine wpAnyH_take (i := 8) (oi := ⟨_, _, _, _, _, _⟩) (v := ?v112) rfl (by kernel_rfl) (by kernel_rfl) (by kernel_rfl) (fun _ _ _ h => h) (Or.inl ⟨by rfl, ?hy112⟩) hHeld ?rest112
        case hy112 => (intro w2 hSw; (try dsimp only at hSw); go_split_ands; go_simp; first | done | with_reducible rfl)
        try simp only [Act.put, List.setIfInBounds_toArray, List.set_cons_zero, List.set_cons_succ]
        refine wpAnyH_take (i := 9) (oi := ⟨_, _, _, _, _, _⟩) (v := ?v113) rfl (by kernel_rfl) (by kernel_rfl) (by kernel_rfl) (fun _ _ _ h => h) (Or.inl ⟨by rfl, ?hy113⟩) hHeld ?rest113
        case hy113 => (intro w2 hSw; (try dsimp only at hSw); go_split_ands; go_simp; first | done | with_reducible rfl)
        try simp only [Act.put, List.setIfInBounds_toArray, List.set_cons_zero, List.set_cons_succ]
        refine wpAnyH_take (i := 10) (oi := ⟨_, _, _, _, _, _⟩) (v := ?v114) rfl (by kernel_rfl) (by kernel_rfl) (by kernel_rfl) (fun _ _ _ h => h) (Or.inl ⟨by rfl, ?hy114⟩) hHeld ?rest114
        case hy114 => (intro w2 hSw; (try dsimp only at hSw); go_split_ands; go_simp; first | done | with_reducible rfl)
        try simp only [Act.put, List.setIfInBounds_toArray, List.set_cons_zero, List.set_cons_succ]
        refine wpAnyH_take (i := 11) (oi := ⟨_, _, _, _, _, _⟩) (v := ?v115) rfl (by kernel_rfl) (by kernel_rfl) (by kernel_rfl) (fun _ _ _ h => h) (Or.inl ⟨by rfl, ?hy115⟩) hHeld ?rest115
        case hy115 => (intro w2 hSw; (try dsimp only at hSw); go_split_ands; go_simp; first | done | with_reducible rfl)
        try simp only [Act.put, List.setIfInBounds_toArray, List.set_cons_zero, List.set_cons_succ]
        refine wpAnyH_take (i := 12) (oi := ⟨_, _, _, _, _, _⟩) (v := ?v116) rfl (by kernel_rfl) (by kernel_rfl) (by kernel_rfl) (fun _ _ _ h => h) (Or.inl ⟨by rfl, ?hy116⟩) hHeld ?rest116
        case hy116 => (intro w2 hSw; (try dsimp only at hSw); go_split_ands; go_simp; first | done | with_reducible rfl)
        try simp only [Act.put, List.setIfInBounds_toArray, List.set_cons_zero, List.set_cons_succ]
        refine wpAnyH_take (i := 13) (oi := ⟨_, _, _, _, _, _⟩) (v := ?v117) rfl (by kernel_rfl) (by kernel_rfl) (by kernel_rfl) (fun _ _ _ h => h) (Or.inl ⟨by rfl, ?hy117⟩) hHeld ?rest117
        case hy117 => (intro w2 hSw; (try dsimp only at hSw); go_split_ands; go_simp; first | done | with_reducible rfl)
        try simp only [Act.put, List.setIfInBounds_toArray, List.set_cons_zero, List.set_cons_succ]
        refine wpAnyH_take (i := 14) (oi := ⟨_, _, _, _, _, _⟩) (v := ?v118) rfl (by kernel_rfl) (by kernel_rfl) (by kernel_rfl) (fun _ _ _ h => h) (Or.inl ⟨by rfl, ?hy118⟩) hHeld ?rest118
        case hy118 => (intro w2 hSw; (try dsimp only at hSw); go_split_ands; go_simp; first | done | with_reducible rfl)
        try simp only [Act.put, List.setIfInBounds_toArray, List.set_cons_zero, List.set_cons_succ]
        refine wpAnyH_take (i := 15) (oi := ⟨_, _, _, _, _, _⟩) (v := ?v119) rfl (by kernel_rfl) (by kernel_rfl) (by kernel_rfl) (fun _ _ _ h => h) (Or.inl ⟨by rfl, ?hy119⟩) hHeld ?rest119
        case hy119 => (intro w2 hSw; (try dsimp only at hSw); go_split_ands; go_simp; first | done | with_reducible rfl)
        try simp only [Act.put, List.setIfInBounds_toArray, List.set_cons_zero, List.set_cons_succ]
        refine wpAnyH_take (i := 16) (oi := ⟨_, _, _, _, _, _⟩) (v := ?v120) rfl (by kernel_rfl) (by kernel_rfl) (by kernel_rfl) (fun _ _ _ h => h) (Or.inl ⟨by rfl, ?hy120⟩) hHeld ?rest120
        case hy120 => (intro w2 hSw; (try dsimp only at hSw); go_split_ands; go_simp; first | done | with_reducible rfl)
        try simp only [Act.put, List.setIfInBounds_toArray, List.set_cons_zero, List.set_cons_succ]
        refine wpAnyH_ready (rs := [17]) (by kernel_rfl) (by simp) ?_
        refine AllReadyH.cons (o := ⟨_, _, _, _, _, _⟩) rfl (fun K hK => ?_) AllReadyH.nil
        go_split_ands
        go_simp
        refine ((CAl _).out).mono ?_
        rintro e w1 ⟨rfl, hb⟩
        refine hK.out _ _ ?_ (fun hHeld => ?_)
        · ((try dsimp only); refine ⟨?_, ?_, ?_, ?_, ?_, ?_, ?_, ?_, ?_, ?_, ?_, ?_, ?_, ?_, ?_, ?_, ?_, ?_, ?_, ?_, ?_, ?_, ?_, ?_⟩ <;> first | (rw [hb.cell (by dsimp only; omega)]; assumption) | exact Below.trans (by assumption) (hb.mono (by omega)) | (have := hb.size; omega))
        clear hK K hb
        try simp only [Act.put, List.setIfInBounds_toArray, List.set_cons_zero, List.set_cons_succ]
        refine wpAnyH_take (i := 18) (oi := ⟨_, _, _, _, _, _⟩) (v := ?v121) rfl (by kernel_rfl) (by kernel_rfl) (by kernel_rfl) (fun _ _ _ h => h) (Or.inl ⟨by rfl, ?hy121⟩) hHeld ?rest121
        case hy121 => (intro w2 hSw; (try dsimp only at hSw); go_split_ands; go_simp; first | done | with_reducible rfl)
        try simp only [Act.put, List.setIfInBounds_toArray, List.set_cons_zero, List.set_cons_succ]
        refine wpAnyH_take (i := 19) (oi := ⟨_, _, _, _, _, _⟩) (v := ?v122) rfl (by kernel_rfl) (by kernel_rfl) (by kernel_rfl) (fun _ _ _ h => h) (Or.inl ⟨by rfl, ?hy122⟩) hHeld ?rest122
        case hy122 => (intro w2 hSw; (try dsimp only at hSw); go_split_ands; go_simp; first | done | with_reducible rfl)
        try simp only [Act.put, List.setIfInBounds_toArray, List.set_cons_zero, List.set_cons_succ]
        refine wpAnyH_take (i := 20) (oi := ⟨_, _, _, _, _, _⟩) (v := ?v123) rfl (by kernel_rfl) (by kernel_rfl) (by kernel_rfl) (fun _ _ _ h => h) (Or.inl ⟨by rfl, ?hy123⟩) hHeld ?rest123
        case hy123 => (intro w2 hSw; (try dsimp only at hSw); go_split_ands; go_simp; first | done | with_reducible rfl)
        try simp only [Act.put, List.setIfInBounds_toArray, List.set_cons_zero, List.set_cons_succ]
        refine wpAnyH_done (by kernel_rfl) ?_ _
        refine NoPanic.normal ?_
        go_split_ands
        go_wp2
        go_meet
        case rel => exact ⟨by rw [← hbad.out]; simp [*], by assumption⟩
    case rest =>
      obtain ⟨wd, rfl⟩ : ∃ wd, wd = wc := ⟨_, rfl⟩
      obtain ⟨rfl, hbd⟩ := hcut
      have hq1 : Below w.heap.size w wd := hq0.trans (hbd.mono hq0.size)
      have hbw : Below (w.heap.size + 1) (w.alloc (.cells #[.int .i64 0, .int .i64 0, .string ⟨#[]⟩, .bool false, .int .i64 0] 26)) wd := hbc.trans (hbd.mono (by omega))
      have dq0 : wd.cell? ⟨Q, 0, none⟩ = some (.bool x1.many) := (hbd.cell (p := ⟨Q, 0, none⟩) hQl).trans cq0
      have dq1 : wd.cell? ⟨Q, 1, none⟩ = some (.int .i64 x1.v.t) := (hbd.cell (p := ⟨Q, 1, none⟩) hQl).trans cq1
      have dq2 : wd.cell? ⟨Q, 2, none⟩ = some (.int .i64 x1.v.n) := (hbd.cell (p := ⟨Q, 2, none⟩) hQl).trans cq2
      have dq3 : wd.cell? ⟨Q, 3, none⟩ = some (.string x1.v.s) := (hbd.cell (p := ⟨Q, 3, none⟩) hQl).trans cq3
      have dq4 : wd.cell? ⟨Q, 4, none⟩ = some (.bool x1.v.b) := (hbd.cell (p := ⟨Q, 4, none⟩) hQl).trans cq4
      have dq5 : wd.cell? ⟨Q, 5, none⟩ = some (.int .i64 x1.v.c) := (hbd.cell (p := ⟨Q, 5, none⟩) hQl).trans cq5
      have dq6 : wd.cell? ⟨Q, 6, none⟩ = some (.int .i64 x1.t) := (hbd.cell (p := ⟨Q, 6, none⟩) hQl).trans cq6
      have dq7 : wd.cell? ⟨Q, 7, none⟩ = some (.int .i64 x1.l) := (hbd.cell (p := ⟨Q, 7, none⟩) hQl).trans cq7
      have dq8 : wd.cell? ⟨Q, 8, none⟩ = some (.int .i64 x1.b) := (hbd.cell (p := ⟨Q, 8, none⟩) hQl).trans cq8
      have dq9 : wd.cell? ⟨Q, 9, none⟩ = some (.int .i64 x1.r) := (hbd.cell (p := ⟨Q, 9, none⟩) hQl).trans cq9
      have dq10 : wd.cell? ⟨Q, 10, none⟩ = some (.slice x1.A x1.es.length x1.cap) := (hbd.cell (p := ⟨Q, 10, none⟩) hQl).trans cq10
      have dv0 : wd.cell? ⟨P, 0, none⟩ = some (.int .i64 x0.v.t) := (hbd.cell (p := ⟨P, 0, none⟩) hPl).trans (blk_cell hpP 0)
      have dv1 : wd.cell? ⟨P, 1, none⟩ = some (.int .i64 x0.v.n) := (hbd.cell (p := ⟨P, 1, none⟩) hPl).trans (blk_cell hpP 1)
      have dv2 : wd.cell? ⟨P, 2, none⟩ = some (.string x0.v.s) := (hbd.cell (p := ⟨P, 2, none⟩) hPl).trans (blk_cell hpP 2)
      have dv3 : wd.cell? ⟨P, 3, none⟩ = some (.bool x0.v.b) := (hbd.cell (p := ⟨P, 3, none⟩) hPl).trans (blk_cell hpP 3)
      have dv4 : wd.cell? ⟨P, 4, none⟩ = some (.int .i64 x0.v.c) := (hbd.cell (p := ⟨P, 4, none⟩) hPl).trans (blk_cell hpP 4)
      have d2_0 : wd.cell? ⟨ab, ao + 22, none⟩ = some (.bool x2.many) := (hbd.cell (p := ⟨ab, ao + 22, none⟩) habc).trans c2_0
      have d2_1 : wd.cell? ⟨ab, ao + 22 + 1, none⟩ = some (.int .i64 x2.v.t) := (hbd.cell (p := ⟨ab, ao + 22 + 1, none⟩) habc).trans c2_1
      have d2_2 : wd.cell? ⟨ab, ao + 22 + 2, none⟩ = some (.int .i64 x2.v.n) := (hbd.cell (p := ⟨ab, ao + 22 + 2, none⟩) habc).trans c2_2
      have d2_3 : wd.cell? ⟨ab, ao + 22 + 3, none⟩ = some (.string x2.v.s) := (hbd.cell (p := ⟨ab, ao + 22 + 3, none⟩) habc).trans c2_3
      have d2_4 : wd.cell? ⟨ab, ao + 22 + 4, none⟩ = some (.bool x2.v.b) := (hbd.cell (p := ⟨ab, ao + 22 + 4, none⟩) habc).trans c2_4
      have d2_5 : wd.cell? ⟨ab, ao + 22 + 5, none⟩ = some (.int .i64 x2.v.c) := (hbd.cell (p := ⟨ab, ao + 22 + 5, none⟩) habc).trans c2_5
      have d2_6 : wd.cell? ⟨ab, ao + 22 + 6, none⟩ = some (.int .i64 x2.t) := (hbd.cell (p := ⟨ab, ao + 22 + 6, none⟩) habc).trans c2_6
      have d2_7 : wd.cell? ⟨ab, ao + 22 + 7, none⟩ = some (.int .i64 x2.l) := (hbd.cell (p := ⟨ab, ao + 22 + 7, none⟩) habc).trans c2_7
      have d2_8 : wd.cell? ⟨ab, ao + 22 + 8, none⟩ = some (.int .i64 x2.b) := (hbd.cell (p := ⟨ab, ao + 22 + 8, none⟩) habc).trans c2_8
      have d2_9 : wd.cell? ⟨ab, ao + 22 + 9, none⟩ = some (.int .i64 x2.r) := (hbd.cell (p := ⟨ab, ao + 22 + 9, none⟩) habc).trans c2_9
      have d2_10 : wd.cell? ⟨ab, ao + 22 + 10, none⟩ = some (.slice x2.A x2.es.length x2.cap) := (hbd.cell (p := ⟨ab, ao + 22 + 10, none⟩) habc).trans c2_10
      have hQd : Q < wd.heap.size := Nat.lt_of_lt_of_le hQl hbd.size
      have hPd : P < wd.heap.size := Nat.lt_of_lt_of_le hPl hbd.size
      have habd : ab < wd.heap.size := Nat.lt_of_lt_of_le habc hbd.size
      have hwd : w.heap.size < wd.heap.size := by omega
      clear hbd hpP hpQ cq0 cq1 cq2 cq3 cq4 cq5 cq6 cq7 cq8 cq9 cq10 c2_0 c2_1 c2_2 c2_3 c2_4 c2_5 c2_6 c2_7 c2_8 c2_9 c2_10 hbc hq0 CAl
      cases bad
      · have hre : Hid (lookR3 x0.v x1 x2 = rs) := hres'
        go_wp2_with fail
        refine (CH _ hq1).out.mono ?_
        clear CH
        rintro e we ⟨⟨b, rfl, hbl, hown⟩, hbe⟩
        have eq0 : we.cell? ⟨Q, 0, none⟩ = some (.bool x1.many) := (hbe.cell (p := ⟨Q, 0, none⟩) hQd).trans dq0
        have eq1 : we.cell? ⟨Q, 1, none⟩ = some (.int .i64 x1.v.t) := (hbe.cell (p := ⟨Q, 1, none⟩) hQd).trans dq1
        have eq2 : we.cell? ⟨Q, 2, none⟩ = some (.int .i64 x1.v.n) := (hbe.cell (p := ⟨Q, 2, none⟩) hQd).trans dq2
        have eq3 : we.cell? ⟨Q, 3, none⟩ = some (.string x1.v.s) := (hbe.cell (p := ⟨Q, 3, none⟩) hQd).trans dq3
        have eq4 : we.cell? ⟨Q, 4, none⟩ = some (.bool x1.v.b) := (hbe.cell (p := ⟨Q, 4, none⟩) hQd).trans dq4
        have eq5 : we.cell? ⟨Q, 5, none⟩ = some (.int .i64 x1.v.c) := (hbe.cell (p := ⟨Q, 5, none⟩) hQd).trans dq5
        have eq6 : we.cell? ⟨Q, 6, none⟩ = some (.int .i64 x1.t) := (hbe.cell (p := ⟨Q, 6, none⟩) hQd).trans dq6
        have eq7 : we.cell? ⟨Q, 7, none⟩ = some (.int .i64 x1.l) := (hbe.cell (p := ⟨Q, 7, none⟩) hQd).trans dq7
        have eq8 : we.cell? ⟨Q, 8, none⟩ = some (.int .i64 x1.b) := (hbe.cell (p := ⟨Q, 8, none⟩) hQd).trans dq8
        have eq9 : we.cell? ⟨Q, 9, none⟩ = some (.int .i64 x1.r) := (hbe.cell (p := ⟨Q, 9, none⟩) hQd).trans dq9
        have eq10 : we.cell? ⟨Q, 10, none⟩ = some (.slice x1.A x1.es.length x1.cap) := (hbe.cell (p := ⟨Q, 10, none⟩) hQd).trans dq10
        have ev0 : we.cell? ⟨P, 0, none⟩ = some (.int .i64 x0.v.t) := (hbe.cell (p := ⟨P, 0, none⟩) hPd).trans dv0
        have ev1 : we.cell? ⟨P, 1, none⟩ = some (.int .i64 x0.v.n) := (hbe.cell (p := ⟨P, 1, none⟩) hPd).trans dv1
        have ev2 : we.cell? ⟨P, 2, none⟩ = some (.string x0.v.s) := (hbe.cell (p := ⟨P, 2, none⟩) hPd).trans dv2
        have ev3 : we.cell? ⟨P, 3, none⟩ = some (.bool x0.v.b) := (hbe.cell (p := ⟨P, 3, none⟩) hPd).trans dv3
        have ev4 : we.cell? ⟨P, 4, none⟩ = some (.int .i64 x0.v.c) := (hbe.cell (p := ⟨P, 4, none⟩) hPd).trans dv4
        have e2_0 : we.cell? ⟨ab, ao + 22, none⟩ = some (.bool x2.many) := (hbe.cell (p := ⟨ab, ao + 22, none⟩) habd).trans d2_0
        have e2_1 : we.cell? ⟨ab, ao + 22 + 1, none⟩ = some (.int .i64 x2.v.t) := (hbe.cell (p := ⟨ab, ao + 22 + 1, none⟩) habd).trans d2_1
        have e2_2 : we.cell? ⟨ab, ao + 22 + 2, none⟩ = some (.int .i64 x2.v.n) := (hbe.cell (p := ⟨ab, ao + 22 + 2, none⟩) habd).trans d2_2
        have e2_3 : we.cell? ⟨ab, ao + 22 + 3, none⟩ = some (.string x2.v.s) := (hbe.cell (p := ⟨ab, ao + 22 + 3, none⟩) habd).trans d2_3
        have e2_4 : we.cell? ⟨ab, ao + 22 + 4, none⟩ = some (.bool x2.v.b) := (hbe.cell (p := ⟨ab, ao + 22 + 4, none⟩) habd).trans d2_4
        have e2_5 : we.cell? ⟨ab, ao + 22 + 5, none⟩ = some (.int .i64 x2.v.c) := (hbe.cell (p := ⟨ab, ao + 22 + 5, none⟩) habd).trans d2_5
        have e2_6 : we.cell? ⟨ab, ao + 22 + 6, none⟩ = some (.int .i64 x2.t) := (hbe.cell (p := ⟨ab, ao + 22 + 6, none⟩) habd).trans d2_6
        have e2_7 : we.cell? ⟨ab, ao + 22 + 7, none⟩ = some (.int .i64 x2.l) := (hbe.cell (p := ⟨ab, ao + 22 + 7, none⟩) habd).trans d2_7
        have e2_8 : we.cell? ⟨ab, ao + 22 + 8, none⟩ = some (.int .i64 x2.b) := (hbe.cell (p := ⟨ab, ao + 22 + 8, none⟩) habd).trans d2_8
        have e2_9 : we.cell? ⟨ab, ao + 22 + 9, none⟩ = some (.int .i64 x2.r) := (hbe.cell (p := ⟨ab, ao + 22 + 9, none⟩) habd).trans d2_9
        have e2_10 : we.cell? ⟨ab, ao + 22 + 10, none⟩ = some (.slice x2.A x2.es.length x2.cap) := (hbe.cell (p := ⟨ab, ao + 22 + 10, none⟩) habd).trans d2_10
        have hQe : Q < we.heap.size := Nat.lt_of_lt_of_le hQd hbe.size
        have hPe : P < we.heap.size := Nat.lt_of_lt_of_le hPd hbe.size
        have habe : ab < we.heap.size := Nat.lt_of_lt_of_le habd hbe.size
        have hwe : w.heap.size < we.heap.size := Nat.lt_of_lt_of_le hwd hbe.size
        have hbx : Below (w.heap.size + 1) (w.alloc (.cells #[.int .i64 0, .int .i64 0, .string ⟨#[]⟩, .bool false, .int .i64 0] 26)) we := hbw.trans (hbe.mono (by omega))
        have hq2 : Below w.heap.size w we := hq1.trans (hbe.mono hq1.size)
        have hown' := Lib.hid hown
        have hbe' := Lib.hid hbe
        clear hbe hown hbw hq1 hbl dq0 dq1 dq2 dq3 dq4 dq5 dq6 dq7 dq8 dq9 dq10 dv0 dv1 dv2 dv3 dv4 d2_0 d2_1 d2_2 d2_3 d2_4 d2_5 d2_6 d2_7 d2_8 d2_9 d2_10
        go_upto_region 5 with (fail)
        refine wp_region_noPanic ?_
        refine wp_region_held_drew (S := fun w' => w'.cell? ⟨Q, 0, none⟩ = some (.bool x1.many) ∧ w'.cell? ⟨Q, 1, none⟩ = some (.int .i64 x1.v.t) ∧ w'.cell? ⟨Q, 2, none⟩ = some (.int .i64 x1.v.n) ∧ w'.cell? ⟨Q, 3, none⟩ = some (.string x1.v.s) ∧ w'.cell? ⟨Q, 4, none⟩ = some (.bool x1.v.b) ∧ w'.cell? ⟨Q, 5, none⟩ = some (.int .i64 x1.v.c) ∧ w'.cell? ⟨Q, 6, none⟩ = some (.int .i64 x1.t) ∧ w'.cell? ⟨Q, 7, none⟩ = some (.int .i64 x1.l) ∧ w'.cell? ⟨Q, 8, none⟩ = some (.int .i64 x1.b) ∧ w'.cell? ⟨Q, 9, none⟩ = some (.int .i64 x1.r) ∧ w'.cell? ⟨Q, 10, none⟩ = some (.slice x1.A x1.es.length x1.cap) ∧ Below we.heap.size we w' ∧ we.heap.size ≤ w'.heap.size) (by kernel_rfl) (by (try dsimp only); refine ⟨?_, ?_, ?_, ?_, ?_, ?_, ?_, ?_, ?_, ?_, ?_, ?_, ?_⟩ <;> first | assumption | exact Below.drew (Below.refl _ _) | exact Nat.le_refl _) (fun hHeld => ?_)
        generalize we.drew = wz at *
        refine wpAnyH_take (i := 0) (oi := ⟨_, _, _, _, _, _⟩) (v := ?v124) rfl (by kernel_rfl) (by kernel_rfl) (by kernel_rfl) (fun _ _ _ h => h) (Or.inl ⟨by rfl, ?hy124⟩) hHeld ?rest124
        case hy124 => (intro w2 hSw; (try dsimp only at hSw); go_split_ands; go_simp; first | done | with_reducible rfl)
        try simp only [Act.put, List.setIfInBounds_toArray, List.set_cons_zero, List.set_cons_succ]
        refine wpAnyH_take (i := 2) (oi := ⟨_, _, _, _, _, _⟩) (v := ?v125) rfl (by kernel_rfl) (by kernel_rfl) (by kernel_rfl) (fun _ _ _ h => h) (Or.inl ⟨by rfl, ?hy125⟩) hHeld ?rest125
        case hy125 => (intro w2 hSw; (try dsimp only at hSw); go_split_ands; go_simp; first | done | with_reducible rfl)
        try simp only [Act.put, List.setIfInBounds_toArray, List.set_cons_zero, List.set_cons_succ]
        refine wpAnyH_take (i := 5) (oi := ⟨_, _, _, _, _, _⟩) (v := ?v126) rfl (by kernel_rfl) (by kernel_rfl) (by kernel_rfl) (fun _ _ _ h => h) (Or.inl ⟨by rfl, ?hy126⟩) hHeld ?rest126
        case hy126 => (intro w2 hSw; (try dsimp only at hSw); go_split_ands; go_simp; first | done | with_reducible rfl)
        try simp only [Act.put, List.setIfInBounds_toArray, List.set_cons_zero, List.set_cons_succ]
        refine wpAnyH_ready (rs := [1]) (by kernel_rfl) (by simp) ?_
        refine AllReadyH.cons (o := ⟨_, _, _, _, _, _⟩) rfl (fun K hK => ?_) AllReadyH.nil
        go_split_ands
        go_simp
        refine ((CR _).out).mono ?_
        rintro e w1 ⟨rfl, hb⟩
        refine hK.out _ _ ?_ (fun hHeld => ?_)
        · ((try dsimp only); refine ⟨?_, ?_, ?_, ?_, ?_, ?_, ?_, ?_, ?_, ?_, ?_, ?_, ?_⟩ <;> first | (rw [hb.cell (by dsimp only; omega)]; assumption) | exact Below.trans (by assumption) (hb.mono (by omega)) | (have := hb.size; omega))
        clear hK K hb
        try simp only [Act.put, List.setIfInBounds_toArray, List.set_cons_zero, List.set_cons_succ]
        refine wpAnyH_ready (rs := [3]) (by kernel_rfl) (by simp) ?_
        refine AllReadyH.cons (o := ⟨_, _, _, _, _, _⟩) rfl (fun K hK => ?_) AllReadyH.nil
        go_split_ands
        go_simp
        refine ((CC _).out).mono ?_
        rintro e w1 ⟨rfl, hb⟩
        refine hK.out _ _ ?_ (fun hHeld => ?_)
        · ((try dsimp only); refine ⟨?_, ?_, ?_, ?_, ?_, ?_, ?_, ?_, ?_, ?_, ?_, ?_, ?_⟩ <;> first | (rw [hb.cell (by dsimp only; omega)]; assumption) | exact Below.trans (by assumption) (hb.mono (by omega)) | (have := hb.size; omega))
        clear hK K hb
        try simp only [Act.put, List.setIfInBounds_toArray, List.set_cons_zero, List.set_cons_succ]
        refine wpAnyH_take (i := 4) (oi := ⟨_, _, _, _, _, _⟩) (v := ?v127) rfl (by kernel_rfl) (by kernel_rfl) (by kernel_rfl) (fun _ _ _ h => h) (Or.inl ⟨by rfl, ?hy127⟩) hHeld ?rest127
        case hy127 => (intro w2 hSw; (try dsimp only at hSw); go_split_ands; go_simp; first | done | with_reducible rfl)
        try simp only [Act.put, List.setIfInBounds_toArray, List.set_cons_zero, List.set_cons_succ]
        refine wpAnyH_done (by kernel_rfl) ?_ _
        refine NoPanic.normal ?_
        go_split_ands
        have hbf : Below we.heap.size we w1 := by assumption
        obtain ⟨wf, rfl⟩ : ∃ wf, wf = w1 := ⟨_, rfl⟩
        have fq0 : wf.cell? ⟨Q, 0, none⟩ = some (.bool x1.many) := (hbf.cell (p := ⟨Q, 0, none⟩) hQe).trans eq0
        have fq1 : wf.cell? ⟨Q, 1, none⟩ = some (.int .i64 x1.v.t) := (hbf.cell (p := ⟨Q, 1, none⟩) hQe).trans eq1
        have fq2 : wf.cell? ⟨Q, 2, none⟩ = some (.int .i64 x1.v.n) := (hbf.cell (p := ⟨Q, 2, none⟩) hQe).trans eq2
        have fq3 : wf.cell? ⟨Q, 3, none⟩ = some (.string x1.v.s) := (hbf.cell (p := ⟨Q, 3, none⟩) hQe).trans eq3
        have fq4 : wf.cell? ⟨Q, 4, none⟩ = some (.bool x1.v.b) := (hbf.cell (p := ⟨Q, 4, none⟩) hQe).trans eq4
        have fq5 : wf.cell? ⟨Q, 5, none⟩ = some (.int .i64 x1.v.c) := (hbf.cell (p := ⟨Q, 5, none⟩) hQe).trans eq5
        have fq6 : wf.cell? ⟨Q, 6, none⟩ = some (.int .i64 x1.t) := (hbf.cell (p := ⟨Q, 6, none⟩) hQe).trans eq6
        have fq7 : wf.cell? ⟨Q, 7, none⟩ = some (.int .i64 x1.l) := (hbf.cell (p := ⟨Q, 7, none⟩) hQe).trans eq7
        have fq8 : wf.cell? ⟨Q, 8, none⟩ = some (.int .i64 x1.b) := (hbf.cell (p := ⟨Q, 8, none⟩) hQe).trans eq8
        have fq9 : wf.cell? ⟨Q, 9, none⟩ = some (.int .i64 x1.r) := (hbf.cell (p := ⟨Q, 9, none⟩) hQe).trans eq9
        have fq10 : wf.cell? ⟨Q, 10, none⟩ = some (.slice x1.A x1.es.length x1.cap) := (hbf.cell (p := ⟨Q, 10, none⟩) hQe).trans eq10
        have fv0 : wf.cell? ⟨P, 0, none⟩ = some (.int .i64 x0.v.t) := (hbf.cell (p := ⟨P, 0, none⟩) hPe).trans ev0
        have fv1 : wf.cell? ⟨P, 1, none⟩ = some (.int .i64 x0.v.n) := (hbf.cell (p := ⟨P, 1, none⟩) hPe).trans ev1
        have fv2 : wf.cell? ⟨P, 2, none⟩ = some (.string x0.v.s) := (hbf.cell (p := ⟨P, 2, none⟩) hPe).trans ev2
        have fv3 : wf.cell? ⟨P, 3, none⟩ = some (.bool x0.v.b) := (hbf.cell (p := ⟨P, 3, none⟩) hPe).trans ev3
        have fv4 : wf.cell? ⟨P, 4, none⟩ = some (.int .i64 x0.v.c) := (hbf.cell (p := ⟨P, 4, none⟩) hPe).trans ev4
        have f2_0 : wf.cell? ⟨ab, ao + 22, none⟩ = some (.bool x2.many) := (hbf.cell (p := ⟨ab, ao + 22, none⟩) habe).trans e2_0
        have f2_1 : wf.cell? ⟨ab, ao + 22 + 1, none⟩ = some (.int .i64 x2.v.t) := (hbf.cell (p := ⟨ab, ao + 22 + 1, none⟩) habe).trans e2_1
        have f2_2 : wf.cell? ⟨ab, ao + 22 + 2, none⟩ = some (.int .i64 x2.v.n) := (hbf.cell (p := ⟨ab, ao + 22 + 2, none⟩) habe).trans e2_2
        have f2_3 : wf.cell? ⟨ab, ao + 22 + 3, none⟩ = some (.string x2.v.s) := (hbf.cell (p := ⟨ab, ao + 22 + 3, none⟩) habe).trans e2_3
        have f2_4 : wf.cell? ⟨ab, ao + 22 + 4, none⟩ = some (.bool x2.v.b) := (hbf.cell (p := ⟨ab, ao + 22 + 4, none⟩) habe).trans e2_4
        have f2_5 : wf.cell? ⟨ab, ao + 22 + 5, none⟩ = some (.int .i64 x2.v.c) := (hbf.cell (p := ⟨ab, ao + 22 + 5, none⟩) habe).trans e2_5
        have f2_6 : wf.cell? ⟨ab, ao + 22 + 6, none⟩ = some (.int .i64 x2.t) := (hbf.cell (p := ⟨ab, ao + 22 + 6, none⟩) habe).trans e2_6
        have f2_7 : wf.cell? ⟨ab, ao + 22 + 7, none⟩ = some (.int .i64 x2.l) := (hbf.cell (p := ⟨ab, ao + 22 + 7, none⟩) habe).trans e2_7
        have f2_8 : wf.cell? ⟨ab, ao + 22 + 8, none⟩ = some (.int .i64 x2.b) := (hbf.cell (p := ⟨ab, ao + 22 + 8, none⟩) habe).trans e2_8
        have f2_9 : wf.cell? ⟨ab, ao + 22 + 9, none⟩ = some (.int .i64 x2.r) := (hbf.cell (p := ⟨ab, ao + 22 + 9, none⟩) habe).trans e2_9
        have f2_10 : wf.cell? ⟨ab, ao + 22 + 10, none⟩ = some (.slice x2.A x2.es.length x2.cap) := (hbf.cell (p := ⟨ab, ao + 22 + 10, none⟩) habe).trans e2_10
        have hzf : we.heap.size ≤ wf.heap.size := hbf.size
        have hbL : b < we.heap.size := hown'.out.lt
        have hownf := Lib.hid (hown'.out.below hbf)
        have hbg : Below (w.heap.size + 1) (w.alloc (.cells #[.int .i64 0, .int .i64 0, .string ⟨#[]⟩, .bool false, .int .i64 0] 26)) wf := hbx.trans (hbf.mono (by omega))
        have hq3 : Below w.heap.size w wf := hq2.trans (hbf.mono (by omega))
        have hQf : Q < wf.heap.size := by omega
        have hPf : P < wf.heap.size := by omega
        have hbf2 : b < wf.heap.size := by omega
        have hwf : w.heap.size < wf.heap.size := by omega
        have habf : ab < wf.heap.size := by omega
        have hC0 : ¬ C = 0 := by omega
        clear hbf hown' hbe' hbx hq2 eq0 eq1 eq2 eq3 eq4 eq5 eq6 eq7 eq8 eq9 eq10 ev0 ev1 ev2 ev3 ev4 e2_0 e2_1 e2_2 e2_3 e2_4 e2_5 e2_6 e2_7 e2_8 e2_9 e2_10
        go_wp2
        go_loopw [46] (fun i wr => ∃ k : Nat, k ≤ N ∧ i = .int .i64 (k : Int) ∧ Hid (∀ j : Nat, j < k → (lookP (heldL x1) (nthL x1 j)).eqv x0.v = false) ∧ Below wf.heap.size wf wr) (fun i _ => N - (intOf i).toNat)
        case atStart => exact ⟨0, Nat.zero_le _, rfl, Lib.hid (fun j hj => absurd hj (Nat.not_lt_zero _)), Below.refl _ _⟩
        case round =>
          obtain ⟨k, hk, rfl, hno, hbr⟩ := hrel
          have gq0 : wr.cell? ⟨Q, 0, none⟩ = some (.bool x1.many) := (hbr.cell (p := ⟨Q, 0, none⟩) hQf).trans fq0
          have gq1 : wr.cell? ⟨Q, 1, none⟩ = some (.int .i64 x1.v.t) := (hbr.cell (p := ⟨Q, 1, none⟩) hQf).trans fq1
          have gq2 : wr.cell? ⟨Q, 2, none⟩ = some (.int .i64 x1.v.n) := (hbr.cell (p := ⟨Q, 2, none⟩) hQf).trans fq2
          have gq3 : wr.cell? ⟨Q, 3, none⟩ = some (.string x1.v.s) := (hbr.cell (p := ⟨Q, 3, none⟩) hQf).trans fq3
          have gq4 : wr.cell? ⟨Q, 4, none⟩ = some (.bool x1.v.b) := (hbr.cell (p := ⟨Q, 4, none⟩) hQf).trans fq4
          have gq5 : wr.cell? ⟨Q, 5, none⟩ = some (.int .i64 x1.v.c) := (hbr.cell (p := ⟨Q, 5, none⟩) hQf).trans fq5
          have gq6 : wr.cell? ⟨Q, 6, none⟩ = some (.int .i64 x1.t) := (hbr.cell (p := ⟨Q, 6, none⟩) hQf).trans fq6
          have gq7 : wr.cell? ⟨Q, 7, none⟩ = some (.int .i64 x1.l) := (hbr.cell (p := ⟨Q, 7, none⟩) hQf).trans fq7
          have gq8 : wr.cell? ⟨Q, 8, none⟩ = some (.int .i64 x1.b) := (hbr.cell (p := ⟨Q, 8, none⟩) hQf).trans fq8
          have gq9 : wr.cell? ⟨Q, 9, none⟩ = some (.int .i64 x1.r) := (hbr.cell (p := ⟨Q, 9, none⟩) hQf).trans fq9
          have gq10 : wr.cell? ⟨Q, 10, none⟩ = some (.slice x1.A x1.es.length x1.cap) := (hbr.cell (p := ⟨Q, 10, none⟩) hQf).trans fq10
          have gv0 : wr.cell? ⟨P, 0, none⟩ = some (.int .i64 x0.v.t) := (hbr.cell (p := ⟨P, 0, none⟩) hPf).trans fv0
          have gv1 : wr.cell? ⟨P, 1, none⟩ = some (.int .i64 x0.v.n) := (hbr.cell (p := ⟨P, 1, none⟩) hPf).trans fv1
          have gv2 : wr.cell? ⟨P, 2, none⟩ = some (.string x0.v.s) := (hbr.cell (p := ⟨P, 2, none⟩) hPf).trans fv2
          have gv3 : wr.cell? ⟨P, 3, none⟩ = some (.bool x0.v.b) := (hbr.cell (p := ⟨P, 3, none⟩) hPf).trans fv3
          have gv4 : wr.cell? ⟨P, 4, none⟩ = some (.int .i64 x0.v.c) := (hbr.cell (p := ⟨P, 4, none⟩) hPf).trans fv4
          have g2_0 : wr.cell? ⟨ab, ao + 22, none⟩ = some (.bool x2.many) := (hbr.cell (p := ⟨ab, ao + 22, none⟩) habf).trans f2_0
          have g2_1 : wr.cell? ⟨ab, ao + 22 + 1, none⟩ = some (.int .i64 x2.v.t) := (hbr.cell (p := ⟨ab, ao + 22 + 1, none⟩) habf).trans f2_1
          have g2_2 : wr.cell? ⟨ab, ao + 22 + 2, none⟩ = some (.int .i64 x2.v.n) := (hbr.cell (p := ⟨ab, ao + 22 + 2, none⟩) habf).trans f2_2
          have g2_3 : wr.cell? ⟨ab, ao + 22 + 3, none⟩ = some (.string x2.v.s) := (hbr.cell (p := ⟨ab, ao + 22 + 3, none⟩) habf).trans f2_3
          have g2_4 : wr.cell? ⟨ab, ao + 22 + 4, none⟩ = some (.bool x2.v.b) := (hbr.cell (p := ⟨ab, ao + 22 + 4, none⟩) habf).trans f2_4
          have g2_5 : wr.cell? ⟨ab, ao + 22 + 5, none⟩ = some (.int .i64 x2.v.c) := (hbr.cell (p := ⟨ab, ao + 22 + 5, none⟩) habf).trans f2_5
          have g2_6 : wr.cell? ⟨ab, ao + 22 + 6, none⟩ = some (.int .i64 x2.t) := (hbr.cell (p := ⟨ab, ao + 22 + 6, none⟩) habf).trans f2_6
          have g2_7 : wr.cell? ⟨ab, ao + 22 + 7, none⟩ = some (.int .i64 x2.l) := (hbr.cell (p := ⟨ab, ao + 22 + 7, none⟩) habf).trans f2_7
          have g2_8 : wr.cell? ⟨ab, ao + 22 + 8, none⟩ = some (.int .i64 x2.b) := (hbr.cell (p := ⟨ab, ao + 22 + 8, none⟩) habf).trans f2_8
          have g2_9 : wr.cell? ⟨ab, ao + 22 + 9, none⟩ = some (.int .i64 x2.r) := (hbr.cell (p := ⟨ab, ao + 22 + 9, none⟩) habf).trans f2_9
          have g2_10 : wr.cell? ⟨ab, ao + 22 + 10, none⟩ = some (.slice x2.A x2.es.length x2.cap) := (hbr.cell (p := ⟨ab, ao + 22 + 10, none⟩) habf).trans f2_10
          have hzr : wf.heap.size ≤ wr.heap.size := hbr.size
          have hownr := Lib.hid (hownf.out.below hbr)
          have hbh : Below (w.heap.size + 1) (w.alloc (.cells #[.int .i64 0, .int .i64 0, .string ⟨#[]⟩, .bool false, .int .i64 0] 26)) wr := hbg.trans (hbr.mono (by omega))
          have hq4 : Below w.heap.size w wr := hq3.trans (hbr.mono (by omega))
          have hQr : Q < wr.heap.size := by omega
          have hPr : P < wr.heap.size := by omega
          have hbr2 : b < wr.heap.size := by omega
          have hwr : w.heap.size < wr.heap.size := by omega
          have habr : ab < wr.heap.size := by omega
          clear hownf hbg hq3 fq0 fq1 fq2 fq3 fq4 fq5 fq6 fq7 fq8 fq9 fq10 fv0 fv1 fv2 fv3 fv4 f2_0 f2_1 f2_2 f2_3 f2_4 f2_5 f2_6 f2_7 f2_8 f2_9 f2_10
          have hbr' := Lib.hid hbr
          clear hbr
          by_cases hlt : k < N
          · have hkl : (k : Int) < (N : Int) := by omega
            obtain ⟨u, hu⟩ : ∃ u, (k : Int) / C = u := ⟨_, rfl⟩
            obtain ⟨v, hv⟩ : ∃ v, (k : Int) % C = v := ⟨_, rfl⟩
            have hub : 0 ≤ u ∧ u ≤ 17179869184 := by have h1 : 0 ≤ (k : Int) / C := Int.ediv_nonneg (by omega) (by omega); have h2 : (k : Int) / C ≤ k := Int.ediv_le_self _ (by omega); omega
            have hvb : 0 ≤ v ∧ v < C := by have h1 := Int.emod_nonneg (k : Int) (b := C) (by omega); have h2 := Int.emod_lt_of_pos (k : Int) (b := C) (by omega); omega
            have hqu : (k : Int).tdiv C = u := by rw [Int.tdiv_eq_ediv_of_nonneg (by omega)]; exact hu
            have hre_ : (k : Int).tmod C = v := by rw [Int.tmod_eq_emod_of_nonneg (by omega)]; exact hv
            have hwu : IntKind.i64.wrap u = u := IntWalk.i64_in _ (by omega)
            have hwv : IntKind.i64.wrap v = v := IntWalk.i64_in _ (by omega)
            have hnth : Hid (nthL x1 k = (u, v)) := Lib.hid (by unfold nthL; rw [hCc'.out, hu, hv])
            clear hu hv
            go_upto_region 8 with (fail)
            go_cut [9, 46] from 46 to 75 (fun a i wc => ∃ T, a = .pointer (some ⟨T, 0, none⟩) ∧ i = .int .i64 (k : Int) ∧ wr.heap.size ≤ T ∧ wc.heap[T]? = some (.cells #[.int .i64 u, .int .i64 v] 196 (0, 0)) ∧ Below wr.heap.size wr wc)
            case first =>
              refine wp_region_noPanic ?_
              refine wp_region_held_drew (S := fun w' => w'.cell? ⟨Q, 0, none⟩ = some (.bool x1.many) ∧ w'.cell? ⟨Q, 1, none⟩ = some (.int .i64 x1.v.t) ∧ w'.cell? ⟨Q, 2, none⟩ = some (.int .i64 x1.v.n) ∧ w'.cell? ⟨Q, 3, none⟩ = some (.string x1.v.s) ∧ w'.cell? ⟨Q, 4, none⟩ = some (.bool x1.v.b) ∧ w'.cell? ⟨Q, 5, none⟩ = some (.int .i64 x1.v.c) ∧ w'.cell? ⟨Q, 6, none⟩ = some (.int .i64 x1.t) ∧ w'.cell? ⟨Q, 7, none⟩ = some (.int .i64 x1.l) ∧ w'.cell? ⟨Q, 8, none⟩ = some (.int .i64 x1.b) ∧ w'.cell? ⟨Q, 9, none⟩ = some (.int .i64 x1.r) ∧ w'.cell? ⟨Q, 10, none⟩ = some (.slice x1.A x1.es.length x1.cap) ∧ Below wr.heap.size wr w' ∧ wr.heap.size ≤ w'.heap.size) (by kernel_rfl) (by (try dsimp only); refine ⟨?_, ?_, ?_, ?_, ?_, ?_, ?_, ?_, ?_, ?_, ?_, ?_, ?_⟩ <;> first | assumption | exact Below.drew (Below.refl _ _) | exact Nat.le_refl _) (fun hHeld => ?_)
              generalize wr.drew = wz at *
              refine wpAnyH_take (i := 0) (oi := ⟨_, _, _, _, _, _⟩) (v := ?v128) rfl (by kernel_rfl) (by kernel_rfl) (by kernel_rfl) (fun _ _ _ h => h) (Or.inl ⟨by rfl, ?hy128⟩) hHeld ?rest128
              case hy128 => (intro w2 hSw; (try dsimp only at hSw); go_split_ands; go_simp; first | done | with_reducible rfl)
              try simp only [Act.put, List.setIfInBounds_toArray, List.set_cons_zero, List.set_cons_succ]
              refine wpAnyH_take (i := 1) (oi := ⟨_, _, _, _, _, _⟩) (v := ?v129) rfl (by kernel_rfl) (by kernel_rfl) (by kernel_rfl) (fun _ _ _ h => h) (Or.inl ⟨by rfl, ?hy129⟩) hHeld ?rest129
              case hy129 => (intro w2 hSw; (try dsimp only at hSw); go_split_ands; go_simp; first | done | with_reducible rfl)
              try simp only [Act.put, List.setIfInBounds_toArray, List.set_cons_zero, List.set_cons_succ]
              refine wpAnyH_take (i := 4) (oi := ⟨_, _, _, _, _, _⟩) (v := ?v130) rfl (by kernel_rfl) (by kernel_rfl) (by kernel_rfl) (fun _ _ _ h => h) (Or.inl ⟨by rfl, ?hy130⟩) hHeld ?rest130
              case hy130 => (intro w2 hSw; (try dsimp only at hSw); go_split_ands; go_simp; first | done | with_reducible rfl)
              try simp only [Act.put, List.setIfInBounds_toArray, List.set_cons_zero, List.set_cons_succ]
              refine wpAnyH_take (i := 5) (oi := ⟨_, _, _, _, _, _⟩) (v := ?v131) rfl (by kernel_rfl) (by kernel_rfl) (by kernel_rfl) (fun _ _ _ h => h) (Or.inl ⟨by rfl, ?hy131⟩) hHeld ?rest131
              case hy131 => (intro w2 hSw; (try dsimp only at hSw); go_split_ands; go_simp; first | done | with_reducible rfl)
              try simp only [Act.put, List.setIfInBounds_toArray, List.set_cons_zero, List.set_cons_succ]
              refine wpAnyH_ready (rs := [2, 9]) (by kernel_rfl) (by simp) ?_
              refine AllReadyH.cons (o := ⟨_, _, _, _, _, _⟩) rfl (fun K hK => ?_) (AllReadyH.cons (o := ⟨_, _, _, _, _, _⟩) rfl (fun K hK => ?_) AllReadyH.nil)
              · go_split_ands
                go_simp
                refine ((CC _).out).mono ?_
                rintro e w1 ⟨rfl, hb⟩
                refine hK.out _ _ ?_ (fun hHeld => ?_)
                · ((try dsimp only); refine ⟨?_, ?_, ?_, ?_, ?_, ?_, ?_, ?_, ?_, ?_, ?_, ?_, ?_⟩ <;> first | (rw [hb.cell (by dsimp only; omega)]; assumption) | exact Below.trans (by assumption) (hb.mono (by omega)) | (have := hb.size; omega))
                clear hK K hb
                try simp only [Act.put, List.setIfInBounds_toArray, List.set_cons_zero, List.set_cons_succ]
                refine wpAnyH_take (i := 3) (oi := ⟨_, _, _, _, _, _⟩) (v := ?v142) rfl (by kernel_rfl) (by kernel_rfl) (by kernel_rfl) (fun _ _ _ h => h) (Or.inl ⟨by rfl, ?hy142⟩) hHeld ?rest142
                case hy142 => (intro w2 hSw; (try dsimp only at hSw); go_split_ands; go_simp; first | done | with_reducible rfl)
                try simp only [Act.put, List.setIfInBounds_toArray, List.set_cons_zero, List.set_cons_succ]
                refine wpAnyH_ready (rs := [6, 9]) (by kernel_rfl) (by simp) ?_
                refine AllReadyH.cons (o := ⟨_, _, _, _, _, _⟩) rfl (fun K hK => ?_) (AllReadyH.cons (o := ⟨_, _, _, _, _, _⟩) rfl (fun K hK => ?_) AllReadyH.nil)
                · go_split_ands
                  go_simp
                  refine ((CC _).out).mono ?_
                  rintro e w1 ⟨rfl, hb⟩
                  refine hK.out _ _ ?_ (fun hHeld => ?_)
                  · ((try dsimp only); refine ⟨?_, ?_, ?_, ?_, ?_, ?_, ?_, ?_, ?_, ?_, ?_, ?_, ?_⟩ <;> first | (rw [hb.cell (by dsimp only; omega)]; assumption) | exact Below.trans (by assumption) (hb.mono (by omega)) | (have := hb.size; omega))
                  clear hK K hb
                  try simp only [Act.put, List.setIfInBounds_toArray, List.set_cons_zero, List.set_cons_succ]
                  refine wpAnyH_take (i := 7) (oi := ⟨_, _, _, _, _, _⟩) (v := ?v140) rfl (by kernel_rfl) (by kernel_rfl) (by kernel_rfl) (fun _ _ _ h => h) (Or.inl ⟨by rfl, ?hy140⟩) hHeld ?rest140
                  case hy140 => (intro w2 hSw; (try dsimp only at hSw); go_split_ands; go_simp; first | done | with_reducible rfl)
                  try simp only [Act.put, List.setIfInBounds_toArray, List.set_cons_zero, List.set_cons_succ]
                  refine wpAnyH_take (i := 8) (oi := ⟨_, _, _, _, _, _⟩) (v := ?v141) rfl (by kernel_rfl) (by kernel_rfl) (by kernel_rfl) (fun _ _ _ h => h) (Or.inl ⟨by rfl, ?hy141⟩) hHeld ?rest141
                  case hy141 => (intro w2 hSw; (try dsimp only at hSw); go_split_ands; go_simp; first | done | with_reducible rfl)
                  try simp only [Act.put, List.setIfInBounds_toArray, List.set_cons_zero, List.set_cons_succ]
                  refine wpAnyH_ready (rs := [9]) (by kernel_rfl) (by simp) ?_
                  refine AllReadyH.cons (o := ⟨_, _, _, _, _, _⟩) rfl (fun K hK => ?_) AllReadyH.nil
                  go_split_ands
                  go_simp
                  have hZq : wr.heap.size ≤ w1.heap.size := by with_reducible assumption
                  have hpT := blk_new w1 #[.int .i64 0, .int .i64 0] 196
                  refine hK.out _ _ ?_ (fun hHeld => ?_)
                  · ((try dsimp only); refine ⟨?_, ?_, ?_, ?_, ?_, ?_, ?_, ?_, ?_, ?_, ?_, ?_, ?_⟩ <;> first | exact bx_cellp (by dsimp only; omega) (by assumption) | exact Below.alloc (by assumption) (by omega) _ | (simp; omega))
                  clear hK K
                  try simp only [Act.put, List.setIfInBounds_toArray, List.set_cons_zero, List.set_cons_succ]
                  generalize (w1.alloc (.cells #[.int .i64 0, .int .i64 0] 196)) = wn139 at *
                  obtain ⟨T, hTe⟩ : ∃ b, w1.heap.size = b := ⟨_, rfl⟩
                  rw [hTe] at hpT hZq ⊢
                  have hlT := hZq
                  clear hZq hTe
                  refine wpAnyH_ready (rs := [10]) (by kernel_rfl) (by simp) ?_
                  refine AllReadyH.cons (o := ⟨_, _, _, _, _, _⟩) rfl (fun K hK => ?_) AllReadyH.nil
                  go_split_ands
                  have hcl0 : wn139.cell? ⟨T, 0, none⟩ = some (.int .i64 0) := blk_cell hpT 0
                  have hcl1 : wn139.cell? ⟨T, 1, none⟩ = some (.int .i64 0) := blk_cell hpT 1
                  have hfz0 : wn139.frozen? ⟨T, 0, none⟩ = false := blk_frozen hpT 0
                  have hfz1 : wn139.frozen? ⟨T, 1, none⟩ = false := blk_frozen hpT 1
                  go_simp
                  have hBq : Below wr.heap.size wr wn139 := by with_reducible assumption
                  have hZq : wr.heap.size ≤ wn139.heap.size := by with_reducible assumption
                  have hQT : T ≠ Q := by omega
                  clear hcl0 hcl1 hfz0 hfz1
                  have hBf : Below wr.heap.size wr ((wn139.setCell ⟨T, 0, none⟩ (.int .i64 u)).setCell ⟨T, 1, none⟩ (.int .i64 v)) := below2 hBq hlT
                  have hpF : ((wn139.setCell ⟨T, 0, none⟩ (.int .i64 u)).setCell ⟨T, 1, none⟩ (.int .i64 v)).heap[T]? = some (.cells #[.int .i64 u, .int .i64 v] 196 (0, 0)) := row2 hpT
                  have hZf : wr.heap.size ≤ ((wn139.setCell ⟨T, 0, none⟩ (.int .i64 u)).setCell ⟨T, 1, none⟩ (.int .i64 v)).heap.size := size_sc2 hZq
                  have hk0 : ((wn139.setCell ⟨T, 0, none⟩ (.int .i64 u)).setCell ⟨T, 1, none⟩ (.int .i64 v)).cell? ⟨Q, 0, none⟩ = some (.bool x1.many) := cell_sc2 hQT (by with_reducible assumption)
                  have hk1 : ((wn139.setCell ⟨T, 0, none⟩ (.int .i64 u)).setCell ⟨T, 1, none⟩ (.int .i64 v)).cell? ⟨Q, 1, none⟩ = some (.int .i64 x1.v.t) := cell_sc2 hQT (by with_reducible assumption)
                  have hk2 : ((wn139.setCell ⟨T, 0, none⟩ (.int .i64 u)).setCell ⟨T, 1, none⟩ (.int .i64 v)).cell? ⟨Q, 2, none⟩ = some (.int .i64 x1.v.n) := cell_sc2 hQT (by with_reducible assumption)
                  have hk3 : ((wn139.setCell ⟨T, 0, none⟩ (.int .i64 u)).setCell ⟨T, 1, none⟩ (.int .i64 v)).cell? ⟨Q, 3, none⟩ = some (.string x1.v.s) := cell_sc2 hQT (by with_reducible assumption)
                  have hk4 : ((wn139.setCell ⟨T, 0, none⟩ (.int .i64 u)).setCell ⟨T, 1, none⟩ (.int .i64 v)).cell? ⟨Q, 4, none⟩ = some (.bool x1.v.b) := cell_sc2 hQT (by with_reducible assumption)
                  have hk5 : ((wn139.setCell ⟨T, 0, none⟩ (.int .i64 u)).setCell ⟨T, 1, none⟩ (.int .i64 v)).cell? ⟨Q, 5, none⟩ = some (.int .i64 x1.v.c) := cell_sc2 hQT (by with_reducible assumption)
                  have hk6 : ((wn139.setCell ⟨T, 0, none⟩ (.int .i64 u)).setCell ⟨T, 1, none⟩ (.int .i64 v)).cell? ⟨Q, 6, none⟩ = some (.int .i64 x1.t) := cell_sc2 hQT (by with_reducible assumption)
                  have hk7 : ((wn139.setCell ⟨T, 0, none⟩ (.int .i64 u)).setCell ⟨T, 1, none⟩ (.int .i64 v)).cell? ⟨Q, 7, none⟩ = some (.int .i64 x1.l) := cell_sc2 hQT (by with_reducible assumption)
                  have hk8 : ((wn139.setCell ⟨T, 0, none⟩ (.int .i64 u)).setCell ⟨T, 1, none⟩ (.int .i64 v)).cell? ⟨Q, 8, none⟩ = some (.int .i64 x1.b) := cell_sc2 hQT (by with_reducible assumption)
                  have hk9 : ((wn139.setCell ⟨T, 0, none⟩ (.int .i64 u)).setCell ⟨T, 1, none⟩ (.int .i64 v)).cell? ⟨Q, 9, none⟩ = some (.int .i64 x1.r) := cell_sc2 hQT (by with_reducible assumption)
                  have hk10 : ((wn139.setCell ⟨T, 0, none⟩ (.int .i64 u)).setCell ⟨T, 1, none⟩ (.int .i64 v)).cell? ⟨Q, 10, none⟩ = some (.slice x1.A x1.es.length x1.cap) := cell_sc2 hQT (by with_reducible assumption)
                  clear hBq hZq hpT
                  generalize ((wn139.setCell ⟨T, 0, none⟩ (.int .i64 u)).setCell ⟨T, 1, none⟩ (.int .i64 v)) = wq at *
                  refine hK.out _ _ ?_ (fun hHeld => ?_)
                  · ((try dsimp only); refine ⟨?_, ?_, ?_, ?_, ?_, ?_, ?_, ?_, ?_, ?_, ?_, ?_, ?_⟩ <;> with_reducible assumption)
                  clear hK K
                  refine wpAnyH_done (by kernel_rfl) ?_ _
                  refine NoPanic.normal ?_
                  go_wp2
                  go_meet
                  case rel => exact ⟨T, rfl, rfl, hlT, hpF, hBf⟩
                · go_split_ands
                  go_simp
                  have hZq : wr.heap.size ≤ w1.heap.size := by with_reducible assumption
                  have hpT := blk_new w1 #[.int .i64 0, .int .i64 0] 196
                  refine hK.out _ _ ?_ (fun hHeld => ?_)
                  · ((try dsimp only); refine ⟨?_, ?_, ?_, ?_, ?_, ?_, ?_, ?_, ?_, ?_, ?_, ?_, ?_⟩ <;> first | exact bx_cellp (by dsimp only; omega) (by assumption) | exact Below.alloc (by assumption) (by omega) _ | (simp; omega))
                  clear hK K
                  try simp only [Act.put, List.setIfInBounds_toArray, List.set_cons_zero, List.set_cons_succ]
                  generalize (w1.alloc (.cells #[.int .i64 0, .int .i64 0] 196)) = wn136 at *
                  obtain ⟨T, hTe⟩ : ∃ b, w1.heap.size = b := ⟨_, rfl⟩
                  rw [hTe] at hpT hZq ⊢
                  have hlT := hZq
                  clear hZq hTe
                  refine wpAnyH_ready (rs := [6]) (by kernel_rfl) (by simp) ?_
                  refine AllReadyH.cons (o := ⟨_, _, _, _, _, _⟩) rfl (fun K hK => ?_) AllReadyH.nil
                  go_split_ands
                  go_simp
                  refine ((CC _).out).mono ?_
                  rintro e w1 ⟨rfl, hb⟩
                  have hpT := (hb.block T (Array.getElem?_eq_some_iff.1 hpT).1).trans hpT
                  refine hK.out _ _ ?_ (fun hHeld => ?_)
                  · ((try dsimp only); refine ⟨?_, ?_, ?_, ?_, ?_, ?_, ?_, ?_, ?_, ?_, ?_, ?_, ?_⟩ <;> first | (rw [hb.cell (by dsimp only; omega)]; assumption) | exact Below.trans (by assumption) (hb.mono (by omega)) | (have := hb.size; omega))
                  clear hK K hb
                  try simp only [Act.put, List.setIfInBounds_toArray, List.set_cons_zero, List.set_cons_succ]
                  refine wpAnyH_take (i := 7) (oi := ⟨_, _, _, _, _, _⟩) (v := ?v137) rfl (by kernel_rfl) (by kernel_rfl) (by kernel_rfl) (fun _ _ _ h => h) (Or.inl ⟨by rfl, ?hy137⟩) hHeld ?rest137
                  case hy137 => (intro w2 hSw; (try dsimp only at hSw); go_split_ands; go_simp; first | done | with_reducible rfl)
                  try simp only [Act.put, List.setIfInBounds_toArray, List.set_cons_zero, List.set_cons_succ]
                  refine wpAnyH_take (i := 8) (oi := ⟨_, _, _, _, _, _⟩) (v := ?v138) rfl (by kernel_rfl) (by kernel_rfl) (by kernel_rfl) (fun _ _ _ h => h) (Or.inl ⟨by rfl, ?hy138⟩) hHeld ?rest138
                  case hy138 => (intro w2 hSw; (try dsimp only at hSw); go_split_ands; go_simp; first | done | with_reducible rfl)
                  try simp only [Act.put, List.setIfInBounds_toArray, List.set_cons_zero, List.set_cons_succ]
                  refine wpAnyH_ready (rs := [10]) (by kernel_rfl) (by simp) ?_
                  refine AllReadyH.cons (o := ⟨_, _, _, _, _, _⟩) rfl (fun K hK => ?_) AllReadyH.nil
                  go_split_ands
                  have hcl0 : w1.cell? ⟨T, 0, none⟩ = some (.int .i64 0) := blk_cell hpT 0
                  have hcl1 : w1.cell? ⟨T, 1, none⟩ = some (.int .i64 0) := blk_cell hpT 1
                  have hfz0 : w1.frozen? ⟨T, 0, none⟩ = false := blk_frozen hpT 0
                  have hfz1 : w1.frozen? ⟨T, 1, none⟩ = false := blk_frozen hpT 1
                  go_simp
                  have hBq : Below wr.heap.size wr w1 := by with_reducible assumption
                  have hZq : wr.heap.size ≤ w1.heap.size := by with_reducible assumption
                  have hQT : T ≠ Q := by omega
                  clear hcl0 hcl1 hfz0 hfz1
                  have hBf : Below wr.heap.size wr ((w1.setCell ⟨T, 0, none⟩ (.int .i64 u)).setCell ⟨T, 1, none⟩ (.int .i64 v)) := below2 hBq hlT
                  have hpF : ((w1.setCell ⟨T, 0, none⟩ (.int .i64 u)).setCell ⟨T, 1, none⟩ (.int .i64 v)).heap[T]? = some (.cells #[.int .i64 u, .int .i64 v] 196 (0, 0)) := row2 hpT
                  have hZf : wr.heap.size ≤ ((w1.setCell ⟨T, 0, none⟩ (.int .i64 u)).setCell ⟨T, 1, none⟩ (.int .i64 v)).heap.size := size_sc2 hZq
                  have hk0 : ((w1.setCell ⟨T, 0, none⟩ (.int .i64 u)).setCell ⟨T, 1, none⟩ (.int .i64 v)).cell? ⟨Q, 0, none⟩ = some (.bool x1.many) := cell_sc2 hQT (by with_reducible assumption)
                  have hk1 : ((w1.setCell ⟨T, 0, none⟩ (.int .i64 u)).setCell ⟨T, 1, none⟩ (.int .i64 v)).cell? ⟨Q, 1, none⟩ = some (.int .i64 x1.v.t) := cell_sc2 hQT (by with_reducible assumption)
                  have hk2 : ((w1.setCell ⟨T, 0, none⟩ (.int .i64 u)).setCell ⟨T, 1, none⟩ (.int .i64 v)).cell? ⟨Q, 2, none⟩ = some (.int .i64 x1.v.n) := cell_sc2 hQT (by with_reducible assumption)
                  have hk3 : ((w1.setCell ⟨T, 0, none⟩ (.int .i64 u)).setCell ⟨T, 1, none⟩ (.int .i64 v)).cell? ⟨Q, 3, none⟩ = some (.string x1.v.s) := cell_sc2 hQT (by with_reducible assumption)
                  have hk4 : ((w1.setCell ⟨T, 0, none⟩ (.int .i64 u)).setCell ⟨T, 1, none⟩ (.int .i64 v)).cell? ⟨Q, 4, none⟩ = some (.bool x1.v.b) := cell_sc2 hQT (by with_reducible assumption)
                  have hk5 : ((w1.setCell ⟨T, 0, none⟩ (.int .i64 u)).setCell ⟨T, 1, none⟩ (.int .i64 v)).cell? ⟨Q, 5, none⟩ = some (.int .i64 x1.v.c) := cell_sc2 hQT (by with_reducible assumption)
                  have hk6 : ((w1.setCell ⟨T, 0, none⟩ (.int .i64 u)).setCell ⟨T, 1, none⟩ (.int .i64 v)).cell? ⟨Q, 6, none⟩ = some (.int .i64 x1.t) := cell_sc2 hQT (by with_reducible assumption)
                  have hk7 : ((w1.setCell ⟨T, 0, none⟩ (.int .i64 u)).setCell ⟨T, 1, none⟩ (.int .i64 v)).cell? ⟨Q, 7, none⟩ = some (.int .i64 x1.l) := cell_sc2 hQT (by with_reducible assumption)
                  have hk8 : ((w1.setCell ⟨T, 0, none⟩ (.int .i64 u)).setCell ⟨T, 1, none⟩ (.int .i64 v)).cell? ⟨Q, 8, none⟩ = some (.int .i64 x1.b) := cell_sc2 hQT (by with_reducible assumption)
                  have hk9 : ((w1.setCell ⟨T, 0, none⟩ (.int .i64 u)).setCell ⟨T, 1, none⟩ (.int .i64 v)).cell? ⟨Q, 9, none⟩ = some (.int .i64 x1.r) := cell_sc2 hQT (by with_reducible assumption)
                  have hk10 : ((w1.setCell ⟨T, 0, none⟩ (.int .i64 u)).setCell ⟨T, 1, none⟩ (.int .i64 v)).cell? ⟨Q, 10, none⟩ = some (.slice x1.A x1.es.length x1.cap) := cell_sc2 hQT (by with_reducible assumption)
                  clear hBq hZq hpT
                  generalize ((w1.setCell ⟨T, 0, none⟩ (.int .i64 u)).setCell ⟨T, 1, none⟩ (.int .i64 v)) = wq at *
                  refine hK.out _ _ ?_ (fun hHeld => ?_)
                  · ((try dsimp only); refine ⟨?_, ?_, ?_, ?_, ?_, ?_, ?_, ?_, ?_, ?_, ?_, ?_, ?_⟩ <;> with_reducible assumption)
                  clear hK K
                  refine wpAnyH_done (by kernel_rfl) ?_ _
                  refine NoPanic.normal ?_
                  go_wp2
                  go_meet
                  case rel => exact ⟨T, rfl, rfl, hlT, hpF, hBf⟩
              · go_split_ands
                go_simp
                have hZq : wr.heap.size ≤ wz.heap.size := by with_reducible assumption
                have hpT := blk_new wz #[.int .i64 0, .int .i64 0] 196
                refine hK.out _ _ ?_ (fun hHeld => ?_)
                · ((try dsimp only); refine ⟨?_, ?_, ?_, ?_, ?_, ?_, ?_, ?_, ?_, ?_, ?_, ?_, ?_⟩ <;> first | exact bx_cellp (by dsimp only; omega) (by assumption) | exact Below.alloc (by assumption) (by omega) _ | (simp; omega))
                clear hK K
                try simp only [Act.put, List.setIfInBounds_toArray, List.set_cons_zero, List.set_cons_succ]
                generalize (wz.alloc (.cells #[.int .i64 0, .int .i64 0] 196)) = wn132 at *
                obtain ⟨T, hTe⟩ : ∃ b, wz.heap.size = b := ⟨_, rfl⟩
                rw [hTe] at hpT hZq ⊢
                have hlT := hZq
                clear hZq hTe
                refine wpAnyH_ready (rs := [2]) (by kernel_rfl) (by simp) ?_
                refine AllReadyH.cons (o := ⟨_, _, _, _, _, _⟩) rfl (fun K hK => ?_) AllReadyH.nil
                go_split_ands
                go_simp
                refine ((CC _).out).mono ?_
                rintro e w1 ⟨rfl, hb⟩
                have hpT := (hb.block T (Array.getElem?_eq_some_iff.1 hpT).1).trans hpT
                refine hK.out _ _ ?_ (fun hHeld => ?_)
                · ((try dsimp only); refine ⟨?_, ?_, ?_, ?_, ?_, ?_, ?_, ?_, ?_, ?_, ?_, ?_, ?_⟩ <;> first | (rw [hb.cell (by dsimp only; omega)]; assumption) | exact Below.trans (by assumption) (hb.mono (by omega)) | (have := hb.size; omega))
                clear hK K hb
                try simp only [Act.put, List.setIfInBounds_toArray, List.set_cons_zero, List.set_cons_succ]
                refine wpAnyH_take (i := 3) (oi := ⟨_, _, _, _, _, _⟩) (v := ?v133) rfl (by kernel_rfl) (by kernel_rfl) (by kernel_rfl) (fun _ _ _ h => h) (Or.inl ⟨by rfl, ?hy133⟩) hHeld ?rest133
                case hy133 => (intro w2 hSw; (try dsimp only at hSw); go_split_ands; go_simp; first | done | with_reducible rfl)
                try simp only [Act.put, List.setIfInBounds_toArray, List.set_cons_zero, List.set_cons_succ]
                refine wpAnyH_ready (rs := [6]) (by kernel_rfl) (by simp) ?_
                refine AllReadyH.cons (o := ⟨_, _, _, _, _, _⟩) rfl (fun K hK => ?_) AllReadyH.nil
                go_split_ands
                go_simp
                refine ((CC _).out).mono ?_
                rintro e w1 ⟨rfl, hb⟩
                have hpT := (hb.block T (Array.getElem?_eq_some_iff.1 hpT).1).trans hpT
                refine hK.out _ _ ?_ (fun hHeld => ?_)
                · ((try dsimp only); refine ⟨?_, ?_, ?_, ?_, ?_, ?_, ?_, ?_, ?_, ?_, ?_, ?_, ?_⟩ <;> first | (rw [hb.cell (by dsimp only; omega)]; assumption) | exact Below.trans (by assumption) (hb.mono (by omega)) | (have := hb.size; omega))
                clear hK K hb
                try simp only [Act.put, List.setIfInBounds_toArray, List.set_cons_zero, List.set_cons_succ]
                refine wpAnyH_take (i := 7) (oi := ⟨_, _, _, _, _, _⟩) (v := ?v134) rfl (by kernel_rfl) (by kernel_rfl) (by kernel_rfl) (fun _ _ _ h => h) (Or.inl ⟨by rfl, ?hy134⟩) hHeld ?rest134
                case hy134 => (intro w2 hSw; (try dsimp only at hSw); go_split_ands; go_simp; first | done | with_reducible rfl)
                try simp only [Act.put, List.setIfInBounds_toArray, List.set_cons_zero, List.set_cons_succ]
                refine wpAnyH_take (i := 8) (oi := ⟨_, _, _, _, _, _⟩) (v := ?v135) rfl (by kernel_rfl) (by kernel_rfl) (by kernel_rfl) (fun _ _ _ h => h) (Or.inl ⟨by rfl, ?hy135⟩) hHeld ?rest135
                case hy135 => (intro w2 hSw; (try dsimp only at hSw); go_split_ands; go_simp; first | done | with_reducible rfl)
                try simp only [Act.put, List.setIfInBounds_toArray, List.set_cons_zero, List.set_cons_succ]
                refine wpAnyH_ready (rs := [10]) (by kernel_rfl) (by simp) ?_
                refine AllReadyH.cons (o := ⟨_, _, _, _, _, _⟩) rfl (fun K hK => ?_) AllReadyH.nil
                go_split_ands
                have hcl0 : w1.cell? ⟨T, 0, none⟩ = some (.int .i64 0) := blk_cell hpT 0
                have hcl1 : w1.cell? ⟨T, 1, none⟩ = some (.int .i64 0) := blk_cell hpT 1
                have hfz0 : w1.frozen? ⟨T, 0, none⟩ = false := blk_frozen hpT 0
                have hfz1 : w1.frozen? ⟨T, 1, none⟩ = false := blk_frozen hpT 1
                go_simp
                have hBq : Below wr.heap.size wr w1 := by with_reducible assumption
                have hZq : wr.heap.size ≤ w1.heap.size := by with_reducible assumption
                have hQT : T ≠ Q := by omega
                clear hcl0 hcl1 hfz0 hfz1
                have hBf : Below wr.heap.size wr ((w1.setCell ⟨T, 0, none⟩ (.int .i64 u)).setCell ⟨T, 1, none⟩ (.int .i64 v)) := below2 hBq hlT
                have hpF : ((w1.setCell ⟨T, 0, none⟩ (.int .i64 u)).setCell ⟨T, 1, none⟩ (.int .i64 v)).heap[T]? = some (.cells #[.int .i64 u, .int .i64 v] 196 (0, 0)) := row2 hpT
                have hZf : wr.heap.size ≤ ((w1.setCell ⟨T, 0, none⟩ (.int .i64 u)).setCell ⟨T, 1, none⟩ (.int .i64 v)).heap.size := size_sc2 hZq
                have hk0 : ((w1.setCell ⟨T, 0, none⟩ (.int .i64 u)).setCell ⟨T, 1, none⟩ (.int .i64 v)).cell? ⟨Q, 0, none⟩ = some (.bool x1.many) := cell_sc2 hQT (by with_reducible assumption)
                have hk1 : ((w1.setCell ⟨T, 0, none⟩ (.int .i64 u)).setCell ⟨T, 1, none⟩ (.int .i64 v)).cell? ⟨Q, 1, none⟩ = some (.int .i64 x1.v.t) := cell_sc2 hQT (by with_reducible assumption)
                have hk2 : ((w1.setCell ⟨T, 0, none⟩ (.int .i64 u)).setCell ⟨T, 1, none⟩ (.int .i64 v)).cell? ⟨Q, 2, none⟩ = some (.int .i64 x1.v.n) := cell_sc2 hQT (by with_reducible assumption)
                have hk3 : ((w1.setCell ⟨T, 0, none⟩ (.int .i64 u)).setCell ⟨T, 1, none⟩ (.int .i64 v)).cell? ⟨Q, 3, none⟩ = some (.string x1.v.s) := cell_sc2 hQT (by with_reducible assumption)
                have hk4 : ((w1.setCell ⟨T, 0, none⟩ (.int .i64 u)).setCell ⟨T, 1, none⟩ (.int .i64 v)).cell? ⟨Q, 4, none⟩ = some (.bool x1.v.b) := cell_sc2 hQT (by with_reducible assumption)
                have hk5 : ((w1.setCell ⟨T, 0, none⟩ (.int .i64 u)).setCell ⟨T, 1, none⟩ (.int .i64 v)).cell? ⟨Q, 5, none⟩ = some (.int .i64 x1.v.c) := cell_sc2 hQT (by with_reducible assumption)
                have hk6 : ((w1.setCell ⟨T, 0, none⟩ (.int .i64 u)).setCell ⟨T, 1, none⟩ (.int .i64 v)).cell? ⟨Q, 6, none⟩ = some (.int .i64 x1.t) := cell_sc2 hQT (by with_reducible assumption)
                have hk7 : ((w1.setCell ⟨T, 0, none⟩ (.int .i64 u)).setCell ⟨T, 1, none⟩ (.int .i64 v)).cell? ⟨Q, 7, none⟩ = some (.int .i64 x1.l) := cell_sc2 hQT (by with_reducible assumption)
                have hk8 : ((w1.setCell ⟨T, 0, none⟩ (.int .i64 u)).setCell ⟨T, 1, none⟩ (.int .i64 v)).cell? ⟨Q, 8, none⟩ = some (.int .i64 x1.b) := cell_sc2 hQT (by with_reducible assumption)
                have hk9 : ((w1.setCell ⟨T, 0, none⟩ (.int .i64 u)).setCell ⟨T, 1, none⟩ (.int .i64 v)).cell? ⟨Q, 9, none⟩ = some (.int .i64 x1.r) := cell_sc2 hQT (by with_reducible assumption)
                have hk10 : ((w1.setCell ⟨T, 0, none⟩ (.int .i64 u)).setCell ⟨T, 1, none⟩ (.int .i64 v)).cell? ⟨Q, 10, none⟩ = some (.slice x1.A x1.es.length x1.cap) := cell_sc2 hQT (by with_reducible assumption)
                clear hBq hZq hpT
                generalize ((w1.setCell ⟨T, 0, none⟩ (.int .i64 u)).setCell ⟨T, 1, none⟩ (.int .i64 v)) = wq at *
                refine hK.out _ _ ?_ (fun hHeld => ?_)
                · ((try dsimp only); refine ⟨?_, ?_, ?_, ?_, ?_, ?_, ?_, ?_, ?_, ?_, ?_, ?_, ?_⟩ <;> with_reducible assumption)
                clear hK K
                refine wpAnyH_done (by kernel_rfl) ?_ _
                refine NoPanic.normal ?_
                go_wp2
                go_meet
                case rel => exact ⟨T, rfl, rfl, hlT, hpF, hBf⟩
            case rest =>
              obtain ⟨T, rfl, rfl, hlT, hpT, hbc⟩ := hcut
              have iv0 : wc.cell? ⟨P, 0, none⟩ = some (.int .i64 x0.v.t) := (hbc.cell (p := ⟨P, 0, none⟩) hPr).trans gv0
              have iv1 : wc.cell? ⟨P, 1, none⟩ = some (.int .i64 x0.v.n) := (hbc.cell (p := ⟨P, 1, none⟩) hPr).trans gv1
              have iv2 : wc.cell? ⟨P, 2, none⟩ = some (.string x0.v.s) := (hbc.cell (p := ⟨P, 2, none⟩) hPr).trans gv2
              have iv3 : wc.cell? ⟨P, 3, none⟩ = some (.bool x0.v.b) := (hbc.cell (p := ⟨P, 3, none⟩) hPr).trans gv3
              have iv4 : wc.cell? ⟨P, 4, none⟩ = some (.int .i64 x0.v.c) := (hbc.cell (p := ⟨P, 4, none⟩) hPr).trans gv4
              have i2_0 : wc.cell? ⟨ab, ao + 22, none⟩ = some (.bool x2.many) := (hbc.cell (p := ⟨ab, ao + 22, none⟩) habr).trans g2_0
              have i2_1 : wc.cell? ⟨ab, ao + 22 + 1, none⟩ = some (.int .i64 x2.v.t) := (hbc.cell (p := ⟨ab, ao + 22 + 1, none⟩) habr).trans g2_1
              have i2_2 : wc.cell? ⟨ab, ao + 22 + 2, none⟩ = some (.int .i64 x2.v.n) := (hbc.cell (p := ⟨ab, ao + 22 + 2, none⟩) habr).trans g2_2
              have i2_3 : wc.cell? ⟨ab, ao + 22 + 3, none⟩ = some (.string x2.v.s) := (hbc.cell (p := ⟨ab, ao + 22 + 3, none⟩) habr).trans g2_3
              have i2_4 : wc.cell? ⟨ab, ao + 22 + 4, none⟩ = some (.bool x2.v.b) := (hbc.cell (p := ⟨ab, ao + 22 + 4, none⟩) habr).trans g2_4
              have i2_5 : wc.cell? ⟨ab, ao + 22 + 5, none⟩ = some (.int .i64 x2.v.c) := (hbc.cell (p := ⟨ab, ao + 22 + 5, none⟩) habr).trans g2_5
              have i2_6 : wc.cell? ⟨ab, ao + 22 + 6, none⟩ = some (.int .i64 x2.t) := (hbc.cell (p := ⟨ab, ao + 22 + 6, none⟩) habr).trans g2_6
              have i2_7 : wc.cell? ⟨ab, ao + 22 + 7, none⟩ = some (.int .i64 x2.l) := (hbc.cell (p := ⟨ab, ao + 22 + 7, none⟩) habr).trans g2_7
              have i2_8 : wc.cell? ⟨ab, ao + 22 + 8, none⟩ = some (.int .i64 x2.b) := (hbc.cell (p := ⟨ab, ao + 22 + 8, none⟩) habr).trans g2_8
              have i2_9 : wc.cell? ⟨ab, ao + 22 + 9, none⟩ = some (.int .i64 x2.r) := (hbc.cell (p := ⟨ab, ao + 22 + 9, none⟩) habr).trans g2_9
              have i2_10 : wc.cell? ⟨ab, ao + 22 + 10, none⟩ = some (.slice x2.A x2.es.length x2.cap) := (hbc.cell (p := ⟨ab, ao + 22 + 10, none⟩) habr).trans g2_10
              have it0 : wc.cell? ⟨T, 0, none⟩ = some (.int .i64 u) := blk_cell hpT 0
              have it1 : wc.cell? ⟨T, 1, none⟩ = some (.int .i64 v) := blk_cell hpT 1
              have hzc : wr.heap.size ≤ wc.heap.size := hbc.size
              have hTc : T < wc.heap.size := (Array.getElem?_eq_some_iff.1 hpT).1
              have hownc := hownr.out.below hbc
              have hbi : Below (w.heap.size + 1) (w.alloc (.cells #[.int .i64 0, .int .i64 0, .string ⟨#[]⟩, .bool false, .int .i64 0] 26)) wc := hbh.trans (hbc.mono (by omega))
              have hq5 : Below w.heap.size w wc := hq4.trans (hbc.mono (by omega))
              have hbm : Below wf.heap.size wf wc := hbr'.out.trans (hbc.mono (by omega))
              have hwc : w.heap.size < wc.heap.size := by omega
              have hpb : plB (u, v) := by unfold plB; dsimp only; omega
              obtain ⟨y, hy⟩ : ∃ y, lookP (heldL x1) (u, v) = y := ⟨_, rfl⟩
              have hrunA := fun w2 (h : Below wc.heap.size wc w2) => run_lookP (hownc.below h) hpb
              rw [hy] at hrunA
              unfold vlV at hrunA
              dsimp only at hrunA
              obtain ⟨z, hz⟩ : ∃ z, y.eqv x0.v = z := ⟨_, rfl⟩
              have hyz : Hid ((lookP (heldL x1) (nthL x1 k)).eqv x0.v = z) := Lib.hid (by rw [hnth.out, hy]; exact hz)
              unfold VL.eqv at hz
              have hpb' := Lib.hid hpb
              have hownc' := Lib.hid hownc
              have hbm' := Lib.hid hbm
              have hbc' := Lib.hid hbc
              clear hy hownc hpb hbm hbc hownr hbh hq4 hbr' gq0 gq1 gq2 gq3 gq4 gq5 gq6 gq7 gq8 gq9 gq10 gv0 gv1 gv2 gv3 gv4 g2_0 g2_1 g2_2 g2_3 g2_4 g2_5 g2_6 g2_7 g2_8 g2_9 g2_10
              go_upto_region 9 with (fail)
              refine wp_region_noPanic ?_
              refine wp_region_held_drew (S := fun w' => w'.cell? ⟨P, 0, none⟩ = some (.int .i64 x0.v.t) ∧ w'.cell? ⟨P, 1, none⟩ = some (.int .i64 x0.v.n) ∧ w'.cell? ⟨P, 2, none⟩ = some (.string x0.v.s) ∧ w'.cell? ⟨P, 3, none⟩ = some (.bool x0.v.b) ∧ w'.cell? ⟨P, 4, none⟩ = some (.int .i64 x0.v.c) ∧ w'.cell? ⟨T, 0, none⟩ = some (.int .i64 u) ∧ w'.cell? ⟨T, 1, none⟩ = some (.int .i64 v) ∧ Below wc.heap.size wc w') (by kernel_rfl) (by (try dsimp only); refine ⟨?_, ?_, ?_, ?_, ?_, ?_, ?_, ?_⟩ <;> first | assumption | exact Below.drew (Below.refl _ _)) (fun hHeld => ?_)
              generalize wc.drew = wz at *
              refine wpAnyH_take (i := 0) (oi := ⟨_, _, _, _, _, _⟩) (v := ?v143) rfl (by kernel_rfl) (by kernel_rfl) (by kernel_rfl) (fun _ _ _ h => h) (Or.inl ⟨by rfl, ?hy143⟩) hHeld ?rest143
              case hy143 => (intro w2 hSw; (try dsimp only at hSw); go_split_ands; go_simp; first | done | with_reducible rfl)
              try simp only [Act.put, List.setIfInBounds_toArray, List.set_cons_zero, List.set_cons_succ]
              refine wpAnyH_take (i := 1) (oi := ⟨_, _, _, _, _, _⟩) (v := ?v144) rfl (by kernel_rfl) (by kernel_rfl) (by kernel_rfl) (fun _ _ _ h => h) (Or.inl ⟨by rfl, ?hy144⟩) hHeld ?rest144
              case hy144 => (intro w2 hSw; (try dsimp only at hSw); go_split_ands; go_simp; first | done | with_reducible rfl)
              try simp only [Act.put, List.setIfInBounds_toArray, List.set_cons_zero, List.set_cons_succ]
              refine wpAnyH_take (i := 2) (oi := ⟨_, _, _, _, _, _⟩) (v := .agg #[.int .i64 y.t, .int .i64 y.n, .string y.s, .bool y.b, .int .i64 y.c]) rfl (by kernel_rfl) (by kernel_rfl) (by kernel_rfl) (fun _ _ _ h => h) (Or.inl ⟨by rfl, ?hyL⟩) hHeld ?restL
              case hyL => (intro w2 hSw; (try dsimp only at hSw); go_split_ands; have hrun := hrunA w2 (by with_reducible assumption); go_simp; first | done | exact hrun)
              try simp only [Act.put, List.setIfInBounds_toArray, List.set_cons_zero, List.set_cons_succ]
              refine wpAnyH_take (i := 3) (oi := ⟨_, _, _, _, _, _⟩) (v := ?v145) rfl (by kernel_rfl) (by kernel_rfl) (by kernel_rfl) (fun _ _ _ h => h) (Or.inl ⟨by rfl, ?hy145⟩) hHeld ?rest145
              case hy145 => (intro w2 hSw; (try dsimp only at hSw); go_split_ands; go_simp; first | done | with_reducible rfl)
              try simp only [Act.put, List.setIfInBounds_toArray, List.set_cons_zero, List.set_cons_succ]
              refine wpAnyH_take (i := 4) (oi := ⟨_, _, _, _, _, _⟩) (v := ?v146) rfl (by kernel_rfl) (by kernel_rfl) (by kernel_rfl) (fun _ _ _ h => h) (Or.inl ⟨by rfl, ?hy146⟩) hHeld ?rest146
              case hy146 => (intro w2 hSw; (try dsimp only at hSw); go_split_ands; go_simp; first | done | with_reducible rfl)
              try simp only [Act.put, List.setIfInBounds_toArray, List.set_cons_zero, List.set_cons_succ]
              refine wpAnyH_done (by kernel_rfl) ?_ _
              refine NoPanic.normal ?_
              go_split_ands
              have hbz : Below wc.heap.size wc wz := by with_reducible assumption
              clear hrunA
              have hwz : w.heap.size < wz.heap.size := Nat.lt_of_lt_of_le hwc hbz.size
              have hq6 : Below w.heap.size w wz := hq5.trans (hbz.mono (by omega))
              have ix0 : wz.cell? ⟨ab, ao + 22, none⟩ = some (.bool x2.many) := (hbz.cell (p := ⟨ab, ao + 22, none⟩) (by dsimp only; omega)).trans i2_0
              have ix1 : wz.cell? ⟨ab, ao + 22 + 1, none⟩ = some (.int .i64 x2.v.t) := (hbz.cell (p := ⟨ab, ao + 22 + 1, none⟩) (by dsimp only; omega)).trans i2_1
              have ix2 : wz.cell? ⟨ab, ao + 22 + 2, none⟩ = some (.int .i64 x2.v.n) := (hbz.cell (p := ⟨ab, ao + 22 + 2, none⟩) (by dsimp only; omega)).trans i2_2
              have ix3 : wz.cell? ⟨ab, ao + 22 + 3, none⟩ = some (.string x2.v.s) := (hbz.cell (p := ⟨ab, ao + 22 + 3, none⟩) (by dsimp only; omega)).trans i2_3
              have ix4 : wz.cell? ⟨ab, ao + 22 + 4, none⟩ = some (.bool x2.v.b) := (hbz.cell (p := ⟨ab, ao + 22 + 4, none⟩) (by dsimp only; omega)).trans i2_4
              have ix5 : wz.cell? ⟨ab, ao + 22 + 5, none⟩ = some (.int .i64 x2.v.c) := (hbz.cell (p := ⟨ab, ao + 22 + 5, none⟩) (by dsimp only; omega)).trans i2_5
              have ix6 : wz.cell? ⟨ab, ao + 22 + 6, none⟩ = some (.int .i64 x2.t) := (hbz.cell (p := ⟨ab, ao + 22 + 6, none⟩) (by dsimp only; omega)).trans i2_6
              have ix7 : wz.cell? ⟨ab, ao + 22 + 7, none⟩ = some (.int .i64 x2.l) := (hbz.cell (p := ⟨ab, ao + 22 + 7, none⟩) (by dsimp only; omega)).trans i2_7
              have ix8 : wz.cell? ⟨ab, ao + 22 + 8, none⟩ = some (.int .i64 x2.b) := (hbz.cell (p := ⟨ab, ao + 22 + 8, none⟩) (by dsimp only; omega)).trans i2_8
              have ix9 : wz.cell? ⟨ab, ao + 22 + 9, none⟩ = some (.int .i64 x2.r) := (hbz.cell (p := ⟨ab, ao + 22 + 9, none⟩) (by dsimp only; omega)).trans i2_9
              have ix10 : wz.cell? ⟨ab, ao + 22 + 10, none⟩ = some (.slice x2.A x2.es.length x2.cap) := (hbz.cell (p := ⟨ab, ao + 22 + 10, none⟩) (by dsimp only; omega)).trans i2_10
              clear i2_0 i2_1 i2_2 i2_3 i2_4 i2_5 i2_6 i2_7 i2_8 i2_9 i2_10
              have habz : ab < wz.heap.size := by omega
              have hTz : T < wz.heap.size := Nat.lt_of_lt_of_le hTc hbz.size
              cases z
              · go_wp2
                exact ⟨⟨k + 1, by omega, by go_num, Lib.hid (fun j hj => by rcases Nat.lt_succ_iff_lt_or_eq.1 hj with h | rfl; exact hno.out j h; exact hyz.out), hbm'.out.trans (hbz.mono (by omega))⟩, by simp [intOf]; omega⟩
              · have hbj := hbi.trans (hbz.mono (by omega))
                have hFs := Ffirst_some (v := x0.v) (x := x1) hlt hyz.out hno.out
                rw [hfr.out] at hFs
                have hFs' := Lib.hid hFs
                clear hFs
                obtain ⟨y2, hy2⟩ : ∃ y2, lookP (heldL x2) (u, v) = y2 := ⟨_, rfl⟩
                have hre2 : Hid (y2 = rs) := Lib.hid (by rw [← hre.out]; unfold lookR3; rw [hFs'.out]; exact (by rw [hnth.out]; exact hy2.symm : y2 = lookP (heldL x2) (nthL x1 k)))
                clear hre hFs'
                go_upto_region 11 with (fail)
                refine wp_region_noPanic ?_
                refine wp_region_held_drew (S := fun w' => w'.cell? ⟨ab, ao + 22, none⟩ = some (.bool x2.many) ∧ w'.cell? ⟨ab, ao + 22 + 1, none⟩ = some (.int .i64 x2.v.t) ∧ w'.cell? ⟨ab, ao + 22 + 2, none⟩ = some (.int .i64 x2.v.n) ∧ w'.cell? ⟨ab, ao + 22 + 3, none⟩ = some (.string x2.v.s) ∧ w'.cell? ⟨ab, ao + 22 + 4, none⟩ = some (.bool x2.v.b) ∧ w'.cell? ⟨ab, ao + 22 + 5, none⟩ = some (.int .i64 x2.v.c) ∧ w'.cell? ⟨ab, ao + 22 + 6, none⟩ = some (.int .i64 x2.t) ∧ w'.cell? ⟨ab, ao + 22 + 7, none⟩ = some (.int .i64 x2.l) ∧ w'.cell? ⟨ab, ao + 22 + 8, none⟩ = some (.int .i64 x2.b) ∧ w'.cell? ⟨ab, ao + 22 + 9, none⟩ = some (.int .i64 x2.r) ∧ w'.cell? ⟨ab, ao + 22 + 10, none⟩ = some (.slice x2.A x2.es.length x2.cap) ∧ w'.cell? ⟨T, 0, none⟩ = some (.int .i64 u) ∧ w'.cell? ⟨T, 1, none⟩ = some (.int .i64 v) ∧ Below w.heap.size w w' ∧ ResRow w' w.heap.size ∧ wz.heap.size ≤ w'.heap.size) (by kernel_rfl) (by (try dsimp only); refine ⟨?_, ?_, ?_, ?_, ?_, ?_, ?_, ?_, ?_, ?_, ?_, ?_, ?_, ?_, ?_, ?_⟩ <;> first | assumption | exact Below.drew (by assumption) | exact ResRow.of5 (hbj.block w.heap.size (Nat.lt_succ_self _)) | exact Nat.le_refl _) (fun hHeld => ?_)
                generalize wz.drew = wt at *
                refine wpAnyH_take (i := 0) (oi := ⟨_, _, _, _, _, _⟩) (v := ?v147) rfl (by kernel_rfl) (by kernel_rfl) (by kernel_rfl) (fun _ _ _ h => h) (Or.inl ⟨by rfl, ?hy147⟩) hHeld ?rest147
                case hy147 => (intro w2 hSw; (try dsimp only at hSw); go_split_ands; go_simp; first | done | with_reducible rfl)
                try simp only [Act.put, List.setIfInBounds_toArray, List.set_cons_zero, List.set_cons_succ]
                refine wpAnyH_take (i := 1) (oi := ⟨_, _, _, _, _, _⟩) (v := ?v148) rfl (by kernel_rfl) (by kernel_rfl) (by kernel_rfl) (fun _ _ _ h => h) (Or.inl ⟨by rfl, ?hy148⟩) hHeld ?rest148
                case hy148 => (intro w2 hSw; (try dsimp only at hSw); go_split_ands; go_simp; first | done | with_reducible rfl)
                try simp only [Act.put, List.setIfInBounds_toArray, List.set_cons_zero, List.set_cons_succ]
                refine wpAnyH_take (i := 2) (oi := ⟨_, _, _, _, _, _⟩) (v := ?v149) rfl (by kernel_rfl) (by kernel_rfl) (by kernel_rfl) (fun _ _ _ h => h) (Or.inl ⟨by rfl, ?hy149⟩) hHeld ?rest149
                case hy149 => (intro w2 hSw; (try dsimp only at hSw); go_split_ands; go_simp; first | done | with_reducible rfl)
                try simp only [Act.put, List.setIfInBounds_toArray, List.set_cons_zero, List.set_cons_succ]
                refine wpAnyH_take (i := 4) (oi := ⟨_, _, _, _, _, _⟩) (v := ?v150) rfl (by kernel_rfl) (by kernel_rfl) (by kernel_rfl) (fun _ _ _ h => h) (Or.inl ⟨by rfl, ?hy150⟩) hHeld ?rest150
                case hy150 => (intro w2 hSw; (try dsimp only at hSw); go_split_ands; go_simp; first | done | with_reducible rfl)
                try simp only [Act.put, List.setIfInBounds_toArray, List.set_cons_zero, List.set_cons_succ]
                refine wpAnyH_ready (rs := [3]) (by kernel_rfl) (by simp) ?_
                refine AllReadyH.cons (o := ⟨_, _, _, _, _, _⟩) rfl (fun K hK => ?_) AllReadyH.nil
                go_split_ands
                go_simp
                refine ((CH2 _ (by with_reducible assumption)).out).mono ?_
                rintro e w1 ⟨⟨b2, rfl, hbl2, hown2⟩, hb⟩
                refine hK.out _ _ ?_ (fun hHeld => ?_)
                · ((try dsimp only); refine ⟨?_, ?_, ?_, ?_, ?_, ?_, ?_, ?_, ?_, ?_, ?_, ?_, ?_, ?_, ?_, ?_⟩ <;> first | (rw [hb.cell (by dsimp only; omega)]; assumption) | exact Below.trans (by assumption) (hb.mono (by omega)) | exact ResRow.below (by with_reducible assumption) hb (by omega) | (have := hb.size; omega))
                clear hK K hb CH2
                try simp only [Act.put, List.setIfInBounds_toArray, List.set_cons_zero, List.set_cons_succ]
                refine wpAnyH_ready (rs := [5]) (by kernel_rfl) (by simp) ?_
                refine AllReadyH.cons (o := ⟨_, _, _, _, _, _⟩) rfl (fun K hK => ?_) AllReadyH.nil
                go_split_ands
                have hrun2 := run_lookP hown2 hpb'.out
                rw [hy2] at hrun2
                unfold vlV at hrun2
                dsimp only at hrun2
                have hy2' := Lib.hid hy2
                clear hown2 hy2
                go_simp
                refine hK.out _ _ ?_ (fun hHeld => ?_)
                · ((try dsimp only); refine ⟨?_, ?_, ?_, ?_, ?_, ?_, ?_, ?_, ?_, ?_, ?_, ?_, ?_, ?_, ?_, ?_⟩ <;> with_reducible assumption)
                clear hK K hrun2
                try simp only [Act.put, List.setIfInBounds_toArray, List.set_cons_zero, List.set_cons_succ]
                refine wpAnyH_ready (rs := [6]) (by kernel_rfl) (by simp) ?_
                refine AllReadyH.cons (o := ⟨_, _, _, _, _, _⟩) rfl (fun K hK => ?_) AllReadyH.nil
                go_split_ands
                have hBw : Below w.heap.size w w1 := by with_reducible assumption
                have hZq : wz.heap.size ≤ w1.heap.size := by with_reducible assumption
                obtain ⟨c0, c1, c2, c3, c4, hpR⟩ : ResRow w1 w.heap.size := by with_reducible assumption
                have hcl0 : w1.cell? ⟨w.heap.size, 0, none⟩ = some c0 := blk_cell hpR 0
                have hcl1 : w1.cell? ⟨w.heap.size, 1, none⟩ = some c1 := blk_cell hpR 1
                have hcl2 : w1.cell? ⟨w.heap.size, 2, none⟩ = some c2 := blk_cell hpR 2
                have hcl3 : w1.cell? ⟨w.heap.size, 3, none⟩ = some c3 := blk_cell hpR 3
                have hcl4 : w1.cell? ⟨w.heap.size, 4, none⟩ = some c4 := blk_cell hpR 4
                have hfz0 : w1.frozen? ⟨w.heap.size, 0, none⟩ = false := blk_frozen hpR 0
                have hfz1 : w1.frozen? ⟨w.heap.size, 1, none⟩ = false := blk_frozen hpR 1
                have hfz2 : w1.frozen? ⟨w.heap.size, 2, none⟩ = false := blk_frozen hpR 2
                have hfz3 : w1.frozen? ⟨w.heap.size, 3, none⟩ = false := blk_frozen hpR 3
                have hfz4 : w1.frozen? ⟨w.heap.size, 4, none⟩ = false := blk_frozen hpR 4
                go_simp
                have hWab : w.heap.size ≠ ab := by omega
                have hWT : w.heap.size ≠ T := by omega
                clear hcl0 hfz0 hcl1 hfz1 hcl2 hfz2 hcl3 hfz3 hcl4 hfz4
                have hBf : Below w.heap.size w (((((w1.setCell ⟨w.heap.size, 0, none⟩ (.int .i64 y2.t)).setCell ⟨w.heap.size, 1, none⟩ (.int .i64 y2.n)).setCell ⟨w.heap.size, 2, none⟩ (.string y2.s)).setCell ⟨w.heap.size, 3, none⟩ (.bool y2.b)).setCell ⟨w.heap.size, 4, none⟩ (.int .i64 y2.c)) := below5 hBw (Nat.le_refl _)
                have hpF : (((((w1.setCell ⟨w.heap.size, 0, none⟩ (.int .i64 y2.t)).setCell ⟨w.heap.size, 1, none⟩ (.int .i64 y2.n)).setCell ⟨w.heap.size, 2, none⟩ (.string y2.s)).setCell ⟨w.heap.size, 3, none⟩ (.bool y2.b)).setCell ⟨w.heap.size, 4, none⟩ (.int .i64 y2.c)).heap[w.heap.size]? = some (.cells #[.int .i64 y2.t, .int .i64 y2.n, .string y2.s, .bool y2.b, .int .i64 y2.c] 26 (0, 0)) := row5 hpR
                have hZf : wz.heap.size ≤ (((((w1.setCell ⟨w.heap.size, 0, none⟩ (.int .i64 y2.t)).setCell ⟨w.heap.size, 1, none⟩ (.int .i64 y2.n)).setCell ⟨w.heap.size, 2, none⟩ (.string y2.s)).setCell ⟨w.heap.size, 3, none⟩ (.bool y2.b)).setCell ⟨w.heap.size, 4, none⟩ (.int .i64 y2.c)).heap.size := size_sc5 hZq
                have hk0 : (((((w1.setCell ⟨w.heap.size, 0, none⟩ (.int .i64 y2.t)).setCell ⟨w.heap.size, 1, none⟩ (.int .i64 y2.n)).setCell ⟨w.heap.size, 2, none⟩ (.string y2.s)).setCell ⟨w.heap.size, 3, none⟩ (.bool y2.b)).setCell ⟨w.heap.size, 4, none⟩ (.int .i64 y2.c)).cell? ⟨ab, ao + 22, none⟩ = some (.bool x2.many) := cell_sc5 hWab (by with_reducible assumption)
                have hk1 : (((((w1.setCell ⟨w.heap.size, 0, none⟩ (.int .i64 y2.t)).setCell ⟨w.heap.size, 1, none⟩ (.int .i64 y2.n)).setCell ⟨w.heap.size, 2, none⟩ (.string y2.s)).setCell ⟨w.heap.size, 3, none⟩ (.bool y2.b)).setCell ⟨w.heap.size, 4, none⟩ (.int .i64 y2.c)).cell? ⟨ab, ao + 22 + 1, none⟩ = some (.int .i64 x2.v.t) := cell_sc5 hWab (by with_reducible assumption)
                have hk2 : (((((w1.setCell ⟨w.heap.size, 0, none⟩ (.int .i64 y2.t)).setCell ⟨w.heap.size, 1, none⟩ (.int .i64 y2.n)).setCell ⟨w.heap.size, 2, none⟩ (.string y2.s)).setCell ⟨w.heap.size, 3, none⟩ (.bool y2.b)).setCell ⟨w.heap.size, 4, none⟩ (.int .i64 y2.c)).cell? ⟨ab, ao + 22 + 2, none⟩ = some (.int .i64 x2.v.n) := cell_sc5 hWab (by with_reducible assumption)
                have hk3 : (((((w1.setCell ⟨w.heap.size, 0, none⟩ (.int .i64 y2.t)).setCell ⟨w.heap.size, 1, none⟩ (.int .i64 y2.n)).setCell ⟨w.heap.size, 2, none⟩ (.string y2.s)).setCell ⟨w.heap.size, 3, none⟩ (.bool y2.b)).setCell ⟨w.heap.size, 4, none⟩ (.int .i64 y2.c)).cell? ⟨ab, ao + 22 + 3, none⟩ = some (.string x2.v.s) := cell_sc5 hWab (by with_reducible assumption)
                have hk4 : (((((w1.setCell ⟨w.heap.size, 0, none⟩ (.int .i64 y2.t)).setCell ⟨w.heap.size, 1, none⟩ (.int .i64 y2.n)).setCell ⟨w.heap.size, 2, none⟩ (.string y2.s)).setCell ⟨w.heap.size, 3, none⟩ (.bool y2.b)).setCell ⟨w.heap.size, 4, none⟩ (.int .i64 y2.c)).cell? ⟨ab, ao + 22 + 4, none⟩ = some (.bool x2.v.b) := cell_sc5 hWab (by with_reducible assumption)
                have hk5 : (((((w1.setCell ⟨w.heap.size, 0, none⟩ (.int .i64 y2.t)).setCell ⟨w.heap.size, 1, none⟩ (.int .i64 y2.n)).setCell ⟨w.heap.size, 2, none⟩ (.string y2.s)).setCell ⟨w.heap.size, 3, none⟩ (.bool y2.b)).setCell ⟨w.heap.size, 4, none⟩ (.int .i64 y2.c)).cell? ⟨ab, ao + 22 + 5, none⟩ = some (.int .i64 x2.v.c) := cell_sc5 hWab (by with_reducible assumption)
                have hk6 : (((((w1.setCell ⟨w.heap.size, 0, none⟩ (.int .i64 y2.t)).setCell ⟨w.heap.size, 1, none⟩ (.int .i64 y2.n)).setCell ⟨w.heap.size, 2, none⟩ (.string y2.s)).setCell ⟨w.heap.size, 3, none⟩ (.bool y2.b)).setCell ⟨w.heap.size, 4, none⟩ (.int .i64 y2.c)).cell? ⟨ab, ao + 22 + 6, none⟩ = some (.int .i64 x2.t) := cell_sc5 hWab (by with_reducible assumption)
                have hk7 : (((((w1.setCell ⟨w.heap.size, 0, none⟩ (.int .i64 y2.t)).setCell ⟨w.heap.size, 1, none⟩ (.int .i64 y2.n)).setCell ⟨w.heap.size, 2, none⟩ (.string y2.s)).setCell ⟨w.heap.size, 3, none⟩ (.bool y2.b)).setCell ⟨w.heap.size, 4, none⟩ (.int .i64 y2.c)).cell? ⟨ab, ao + 22 + 7, none⟩ = some (.int .i64 x2.l) := cell_sc5 hWab (by with_reducible assumption)
                have hk8 : (((((w1.setCell ⟨w.heap.size, 0, none⟩ (.int .i64 y2.t)).setCell ⟨w.heap.size, 1, none⟩ (.int .i64 y2.n)).setCell ⟨w.heap.size, 2, none⟩ (.string y2.s)).setCell ⟨w.heap.size, 3, none⟩ (.bool y2.b)).setCell ⟨w.heap.size, 4, none⟩ (.int .i64 y2.c)).cell? ⟨ab, ao + 22 + 8, none⟩ = some (.int .i64 x2.b) := cell_sc5 hWab (by with_reducible assumption)
                have hk9 : (((((w1.setCell ⟨w.heap.size, 0, none⟩ (.int .i64 y2.t)).setCell ⟨w.heap.size, 1, none⟩ (.int .i64 y2.n)).setCell ⟨w.heap.size, 2, none⟩ (.string y2.s)).setCell ⟨w.heap.size, 3, none⟩ (.bool y2.b)).setCell ⟨w.heap.size, 4, none⟩ (.int .i64 y2.c)).cell? ⟨ab, ao + 22 + 9, none⟩ = some (.int .i64 x2.r) := cell_sc5 hWab (by with_reducible assumption)
                have hk10 : (((((w1.setCell ⟨w.heap.size, 0, none⟩ (.int .i64 y2.t)).setCell ⟨w.heap.size, 1, none⟩ (.int .i64 y2.n)).setCell ⟨w.heap.size, 2, none⟩ (.string y2.s)).setCell ⟨w.heap.size, 3, none⟩ (.bool y2.b)).setCell ⟨w.heap.size, 4, none⟩ (.int .i64 y2.c)).cell? ⟨ab, ao + 22 + 10, none⟩ = some (.slice x2.A x2.es.length x2.cap) := cell_sc5 hWab (by with_reducible assumption)
                have hkt0 : (((((w1.setCell ⟨w.heap.size, 0, none⟩ (.int .i64 y2.t)).setCell ⟨w.heap.size, 1, none⟩ (.int .i64 y2.n)).setCell ⟨w.heap.size, 2, none⟩ (.string y2.s)).setCell ⟨w.heap.size, 3, none⟩ (.bool y2.b)).setCell ⟨w.heap.size, 4, none⟩ (.int .i64 y2.c)).cell? ⟨T, 0, none⟩ = some (.int .i64 u) := cell_sc5 hWT (by with_reducible assumption)
                have hkt1 : (((((w1.setCell ⟨w.heap.size, 0, none⟩ (.int .i64 y2.t)).setCell ⟨w.heap.size, 1, none⟩ (.int .i64 y2.n)).setCell ⟨w.heap.size, 2, none⟩ (.string y2.s)).setCell ⟨w.heap.size, 3, none⟩ (.bool y2.b)).setCell ⟨w.heap.size, 4, none⟩ (.int .i64 y2.c)).cell? ⟨T, 1, none⟩ = some (.int .i64 v) := cell_sc5 hWT (by with_reducible assumption)
                clear hBw hZq hpR
                generalize (((((w1.setCell ⟨w.heap.size, 0, none⟩ (.int .i64 y2.t)).setCell ⟨w.heap.size, 1, none⟩ (.int .i64 y2.n)).setCell ⟨w.heap.size, 2, none⟩ (.string y2.s)).setCell ⟨w.heap.size, 3, none⟩ (.bool y2.b)).setCell ⟨w.heap.size, 4, none⟩ (.int .i64 y2.c)) = wq at *
                have hRq : ResRow wq w.heap.size := ⟨_, _, _, _, _, hpF⟩
                refine hK.out _ _ ?_ (fun hHeld => ?_)
                · ((try dsimp only); refine ⟨?_, ?_, ?_, ?_, ?_, ?_, ?_, ?_, ?_, ?_, ?_, ?_, ?_, ?_, ?_, ?_⟩ <;> with_reducible assumption)
                clear hK K
                refine wpAnyH_done (by kernel_rfl) ?_ _
                refine NoPanic.normal ?_
                have hcl0 : wq.cell? ⟨w.heap.size, 0, none⟩ = some (.int .i64 y2.t) := blk_cell hpF 0
                have hcl1 : wq.cell? ⟨w.heap.size, 1, none⟩ = some (.int .i64 y2.n) := blk_cell hpF 1
                have hcl2 : wq.cell? ⟨w.heap.size, 2, none⟩ = some (.string y2.s) := blk_cell hpF 2
                have hcl3 : wq.cell? ⟨w.heap.size, 3, none⟩ = some (.bool y2.b) := blk_cell hpF 3
                have hcl4 : wq.cell? ⟨w.heap.size, 4, none⟩ = some (.int .i64 y2.c) := blk_cell hpF 4
                go_wp2
                refine bodyPost_ret (v := .agg #[.int .i64 (y2).t, .int .i64 (y2).n, .string (y2).s, .bool (y2).b, .int .i64 (y2).c]) ?_ rfl ⟨by rw [hre2.out], by (repeat (first | (with_reducible exact Below.refl _ _) | (with_reducible refine Below.alloc ?_ (by first | omega | (dsimp only; omega) | (simp <;> omega)) _) | (with_reducible refine Below.setCell ?_ (by first | omega | (dsimp only; omega) | (simp <;> omega)) _) | (with_reducible refine Below.drew ?_) | (with_reducible refine below_drewN ?_ _) | (with_reducible refine Below.trans ?_ (Below.mono (by assumption) (by first | omega | (dsimp only; omega) | (simp <;> omega))))))⟩
                simp [results, Tryz.results137, go_sem, *]
          · obtain rfl : k = N := by omega
            have hkl : ¬ (k : Int) < (k : Int) := by omega
            have hr0 : wr.cell? ⟨w.heap.size, 0, none⟩ = some (.int .i64 0) := (hbh.cell (p := ⟨w.heap.size, 0, none⟩) (by dsimp only; omega)).trans (c_at rfl rfl)
            have hr1 : wr.cell? ⟨w.heap.size, 1, none⟩ = some (.int .i64 0) := (hbh.cell (p := ⟨w.heap.size, 1, none⟩) (by dsimp only; omega)).trans (c_at rfl rfl)
            have hr2 : wr.cell? ⟨w.heap.size, 2, none⟩ = some (.string ⟨#[]⟩) := (hbh.cell (p := ⟨w.heap.size, 2, none⟩) (by dsimp only; omega)).trans (c_at rfl rfl)
            have hr3 : wr.cell? ⟨w.heap.size, 3, none⟩ = some (.bool false) := (hbh.cell (p := ⟨w.heap.size, 3, none⟩) (by dsimp only; omega)).trans (c_at rfl rfl)
            have hr4 : wr.cell? ⟨w.heap.size, 4, none⟩ = some (.int .i64 0) := (hbh.cell (p := ⟨w.heap.size, 4, none⟩) (by dsimp only; omega)).trans (c_at rfl rfl)
            have hs0 : wr.frozen? ⟨w.heap.size, 0, none⟩ = false := (hbh.frozen (p := ⟨w.heap.size, 0, none⟩) (by dsimp only; omega)).trans (f_at rfl)
            have hs1 : wr.frozen? ⟨w.heap.size, 1, none⟩ = false := (hbh.frozen (p := ⟨w.heap.size, 1, none⟩) (by dsimp only; omega)).trans (f_at rfl)
            have hs2 : wr.frozen? ⟨w.heap.size, 2, none⟩ = false := (hbh.frozen (p := ⟨w.heap.size, 2, none⟩) (by dsimp only; omega)).trans (f_at rfl)
            have hs3 : wr.frozen? ⟨w.heap.size, 3, none⟩ = false := (hbh.frozen (p := ⟨w.heap.size, 3, none⟩) (by dsimp only; omega)).trans (f_at rfl)
            have hs4 : wr.frozen? ⟨w.heap.size, 4, none⟩ = false := (hbh.frozen (p := ⟨w.heap.size, 4, none⟩) (by dsimp only; omega)).trans (f_at rfl)
            have hFn := Ffirst_none (v := x0.v) (x := x1) hno.out
            rw [hfr.out] at hFn
            have hFn' := Lib.hid hFn
            have hre2 : Hid (errL 6 = rs) := Lib.hid (by rw [← hre.out]; unfold lookR3; rw [hFn])
            clear hFn hre
            go_wp2_with (go_at_call 40; refine (verr_any 6 _).mono ?_; rintro e w9 ⟨rfl, hb9⟩; obtain ⟨gc9, gf9, gz9⟩ := bkeep hb9 (w.heap.size + 1) (by first | omega | (simp <;> omega)))
            refine bodyPost_ret (v := .agg #[.int .i64 ((errL 6)).t, .int .i64 ((errL 6)).n, .string ((errL 6)).s, .bool ((errL 6)).b, .int .i64 ((errL 6)).c]) ?_ rfl ⟨by rw [hre2.out], by (repeat (first | (with_reducible exact Below.refl _ _) | (with_reducible refine Below.alloc ?_ (by first | omega | (dsimp only; omega) | (simp <;> omega)) _) | (with_reducible refine Below.setCell ?_ (by first | omega | (dsimp only; omega) | (simp <;> omega)) _) | (with_reducible refine Below.drew ?_) | (with_reducible refine below_drewN ?_ _) | (with_reducible refine Below.trans ?_ (Below.mono (by assumption) (by first | omega | (dsimp only; omega) | (simp <;> omega))))))⟩
            simp [results, Tryz.results137, go_sem, errL, *]
      · have hr0 : wd.cell? ⟨w.heap.size, 0, none⟩ = some (.int .i64 0) := (hbw.cell (p := ⟨w.heap.size, 0, none⟩) (by dsimp only; omega)).trans (c_at rfl rfl)
        have hr1 : wd.cell? ⟨w.heap.size, 1, none⟩ = some (.int .i64 0) := (hbw.cell (p := ⟨w.heap.size, 1, none⟩) (by dsimp only; omega)).trans (c_at rfl rfl)
        have hr2 : wd.cell? ⟨w.heap.size, 2, none⟩ = some (.string ⟨#[]⟩) := (hbw.cell (p := ⟨w.heap.size, 2, none⟩) (by dsimp only; omega)).trans (c_at rfl rfl)
        have hr3 : wd.cell? ⟨w.heap.size, 3, none⟩ = some (.bool false) := (hbw.cell (p := ⟨w.heap.size, 3, none⟩) (by dsimp only; omega)).trans (c_at rfl rfl)
        have hr4 : wd.cell? ⟨w.heap.size, 4, none⟩ = some (.int .i64 0) := (hbw.cell (p := ⟨w.heap.size, 4, none⟩) (by dsimp only; omega)).trans (c_at rfl rfl)
        have hs0 : wd.frozen? ⟨w.heap.size, 0, none⟩ = false := (hbw.frozen (p := ⟨w.heap.size, 0, none⟩) (by dsimp only; omega)).trans (f_at rfl)
        have hs1 : wd.frozen? ⟨w.heap.size, 1, none⟩ = false := (hbw.frozen (p := ⟨w.heap.size, 1, none⟩) (by dsimp only; omega)).trans (f_at rfl)
        have hs2 : wd.frozen? ⟨w.heap.size, 2, none⟩ = false := (hbw.frozen (p := ⟨w.heap.size, 2, none⟩) (by dsimp only; omega)).trans (f_at rfl)
        have hs3 : wd.frozen? ⟨w.heap.size, 3, none⟩ = false := (hbw.frozen (p := ⟨w.heap.size, 3, none⟩) (by dsimp only; omega)).trans (f_at rfl)
        have hs4 : wd.frozen? ⟨w.heap.size, 4, none⟩ = false := (hbw.frozen (p := ⟨w.heap.size, 4, none⟩) (by dsimp only; omega)).trans (f_at rfl)
        go_wp2_with (go_at_call 40; refine (verr_any 8 _).mono ?_; rintro e w9 ⟨rfl, hb9⟩; obtain ⟨gc9, gf9, gz9⟩ := bkeep hb9 (w.heap.size + 1) (by first | omega | (simp <;> omega)))
        have hre : errL 8 = rs := hres'.out
        refine bodyPost_ret (v := .agg #[.int .i64 ((errL 8)).t, .int .i64 ((errL 8)).n, .string ((errL 8)).s, .bool ((errL 8)).b, .int .i64 ((errL 8)).c]) ?_ rfl ⟨by rw [← hre], by (repeat (first | (with_reducible exact Below.refl _ _) | (with_reducible refine Below.alloc ?_ (by first | omega | (dsimp only; omega) | (simp <;> omega)) _) | (with_reducible refine Below.setCell ?_ (by first | omega | (dsimp only; omega) | (simp <;> omega)) _) | (with_reducible refine Below.drew ?_) | (with_reducible refine below_drewN ?_ _) | (with_reducible refine Below.trans ?_ (Below.mono (by assumption) (by first | omega | (dsimp only; omega) | (simp <;> omega))))))⟩
        simp [results, Tryz.results137, go_sem, errL, *]
end Go.Proofs.YtaomlgpakbjegaaGreatDoor
