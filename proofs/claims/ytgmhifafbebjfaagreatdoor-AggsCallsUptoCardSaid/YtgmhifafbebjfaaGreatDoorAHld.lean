/-
 aggs: held: a rectangle's values by their places.
-/
import Derived.Test.YtgmhifafbebjfaaGreatDoorMg23
set_option maxRecDepth 100000
set_option maxHeartbeats 32000000
namespace Go.Proofs.YtgmhifafbebjfaaGreatDoor
open Go.RowKit

open Go.Maps (Keyed)
def plV (p : Int × Int) : Value := .agg #[.int .i64 p.1, .int .i64 p.2]
def plK (p : Int × Int) : Lit := .string (keyBytes [.int .i64 p.1, .int .i64 p.2])
def plB (p : Int × Int) : Prop := (-9223372036854775808 ≤ p.1 ∧ p.1 ≤ 9223372036854775807) ∧ (-9223372036854775808 ≤ p.2 ∧ p.2 ≤ 9223372036854775807)
theorem placeLaw : Keyed Tryz.prog 188 := Keyed.of_law (deep_law_laid laidOut (m := 2) (by decide) (of_decide_eq_true (by kernel_rfl)) (by kernel_rfl) (by kernel_rfl))
theorem place_kt : Program.keyType Tryz.prog 188 = true := by kernel_rfl
theorem place_fm (p : Int × Int) : Value.formed Tryz.prog 188 (plV p) = true := by
 unfold plV Value.formed
 simp only [Tryz.underlying188]
 exact (show (2 == Tryz.prog.cellsOf 188) = true by kernel_rfl)
theorem plK_is {p : Int × Int} (h : plB p) : keyOf Tryz.prog 188 (plV p) = some (plK p) := by
 obtain ⟨h1, h2⟩ := h
 have w1 : (Lit.int .i64 p.1).wf = true := WalkArith.wf_i64 h1
 have w2 : (Lit.int .i64 p.2).wf = true := WalkArith.wf_i64 h2
 obtain ⟨n, hn⟩ : ∃ n, Tryz.prog.types.size + 1 = n + 2 := ⟨Tryz.prog.types.size - 1, by have : 1 ≤ Tryz.prog.types.size := of_decide_eq_true (by kernel_rfl); omega⟩
 have hc : Tryz.prog.cellsOf 188 = 2 := by kernel_rfl
 have hi : Tryz.prog.cellsOf 3 = 1 := by kernel_rfl
 unfold keyOf
 simp only [Tryz.underlying188, place_kt, place_fm, Bool.and_self, if_true]
 rw [hn]
 unfold plV plK Value.cells Program.keyLits
 simp [Tryz.underlying188, hc, Program.keyLits, hi, Tryz.underlying3, w1, w2]
theorem plK_inj {p q : Int × Int} (hp : plB p) (hq : plB q) (h : plK p = plK q) : p = q := by
 have := placeLaw.inj (plK_is hp) (by rw [h]; exact plK_is hq)
 unfold plV at this
 injection this with this
 injection this with this
 injection this with h1 h2
 injection h1 with _ h1
 injection h2 with h2 _
 injection h2 with _ h2
 exact Prod.ext h1 h2
def vlV (v : VL) : Value := .agg #[.int .i64 v.t, .int .i64 v.n, .string v.s, .bool v.b, .int .i64 v.c]
def mkP : List ((Int × Int) × VL) → DataW Value
 | [] => .map []
 | (k, y) :: l => (mkP l).put (plK k) (.held (vlV y))
theorem isMap_mkP : ∀ l, Maps.IsMap (mkP l)
 | [] => Maps.isMap_empty
 | (_, _) :: l => (isMap_mkP l).put _ _
theorem atKey_mkP {p : Int × Int} (hp : plB p) : ∀ l : List ((Int × Int) × VL), (∀ y ∈ l, plB y.1) → (mkP l).atKey (plK p) (.held (vlV v0)) = .held (vlV (lookP l p))
 | [], _ => rfl
 |
  (k, y) :: l, h => by
  unfold mkP lookP
  by_cases e : p = k
  ·subst e
   rw [if_pos rfl, Maps.atKey_put_same (isMap_mkP l) (by exact trivial)]
  ·rw [if_neg e, Maps.atKey_put_other (fun e2 => e (plK_inj hp (h (k, y) (by simp)) e2))]
   exact atKey_mkP hp l (fun z hz => h z (by simp [hz]))
def OwnP (w : World) (b : Nat) (l : List ((Int × Int) × VL)) : Prop := (∀ y ∈ l, plB y.1) ∧ w.ownsMap Tryz.prog 188 heldR b l.length (mkP l)
theorem OwnP.below {w w' : World} {b : Nat} {l : List ((Int × Int) × VL)} (h : OwnP w b l) (hb : Below w.heap.size w w') : OwnP w' b l := by
 obtain ⟨h1, es, clock, hx, r⟩ := h
 exact ⟨h1, es, clock, (hb.block b (Array.getElem?_eq_some_iff.1 hx).1).trans hx, r⟩
theorem OwnP.lt {w : World} {b : Nat} {l : List ((Int × Int) × VL)} (h : OwnP w b l) : b < w.heap.size := h.2.lt
theorem zeroV (w : World) : (zeroValue 26).run Tryz.prog w = .ok (vlV v0) w := by kernel_rfl
theorem run_lookP {w : World} {b : Nat} {l : List ((Int × Int) × VL)} (h : OwnP w b l) {p : Int × Int} (hp : plB p) : (Instr.lookup 185 (.map (some b)) (.agg #[.int .i64 p.1, .int .i64 p.2]) false).run Tryz.prog w = .ok (vlV (lookP l p)) w := by
 obtain ⟨v, ps, hrun, hv⟩ := h.2.lookup placeLaw Tryz.underlying185 (zeroV w) (zd := .held (vlV v0)) (zp := []) rfl (plK_is hp)
 rw [atKey_mkP hp l h.1] at hv
 generalize vlV (lookP l p) = y at *
 have hv' : v = y := by injection hv with hv; injection hv with hv _; injection hv
 rw [hv'] at hrun
 unfold plV at hrun
 exact hrun
theorem aheld_any (x : AL) (hm : mayRectB x.t x.l x.b x.r = true) (he : entsOk x = true) (w : World) (hin : x.In w w.heap.size) : Calls Tryz.prog 181 #[.agg #[.bool x.many, .int .i64 x.v.t, .int .i64 x.v.n, .string x.v.s, .bool x.v.b, .int .i64 x.v.c, .int .i64 x.t, .int .i64 x.l, .int .i64 x.b, .int .i64 x.r, .slice x.A x.es.length x.cap]] w fun e w' => (∃ b, e = .returned (.map (some b)) ∧ w.heap.size ≤ b ∧ OwnP w' b (heldL x)) ∧ Below w.heap.size w w' := by
 have hR' := Lib.hid hin.2.1
 have hlen := ent_len hm he
 have hkey := Lib.hid (ent_key hm he)
 obtain ⟨q1, q2, q3, q4, q5, q6⟩ := rect_in hm
 have hmm := @run_makeMap Tryz.prog
 have b0 : Below w.heap.size w (w.alloc (.cells #[.bool x.many, .int .i64 x.v.t, .int .i64 x.v.n, .string x.v.s, .bool x.v.b, .int .i64 x.v.c, .int .i64 x.t, .int .i64 x.l, .int .i64 x.b, .int .i64 x.r, .slice x.A x.es.length x.cap] 36)) := (Below.refl _ _).alloc (Nat.le_refl _) _
 have ho0 : ((w.alloc (.cells #[.bool x.many, .int .i64 x.v.t, .int .i64 x.v.n, .string x.v.s, .bool x.v.b, .int .i64 x.v.c, .int .i64 x.t, .int .i64 x.l, .int .i64 x.b, .int .i64 x.r, .slice x.A x.es.length x.cap] 36)).alloc (.map #[] 0)).ownsMap Tryz.prog 188 heldR (w.heap.size + 1) 0 (.map []) := by
  have h9 := World.ownsMap_made (H := Value) (w.alloc (.cells #[.bool x.many, .int .i64 x.v.t, .int .i64 x.v.n, .string x.v.s, .bool x.v.b, .int .i64 x.v.c, .int .i64 x.t, .int .i64 x.l, .int .i64 x.b, .int .i64 x.r, .slice x.A x.es.length x.cap] 36)) Tryz.prog 188 heldR
  rwa [World.size_alloc] at h9
 clear hin he hm
 go_enter Tryz.func181, Tryz.ntmps181
 go_wp2
 clear hmm
 go_loopw [10] (fun i wr => ∃ k : Nat, k ≤ x.es.length ∧ i = .int .i64 (k : Int) ∧ OwnP wr (w.heap.size + 1) (((x.es.take k).map fun e => (placeL x e, e.v)).reverse) ∧ Below (w.heap.size + 1) (w.alloc (.cells #[.bool x.many, .int .i64 x.v.t, .int .i64 x.v.n, .string x.v.s, .bool x.v.b, .int .i64 x.v.c, .int .i64 x.t, .int .i64 x.l, .int .i64 x.b, .int .i64 x.r, .slice x.A x.es.length x.cap] 36)) wr) (fun i _ => x.es.length - (intOf i).toNat)
 case atStart => exact ⟨0, Nat.zero_le _, rfl, ⟨by simp, by simpa [mkP] using ho0⟩, (Below.refl _ _).alloc (by simp) _⟩
 case round =>
  obtain ⟨k, hk, rfl, hown, hbr⟩ := hrel
  clear ho0
  have hzr := hbr.size
  simp only [World.size_alloc] at hzr
  have hml := hown.lt
  have g1 : Below w.heap.size w wr := b0.trans (hbr.mono (by omega))
  have ca0 : wr.cell? ⟨w.heap.size, 0, none⟩ = some (.bool x.many) := by rw [hbr.cell (by dsimp only; omega)]; exact c_at rfl rfl
  have ca1 : wr.cell? ⟨w.heap.size, 1, none⟩ = some (.int .i64 x.v.t) := by rw [hbr.cell (by dsimp only; omega)]; exact c_at rfl rfl
  have ca2 : wr.cell? ⟨w.heap.size, 2, none⟩ = some (.int .i64 x.v.n) := by rw [hbr.cell (by dsimp only; omega)]; exact c_at rfl rfl
  have ca3 : wr.cell? ⟨w.heap.size, 3, none⟩ = some (.string x.v.s) := by rw [hbr.cell (by dsimp only; omega)]; exact c_at rfl rfl
  have ca4 : wr.cell? ⟨w.heap.size, 4, none⟩ = some (.bool x.v.b) := by rw [hbr.cell (by dsimp only; omega)]; exact c_at rfl rfl
  have ca5 : wr.cell? ⟨w.heap.size, 5, none⟩ = some (.int .i64 x.v.c) := by rw [hbr.cell (by dsimp only; omega)]; exact c_at rfl rfl
  have ca6 : wr.cell? ⟨w.heap.size, 6, none⟩ = some (.int .i64 x.t) := by rw [hbr.cell (by dsimp only; omega)]; exact c_at rfl rfl
  have ca7 : wr.cell? ⟨w.heap.size, 7, none⟩ = some (.int .i64 x.l) := by rw [hbr.cell (by dsimp only; omega)]; exact c_at rfl rfl
  have ca8 : wr.cell? ⟨w.heap.size, 8, none⟩ = some (.int .i64 x.b) := by rw [hbr.cell (by dsimp only; omega)]; exact c_at rfl rfl
  have ca9 : wr.cell? ⟨w.heap.size, 9, none⟩ = some (.int .i64 x.r) := by rw [hbr.cell (by dsimp only; omega)]; exact c_at rfl rfl
  have ca10 : wr.cell? ⟨w.heap.size, 10, none⟩ = some (.slice x.A x.es.length x.cap) := by rw [hbr.cell (by dsimp only; omega)]; exact c_at rfl rfl
  by_cases hlt : k < x.es.length
  ·obtain ⟨e, he⟩ : ∃ e, x.es[k]? = some e := ⟨_, List.getElem?_eq_getElem hlt⟩
   obtain ⟨ab, ao, hA2, hab, hcell⟩ := (hR'.out.below g1) k e.cs (by rw [List.getElem?_map, he]; rfl)
   have hx0 : wr.cell? ⟨ab, ao + k * 7, none⟩ = some (.int .i64 e.r) := hcell 0 _ rfl
   have hx1 : wr.cell? ⟨ab, ao + k * 7 + 1, none⟩ = some (.int .i64 e.c) := hcell 1 _ rfl
   have hx2 : wr.cell? ⟨ab, ao + k * 7 + 2, none⟩ = some (.int .i64 e.v.t) := hcell 2 _ rfl
   have hx3 : wr.cell? ⟨ab, ao + k * 7 + 3, none⟩ = some (.int .i64 e.v.n) := hcell 3 _ rfl
   have hx4 : wr.cell? ⟨ab, ao + k * 7 + 4, none⟩ = some (.string e.v.s) := hcell 4 _ rfl
   have hx5 : wr.cell? ⟨ab, ao + k * 7 + 5, none⟩ = some (.bool e.v.b) := hcell 5 _ rfl
   have hx6 : wr.cell? ⟨ab, ao + k * 7 + 6, none⟩ = some (.int .i64 e.v.c) := hcell 6 _ rfl
   have habr : ab < wr.heap.size := by omega
   have hkl : (k : Int) < (x.es.length : Int) := by omega
   have hne : ab ≠ wr.heap.size := by omega
   have hn1 : w.heap.size ≠ wr.heap.size := by omega
   have hl1 : w.heap.size < wr.heap.size := by omega
   have hts : Hid (((x.es.take (k + 1)).map fun e => (placeL x e, e.v)).reverse = (placeL x e, e.v) :: ((x.es.take k).map fun e => (placeL x e, e.v)).reverse) := Lib.hid (by rw [List.take_add_one, he]; simp)
   obtain ⟨r1, r2, r3, r4, r5⟩ := hkey.out k e he
   have e1 : IntKind.i64.wrap (e.r - x.t) = e.r - x.t := IntWalk.i64_in _ (by omega)
   have e2 : IntKind.i64.wrap (e.c - x.l) = e.c - x.l := IntWalk.i64_in _ (by omega)
   have hpb : plB (e.r - x.t, e.c - x.l) := by unfold plB; dsimp only; omega
   have hpb' := Lib.hid hpb
   have hcnt : (((x.es.take k).map fun e => (placeL x e, e.v)).reverse).length ≤ k := by rw [List.length_reverse, List.length_map, List.length_take]; omega
   have hall := Lib.hid hown.1
   have hov := hown.2.alloc (.cells #[.int .i64 e.r, .int .i64 e.c, .int .i64 e.v.t, .int .i64 e.v.n, .string e.v.s, .bool e.v.b, .int .i64 e.v.c] 99)
   have g3 := hbr.alloc (by omega) (.cells #[.int .i64 e.r, .int .i64 e.c, .int .i64 e.v.t, .int .i64 e.v.n, .string e.v.s, .bool e.v.b, .int .i64 e.v.c] 99)
   generalize ((x.es.take k).map fun e => (placeL x e, e.v)).reverse = L at *
   clear he hcell hown hbr g1 hpb
   rw [hA2] at g3 ⊢
   clear hA2
   go_wp2_with (first | (at_mapUpdate; refine wpList_mapUpdate_own _ rfl _ _ _ 185 rfl 188 26 placeLaw Tryz.underlying185 heldR (w.heap.size + 1) _ _ rfl hov (by unfold maxLen; omega) (plV (e.r - x.t, e.c - x.l)) (vlV e.v) _ rfl rfl (plK_is hpb'.out) (.held (vlV e.v)) [] rfl ?_; intro w1 hown1 hgrow1) | fail)
   exact ⟨⟨k + 1, by omega, by go_num, by rw [hts.out]; exact ⟨fun y hy => by rcases List.mem_cons.1 hy with rfl | hy; exact hpb'.out; exact hall.out y hy, hown1⟩, g3.grown hgrow1 (by simp; omega) (fun j hj => by cases hj; exact Nat.le_refl _)⟩, by simp [intOf]; omega⟩
  ·obtain rfl : k = x.es.length := by omega
   have hkl : ¬ (x.es.length : Int) < (x.es.length : Int) := by omega
   rw [List.take_length] at hown
   go_wp2
   go_ret
   exact ⟨⟨_, rfl, by omega, hown⟩, g1⟩
end Go.Proofs.YtgmhifafbebjfaaGreatDoor
