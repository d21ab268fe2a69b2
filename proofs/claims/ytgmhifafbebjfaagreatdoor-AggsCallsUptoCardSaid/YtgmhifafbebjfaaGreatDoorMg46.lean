/-
 aggs: INDEX, MATCH, LOOKUP behind their names; aggs: join; aggs: what each function answers; whatever may be given has a form.
-/
import Derived.Test.YtgmhifafbebjfaaGreatDoorAIdx
import Derived.Test.YtgmhifafbebjfaaGreatDoorALkv
import Derived.Test.YtgmhifafbebjfaaGreatDoorMg40
import Derived.Test.YtgmhifafbebjfaaGreatDoorASif
set_option maxRecDepth 100000
set_option maxHeartbeats 32000000
namespace Go.Proofs.YtgmhifafbebjfaaGreatDoor
open Go.RowKit

def matchR (x0 x1 : AL) : VL := if (decide (1 < rowsL x1) && decide (1 < colsL x1)) = true then errL 8 else lookR2 x0.v x1
def lookupR (x0 x1 x2 : AL) : VL := if ((decide (1 < rowsL x1) && decide (1 < colsL x1)) || !(decide (rowsL x1 = rowsL x2) && decide (colsL x1 = colsL x2))) = true then errL 8 else lookR3 x0.v x1 x2
theorem ata_INDEX (x0 x1 x2 : AL) (hm : mayRectB x0.t x0.l x0.b x0.r = true) (he : entsOk x0 = true) (text : Int) : DoA ⟨#[73, 78, 68, 69, 88]⟩ [x0, x1, x2] text (indexR x0 x1 x2) := ⟨fun w bl base kd lo hi d A cap hlk hBx hTab hcap hR hin => by
 have e : lookL aZero (aTab bl) ⟨#[73, 78, 68, 69, 88]⟩ = .agg #[.string ⟨#[114, 118, 118]⟩, .int .i64 3, .int .i64 3, .func (.func 118) #[] #[]] := by kernel_rfl
 have hd := fourth_of (e.symm.trans hlk)
 exact ⟨118, #[], hd.symm, fun _ _ => by simp [go_sem], aindex_any x0 x1 x2 text w A cap hR hin hm he⟩⟩
theorem ata_MATCH (x0 x1 : AL) (hm : mayRectB x1.t x1.l x1.b x1.r = true) (he : entsOk x1 = true) (text : Int) : DoA ⟨#[77, 65, 84, 67, 72]⟩ [x0, x1] text (matchR x0 x1) := ⟨fun w bl base kd lo hi d A cap hlk hBx hTab hcap hR hin => by
 have e : lookL aZero (aTab bl) ⟨#[77, 65, 84, 67, 72]⟩ = .agg #[.string ⟨#[118, 114]⟩, .int .i64 2, .int .i64 2, .func (.func 117) #[] #[]] := by kernel_rfl
 have hd := fourth_of (e.symm.trans hlk)
 exact ⟨117, #[], hd.symm, fun _ _ => by simp [go_sem], alook2 x0 x1 hm he text w A cap hR hin⟩⟩
theorem ata_LOOKUP (x0 x1 x2 : AL) (hm : mayRectB x1.t x1.l x1.b x1.r = true) (he : entsOk x1 = true) (hm2 : mayRectB x2.t x2.l x2.b x2.r = true) (he2 : entsOk x2 = true) (text : Int) : DoA ⟨#[76, 79, 79, 75, 85, 80]⟩ [x0, x1, x2] text (lookupR x0 x1 x2) := ⟨fun w bl base kd lo hi d A cap hlk hBx hTab hcap hR hin => by
 have e : lookL aZero (aTab bl) ⟨#[76, 79, 79, 75, 85, 80]⟩ = .agg #[.string ⟨#[118, 114, 114]⟩, .int .i64 3, .int .i64 3, .func (.func 117) #[] #[]] := by kernel_rfl
 have hd := fourth_of (e.symm.trans hlk)
 exact ⟨117, #[], hd.symm, fun _ _ => by simp [go_sem], alook3 x0 x1 x2 hm he hm2 he2 text w A cap hR hin⟩⟩

theorem join_own (s : ByteArray) (W : World) (B : Nat) (v : Value) (T : List ByteArray) (h : W.ownsRow B 9 1 v T.length (T.map Value.string)) (hlen : (jnB s T).size ≤ 1048576) (hn : T.length ≤ 4000000000000) : Calls Tryz.prog 146 #[v, .string s] W fun e w' => e = .returned (.string (jnB s T)) ∧ Below W.heap.size W w' := by
 have h0 := h
 obtain ⟨h1, h2⟩ := h
 rcases h2 with ⟨hv, hn0⟩ | ⟨g, cap, cur, rfl, hg, hh, hle, hmx, hsz, htk⟩
 ·have he : T = [] := List.eq_nil_of_length_eq_zero (by omega)
  rw [he, hv]
  refine (Tryz.strings_Join_none none 0 s W).mono ?_
  rintro e w' ⟨rfl, rfl⟩
  exact ⟨rfl, Below.refl _ _⟩
 ·have C := Tryz.strings_Join g 0 cap T s W (fun j x hx => by
   have hj9 : j < T.length := (List.getElem?_eq_some_iff.1 hx).1
   rw [Nat.zero_add]
   refine (World.ownsRow.cellAt h0 j (by omega)).trans ?_
   rw [List.getElem?_map, hx]; rfl) (Array.getElem?_eq_some_iff.1 hh).1 (by omega) hle (by
   have h9 : (jnB s T).size = (Lib.join (T.map (·.data.toList)) s.data.toList).length := by unfold jnB; show (List.toArray _).size = _; rw [List.size_toArray]
   omega)
  exact C
theorem ajoin_any (x0 : AL) (r : List AL) (hr0 : 0 < r.length) (hr1 : r.length ≤ 16) (h0m : x0.v.may = true) (h04 : ¬ x0.v.t = 4) (h0s : x0.v.asT.size ≤ 1048576) (hl : ∀ v ∈ itemsL r, v.may = true ∧ v.s.size ≤ 1048576) (hN : (itemsL r).length ≤ 1073741824) (text : Int) (h9 : 0 ≤ text ∧ text ≤ 1024) (w : World) (hTab : Tab w) (A : Option Addr) (cap : Nat) (hcap : r.length + 1 ≤ cap) (hR : RdB w w.heap.size A 11 ((x0 :: r).map AL.cs)) (hin : ∀ x ∈ x0 :: r, x.In w w.heap.size) : Calls Tryz.prog 120 #[.slice A (r.length + 1) cap, .int .i64 text] w fun e w' => e = .returned (.agg #[.int .i64 ((faultR (itemsL r) (joinV text (jnB x0.v.asT (txB (itemsL r)))))).t, .int .i64 ((faultR (itemsL r) (joinV text (jnB x0.v.asT (txB (itemsL r)))))).n, .string ((faultR (itemsL r) (joinV text (jnB x0.v.asT (txB (itemsL r)))))).s, .bool ((faultR (itemsL r) (joinV text (jnB x0.v.asT (txB (itemsL r)))))).b, .int .i64 ((faultR (itemsL r) (joinV text (jnB x0.v.asT (txB (itemsL r)))))).c]) ∧ Below w.heap.size w w' := by
 obtain ⟨i0, hi, hi0, hi1, hi2⟩ := info_parts str_info
 obtain ⟨V, hV0⟩ : ∃ V, faultR (itemsL r) (joinV text (jnB x0.v.asT (txB (itemsL r)))) = V := ⟨_, rfl⟩
 rw [hV0]
 have hV := Lib.hid hV0
 have b0 : Below w.heap.size w (w.alloc (.cells #[.int .i64 0, .int .i64 0, .string ⟨#[]⟩, .bool false, .int .i64 0] 26)) := (Below.refl _ _).alloc (Nat.le_refl _) _
 have hTab' := Lib.hid hTab
 obtain ⟨ab, ao, hA2, hab, hcell⟩ := hR 0 x0.cs rfl
 obtain rfl : A = some ⟨ab, ao, none⟩ := hA2
 obtain ⟨hv0, hv1, hv2, hv3, hv4⟩ := cs5_0 hcell
 have hRr : RdB w w.heap.size (some ⟨ab, ao + 11, none⟩) 11 (r.map AL.cs) := fun i c hi => by
  obtain ⟨b2, o2, e2, hb2, hc2⟩ := hR (i + 1) c (by simpa using hi)
  cases e2
  exact ⟨ab, ao + 11, rfl, hab, fun j u hj => by
   have h8 := hc2 j u hj
   rw [show ao + (i + 1) * 11 + j = ao + 11 + i * 11 + j by omega] at h8
   exact h8⟩
 have hinr : ∀ x ∈ r, x.In w w.heap.size := fun x hx => hin x (by simp [hx])
 have CA := Lib.hid (astext_any x0.v (hin x0 (by simp)).1 h0m h04 (w.alloc (.cells #[.int .i64 0, .int .i64 0, .string ⟨#[]⟩, .bool false, .int .i64 0] 26)) (hTab.below b0))
 have CI : ∀ (w1 : World) (cap9 : Nat), Below w.heap.size w w1 → Hid (Calls Tryz.prog 171 #[.slice (some ⟨ab, ao + 11, none⟩) r.length cap9] w1 fun e w' => (∃ v, e = .returned v ∧ OwnV w' w1.heap.size v (itemsL r)) ∧ Below w1.heap.size w1 w') := fun w1 cap9 h1 => Lib.hid (aitems_any r (by omega) (by omega) w1 _ cap9 ((hRr.below h1).mono h1.size) (fun x hx => ((hinr x hx).below h1).mono h1.size))
 have hok := items_ok hinr
 obtain ⟨s, hs⟩ : ∃ s, x0.v.asT = s := ⟨_, rfl⟩
 rw [hs] at CA h0s hV
 obtain ⟨l, hL⟩ : ∃ l, itemsL r = l := ⟨_, rfl⟩
 rw [hL] at hl hN hok hV
 simp only [hL] at CI
 obtain ⟨n0, hn0⟩ : ∃ n0, r.length = n0 := ⟨_, rfl⟩
 rw [hn0] at hr0 hr1 hcap ⊢
 simp only [hn0] at CI
 have hne : ab ≠ w.heap.size := by omega
 clear hR hin hinr hRr hcell hV0 hs hL hn0 hTab
 go_enter Tryz.func120, Tryz.ntmps120
 go_wp2_with fail
 refine CA.out.mono ?_
 clear CA
 rintro e w1 ⟨rfl, hb1⟩
 have h1 : Below (w.heap.size + 1) (w.alloc (.cells #[.int .i64 0, .int .i64 0, .string ⟨#[]⟩, .bool false, .int .i64 0] 26)) w1 := hb1.mono (by simp)
 have hz1 := h1.size
 simp only [World.size_alloc] at hz1
 have g1 : Below w.heap.size w w1 := b0.trans (h1.mono (by omega))
 have hcp : (1 : Int) ≤ (n0 : Int) + 1 := by omega
 have hcp2 : (n0 : Int) + 1 ≤ (cap : Int) := by omega
 clear hb1
 go_wp2_with fail
 refine (CI w1 _ g1).out.mono ?_
 clear CI
 rintro e w2 ⟨⟨v2, rfl, hown2⟩, hb2⟩
 have h2 : Below (w.heap.size + 1) (w.alloc (.cells #[.int .i64 0, .int .i64 0, .string ⟨#[]⟩, .bool false, .int .i64 0] 26)) w2 := h1.trans (hb2.mono (by omega))
 have hz2 := h2.size
 simp only [World.size_alloc] at hz2
 obtain ⟨A2, cap2, rfl, hr2⟩ := own_rdv hown2
 have CM := Lib.hid (aamong_any l (by omega) w2 A2 cap2 hr2)
 clear hown2 hb2 h1 g1 hv0 hv1 hv2 hv3 hv4
 go_wp2_with fail
 refine CM.out.mono ?_
 clear CM
 rintro e wA hAm
 have hb3 := hAm.bel
 have h3 : Below (w.heap.size + 1) (w.alloc (.cells #[.int .i64 0, .int .i64 0, .string ⟨#[]⟩, .bool false, .int .i64 0] 26)) wA := h2.trans (hb3.mono (by omega))
 have hz3 := h3.size
 simp only [World.size_alloc] at hz3
 have g3 : Below w.heap.size w wA := b0.trans (h3.mono (by omega))
 have l3 : w.heap.size < wA.heap.size := by omega
 have n3 : w.heap.size ≠ wA.heap.size := by omega
 cases hfl : l.find? (fun v => decide (v.t = 4)) with
 |
  some f =>
  have hVe := Lib.hid (show V = f from by rw [← hV.out]; unfold faultR; rw [hfl])
  have hf4 : f.t = 4 := by have h8 := List.find?_some hfl; simpa using h8
  have q4 : (f.t == 4) = true := by simp [hf4]
  obtain rfl := hAm.bad f hfl
  clear hAm hf4 hfl
  obtain ⟨hr0, hr1, hr2, hr3, hr4, hs0, hs1, hs2, hs3, hs4⟩ := res5 h3
  go_wp2
  refine bodyPost_ret (v := .agg #[.int .i64 (f).t, .int .i64 (f).n, .string (f).s, .bool (f).b, .int .i64 (f).c]) ?_ rfl ⟨by rw [hVe.out], belq⟩
  simp [results, Tryz.results120, go_sem, *]
 |
  none =>
  have hVj := Lib.hid (show V = joinV text (jnB s (txB l)) from by rw [← hV.out]; unfold faultR; rw [hfl])
  obtain ⟨v3, rfl, -⟩ := hAm.good hfl
  have hl' : Hid (∀ y ∈ l, y.ok ∧ y.may = true ∧ ¬ y.t = 4 ∧ y.asT.size ≤ 1048576) := Lib.hid fun y hy => ⟨hok y hy, (hl y hy).1, fun h8 => by
   rw [List.find?_eq_none] at hfl
   exact hfl y hy (by simpa using h8), asT_size8 (hok y hy) (hl y hy).2⟩
  have hR3 := Lib.hid ((hr2.below hb3).mono hb3.size)
  have wns : IntKind.i64.wrap (-(s.size : Int)) = -(s.size : Int) := IntWalk.i64_in _ (by omega)
  clear hAm hfl hV hl hok hr2 hb3 h2
  go_wp2
  go_loopw [10, 11, 41] (fun u nv i wr => ∃ (k : Nat) (n : Int), k ≤ l.length ∧ i = .int .i64 (k : Int) ∧ nv = .int .i64 n ∧ (-1048576 ≤ n ∧ n ≤ text) ∧ Hid (n = if txB (l.take k) = [] then -(s.size : Int) else ((jnB s (txB (l.take k))).size : Int)) ∧ Hid (wr.ownsRow wA.heap.size 9 1 u (txB (l.take k)).length ((txB (l.take k)).map Value.string)) ∧ Below wA.heap.size wA wr) (fun _ _ i _ => l.length - (intOf i).toNat)
  case atStart => exact ⟨0, -(s.size : Int), Nat.zero_le _, rfl, rfl, by omega, Lib.hid (by simp [txB]), Lib.hid (World.ownsRow_nil _ _ _ _), (Below.refl _ _).alloc (Nat.le_refl _) _⟩
  case round =>
   obtain ⟨k, n, hk, rfl, rfl, hnb, hn, hown, f3⟩ := hrel
   have hzr := f3.size
   have hbr : Below (w.heap.size + 1) (w.alloc (.cells #[.int .i64 0, .int .i64 0, .string ⟨#[]⟩, .bool false, .int .i64 0] 26)) wr := h3.trans (f3.mono (by omega))
   have l0r : w.heap.size < wr.heap.size := by omega
   have g1 : Below w.heap.size w wr := b0.trans (hbr.mono (by omega))
   by_cases hlt : k < l.length
   ·obtain ⟨y, hy⟩ : ∃ y, l[k]? = some y := ⟨_, List.getElem?_eq_getElem hlt⟩
    obtain ⟨lb, lo, hA2, hlb, hcell⟩ := (hR3.out.below f3) k y.cs (by rw [List.getElem?_map, hy]; rfl)
    obtain rfl : A2 = some ⟨lb, lo, none⟩ := hA2
    have hc0 : wr.cell? ⟨lb, lo + k * 5, none⟩ = some (.int .i64 y.t) := hcell 0 _ rfl
    have hc1 : wr.cell? ⟨lb, lo + k * 5 + 1, none⟩ = some (.int .i64 y.n) := hcell 1 _ rfl
    have hc2 : wr.cell? ⟨lb, lo + k * 5 + 2, none⟩ = some (.string y.s) := hcell 2 _ rfl
    have hc3 : wr.cell? ⟨lb, lo + k * 5 + 3, none⟩ = some (.bool y.b) := hcell 3 _ rfl
    have hc4 : wr.cell? ⟨lb, lo + k * 5 + 4, none⟩ = some (.int .i64 y.c) := hcell 4 _ rfl
    have hk0 : (0 : Int) ≤ (k : Int) := by omega
    have hkl : (k : Int) < (l.length : Int) := by omega
    have hwk : IntKind.i64.wrap ((k : Int) + 1) = (k : Int) + 1 := IntWalk.i64_in _ (by omega)
    have hlbr : lb < wr.heap.size := by omega
    have hnlb : lb ≠ wr.heap.size := by omega
    obtain ⟨y1, y2, y3, y4⟩ := hl'.out y (List.mem_of_getElem? hy)
    have hTab1 := hTab'.out.below (g1.alloc (by omega) (.cells #[.int .i64 y.t, .int .i64 y.n, .string y.s, .bool y.b, .int .i64 y.c] 26))
    have CA := fun W (hW : Tab W) => astext_any y y1 y2 y3 W hW
    have hts := Lib.hid (txB_snoc l k y hy)
    obtain ⟨x, hx⟩ : ∃ x, y.asT = x := ⟨_, rfl⟩
    rw [hx] at CA y4 hts
    have CA1 := Lib.hid (CA _ hTab1)
    clear hcell hy y1 y2 hx CA hTab1
    by_cases h0 : y.t = 0
    ·have q1 : (y.t == 0) = true := by simp [h0]
     have hT2 := Lib.hid (show txB (l.take (k + 1)) = txB (l.take k) by rw [hts.out, if_pos h0, List.append_nil])
     clear CA1 h0
     go_wp2
     go_roundw
     case rel => exact ⟨k + 1, n, by omega, by go_num, rfl, hnb, by rw [hT2.out]; exact hn, by rw [hT2.out]; exact Lib.hid (hown.out.alloc _), f3.alloc hzr _⟩
     case measure => simp [intOf]; omega
    ·have q1 : (y.t == 0) = false := by simp [h0]
     have hT2 := Lib.hid (show txB (l.take (k + 1)) = txB (l.take k) ++ [x] by rw [hts.out, if_neg h0])
     have hn2 : Hid (n + ((s.size : Int) + (x.size : Int)) = ((jnB s (txB (l.take (k + 1)))).size : Int)) := Lib.hid (by rw [hT2.out, jnB_size, hn.out])
     have hlT : (txB (l.take k)).length ≤ k := by unfold txB; rw [List.length_map]; exact Nat.le_trans (List.length_filter_le _ _) (by rw [List.length_take]; omega)
     clear h0 hts
     go_wp2_with fail
     refine CA1.out.mono ?_
     clear CA1
     rintro e w4 ⟨rfl, hb4⟩
     have h4 : Below (w.heap.size + 1) (w.alloc (.cells #[.int .i64 0, .int .i64 0, .string ⟨#[]⟩, .bool false, .int .i64 0] 26)) w4 := (hbr.alloc (by omega) (.cells #[.int .i64 y.t, .int .i64 y.n, .string y.s, .bool y.b, .int .i64 y.c] 26)).trans (hb4.mono (by simp; omega))
     have hz4 := hb4.size
     simp only [World.size_alloc] at hz4
     have g4 : Below w.heap.size w w4 := b0.trans (h4.mono (by omega))
     have f4 : Below wA.heap.size wA w4 := (f3.alloc hzr (.cells #[.int .i64 y.t, .int .i64 y.n, .string y.s, .bool y.b, .int .i64 y.c] 26)).trans (hb4.mono (by simp; omega))
     have o3 := Lib.hid (ownsRow_below (hown.out.alloc (.cells #[.int .i64 y.t, .int .i64 y.n, .string y.s, .bool y.b, .int .i64 y.c] 26)) hb4)
     have l4 : w.heap.size < w4.heap.size := by omega
     have wa : IntKind.i64.wrap ((s.size : Int) + (x.size : Int)) = (s.size : Int) + (x.size : Int) := IntWalk.i64_in _ (by omega)
     clear hb4 hown hbr g1 f3 hc0 hc1 hc2 hc3 hc4
     obtain ⟨n2, hn2e⟩ : ∃ n2, n + ((s.size : Int) + (x.size : Int)) = n2 := ⟨_, rfl⟩
     rw [hn2e] at hn2
     have wb : IntKind.i64.wrap (n + ((s.size : Int) + (x.size : Int))) = n2 := by rw [hn2e]; exact IntWalk.i64_in _ (by omega)
     by_cases hgt : text < n2
     ·have t0 : decide (n2 > text) = true := by simp; omega
      have t1 : decide (text < n2) = true := by simp; omega
      have hVe := Lib.hid (show V = errL 7 from by
       rw [hVj.out]; unfold joinV
       have h9 := jnB_take s l (k + 1)
       have h8 := hn2.out
       rw [if_pos (by omega)])
      clear hn2e
      obtain ⟨hr0, hr1, hr2, hr3, hr4, hs0, hs1, hs2, hs3, hs4⟩ := res5 h4
      go_wp2_with (go_at_call 11; refine (verr_any 7 _).mono ?_; rintro e w9 ⟨rfl, hb⟩; obtain ⟨hc, hf, hz⟩ := bkeep hb w4.heap.size (by first | omega | (simp <;> omega)))
      refine bodyPost_ret (v := .agg #[.int .i64 4, .int .i64 0, .string ⟨#[]⟩, .bool false, .int .i64 (errC 7)]) ?_ rfl ⟨by rw [hVe.out]; rfl, belq⟩
      simp [results, Tryz.results120, go_sem, *]
     ·have t0 : decide (n2 > text) = false := by simp; omega
      have t1 : decide (text < n2) = false := by simp; omega
      have t2 : ¬ text < n2 := hgt
      have hnb2 : -1048576 ≤ n2 ∧ n2 ≤ text := by omega
      have hn3 : Hid (n2 = if txB (l.take (k + 1)) = [] then -(s.size : Int) else ((jnB s (txB (l.take (k + 1)))).size : Int)) := Lib.hid (by rw [if_neg (by rw [hT2.out]; simp)]; exact hn2.out)
      generalize txB (l.take k) = T0 at *
      clear hn2e hgt hn2 hn
      go_wp2_with (at_builtin; refine wpList_append_own_at _ rfl _ _ 44 rfl wA.heap.size 9 i0 (.string ⟨#[]⟩) 1 16 Tryz.underlying44 hi hi0 hi1 hi2 rfl (by decide) _ _ _ rfl (o3.out.alloc _) ⟨w4.heap.size, 0, none⟩ 1 1 [.string x] rfl rfl (cell_one_new _ _ _) (by simp [Value.oneCell']) (by unfold maxLen; omega) (by omega) (by simp; omega) ?_; intro v' w6 hown6 hgrow6 _ _)
      have f6 : Below wA.heap.size wA w6 := (f4.alloc (by omega) (.cells #[.string x] 9)).grown hgrow6 (by simp; omega) (fun q hq => (o3.out.lt q hq).1)
      go_roundw
      case rel => exact ⟨k + 1, n2, by omega, by go_num, rfl, hnb2, hn3, Lib.hid (by rw [hT2.out, List.length_append, List.map_append]; exact hown6), f6⟩
      case measure => simp [intOf]; omega
   ·obtain rfl : k = l.length := by omega
    have hkl : ¬ (l.length : Int) < (l.length : Int) := by omega
    rw [List.take_length] at hown hn
    have hjs : (jnB s (txB l)).size ≤ 1024 := by
     have h9 := hn.out
     by_cases h8 : txB l = []
     ·rw [h8, jnB_nil]; decide
     ·rw [if_neg h8] at h9; omega
    have hVe := Lib.hid (show V = ⟨2, 0, jnB s (txB l), false, 0⟩ from by
     rw [hVj.out]; unfold joinV
     have h9 := hn.out
     by_cases h8 : txB l = []
     ·rw [h8, jnB_nil, if_neg (by show ¬ text < ((0 : Nat) : Int); omega)]
     ·rw [if_neg h8] at h9; rw [if_neg (by omega)])
    have hlT : (txB l).length ≤ 4000000000000 := by unfold txB; rw [List.length_map]; exact Nat.le_trans (List.length_filter_le _ _) (by omega)
    have CJ := Lib.hid (join_own s wr wA.heap.size _ (txB l) hown.out (by omega) hlT)
    generalize jnB s (txB l) = J at *
    clear hown hn hVj
    go_wp2_with fail
    refine CJ.out.mono ?_
    clear CJ
    rintro e w3 ⟨rfl, hb3⟩
    have h3 : Below (w.heap.size + 1) (w.alloc (.cells #[.int .i64 0, .int .i64 0, .string ⟨#[]⟩, .bool false, .int .i64 0] 26)) w3 := hbr.trans (hb3.mono (by omega))
    have hz3 := hb3.size
    have g3 : Below w.heap.size w w3 := b0.trans (h3.mono (by omega))
    have l3 : w.heap.size < w3.heap.size := by omega
    clear hb3 hbr g1
    obtain ⟨hr0, hr1, hr2, hr3, hr4, hs0, hs1, hs2, hs3, hs4⟩ := res5 h3
    go_wp2_with (go_at_call 184; refine (vtxt_any J _).mono ?_; rintro e w9 ⟨rfl, hb⟩; obtain ⟨hc, hf, hz⟩ := bkeep hb w3.heap.size (by first | omega | (simp <;> omega)))
    refine bodyPost_ret (v := .agg #[.int .i64 2, .int .i64 0, .string J, .bool false, .int .i64 0]) ?_ rfl ⟨by rw [hVe.out], belq⟩
    simp [results, Tryz.results120, go_sem, *]

inductive FormG (text : Int) : ByteArray → List AL → VL → Prop
 | cSUM (l : List AL) (h : 0 < l.length ∧ l.length ≤ 16) (hN : (itemsL l).length ≤ 16777216) (hm : ∀ v ∈ itemsL l, v.may = true ∧ v.s.size ≤ 1048576) : FormG text ⟨#[83, 85, 77]⟩ l (faultR (itemsL l) (fitL (numsL (itemsL l)).sum))
 | cPROD (l : List AL) (h : 0 < l.length ∧ l.length ≤ 16) (hN : (itemsL l).length ≤ 16777216) (hm : ∀ v ∈ itemsL l, v.may = true ∧ v.s.size ≤ 1048576) : FormG text ⟨#[80, 82, 79, 68]⟩ l (faultR (itemsL l) (prodG 10000 (numsL (itemsL l))))
 | cMIN (l : List AL) (h : 0 < l.length ∧ l.length ≤ 16) (hN : (itemsL l).length ≤ 16777216) (hm : ∀ v ∈ itemsL l, v.may = true ∧ v.s.size ≤ 1048576) : FormG text ⟨#[77, 73, 78]⟩ l (faultR (itemsL l) (someR (numsL (itemsL l)) (Lib.minOf (numsL (itemsL l)))))
 | cMAX (l : List AL) (h : 0 < l.length ∧ l.length ≤ 16) (hN : (itemsL l).length ≤ 16777216) (hm : ∀ v ∈ itemsL l, v.may = true ∧ v.s.size ≤ 1048576) : FormG text ⟨#[77, 65, 88]⟩ l (faultR (itemsL l) (someR (numsL (itemsL l)) (Lib.maxOf (numsL (itemsL l)))))
 | cAVG (l : List AL) (h : 0 < l.length ∧ l.length ≤ 16) (hN : (itemsL l).length ≤ 16777216) (hm : ∀ v ∈ itemsL l, v.may = true ∧ v.s.size ≤ 1048576) : FormG text ⟨#[65, 86, 71]⟩ l (faultR (itemsL l) (someR (numsL (itemsL l)) (meanL (numsL (itemsL l)))))
 | cMEDIAN (l : List AL) (h : 0 < l.length ∧ l.length ≤ 16) (hN : (itemsL l).length ≤ 16777216) (hm : ∀ v ∈ itemsL l, v.may = true ∧ v.s.size ≤ 1048576) : FormG text ⟨#[77, 69, 68, 73, 65, 78]⟩ l (faultR (itemsL l) (someR (numsL (itemsL l)) (medianL (numsL (itemsL l)))))
 | cCOUNT (l : List AL) (h : 0 < l.length ∧ l.length ≤ 16) (hN : (itemsL l).length ≤ 16777216) (hm : ∀ v ∈ itemsL l, v.may = true ∧ v.s.size ≤ 1048576) : FormG text ⟨#[67, 79, 85, 78, 84]⟩ l (numL (((itemsL l).countP (fun v => decide (v.t = 1)) : Nat) * 10000))
 | cCOUNTA (l : List AL) (h : 0 < l.length ∧ l.length ≤ 16) (hN : (itemsL l).length ≤ 16777216) (hm : ∀ v ∈ itemsL l, v.may = true ∧ v.s.size ≤ 1048576) : FormG text ⟨#[67, 79, 85, 78, 84, 65]⟩ l (numL (((itemsL l).countP (fun v => !decide (v.t = 0)) : Nat) * 10000))
 | cBLANKS (x0 : AL) (m0 : mayRectB x0.t x0.l x0.b x0.r = true) (e0 : entsOk x0 = true) : FormG text ⟨#[66, 76, 65, 78, 75, 83]⟩ [x0] (cifL x0 v0)
 | cCOUNTIF (x0 x1 : AL) (m0 : mayRectB x0.t x0.l x0.b x0.r = true) (e0 : entsOk x0 = true) (m1 : x1.v.may = true) : FormG text ⟨#[67, 79, 85, 78, 84, 73, 70]⟩ [x0, x1] (cifL x0 x1.v)
 | cSUMIF (x0 x1 x2 : AL) (m0 : mayRectB x0.t x0.l x0.b x0.r = true) (e0 : entsOk x0 = true) (m1 : x1.v.may = true) (m2 : mayRectB x2.t x2.l x2.b x2.r = true) (e2 : entsOk x2 = true) : FormG text ⟨#[83, 85, 77, 73, 70]⟩ [x0, x1, x2] (sumifR x0 x1.v x2)
 | cMATCH (x0 x1 : AL) (m0 : x0.v.may = true) (m1 : mayRectB x1.t x1.l x1.b x1.r = true) (e1 : entsOk x1 = true) : FormG text ⟨#[77, 65, 84, 67, 72]⟩ [x0, x1] (matchR x0 x1)
 | cLOOKUP (x0 x1 x2 : AL) (m0 : x0.v.may = true) (m1 : mayRectB x1.t x1.l x1.b x1.r = true) (e1 : entsOk x1 = true) (m2 : mayRectB x2.t x2.l x2.b x2.r = true) (e2 : entsOk x2 = true) : FormG text ⟨#[76, 79, 79, 75, 85, 80]⟩ [x0, x1, x2] (lookupR x0 x1 x2)
 | cINDEX (x0 x1 x2 : AL) (m0 : mayRectB x0.t x0.l x0.b x0.r = true) (e0 : entsOk x0 = true) (m1 : x1.v.may = true) (m2 : x2.v.may = true) : FormG text ⟨#[73, 78, 68, 69, 88]⟩ [x0, x1, x2] (indexR x0 x1 x2)
 | cLARGE (x0 x1 : AL) (m0 : mayRectB x0.t x0.l x0.b x0.r = true) (e0 : entsOk x0 = true) (m1 : x1.v.may = true) (hN : (itemsL [x0]).length ≤ 16777216) : FormG text ⟨#[76, 65, 82, 71, 69]⟩ [x0, x1] (largeR x0 x1)
 | cROWS (x0 : AL) (m0 : mayRectB x0.t x0.l x0.b x0.r = true) (e0 : entsOk x0 = true) : FormG text ⟨#[82, 79, 87, 83]⟩ [x0] (numL (rowsL x0 * 10000))
 | cCOLS (x0 : AL) (m0 : mayRectB x0.t x0.l x0.b x0.r = true) (e0 : entsOk x0 = true) : FormG text ⟨#[67, 79, 76, 83]⟩ [x0] (numL (colsL x0 * 10000))
 | cJOIN (x0 : AL) (r : List AL) (h : 0 < r.length ∧ r.length ≤ 15) (m0 : x0.v.may = true) (h4 : ¬ x0.v.t = 4) (hs : x0.v.asT.size ≤ 1048576) (hN : (itemsL r).length ≤ 16777216) (hm : ∀ v ∈ itemsL r, v.may = true ∧ v.s.size ≤ 1048576) : FormG text ⟨#[74, 79, 73, 78]⟩ (x0 :: r) (faultR (itemsL r) (joinV text (jnB x0.v.asT (txB (itemsL r)))))
theorem ata_SUMIF (x0 x1 x2 : AL) (hm0 : mayRectB x0.t x0.l x0.b x0.r = true) (he0 : entsOk x0 = true) (hm2 : mayRectB x2.t x2.l x2.b x2.r = true) (he2 : entsOk x2 = true) (text : Int) : DoA ⟨#[83, 85, 77, 73, 70]⟩ [x0, x1, x2] text (sumifR x0 x1.v x2) := ⟨fun w bl base kd lo hi d A cap hlk hBx hTab hcap hR hin => by
 have e : lookL aZero (aTab bl) ⟨#[83, 85, 77, 73, 70]⟩ = .agg #[.string ⟨#[114, 118, 114]⟩, .int .i64 3, .int .i64 3, .func (.func 116) #[] #[]] := by kernel_rfl
 have hd := fourth_of (e.symm.trans hlk)
 exact ⟨116, #[], hd.symm, fun _ _ => by simp [go_sem], asumif_any x0 x1 x2 hm0 he0 hm2 he2 text w A cap hR hin⟩⟩
theorem ata_JOIN (x0 : AL) (r : List AL) (h : 0 < r.length ∧ r.length ≤ 15) (m0 : x0.v.may = true) (h4 : ¬ x0.v.t = 4) (hs : x0.v.asT.size ≤ 1048576) (hN : (itemsL r).length ≤ 16777216) (hm : ∀ v ∈ itemsL r, v.may = true ∧ v.s.size ≤ 1048576) (text : Int) (h9 : 0 ≤ text ∧ text ≤ 1024) : DoA ⟨#[74, 79, 73, 78]⟩ (x0 :: r) text (faultR (itemsL r) (joinV text (jnB x0.v.asT (txB (itemsL r))))) := ⟨fun w bl base kd lo hi d A cap hlk hBx hTab hcap hR hin => by
 have e : lookL aZero (aTab bl) ⟨#[74, 79, 73, 78]⟩ = .agg #[.string ⟨#[118, 120]⟩, .int .i64 2, .int .i64 16, .func (.func 120) #[] #[]] := by kernel_rfl
 have hd := fourth_of (e.symm.trans hlk)
 exact ⟨120, #[], hd.symm, fun _ _ => by simp [go_sem], by have := ajoin_any x0 r h.1 (by omega) m0 h4 hs hm (by omega) text h9 w hTab A cap (by simpa using hcap) hR hin; simpa using this⟩⟩
theorem doa_all {text : Int} (h9 : 0 ≤ text ∧ text ≤ 1024) {name : ByteArray} {l : List AL} {r : VL} (h : FormG text name l r) : DoA name l text r := by
 cases h with
 | cSUM _ h hN _ => exact ata_SUM l h.2 (by omega) text
 | cPROD _ h hN _ => exact ata_PROD l h.2 (by omega) text
 | cMIN _ h hN _ => exact ata_MIN l h.2 (by omega) text
 | cMAX _ h hN _ => exact ata_MAX l h.2 (by omega) text
 | cAVG _ h hN _ => exact ata_AVG l h.2 (by omega) text
 | cMEDIAN _ h hN _ => exact ata_MEDIAN l h.2 (by omega) text
 | cCOUNT _ h hN _ => exact ata_COUNT l h.2 (by omega) text
 | cCOUNTA _ h hN _ => exact ata_COUNTA l h.2 (by omega) text
 | cBLANKS x0 m0 e0 => exact ata_BLANKS x0 m0 (by have := ent_len m0 e0; omega) text
 | cCOUNTIF x0 x1 m0 e0 _ => exact ata_COUNTIF x0 x1 m0 (by have := ent_len m0 e0; omega) text
 | cSUMIF x0 x1 x2 m0 e0 _ m2 e2 => exact ata_SUMIF x0 x1 x2 m0 e0 m2 e2 text
 | cMATCH x0 x1 _ m1 e1 => exact ata_MATCH x0 x1 m1 e1 text
 | cLOOKUP x0 x1 x2 _ m1 e1 m2 e2 => exact ata_LOOKUP x0 x1 x2 m1 e1 m2 e2 text
 | cINDEX x0 x1 x2 m0 e0 _ _ => exact ata_INDEX x0 x1 x2 m0 e0 text
 | cLARGE x0 x1 _ _ _ hN => exact ata_LARGE x0 x1 (by omega) text
 | cROWS x0 m0 _ => exact ata_ROWS x0 m0 text
 | cCOLS x0 m0 _ => exact ata_COLS x0 m0 text
 | cJOIN x0 r h m0 h4 hs hN hm => exact ata_JOIN x0 r h m0 h4 hs hN hm text h9
theorem al_len1 {l : List AL} (h : l.length = 1) : ∃ x0, l = [x0] := by
 match l, h with
 | [x0], _ => exact ⟨x0, rfl⟩
theorem al_len2 {l : List AL} (h : l.length = 2) : ∃ x0 x1, l = [x0, x1] := by
 match l, h with
 | [x0, x1], _ => exact ⟨x0, x1, rfl⟩
theorem al_len3 {l : List AL} (h : l.length = 3) : ∃ x0 x1 x2, l = [x0, x1, x2] := by
 match l, h with
 | [x0, x1, x2], _ => exact ⟨x0, x1, x2, rfl⟩
theorem al_cons {l : List AL} (h : 0 < l.length) : ∃ x0 r, l = x0 :: r := by
 match l, h with
 | x0 :: r, _ => exact ⟨x0, r, rfl⟩
theorem hasL_mem8 (s : ByteArray) : ∀ l : List (ByteArray × Value), hasL l s = true → ∃ p ∈ l, s = p.1
 | [], h => by simp [hasL] at h
 |
  (k, x) :: l, h => by
  unfold hasL at h
  by_cases e : s = k
  ·exact ⟨(k, x), by simp, e⟩
  ·simp only [e, decide_false, Bool.false_or] at h
   obtain ⟨p, hp, he⟩ := hasL_mem8 s l h
   exact ⟨p, List.mem_cons_of_mem _ hp, he⟩
theorem items_sz (l : List AL) (hs : ∀ x ∈ l, x.v.s.size ≤ 1048576 ∧ ∀ e ∈ x.es, e.v.s.size ≤ 1048576) : ∀ v ∈ itemsL l, v.s.size ≤ 1048576 := by
 intro v hv
 unfold itemsL at hv
 obtain ⟨L, hL, hvL⟩ := List.mem_flatten.1 hv
 obtain ⟨x, hx, rfl⟩ := List.mem_map.1 hL
 unfold itemsX at hvL
 rcases List.mem_append.1 hvL with h1 | h1
 ·cases hm : x.many with
  | true => rw [hm] at h1; simp at h1
  | false => rw [hm] at h1; simp at h1; subst h1; exact (hs x hx).1
 ·obtain ⟨e, he, rfl⟩ := List.mem_map.1 h1
  exact (hs x hx).2 e he
theorem single_may {x : AL} (h : x.many = false) (hx : argMay x = true) : x.v.may = true := by
 unfold argMay at hx
 rw [h] at hx
 simp only [Bool.false_eq_true, if_false, Bool.and_eq_true] at hx
 exact hx.2
theorem aKnown_in {s : ByteArray} (h : aKnown s = true) : s = ⟨#[83, 85, 77]⟩ ∨ s = ⟨#[80, 82, 79, 68]⟩ ∨ s = ⟨#[77, 73, 78]⟩ ∨ s = ⟨#[77, 65, 88]⟩ ∨ s = ⟨#[65, 86, 71]⟩ ∨ s = ⟨#[77, 69, 68, 73, 65, 78]⟩ ∨ s = ⟨#[67, 79, 85, 78, 84]⟩ ∨ s = ⟨#[67, 79, 85, 78, 84, 65]⟩ ∨ s = ⟨#[66, 76, 65, 78, 75, 83]⟩ ∨ s = ⟨#[67, 79, 85, 78, 84, 73, 70]⟩ ∨ s = ⟨#[83, 85, 77, 73, 70]⟩ ∨ s = ⟨#[77, 65, 84, 67, 72]⟩ ∨ s = ⟨#[76, 79, 79, 75, 85, 80]⟩ ∨ s = ⟨#[73, 78, 68, 69, 88]⟩ ∨ s = ⟨#[76, 65, 82, 71, 69]⟩ ∨ s = ⟨#[74, 79, 73, 78]⟩ ∨ s = ⟨#[82, 79, 87, 83]⟩ ∨ s = ⟨#[67, 79, 76, 83]⟩ := by
 obtain ⟨p, hp, rfl⟩ := hasL_mem8 s _ h
 unfold aTab at hp
 simp only [List.mem_cons, List.not_mem_nil, or_false] at hp
 rcases hp with rfl | rfl | rfl | rfl | rfl | rfl | rfl | rfl | rfl | rfl | rfl | rfl | rfl | rfl | rfl | rfl | rfl | rfl <;> simp
theorem aform_of (text : Int) {name : ByteArray} {l : List AL} (ht : takesA name (l.map fun x => x.many) = true) (hall : l.all argMay = true) (h4 : ∀ x ∈ l, ¬ x.v.t = 4) (hok : ∀ x ∈ l, x.v.ok) (hs : ∀ x ∈ l, x.v.s.size ≤ 1048576 ∧ ∀ e ∈ x.es, e.v.s.size ≤ 1048576) : ∃ r, FormG text name l r := by
 have hk := takesA_known ht
 have hlen := takesA_len ht
 rw [List.length_map] at hlen
 have hN := items_len9 l hall
 have hm := items_may9 l hall
 have hz := items_sz l hs
 rcases aKnown_in hk with rfl | rfl | rfl | rfl | rfl | rfl | rfl | rfl | rfl | rfl | rfl | rfl | rfl | rfl | rfl | rfl | rfl | rfl
 ·have e1 : aLo ⟨#[83, 85, 77]⟩ = 1 := by kernel_rfl
  have e2 : aHi ⟨#[83, 85, 77]⟩ = 16 := by kernel_rfl
  rw [e1, e2] at hlen
  exact ⟨_, .cSUM l (by omega) (by omega) (fun v hv => ⟨hm v hv, hz v hv⟩)⟩
 ·have e1 : aLo ⟨#[80, 82, 79, 68]⟩ = 1 := by kernel_rfl
  have e2 : aHi ⟨#[80, 82, 79, 68]⟩ = 16 := by kernel_rfl
  rw [e1, e2] at hlen
  exact ⟨_, .cPROD l (by omega) (by omega) (fun v hv => ⟨hm v hv, hz v hv⟩)⟩
 ·have e1 : aLo ⟨#[77, 73, 78]⟩ = 1 := by kernel_rfl
  have e2 : aHi ⟨#[77, 73, 78]⟩ = 16 := by kernel_rfl
  rw [e1, e2] at hlen
  exact ⟨_, .cMIN l (by omega) (by omega) (fun v hv => ⟨hm v hv, hz v hv⟩)⟩
 ·have e1 : aLo ⟨#[77, 65, 88]⟩ = 1 := by kernel_rfl
  have e2 : aHi ⟨#[77, 65, 88]⟩ = 16 := by kernel_rfl
  rw [e1, e2] at hlen
  exact ⟨_, .cMAX l (by omega) (by omega) (fun v hv => ⟨hm v hv, hz v hv⟩)⟩
 ·have e1 : aLo ⟨#[65, 86, 71]⟩ = 1 := by kernel_rfl
  have e2 : aHi ⟨#[65, 86, 71]⟩ = 16 := by kernel_rfl
  rw [e1, e2] at hlen
  exact ⟨_, .cAVG l (by omega) (by omega) (fun v hv => ⟨hm v hv, hz v hv⟩)⟩
 ·have e1 : aLo ⟨#[77, 69, 68, 73, 65, 78]⟩ = 1 := by kernel_rfl
  have e2 : aHi ⟨#[77, 69, 68, 73, 65, 78]⟩ = 16 := by kernel_rfl
  rw [e1, e2] at hlen
  exact ⟨_, .cMEDIAN l (by omega) (by omega) (fun v hv => ⟨hm v hv, hz v hv⟩)⟩
 ·have e1 : aLo ⟨#[67, 79, 85, 78, 84]⟩ = 1 := by kernel_rfl
  have e2 : aHi ⟨#[67, 79, 85, 78, 84]⟩ = 16 := by kernel_rfl
  rw [e1, e2] at hlen
  exact ⟨_, .cCOUNT l (by omega) (by omega) (fun v hv => ⟨hm v hv, hz v hv⟩)⟩
 ·have e1 : aLo ⟨#[67, 79, 85, 78, 84, 65]⟩ = 1 := by kernel_rfl
  have e2 : aHi ⟨#[67, 79, 85, 78, 84, 65]⟩ = 16 := by kernel_rfl
  rw [e1, e2] at hlen
  exact ⟨_, .cCOUNTA l (by omega) (by omega) (fun v hv => ⟨hm v hv, hz v hv⟩)⟩
 ·have e1 : aLo ⟨#[66, 76, 65, 78, 75, 83]⟩ = 1 := by kernel_rfl
  have e2 : aHi ⟨#[66, 76, 65, 78, 75, 83]⟩ = 1 := by kernel_rfl
  rw [e1, e2] at hlen
  have hl2 : l.length = 1 := by omega
  clear hlen hk
  obtain ⟨x0, rfl⟩ := al_len1 hl2
  ·simp only [List.map_cons, List.map_nil] at ht
   have hx0 : argMay x0 = true := by simp at hall; simp [hall]
   have hb : ∀ b0 : Bool, takesA ⟨#[66, 76, 65, 78, 75, 83]⟩ [b0] = true → b0 = true := by decide +kernel
   have hq := hb x0.many ht
   have q0 := hq
   obtain ⟨a0, -, b0⟩ := may_parts q0 hx0
   exact ⟨_, .cBLANKS x0 a0 b0⟩
 ·have e1 : aLo ⟨#[67, 79, 85, 78, 84, 73, 70]⟩ = 2 := by kernel_rfl
  have e2 : aHi ⟨#[67, 79, 85, 78, 84, 73, 70]⟩ = 2 := by kernel_rfl
  rw [e1, e2] at hlen
  have hl2 : l.length = 2 := by omega
  clear hlen hk
  obtain ⟨x0, x1, rfl⟩ := al_len2 hl2
  ·simp only [List.map_cons, List.map_nil] at ht
   have hx0 : argMay x0 = true := by simp at hall; simp [hall]
   have hx1 : argMay x1 = true := by simp at hall; simp [hall]
   have hb : ∀ b0 b1 : Bool, takesA ⟨#[67, 79, 85, 78, 84, 73, 70]⟩ [b0, b1] = true → b0 = true ∧ b1 = false := by decide +kernel
   have hq := hb x0.many x1.many ht
   obtain ⟨q0, q1⟩ := hq
   obtain ⟨a0, -, b0⟩ := may_parts q0 hx0
   exact ⟨_, .cCOUNTIF x0 x1 a0 b0 (single_may q1 hx1)⟩
 ·have e1 : aLo ⟨#[83, 85, 77, 73, 70]⟩ = 3 := by kernel_rfl
  have e2 : aHi ⟨#[83, 85, 77, 73, 70]⟩ = 3 := by kernel_rfl
  rw [e1, e2] at hlen
  have hl2 : l.length = 3 := by omega
  clear hlen hk
  obtain ⟨x0, x1, x2, rfl⟩ := al_len3 hl2
  ·simp only [List.map_cons, List.map_nil] at ht
   have hx0 : argMay x0 = true := by simp at hall; simp [hall]
   have hx1 : argMay x1 = true := by simp at hall; simp [hall]
   have hx2 : argMay x2 = true := by simp at hall; simp [hall]
   have hb : ∀ b0 b1 b2 : Bool, takesA ⟨#[83, 85, 77, 73, 70]⟩ [b0, b1, b2] = true → b0 = true ∧ b1 = false ∧ b2 = true := by decide +kernel
   have hq := hb x0.many x1.many x2.many ht
   obtain ⟨q0, q1, q2⟩ := hq
   obtain ⟨a0, -, b0⟩ := may_parts q0 hx0
   obtain ⟨a2, -, b2⟩ := may_parts q2 hx2
   exact ⟨_, .cSUMIF x0 x1 x2 a0 b0 (single_may q1 hx1) a2 b2⟩
 ·have e1 : aLo ⟨#[77, 65, 84, 67, 72]⟩ = 2 := by kernel_rfl
  have e2 : aHi ⟨#[77, 65, 84, 67, 72]⟩ = 2 := by kernel_rfl
  rw [e1, e2] at hlen
  have hl2 : l.length = 2 := by omega
  clear hlen hk
  obtain ⟨x0, x1, rfl⟩ := al_len2 hl2
  ·simp only [List.map_cons, List.map_nil] at ht
   have hx0 : argMay x0 = true := by simp at hall; simp [hall]
   have hx1 : argMay x1 = true := by simp at hall; simp [hall]
   have hb : ∀ b0 b1 : Bool, takesA ⟨#[77, 65, 84, 67, 72]⟩ [b0, b1] = true → b0 = false ∧ b1 = true := by decide +kernel
   have hq := hb x0.many x1.many ht
   obtain ⟨q0, q1⟩ := hq
   obtain ⟨a1, -, b1⟩ := may_parts q1 hx1
   exact ⟨_, .cMATCH x0 x1 (single_may q0 hx0) a1 b1⟩
 ·have e1 : aLo ⟨#[76, 79, 79, 75, 85, 80]⟩ = 3 := by kernel_rfl
  have e2 : aHi ⟨#[76, 79, 79, 75, 85, 80]⟩ = 3 := by kernel_rfl
  rw [e1, e2] at hlen
  have hl2 : l.length = 3 := by omega
  clear hlen hk
  obtain ⟨x0, x1, x2, rfl⟩ := al_len3 hl2
  ·simp only [List.map_cons, List.map_nil] at ht
   have hx0 : argMay x0 = true := by simp at hall; simp [hall]
   have hx1 : argMay x1 = true := by simp at hall; simp [hall]
   have hx2 : argMay x2 = true := by simp at hall; simp [hall]
   have hb : ∀ b0 b1 b2 : Bool, takesA ⟨#[76, 79, 79, 75, 85, 80]⟩ [b0, b1, b2] = true → b0 = false ∧ b1 = true ∧ b2 = true := by decide +kernel
   have hq := hb x0.many x1.many x2.many ht
   obtain ⟨q0, q1, q2⟩ := hq
   obtain ⟨a1, -, b1⟩ := may_parts q1 hx1
   obtain ⟨a2, -, b2⟩ := may_parts q2 hx2
   exact ⟨_, .cLOOKUP x0 x1 x2 (single_may q0 hx0) a1 b1 a2 b2⟩
 ·have e1 : aLo ⟨#[73, 78, 68, 69, 88]⟩ = 3 := by kernel_rfl
  have e2 : aHi ⟨#[73, 78, 68, 69, 88]⟩ = 3 := by kernel_rfl
  rw [e1, e2] at hlen
  have hl2 : l.length = 3 := by omega
  clear hlen hk
  obtain ⟨x0, x1, x2, rfl⟩ := al_len3 hl2
  ·simp only [List.map_cons, List.map_nil] at ht
   have hx0 : argMay x0 = true := by simp at hall; simp [hall]
   have hx1 : argMay x1 = true := by simp at hall; simp [hall]
   have hx2 : argMay x2 = true := by simp at hall; simp [hall]
   have hb : ∀ b0 b1 b2 : Bool, takesA ⟨#[73, 78, 68, 69, 88]⟩ [b0, b1, b2] = true → b0 = true ∧ b1 = false ∧ b2 = false := by decide +kernel
   have hq := hb x0.many x1.many x2.many ht
   obtain ⟨q0, q1, q2⟩ := hq
   obtain ⟨a0, -, b0⟩ := may_parts q0 hx0
   exact ⟨_, .cINDEX x0 x1 x2 a0 b0 (single_may q1 hx1) (single_may q2 hx2)⟩
 ·have e1 : aLo ⟨#[76, 65, 82, 71, 69]⟩ = 2 := by kernel_rfl
  have e2 : aHi ⟨#[76, 65, 82, 71, 69]⟩ = 2 := by kernel_rfl
  rw [e1, e2] at hlen
  have hl2 : l.length = 2 := by omega
  clear hlen hk
  obtain ⟨x0, x1, rfl⟩ := al_len2 hl2
  ·simp only [List.map_cons, List.map_nil] at ht
   have hx0 : argMay x0 = true := by simp at hall; simp [hall]
   have hx1 : argMay x1 = true := by simp at hall; simp [hall]
   have hb : ∀ b0 b1 : Bool, takesA ⟨#[76, 65, 82, 71, 69]⟩ [b0, b1] = true → b0 = true ∧ b1 = false := by decide +kernel
   have hq := hb x0.many x1.many ht
   obtain ⟨q0, q1⟩ := hq
   obtain ⟨a0, -, b0⟩ := may_parts q0 hx0
   exact ⟨_, .cLARGE x0 x1 a0 b0 (single_may q1 hx1) (by rw [items_many q0, List.length_map]; have := ent_len2 a0 b0; omega)⟩
 ·have e1 : aLo ⟨#[74, 79, 73, 78]⟩ = 2 := by kernel_rfl
  have e2 : aHi ⟨#[74, 79, 73, 78]⟩ = 16 := by kernel_rfl
  rw [e1, e2] at hlen
  clear hk
  obtain ⟨x0, r, rfl⟩ := al_cons (l := l) (by omega)
  ·have h := hlen
   clear hlen
   simp only [List.length_cons] at h hN
   have em : x0.many = false := by
    cases hq : x0.many with
    | false => rfl
    |
     true =>
     exfalso
     unfold takesA at ht
     simp only [Bool.and_eq_true] at ht
     have h8 := ht.2
     unfold okL at h8
     rw [List.all_eq_true] at h8
     have h7 := h8 0 (List.mem_range.2 (by simp))
     simp [hq] at h7
     revert h7
     decide +kernel
   have ei : itemsL (x0 :: r) = itemsX x0 ++ itemsL r := by simp [itemsL]
   rw [ei] at hN hm hz
   rw [List.length_append] at hN
   exact ⟨_, .cJOIN x0 r (by omega) (single_may em (by simp at hall; exact hall.1)) (h4 x0 (by simp)) (asT_size8 (hok x0 (by simp)) (hs x0 (by simp)).1) (by omega) (fun v hv => ⟨hm v (by simp [hv]), hz v (by simp [hv])⟩)⟩
 ·have e1 : aLo ⟨#[82, 79, 87, 83]⟩ = 1 := by kernel_rfl
  have e2 : aHi ⟨#[82, 79, 87, 83]⟩ = 1 := by kernel_rfl
  rw [e1, e2] at hlen
  have hl2 : l.length = 1 := by omega
  clear hlen hk
  obtain ⟨x0, rfl⟩ := al_len1 hl2
  ·simp only [List.map_cons, List.map_nil] at ht
   have hx0 : argMay x0 = true := by simp at hall; simp [hall]
   have hb : ∀ b0 : Bool, takesA ⟨#[82, 79, 87, 83]⟩ [b0] = true → b0 = true := by decide +kernel
   have hq := hb x0.many ht
   have q0 := hq
   obtain ⟨a0, -, b0⟩ := may_parts q0 hx0
   exact ⟨_, .cROWS x0 a0 b0⟩
 ·have e1 : aLo ⟨#[67, 79, 76, 83]⟩ = 1 := by kernel_rfl
  have e2 : aHi ⟨#[67, 79, 76, 83]⟩ = 1 := by kernel_rfl
  rw [e1, e2] at hlen
  have hl2 : l.length = 1 := by omega
  clear hlen hk
  obtain ⟨x0, rfl⟩ := al_len1 hl2
  ·simp only [List.map_cons, List.map_nil] at ht
   have hx0 : argMay x0 = true := by simp at hall; simp [hall]
   have hb : ∀ b0 : Bool, takesA ⟨#[67, 79, 76, 83]⟩ [b0] = true → b0 = true := by decide +kernel
   have hq := hb x0.many ht
   have q0 := hq
   obtain ⟨a0, -, b0⟩ := may_parts q0 hx0
   exact ⟨_, .cCOLS x0 a0 b0⟩
end Go.Proofs.YtgmhifafbebjfaaGreatDoor
