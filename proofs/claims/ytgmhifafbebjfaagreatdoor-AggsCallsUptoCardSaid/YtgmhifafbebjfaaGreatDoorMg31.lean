/-
 the document's aggs: rows, cols, whole, exact; the document's aggs: join.
-/
import Derived.Test.YtgmhifafbebjfaaGreatDoorACif
set_option maxRecDepth 100000
set_option maxHeartbeats 32000000
namespace Go.Proofs.YtgmhifafbebjfaaGreatDoor
open Go.RowKit

theorem rverrA (c : Int) (w : World) : Calls Tryz.prog 20 #[.int .i64 c] w fun e w' => e = .returned (.agg #[.int .i64 4, .int .i64 0, .string ⟨#[]⟩, .bool false, .int .i64 (errC c)]) ∧ Below w.heap.size w w' := by
 unfold errC
 by_cases h : 1 ≤ c ∧ c ≤ 8
 ·rw [if_pos h]; exact rverr_yes c h w
 ·rw [if_neg h]; exact rverr_no c h w
theorem rvnumA (x : Int) (hx : -9223372036854775808 ≤ x ∧ x ≤ 9223372036854775807) (w : World) : Calls Tryz.prog 99 #[.int .i64 x] w fun e w' => e = .returned (.agg #[.int .i64 (numT x), .int .i64 (numN x), .string ⟨#[]⟩, .bool false, .int .i64 (numF x)]) ∧ Below w.heap.size w w' := by
 unfold numT numN numF
 by_cases h : x = -9223372036854775808
 ·rw [if_pos h, if_pos h, if_pos h]; exact rvnum_no x hx h w
 ·rw [if_neg h, if_neg h, if_neg h]; exact rvnum_yes x hx h w
theorem r10rows (x : AL) (h : mayRectB x.t x.l x.b x.r = true) (w : World) : Calls Tryz.prog 49 #[.agg #[.bool x.many, .int .i64 x.v.t, .int .i64 x.v.n, .string x.v.s, .bool x.v.b, .int .i64 x.v.c, .int .i64 x.t, .int .i64 x.l, .int .i64 x.b, .int .i64 x.r, .slice x.A x.es.length x.cap]] w fun e w' => e = .returned (.int .i64 (rowsL x)) ∧ Below w.heap.size w w' := by
 obtain ⟨h1, h2, h3, h4, h5, h6⟩ := rect_in h
 obtain ⟨m, ⟨t, n, s, bb, c⟩, rt, rl, rb, rr, A, cap, es⟩ := x
 unfold rowsL
 dsimp only at h1 h2 h3 h4 h5 h6 ⊢
 have e1 : IntKind.i64.wrap (rb - rt) = rb - rt := IntWalk.i64_in _ (by omega)
 have e2 : IntKind.i64.wrap (rb - rt + 1) = rb - rt + 1 := IntWalk.i64_in _ (by omega)
 clear h
 go_enter Tryz.func49, Tryz.ntmps49
 go_wp2
 go_ret
 exact ⟨by go_num, belq⟩
theorem r10cols (x : AL) (h : mayRectB x.t x.l x.b x.r = true) (w : World) : Calls Tryz.prog 50 #[.agg #[.bool x.many, .int .i64 x.v.t, .int .i64 x.v.n, .string x.v.s, .bool x.v.b, .int .i64 x.v.c, .int .i64 x.t, .int .i64 x.l, .int .i64 x.b, .int .i64 x.r, .slice x.A x.es.length x.cap]] w fun e w' => e = .returned (.int .i64 (colsL x)) ∧ Below w.heap.size w w' := by
 obtain ⟨h1, h2, h3, h4, h5, h6⟩ := rect_in h
 obtain ⟨m, ⟨t, n, s, bb, c⟩, rt, rl, rb, rr, A, cap, es⟩ := x
 unfold colsL
 dsimp only at h1 h2 h3 h4 h5 h6 ⊢
 have e1 : IntKind.i64.wrap (rr - rl) = rr - rl := IntWalk.i64_in _ (by omega)
 have e2 : IntKind.i64.wrap (rr - rl + 1) = rr - rl + 1 := IntWalk.i64_in _ (by omega)
 clear h
 go_enter Tryz.func50, Tryz.ntmps50
 go_wp2
 go_ret
 exact ⟨by go_num, belq⟩
theorem r10whole (n : Int) (hn : -900000000000000 ≤ n ∧ n ≤ 900000000000000) (w : World) : Calls Tryz.prog 43 #[.int .i64 n] w fun e w' => e = .returned (.agg #[.int .i64 ((numL (n * 10000))).t, .int .i64 ((numL (n * 10000))).n, .string ((numL (n * 10000))).s, .bool ((numL (n * 10000))).b, .int .i64 ((numL (n * 10000))).c]) ∧ Below w.heap.size w w' := by
 have C := Lib.hid (rvnumA (n * 10000) (by omega) (w.alloc (.cells #[.int .i64 0, .int .i64 0, .string ⟨#[]⟩, .bool false, .int .i64 0] 26)))
 have e1 : IntKind.i64.wrap (n * 10000) = n * 10000 := IntWalk.i64_in _ (by omega)
 have e2 : IntKind.i64.wrap n = n := IntWalk.i64_in _ (by omega)
 go_enter Tryz.func43, Tryz.ntmps43
 go_wp2_with fail
 refine C.out.mono ?_
 clear C
 rintro e w1 ⟨rfl, hb⟩
 obtain ⟨hc, hf, hz⟩ := bkeep hb (w.heap.size + 1) (by simp)
 have l1 : w.heap.size < w1.heap.size := by omega
 go_wp2
 refine bodyPost_ret (v := .agg #[.int .i64 ((numL (n * 10000))).t, .int .i64 ((numL (n * 10000))).n, .string ((numL (n * 10000))).s, .bool ((numL (n * 10000))).b, .int .i64 ((numL (n * 10000))).c]) ?_ rfl ⟨rfl, belq⟩
 simp [results, Tryz.results43, go_sem, numL, *]
theorem r10exact (l : List Int) (hl : ∀ x ∈ l, -9223372036854775808 ≤ x ∧ x ≤ 9223372036854775807) (hlen : l.length ≤ 1073741824) (w : World) (A : Option Addr) (cap : Nat) (hR : RdI w A l) : Calls Tryz.prog 185 #[.slice A l.length cap] w fun e w' => e = .returned (.tuple #[.int .i64 (l.sum / 4294967296), .int .i64 (l.sum % 4294967296)]) ∧ Below w.heap.size w w' := by
 have hR' := Lib.hid hR
 have hl' := Lib.hid hl
 clear hR hl
 go_enter Tryz.func185, Tryz.ntmps185
 go_wp2
 go_loop [4, 5, 6] (fun a b i => ∃ (k : Nat) (h o : Int), k ≤ l.length ∧ i = .int .i64 (k : Int) ∧ a = .int .i64 h ∧ b = .int .i64 o ∧ Hid (h = hiS (l.take k)) ∧ Hid (o = loS (l.take k)) ∧ (-2305843009213693952 ≤ h ∧ h ≤ 2305843009213693952 ∧ 0 ≤ o ∧ o ≤ (k : Int) * 4294967295)) (fun _ _ i => l.length - (intOf i).toNat)
 case atStart => exact ⟨0, 0, 0, Nat.zero_le _, rfl, rfl, rfl, Lib.hid (by simp [hiS]), Lib.hid (by simp [loS]), by omega⟩
 case round =>
  obtain ⟨k, h, o, hk, rfl, rfl, rfl, hh, ho, hb⟩ := hrel
  by_cases hlt : k < l.length
  ·obtain ⟨x, hx⟩ : ∃ x, l[k]? = some x := ⟨_, List.getElem?_eq_getElem hlt⟩
   obtain ⟨ab, ao, hA2, hab, hcell⟩ := hR'.out k [.int .i64 x] (by rw [List.getElem?_map, hx]; rfl)
   obtain rfl : A = some ⟨ab, ao, none⟩ := hA2
   have hck : w.cell? ⟨ab, ao + k, none⟩ = some (.int .i64 x) := by simpa using hcell 0 _ rfl
   have hxb := hl'.out x (List.mem_of_getElem? hx)
   have hkl : (k : Int) < (l.length : Int) := by omega
   have hk0 : (0 : Int) ≤ (k : Int) := by omega
   have hwk : IntKind.i64.wrap ((k : Int) + 1) = (k : Int) + 1 := IntWalk.i64_in _ (by omega)
   have t1 : l.take (k + 1) = l.take k ++ [x] := by rw [List.take_add_one, hx]; rfl
   obtain ⟨p, hp⟩ : ∃ p, x / 4294967296 = p := ⟨_, rfl⟩
   obtain ⟨q, hq⟩ : ∃ q, x % 4294967296 = q := ⟨_, rfl⟩
   have h2 : Hid (h + p = hiS (l.take (k + 1))) := Lib.hid (by rw [t1, hiS_snoc, hh.out, hp])
   have o2 : Hid (o + q = loS (l.take (k + 1))) := Lib.hid (by rw [t1, loS_snoc, ho.out, hq])
   have hin := hiS_in (l.take (k + 1)) (fun y hy => hl'.out y (List.mem_of_mem_take hy))
   rw [← h2.out, List.length_take] at hin
   have hin2 : -2305843009213693952 ≤ h + p ∧ h + p ≤ 2305843009213693952 := by omega
   have hq2 : 0 ≤ q ∧ q ≤ 4294967295 := by omega
   have w1 : IntKind.i64.wrap (h + p) = h + p := IntWalk.i64_in _ (by omega)
   have w2 : IntKind.i64.wrap (o + q) = o + q := IntWalk.i64_in _ (by omega)
   have ea := i64_and32 x hxb
   rw [hq] at ea
   clear hx hcell t1 hin
   go_wp2
   go_roundw
   case rel => exact ⟨k + 1, h + p, o + q, by omega, by go_num, by go_num, by go_num, h2, o2, by omega⟩
   case measure => simp [intOf]; omega
  ·obtain rfl : k = l.length := by omega
   rw [List.take_length] at hh ho
   have hkl : ¬ (l.length : Int) < (l.length : Int) := by omega
   have e1 : h + o / 4294967296 = l.sum / 4294967296 := by rw [hh.out, ho.out]; exact exact_hi l
   have e2 : o % 4294967296 = l.sum % 4294967296 := by rw [ho.out]; exact exact_lo l
   have w1 : IntKind.i64.wrap (h + o / 4294967296) = h + o / 4294967296 := IntWalk.i64_in _ (by omega)
   have ea := i64_and32 o (by omega)
   go_wp2
   refine bodyPost_ret (v := .tuple #[.int .i64 (l.sum / 4294967296), .int .i64 (l.sum % 4294967296)]) ?_ rfl ⟨rfl, belq⟩
   simp [results, Tryz.results185, go_sem, *]

theorem r10join (s : ByteArray) (hs : s.size ≤ 1048576) (l : List VL) (hl : ∀ x ∈ l, x.ok ∧ x.may = true ∧ ¬ x.t = 4 ∧ x.asT.size ≤ 1048576) (hlen : l.length ≤ 1073741824) (text : Int) (h9 : 0 ≤ text ∧ text ≤ 1024) (w : World) (A : Option Addr) (cap : Nat) (hR : RdB w w.heap.size A 5 (l.map VL.cs)) : Calls Tryz.prog 52 #[.string s, .slice A l.length cap, .int .i64 text] w fun e w' => e = .returned (.agg #[.int .i64 ((joinV text (jnB s (txB l)))).t, .int .i64 ((joinV text (jnB s (txB l)))).n, .string ((joinV text (jnB s (txB l)))).s, .bool ((joinV text (jnB s (txB l)))).b, .int .i64 ((joinV text (jnB s (txB l)))).c]) ∧ Below w.heap.size w w' := by
 obtain ⟨V, hV0⟩ : ∃ V, joinV text (jnB s (txB l)) = V := ⟨_, rfl⟩
 have hV := Lib.hid hV0
 rw [hV0]
 have hR' := Lib.hid hR
 have hl' := Lib.hid hl
 have b0 : Below w.heap.size w (w.alloc (.cells #[.int .i64 0, .int .i64 0, .string ⟨#[]⟩, .bool false, .int .i64 0] 26)) := (Below.refl _ _).alloc (Nat.le_refl _) _
 clear hR hl hV0
 go_enter Tryz.func52, Tryz.ntmps52
 go_wp2
 go_loopw [7, 8, 9] (fun o f i wr => ∃ (k : Nat) (d : ByteArray) (b : Bool), k ≤ l.length ∧ i = .int .i64 (k : Int) ∧ o = .string d ∧ f = .bool b ∧ d.size ≤ 3200000 ∧ Hid (d = jnB s (txB (l.take k))) ∧ Hid (b = decide (txB (l.take k) = [])) ∧ Below (w.heap.size + 1) (w.alloc (.cells #[.int .i64 0, .int .i64 0, .string ⟨#[]⟩, .bool false, .int .i64 0] 26)) wr) (fun _ _ i _ => l.length - (intOf i).toNat)
 case atStart => exact ⟨0, ⟨#[]⟩, true, Nat.zero_le _, rfl, rfl, rfl, by decide, Lib.hid rfl, Lib.hid (by simp [txB]), Below.refl _ _⟩
 case round =>
  obtain ⟨k, d, b, hk, rfl, rfl, rfl, hdz, hd, hb, hbr⟩ := hrel
  have hzr := hbr.size
  simp only [World.size_alloc] at hzr
  have g1 : Below w.heap.size w wr := b0.trans (hbr.mono (by omega))
  have hl0 : w.heap.size < wr.heap.size := by omega
  obtain ⟨hr0, hr1, hr2, hr3, hr4, hs0, hs1, hs2, hs3, hs4⟩ := res5 hbr
  by_cases hlt : k < l.length
  ·have hkl : (k : Int) < (l.length : Int) := by omega
   by_cases hle : (d.size : Int) ≤ text
   ·have hle0 : decide ((d.size : Int) ≤ text) = true := by simp; omega
    obtain ⟨y, hy⟩ : ∃ y, l[k]? = some y := ⟨_, List.getElem?_eq_getElem hlt⟩
    obtain ⟨ab, ao, hA2, hab, hcell⟩ := (hR'.out.below g1) k y.cs (by rw [List.getElem?_map, hy]; rfl)
    obtain rfl : A = some ⟨ab, ao, none⟩ := hA2
    have hc0 : wr.cell? ⟨ab, ao + k * 5, none⟩ = some (.int .i64 y.t) := hcell 0 _ rfl
    have hc1 : wr.cell? ⟨ab, ao + k * 5 + 1, none⟩ = some (.int .i64 y.n) := hcell 1 _ rfl
    have hc2 : wr.cell? ⟨ab, ao + k * 5 + 2, none⟩ = some (.string y.s) := hcell 2 _ rfl
    have hc3 : wr.cell? ⟨ab, ao + k * 5 + 3, none⟩ = some (.bool y.b) := hcell 3 _ rfl
    have hc4 : wr.cell? ⟨ab, ao + k * 5 + 4, none⟩ = some (.int .i64 y.c) := hcell 4 _ rfl
    have hk0 : (0 : Int) ≤ (k : Int) := by omega
    have hwk : IntKind.i64.wrap ((k : Int) + 1) = (k : Int) + 1 := IntWalk.i64_in _ (by omega)
    obtain ⟨y1, y2, y3, y4⟩ := hl'.out y (List.mem_of_getElem? hy)
    have CA := rastextA y y1 y2 y3
    have hts := Lib.hid (txB_snoc l k y hy)
    obtain ⟨x, hx⟩ : ∃ x, y.asT = x := ⟨_, rfl⟩
    rw [hx] at CA y4 hts
    clear hcell hy y1 y2 hx
    by_cases h0 : y.t = 0
    ·have q1 : (y.t == 0) = true := by simp [h0]
     have hT2 := Lib.hid (show txB (l.take (k + 1)) = txB (l.take k) by rw [hts.out, if_pos h0, List.append_nil])
     clear CA
     go_wp2
     go_roundw
     case rel => exact ⟨k + 1, d, b, by omega, by go_num, rfl, rfl, hdz, by rw [hT2.out]; exact hd, by rw [hT2.out]; exact hb, hbr⟩
     case measure => simp [intOf]; omega
    ·cases b
     ·have hT2 := Lib.hid (show txB (l.take (k + 1)) = txB (l.take k) ++ [x] by rw [hts.out, if_neg h0])
      have q1 : (y.t == 0) = false := by simp [h0]
      have hT0 : txB (l.take k) ≠ [] := by have h9 := hb.out; intro h; rw [h] at h9; simp at h9
      have hst := Lib.hid (show d ++ s ++ x = jnB s (txB (l.take (k + 1))) by
       rw [hT2.out, jnB_snoc s _ x hT0, hd.out])
      have hov1 : ¬ (9223372036854775807 < d.size + s.size) := by omega
      have hov3 : (d ++ s).size = d.size + s.size := ByteArray.size_append
      have hsz2 : (d ++ s ++ x).size ≤ 3200000 := by simp only [ByteArray.size_append]; omega
      have hov2 : ¬ (9223372036854775807 < (d ++ s).size + x.size) := by rw [hov3]; omega
      have hov4 : ¬ (9223372036854775807 < d.size + s.size + x.size) := by omega
      have hb2 := Lib.hid (show false = decide (txB (l.take (k + 1)) = []) by rw [hT2.out]; simp)
      clear hT0 h0 hov3
      go_wp2_with fail
      refine (CA _).mono ?_
      rintro e w3 ⟨rfl, hb3⟩
      have h3 : Below (w.heap.size + 1) (w.alloc (.cells #[.int .i64 0, .int .i64 0, .string ⟨#[]⟩, .bool false, .int .i64 0] 26)) w3 := hbr.trans (hb3.mono (by omega))
      clear hb3
      go_wp2
      go_roundw
      case rel => exact ⟨k + 1, d ++ s ++ x, false, by omega, by go_num, rfl, rfl, hsz2, hst, hb2, h3⟩
      case measure => simp [intOf]; omega
     ·have hT2 := Lib.hid (show txB (l.take (k + 1)) = txB (l.take k) ++ [x] by rw [hts.out, if_neg h0])
      have q1 : (y.t == 0) = false := by simp [h0]
      have hT0 : txB (l.take k) = [] := by have h9 := hb.out; simpa using h9.symm
      have hst := Lib.hid (show d ++ x = jnB s (txB (l.take (k + 1))) by
       rw [hT2.out, hT0, List.nil_append, jnB_one, hd.out, hT0, jnB_nil]
       apply ByteArray.ext
       simp)
      have hsz2 : (d ++ x).size ≤ 3200000 := by simp only [ByteArray.size_append]; omega
      have hov2 : ¬ (9223372036854775807 < d.size + x.size) := by omega
      have hb2 := Lib.hid (show false = decide (txB (l.take (k + 1)) = []) by rw [hT2.out]; simp)
      clear hT0 h0
      go_wp2_with fail
      refine (CA _).mono ?_
      rintro e w3 ⟨rfl, hb3⟩
      have h3 : Below (w.heap.size + 1) (w.alloc (.cells #[.int .i64 0, .int .i64 0, .string ⟨#[]⟩, .bool false, .int .i64 0] 26)) w3 := hbr.trans (hb3.mono (by omega))
      clear hb3
      go_wp2
      go_roundw
      case rel => exact ⟨k + 1, d ++ x, false, by omega, by go_num, rfl, rfl, hsz2, hst, hb2, h3⟩
      case measure => simp [intOf]; omega
   ·have hle0 : decide ((d.size : Int) ≤ text) = false := by simp; omega
    have hgt0 : decide ((d.size : Int) > text) = true := by simp; omega
    have hgt1 : decide (text < (d.size : Int)) = true := by simp; omega
    have hgt2 : text < (d.size : Int) := by omega
    have hle2 : ¬ (d.size : Int) ≤ text := by omega
    have hve := Lib.hid (show V = errL 7 by
     rw [← hV.out]; unfold joinV
     have h9 := jnB_take s l k
     rw [← hd.out] at h9
     rw [if_pos (by omega)])
    go_wp2_with (go_at_call 20; refine (rverrA 7 _).mono ?_; rintro e w9 ⟨rfl, hb⟩; obtain ⟨hc, hf, hz⟩ := bkeep hb wr.heap.size (by first | omega | (simp <;> omega)))
    refine bodyPost_ret (v := .agg #[.int .i64 4, .int .i64 0, .string ⟨#[]⟩, .bool false, .int .i64 (errC 7)]) ?_ rfl ⟨by rw [hve.out]; rfl, belq⟩
    simp [results, Tryz.results52, go_sem, *]
  ·obtain rfl : k = l.length := by omega
   have hkl : ¬ (l.length : Int) < (l.length : Int) := by omega
   by_cases hle : (d.size : Int) ≤ text
   ·have hgt0 : decide ((d.size : Int) > text) = false := by simp; omega
    have hgt1 : decide (text < (d.size : Int)) = false := by simp; omega
    have hgt2 : ¬ text < (d.size : Int) := by omega
    have hve := Lib.hid (show V = ⟨2, 0, d, false, 0⟩ by
     rw [← hV.out]; unfold joinV
     have h9 := hd.out
     rw [List.take_length] at h9
     rw [← h9, if_neg (by omega)])
    go_wp2_with (go_at_call 91; refine (rvtxt_any d _).mono ?_; rintro e w9 ⟨rfl, hb⟩; obtain ⟨hc, hf, hz⟩ := bkeep hb wr.heap.size (by first | omega | (simp <;> omega)))
    refine bodyPost_ret (v := .agg #[.int .i64 2, .int .i64 0, .string d, .bool false, .int .i64 0]) ?_ rfl ⟨by rw [hve.out], belq⟩
    simp [results, Tryz.results52, go_sem, *]
   ·have hle0 : decide ((d.size : Int) ≤ text) = false := by simp; omega
    have hgt0 : decide ((d.size : Int) > text) = true := by simp; omega
    have hgt1 : decide (text < (d.size : Int)) = true := by simp; omega
    have hgt2 : text < (d.size : Int) := by omega
    have hle2 : ¬ (d.size : Int) ≤ text := by omega
    have hve := Lib.hid (show V = errL 7 by
     rw [← hV.out]; unfold joinV
     have h9 := jnB_take s l l.length
     rw [← hd.out] at h9
     rw [if_pos (by omega)])
    go_wp2_with (go_at_call 20; refine (rverrA 7 _).mono ?_; rintro e w9 ⟨rfl, hb⟩; obtain ⟨hc, hf, hz⟩ := bkeep hb wr.heap.size (by first | omega | (simp <;> omega)))
    refine bodyPost_ret (v := .agg #[.int .i64 4, .int .i64 0, .string ⟨#[]⟩, .bool false, .int .i64 (errC 7)]) ?_ rfl ⟨by rw [hve.out]; rfl, belq⟩
    simp [results, Tryz.results52, go_sem, *]
end Go.Proofs.YtgmhifafbebjfaaGreatDoor
