/-
  The document's great numbers: raised; The document's great numbers: small; The document's great numbers: less.
-/
import Derived.Test.YthobaffgllipfaaGreatRows
import Derived.Test.YthobaffgllipfaaGreatBase
import Derived.Test.YthobaffgllipfaaGreatMg3
import Derived.Test.YthobaffgllipfaaGreatMg36
import Derived.Test.YthobaffgllipfaaGreatRGrD
import Derived.WalkSpells
import Derived.WalkLawsBesides
import Derived.StillTactics
import Derived.Laws.Pointers
import Derived.Deep.RegionHeld3
import Derived.Deep.QuietTactic
import Derived.BigQuiet
import Derived.RowKit3
import Derived.Lib.Hide
import Derived.Lib.OthersKept
import Derived.OwnWalk
import Derived.Lib.IndexLaws
import Derived.Lib.ItoaMem
import Derived.WalkKit
import Derived.ProofKit
import Derived.OpenShut
import Derived.Carry
import Derived.ChangeSame
import Derived.Deep.Draws
import Derived.Maps.AppendAt
namespace Go.Proofs.YthobaffgllipfaaGreat
open Go.RowKit

theorem product_held {B : Nat} {w0 w : World} {v : Value} {l : List Nat} (h : HeldG B w0 w v l) (b : List Nat) (hb : ∀ d ∈ b, d < 10000) (hlen : l.length + b.length ≤ 1000000) (A' : Option Addr) (cap' : Nat) (hR' : RdB w w.heap.size A' 1 (b.map fun (d : Nat) => [Value.int .i64 (d : Int)])) : Calls Tryz.prog 98 #[v, .slice A' b.length cap'] w fun e w' => ∃ u l', e = .returned u ∧ HeldG B w0 w' u l' ∧ Hid (valG l' = valG l * valG b) ∧ Hid (CanG l') ∧ l'.length ≤ l.length + b.length := by
  obtain ⟨A, cap, rfl, hR⟩ := rdG_own h.own
  refine (product_any l b h.dig hb hlen w A A' cap cap' hR hR').mono ?_
  rintro e w' ⟨u, l', rfl, hw, hv, hc, hl⟩
  exact ⟨u, l', rfl, ⟨ownsRow_base hw.own h.siz, hw.dig, h.bel.trans (hw.bel.mono h.siz), Nat.le_trans h.siz hw.bel.size⟩, Lib.hid hv, Lib.hid hc, hl⟩
set_option maxRecDepth 100000 in
set_option maxHeartbeats 2000000 in
theorem raised_any (a : List Nat) (ha : ∀ d ∈ a, d < 10000) (hlen : a.length ≤ 1000) (n : Nat) (hn : n ≤ 64) (w : World) (A : Option Addr) (cap : Nat) (hR : RdB w w.heap.size A 1 (a.map fun (d : Nat) => [Value.int .i64 (d : Int)])) : Calls Tryz.prog 104 #[.slice A a.length cap, .int .i64 (n : Int)] w (GreatAt (valG a ^ n) (1 + n * a.length) w) := by
  have hH := Lib.hid (And.intro ha hR)
  clear ha hR
  go_enter Tryz.func104, Tryz.ntmps104
  go_wp2
  have hst0 : HeldG w.heap.size w (w.alloc (Obj.cells #[Value.int .i64 1] 3)) (.slice (some ⟨w.heap.size, 0, none⟩) 1 1) [1] := by
    refine ⟨⟨rfl, .inr ⟨w.heap.size, 1, #[.int .i64 1], rfl, Nat.le_refl _, by show (w.heap.push _)[w.heap.size]? = _; simp, Nat.le_refl _, by unfold maxLen; omega, rfl, rfl⟩⟩, by simp, (Below.refl _ _).alloc (Nat.le_refl _) _, by simp⟩
  go_loopw [5, 6] (fun ov iv wr => ∃ (i : Nat) (l : List Nat), i ≤ n ∧ iv = .int .i64 (i : Int) ∧ HeldG w.heap.size w wr ov l ∧ Hid (valG l = valG a ^ i) ∧ Hid (CanG l) ∧ Hid (l.length ≤ 1 + i * a.length)) (fun _ iv _ => n - (intOf iv).toNat)
  case atStart => exact ⟨0, [1], Nat.zero_le _, rfl, hst0, Lib.hid (by simp [valG]), Lib.hid (fun d h => by simp at h; omega), Lib.hid (by simp)⟩
  case round =>
    obtain ⟨i, l, hin, rfl, hw, hval, hcan, hl⟩ := hrel
    by_cases hlt : i < n
    · have hil : (i : Int) < (n : Int) := by omega
      have hwi : IntKind.i64.wrap ((i : Int) + 1) = (i : Int) + 1 := IntWalk.i64_in _ (by omega)
      have hbd : l.length + a.length ≤ 1000000 := by
        have h1 := hl.out
        have h2 : i * a.length ≤ 64 * 1000 := Nat.mul_le_mul (by omega) hlen
        omega
      have C := Lib.hid (product_held hw a hH.out.1 hbd A cap (hH.out.2.below hw.bel |>.mono hw.bel.size))
      clear hst0
      go_wp2_with fail
      with_reducible refine C.out.mono ?_
      rintro e w2 ⟨u, l', rfl, hw2, hv2, hc2, hl2⟩
      have hwH := Lib.hid hw2
      clear hw2
      go_wp2
      go_roundw
      case rel => exact ⟨i + 1, l', by omega, by go_num, hwH.out, Lib.hid (by rw [hv2.out, hval.out, Nat.pow_succ]), hc2, Lib.hid (by have := hl.out; rw [Nat.add_mul]; omega)⟩
      case measure => simp [intOf]; omega
    · obtain rfl : n = i := by omega
      have hil : ¬ ((n : Int) < (n : Int)) := by omega
      clear hst0
      go_wp2
      go_ret
      exact ⟨_, l, rfl, hw, hval.out, hcan.out, hl.out⟩
end Go.Proofs.YthobaffgllipfaaGreat
namespace Go.Proofs.YthobaffgllipfaaGreat
open Go.RowKit

theorem small_great (l : List Nat) (hc : CanG l) (h : 5 < l.length) : ¬ valG l ≤ 9223372036854775807 := by
  have h1 := valG_ge l hc (fun e => by rw [e] at h; simp at h)
  have h2 : 10000 ^ 5 ≤ 10000 ^ (l.length - 1) := Nat.pow_le_pow_right (by decide) (by omega)
  omega
theorem valG_drop_le : ∀ (l : List Nat) (j : Nat), valG (l.drop j) ≤ valG l
  | l, 0 => by simp
  | [], j + 1 => by simp
  | d :: l, j + 1 => by
    have := valG_drop_le l j
    rw [List.drop_succ_cons, valG]
    omega
def smallV (l : List Nat) : Nat := if valG l ≤ 9223372036854775807 then valG l else 0
set_option maxRecDepth 100000 in
set_option maxHeartbeats 2000000 in
theorem small_any (l : List Nat) (hd : ∀ d ∈ l, d < 10000) (hc : CanG l) (hlen : l.length ≤ 1000000) (w : World) (A : Option Addr) (cap : Nat) (hR : RdB w w.heap.size A 1 (l.map fun (d : Nat) => [Value.int .i64 (d : Int)])) : Calls Tryz.prog 105 #[.slice A l.length cap] w fun e w' => e = .returned (.tuple #[.int .u64 (smallV l : Int), .bool (decide (valG l ≤ 9223372036854775807))]) ∧ w' = w := by
  have hH := Lib.hid (And.intro hd (And.intro hc hR))
  clear hd hc hR
  by_cases h5 : 5 < l.length
  · have h5' : (5 : Int) < (l.length : Int) := by omega
    have hno := Lib.hid (small_great l hH.out.2.1 h5)
    go_enter Tryz.func105, Tryz.ntmps105
    go_wp2
    go_ret2
    have hn := hno.out
    exact ⟨by unfold smallV; rw [if_neg hn, decide_eq_false hn]; rfl, rfl⟩
  · have h5' : ¬ (5 : Int) < (l.length : Int) := by omega
    go_enter Tryz.func105, Tryz.ntmps105
    go_wp2
    go_loopw [4, 5] (fun nv iv wr => wr = w ∧ ∃ (j : Nat) (i : Int), j ≤ l.length ∧ i = (j : Int) - 1 ∧ iv = .int .i64 i ∧ ∃ m : Nat, nv = .int .u64 (m : Int) ∧ Hid (valG (l.drop j) = m) ∧ Hid (m ≤ 9223372036854775807)) (fun _ iv _ => (intOf iv + 1).toNat)
    case atStart => exact ⟨rfl, l.length, _, Nat.le_refl _, rfl, rfl, 0, rfl, Lib.hid (by rw [List.drop_length]; rfl), Lib.hid (by decide)⟩
    case round =>
      obtain ⟨rfl, j, i, hj, hi', rfl, m, rfl, hval, hmb⟩ := hrel
      rcases j with _ | j
      · obtain rfl : i = -1 := by omega
        clear hi'
        go_wp2
        go_ret2
        have e := hval.out
        rw [List.drop_zero] at e
        have hy : valG l ≤ 9223372036854775807 := by rw [e]; exact hmb.out
        exact ⟨by unfold smallV; rw [if_pos hy, decide_eq_true hy, e]; rfl, rfl⟩
      · obtain rfl : i = (j : Int) := by omega
        clear hi'
        obtain ⟨x, hx⟩ : ∃ x, l[j]? = some x := ⟨_, List.getElem?_eq_getElem (by omega)⟩
        obtain ⟨b1, o1, rfl, hb1, hc1⟩ := hH.out.2.2 j [.int .i64 (x : Int)] (by rw [List.getElem?_map, hx]; rfl)
        have hk1 : wr.cell? ⟨b1, o1 + j, none⟩ = some (.int .i64 (x : Int)) := by simpa using hc1 0 _ rfl
        have hjl : (j : Int) < (l.length : Int) := by omega
        have hxb := hH.out.1 x (List.mem_of_getElem? hx)
        have hwj : IntKind.i64.wrap ((j : Int) - 1) = (j : Int) - 1 := IntWalk.i64_in _ (by omega)
        obtain ⟨s, hs⟩ : ∃ s, s = 9223372036854775807 - x := ⟨_, rfl⟩
        obtain ⟨t, ht⟩ : ∃ t, t = s / 10000 := ⟨_, rfl⟩
        have a1 : IntKind.u64.wrap (x : Int) = (x : Int) := by rw [IntKind.wrap_u64]; omega
        have a2 : IntKind.u64.wrap (9223372036854775807 - (x : Int)) = (s : Int) := by rw [IntKind.wrap_u64]; omega
        have a3 : (s : Int) / 10000 = (t : Int) := by omega
        have a3' : IntKind.u64.wrap (t : Int) = (t : Int) := by rw [IntKind.wrap_u64]; omega
        have hdr : valG (l.drop j) = x + 10000 * m := by
          obtain ⟨h1, e1⟩ := List.getElem?_eq_some_iff.1 hx
          rw [List.drop_eq_getElem_cons h1, e1, valG, hval.out]
        by_cases hlt : t < m
        · have hno := Lib.hid (show ¬ valG l ≤ 9223372036854775807 by have := valG_drop_le l j; omega)
          clear hs ht hdr hx hc1
          go_wp2
          go_ret2
          have hn := hno.out
          exact ⟨by unfold smallV; rw [if_neg hn, decide_eq_false hn]; rfl, rfl⟩
        · obtain ⟨p, hp⟩ : ∃ p, p = m * 10000 := ⟨_, rfl⟩
          obtain ⟨q, hq⟩ : ∃ q, q = p + x := ⟨_, rfl⟩
          have a4 : IntKind.u64.wrap ((m : Int) * 10000) = (p : Int) := by rw [IntKind.wrap_u64]; omega
          have a5 : IntKind.u64.wrap ((p : Int) + (x : Int)) = (q : Int) := by rw [IntKind.wrap_u64]; omega
          have hv2 := Lib.hid (show valG (l.drop j) = q by omega)
          have hq2 := Lib.hid (show q ≤ 9223372036854775807 by omega)
          clear hs ht hdr hx hc1 hp hq
          go_wp2
          go_roundw
          case rel => exact ⟨by first | rfl | trivial, j, _, by omega, rfl, by go_num, q, rfl, hv2, hq2⟩
          case measure => simp [intOf]
end Go.Proofs.YthobaffgllipfaaGreat
namespace Go.Proofs.YthobaffgllipfaaGreat
open Go.RowKit

theorem less_step {A B : Nat} (outs : List Nat) (ta' tb' : Nat) (k y u d u' x : Nat) (h : valG outs + B = A + 10000 ^ k * u) (hb : tb' = B + 10000 ^ k * y) (ha : ta' = A + 10000 ^ k * x) (hl : outs.length = k) (hd : d + y + u = x + 10000 * u') : valG (outs ++ [d]) + tb' = ta' + 10000 ^ (k + 1) * u' := by
  rw [valG_snoc, hl, hb, ha, Nat.pow_succ]
  obtain ⟨p, hp⟩ : ∃ p, 10000 ^ k = p := ⟨_, rfl⟩
  rw [hp] at h ⊢
  have e : p * (d + y + u) = p * x + p * 10000 * u' := by rw [hd, Nat.mul_add, Nat.mul_assoc]
  rw [Nat.mul_add, Nat.mul_add] at e
  omega
theorem less_end (a b outs : List Nat) (u : Nat) (hcb : CanG b) (hda : ∀ d ∈ a, d < 10000) (hdo : ∀ d ∈ outs, d < 10000) (hl : outs.length = a.length) (hu : u ≤ 1) (hle : valG b ≤ valG a) (h : valG outs + valG (b.take a.length) = valG a + 10000 ^ a.length * u) : valG outs = valG a - valG b := by
  have hbl : b.length ≤ a.length := by
    rcases Nat.lt_or_ge a.length b.length with h | h
    · have := below_len a b hda hcb h; omega
    · exact h
  rw [List.take_of_length_le hbl] at h
  have h2 := valG_lt outs hdo
  rw [hl] at h2
  rcases (show u = 0 ∨ u = 1 by omega) with rfl | rfl
  · omega
  · omega
set_option maxRecDepth 100000 in
set_option maxHeartbeats 4000000 in
theorem less_any (a b : List Nat) (ha : ∀ d ∈ a, d < 10000) (hb : ∀ d ∈ b, d < 10000) (cb : CanG b) (hle : valG b ≤ valG a) (hlen : a.length ≤ 1000000) (w : World) (A A' : Option Addr) (cap cap' : Nat) (hR : RdB w w.heap.size A 1 (a.map fun (d : Nat) => [Value.int .i64 (d : Int)])) (hR' : RdB w w.heap.size A' 1 (b.map fun (d : Nat) => [Value.int .i64 (d : Int)])) : Calls Tryz.prog 116 #[.slice A a.length cap, .slice A' b.length cap'] w (GreatAt (valG a - valG b) a.length w) := by
  obtain ⟨i0, hi, hz0, hz1, hz2⟩ := info_parts int_info
  have hH := Lib.hid (And.intro ha (And.intro hb (And.intro cb hle)))
  have hRH := Lib.hid (And.intro hR hR')
  clear ha hb cb hle hR hR'
  go_enter Tryz.func116, Tryz.ntmps116
  go_wp2
  go_loopw [5, 6, 7] (fun ov uv iv wr => ∃ (k u : Nat) (outs : List Nat), k ≤ a.length ∧ iv = .int .i64 (k : Int) ∧ uv = .int .i64 (u : Int) ∧ u ≤ 1 ∧ outs.length = k ∧ Hid (∀ d ∈ outs, d < 10000) ∧ Hid (valG outs + valG (b.take k) = valG (a.take k) + 10000 ^ k * u) ∧ wr.ownsRow w.heap.size 3 1 ov k (outs.map fun (n : Nat) => Value.int .i64 (n : Int)) ∧ Below w.heap.size w wr) (fun _ _ iv _ => a.length - (intOf iv).toNat)
  case atStart => exact ⟨0, 0, [], Nat.zero_le _, rfl, rfl, by decide, rfl, Lib.hid (by simp), Lib.hid (by simp [valG]), World.ownsRow_nil _ _ _ _, Below.refl _ _⟩
  case round =>
    obtain ⟨k, u, outs, hk, rfl, rfl, hu, hol, hdig, hval, hown, hbr⟩ := hrel
    have hzr := hbr.size
    have hol' := Lib.hid hol
    clear hol
    by_cases hlt : k < a.length
    · obtain ⟨x, hx⟩ : ∃ x, a[k]? = some x := ⟨_, List.getElem?_eq_getElem hlt⟩
      obtain ⟨b1, o1, rfl, hb1, hc1⟩ := (hRH.out.1.below hbr) k [.int .i64 (x : Int)] (by rw [List.getElem?_map, hx]; rfl)
      have hk1 : wr.cell? ⟨b1, o1 + k, none⟩ = some (.int .i64 (x : Int)) := by simpa using hc1 0 _ rfl
      have hkl : (k : Int) < (a.length : Int) := by omega
      have hxb := hH.out.1 x (List.mem_of_getElem? hx)
      have hta := Lib.hid (show valG (a.take (k + 1)) = valG (a.take k) + 10000 ^ k * x by rw [show a.take (k + 1) = a.take k ++ [x] by rw [List.take_add_one, hx]; rfl, valG_snoc, show (a.take k).length = k by rw [List.length_take]; omega])
      have a9 : IntKind.i64.wrap ((k : Int) + 1) = (k : Int) + 1 := IntWalk.i64_in _ (by omega)
      obtain ⟨s1, hs1⟩ : ∃ s1, s1 = (x : Int) - (u : Int) := ⟨_, rfl⟩
      have a1 : IntKind.i64.wrap ((x : Int) - (u : Int)) = s1 := by rw [IntWalk.i64_in _ (by omega)]; omega
      clear hx hc1
      by_cases hkb : k < b.length
      · obtain ⟨y, hy⟩ : ∃ y, b[k]? = some y := ⟨_, List.getElem?_eq_getElem hkb⟩
        obtain ⟨b2, o2, rfl, hb2, hc2⟩ := (hRH.out.2.below hbr) k [.int .i64 (y : Int)] (by rw [List.getElem?_map, hy]; rfl)
        have hk2 : wr.cell? ⟨b2, o2 + k, none⟩ = some (.int .i64 (y : Int)) := by simpa using hc2 0 _ rfl
        have hkbl : (k : Int) < (b.length : Int) := by omega
        have hyb := hH.out.2.1 y (List.mem_of_getElem? hy)
        have htb := Lib.hid (show valG (b.take (k + 1)) = valG (b.take k) + 10000 ^ k * y by rw [show b.take (k + 1) = b.take k ++ [y] by rw [List.take_add_one, hy]; rfl, valG_snoc, show (b.take k).length = k by rw [List.length_take]; omega])
        clear hy hc2
        obtain ⟨s2, hs2⟩ : ∃ s2, s2 = s1 - (y : Int) := ⟨_, rfl⟩
        by_cases hng : s2 < 0
        · skip
          have a2 : IntKind.i64.wrap (s1 - (y : Int)) = s2 := by rw [IntWalk.i64_in _ (by omega)]; omega
          obtain ⟨d, hd⟩ : ∃ d : Nat, (d : Int) = s2 + 10000 := ⟨(s2 + 10000).toNat, by omega⟩
          have a3 : IntKind.i64.wrap (s2 + 10000) = (d : Int) := by rw [IntWalk.i64_in _ (by omega)]; omega
          have hst := Lib.hid (less_step _ _ _ _ y u d 1 x hval.out htb.out hta.out hol'.out (by omega))
          have hdb : d < 10000 := by omega
          clear hd hs1 hs2 hval
          go_wp2_with (at_builtin; refine wpList_append_own_at _ rfl _ _ 103 rfl w.heap.size 3 i0 (.int .i64 0) 1 8 Tryz.underlying103 hi hz0 hz1 hz2 rfl (by decide) _ _ _ rfl (hown.alloc _) ⟨wr.heap.size, 0, none⟩ 1 1 [.int .i64 (d : Int)] rfl rfl (cell_one_new _ _ _) (by simp [Value.oneCell']) (by unfold maxLen; omega) (by omega) (by simp; omega) ?_; intro v' w1 hown1 hgrow1 hnil1 hloc1)
          go_roundw
          case rel =>
            refine ⟨k + 1, 1, outs ++ [d], by omega, by go_num, by first | rfl | trivial, by omega, by rw [List.length_append, hol'.out]; rfl, Lib.hid ?_, Lib.hid ?_, ?_, ?_⟩
            · intro z hz
              rcases List.mem_append.1 hz with h | h
              · exact hdig.out z h
              · simp at h; omega
            · exact hst.out
            · rw [List.map_append]; exact hown1
            · refine (hbr.alloc hzr _).grown hgrow1 (by simp; omega) (fun j hj => ?_)
              exact (hown.lt j hj).1
          case measure => simp [intOf]; omega
        · skip
          have a2 : IntKind.i64.wrap (s1 - (y : Int)) = s2 := by rw [IntWalk.i64_in _ (by omega)]; omega
          obtain ⟨d, hd⟩ : ∃ d : Nat, s2 = (d : Int) := ⟨(s2).toNat, by omega⟩
          have hst := Lib.hid (less_step _ _ _ _ y u d 0 x hval.out htb.out hta.out hol'.out (by omega))
          have hdb : d < 10000 := by omega
          have hdn : ¬ ((d : Int) < 0) := by omega
          rw [hd] at a2
          clear hd hs1 hs2 hval hng
          go_wp2_with (at_builtin; refine wpList_append_own_at _ rfl _ _ 103 rfl w.heap.size 3 i0 (.int .i64 0) 1 8 Tryz.underlying103 hi hz0 hz1 hz2 rfl (by decide) _ _ _ rfl (hown.alloc _) ⟨wr.heap.size, 0, none⟩ 1 1 [.int .i64 (d : Int)] rfl rfl (cell_one_new _ _ _) (by simp [Value.oneCell']) (by unfold maxLen; omega) (by omega) (by simp; omega) ?_; intro v' w1 hown1 hgrow1 hnil1 hloc1)
          go_roundw
          case rel =>
            refine ⟨k + 1, 0, outs ++ [d], by omega, by go_num, by first | rfl | trivial, by omega, by rw [List.length_append, hol'.out]; rfl, Lib.hid ?_, Lib.hid ?_, ?_, ?_⟩
            · intro z hz
              rcases List.mem_append.1 hz with h | h
              · exact hdig.out z h
              · simp at h; omega
            · exact hst.out
            · rw [List.map_append]; exact hown1
            · refine (hbr.alloc hzr _).grown hgrow1 (by simp; omega) (fun j hj => ?_)
              exact (hown.lt j hj).1
          case measure => simp [intOf]; omega
      · have hkbl : ¬ ((k : Int) < (b.length : Int)) := by omega
        have htb := Lib.hid (show valG (b.take (k + 1)) = valG (b.take k) + 10000 ^ k * 0 by rw [List.take_of_length_le (by omega), List.take_of_length_le (by omega)]; simp)
        have hs2 : True := trivial
        by_cases hng : s1 < 0
        · skip
          obtain ⟨d, hd⟩ : ∃ d : Nat, (d : Int) = s1 + 10000 := ⟨(s1 + 10000).toNat, by omega⟩
          have a3 : IntKind.i64.wrap (s1 + 10000) = (d : Int) := by rw [IntWalk.i64_in _ (by omega)]; omega
          have hst := Lib.hid (less_step _ _ _ _ 0 u d 1 x hval.out htb.out hta.out hol'.out (by omega))
          have hdb : d < 10000 := by omega
          clear hd hs1 hs2 hval
          go_wp2_with (at_builtin; refine wpList_append_own_at _ rfl _ _ 103 rfl w.heap.size 3 i0 (.int .i64 0) 1 8 Tryz.underlying103 hi hz0 hz1 hz2 rfl (by decide) _ _ _ rfl (hown.alloc _) ⟨wr.heap.size, 0, none⟩ 1 1 [.int .i64 (d : Int)] rfl rfl (cell_one_new _ _ _) (by simp [Value.oneCell']) (by unfold maxLen; omega) (by omega) (by simp; omega) ?_; intro v' w1 hown1 hgrow1 hnil1 hloc1)
          go_roundw
          case rel =>
            refine ⟨k + 1, 1, outs ++ [d], by omega, by go_num, by first | rfl | trivial, by omega, by rw [List.length_append, hol'.out]; rfl, Lib.hid ?_, Lib.hid ?_, ?_, ?_⟩
            · intro z hz
              rcases List.mem_append.1 hz with h | h
              · exact hdig.out z h
              · simp at h; omega
            · exact hst.out
            · rw [List.map_append]; exact hown1
            · refine (hbr.alloc hzr _).grown hgrow1 (by simp; omega) (fun j hj => ?_)
              exact (hown.lt j hj).1
          case measure => simp [intOf]; omega
        · skip
          obtain ⟨d, hd⟩ : ∃ d : Nat, s1 = (d : Int) := ⟨(s1).toNat, by omega⟩
          have hst := Lib.hid (less_step _ _ _ _ 0 u d 0 x hval.out htb.out hta.out hol'.out (by omega))
          have hdb : d < 10000 := by omega
          have hdn : ¬ ((d : Int) < 0) := by omega
          rw [hd] at a1
          clear hd hs1 hs2 hval hng
          go_wp2_with (at_builtin; refine wpList_append_own_at _ rfl _ _ 103 rfl w.heap.size 3 i0 (.int .i64 0) 1 8 Tryz.underlying103 hi hz0 hz1 hz2 rfl (by decide) _ _ _ rfl (hown.alloc _) ⟨wr.heap.size, 0, none⟩ 1 1 [.int .i64 (d : Int)] rfl rfl (cell_one_new _ _ _) (by simp [Value.oneCell']) (by unfold maxLen; omega) (by omega) (by simp; omega) ?_; intro v' w1 hown1 hgrow1 hnil1 hloc1)
          go_roundw
          case rel =>
            refine ⟨k + 1, 0, outs ++ [d], by omega, by go_num, by first | rfl | trivial, by omega, by rw [List.length_append, hol'.out]; rfl, Lib.hid ?_, Lib.hid ?_, ?_, ?_⟩
            · intro z hz
              rcases List.mem_append.1 hz with h | h
              · exact hdig.out z h
              · simp at h; omega
            · exact hst.out
            · rw [List.map_append]; exact hown1
            · refine (hbr.alloc hzr _).grown hgrow1 (by simp; omega) (fun j hj => ?_)
              exact (hown.lt j hj).1
          case measure => simp [intOf]; omega
    · obtain rfl : a.length = k := by omega
      have hkl : ¬ ((a.length : Int) < (a.length : Int)) := by omega
      have hv := hval.out
      rw [List.take_length] at hv
      have hend := Lib.hid (less_end a b outs u hH.out.2.2.1 hH.out.1 hdig.out hol'.out hu hH.out.2.2.2 hv)
      have hown' := hown
      rw [← hol'.out] at hown'
      have hownR := Lib.hid hown'
      clear hown' hown hv
      go_wp2_with fail
      with_reducible refine (cut_any w.heap.size outs (by rw [hol'.out]; exact hlen) wr _ hownR.out).mono ?_
      rintro e w3 ⟨rfl, u, l', rfl, ho, hv, hc, hl, hm⟩
      have hoH := Lib.hid (And.intro ho (And.intro hv (And.intro hc (And.intro hl hm))))
      clear ho hv hc hl hm
      go_wp2
      go_ret
      exact ⟨_, l', rfl, ⟨hoH.out.1, fun d hd => hdig.out d (hoH.out.2.2.2.2 d hd), hbr, hzr⟩, by rw [hoH.out.2.1]; exact hend.out, hoH.out.2.2.1, by rw [← hol'.out]; exact hoH.out.2.2.2.1⟩
end Go.Proofs.YthobaffgllipfaaGreat
