/-
  The document's great numbers: less.
-/
import Derived.Test.YtjnjklcnccfgaaaDoorRGrF
import Derived.Maps.AppendAt
import Derived.WalkSpells
import Derived.WalkLawsBesides
import Derived.StillTactics
import Derived.Laws.Pointers
import Derived.Deep.RegionHeld3
import Derived.Deep.QuietTactic
import Derived.BigQuiet
import Derived.RowKit3
import Derived.Lib.Hide
import Derived.Lib.OthersKept
import Derived.OwnWalk
import Derived.Lib.IndexLaws
import Derived.Lib.ItoaMem
namespace Go.Proofs.YtjnjklcnccfgaaaDoor
open Go.RowKit

theorem less_step {A B : Nat} (outs : List Nat) (ta' tb' : Nat) (k y u d u' x : Nat) (h : valG outs + B = A + 10000 ^ k * u) (hb : tb' = B + 10000 ^ k * y) (ha : ta' = A + 10000 ^ k * x) (hl : outs.length = k) (hd : d + y + u = x + 10000 * u') : valG (outs ++ [d]) + tb' = ta' + 10000 ^ (k + 1) * u' := by
  rw [valG_snoc, hl, hb, ha, Nat.pow_succ]
  obtain ⟨p, hp⟩ : ∃ p, 10000 ^ k = p := ⟨_, rfl⟩
  rw [hp] at h ⊢
  have e : p * (d + y + u) = p * x + p * 10000 * u' := by rw [hd, Nat.mul_add, Nat.mul_assoc]
  rw [Nat.mul_add, Nat.mul_add] at e
  omega
theorem less_end (a b outs : List Nat) (u : Nat) (hcb : CanG b) (hda : ∀ d ∈ a, d < 10000) (hdo : ∀ d ∈ outs, d < 10000) (hl : outs.length = a.length) (hu : u ≤ 1) (hle : valG b ≤ valG a) (h : valG outs + valG (b.take a.length) = valG a + 10000 ^ a.length * u) : valG outs = valG a - valG b := by
  have hbl : b.length ≤ a.length := by
    rcases Nat.lt_or_ge a.length b.length with h | h
    · have := below_len a b hda hcb h; omega
    · exact h
  rw [List.take_of_length_le hbl] at h
  have h2 := valG_lt outs hdo
  rw [hl] at h2
  rcases (show u = 0 ∨ u = 1 by omega) with rfl | rfl
  · omega
  · omega
set_option maxRecDepth 100000 in
set_option maxHeartbeats 4000000 in
theorem less_any (a b : List Nat) (ha : ∀ d ∈ a, d < 10000) (hb : ∀ d ∈ b, d < 10000) (cb : CanG b) (hle : valG b ≤ valG a) (hlen : a.length ≤ 1000000) (w : World) (A A' : Option Addr) (cap cap' : Nat) (hR : RdB w w.heap.size A 1 (a.map fun (d : Nat) => [Value.int .i64 (d : Int)])) (hR' : RdB w w.heap.size A' 1 (b.map fun (d : Nat) => [Value.int .i64 (d : Int)])) : Calls Tryd.prog 126 #[.slice A a.length cap, .slice A' b.length cap'] w (GreatAt (valG a - valG b) a.length w) := by
  obtain ⟨i0, hi, hz0, hz1, hz2⟩ := info_parts int_info
  have hH := Lib.hid (And.intro ha (And.intro hb (And.intro cb hle)))
  have hRH := Lib.hid (And.intro hR hR')
  clear ha hb cb hle hR hR'
  go_enter Tryd.func126, Tryd.ntmps126
  go_wp2
  go_loopw [5, 6, 7] (fun ov uv iv wr => ∃ (k u : Nat) (outs : List Nat), k ≤ a.length ∧ iv = .int .i64 (k : Int) ∧ uv = .int .i64 (u : Int) ∧ u ≤ 1 ∧ outs.length = k ∧ Hid (∀ d ∈ outs, d < 10000) ∧ Hid (valG outs + valG (b.take k) = valG (a.take k) + 10000 ^ k * u) ∧ wr.ownsRow w.heap.size 3 1 ov k (outs.map fun (n : Nat) => Value.int .i64 (n : Int)) ∧ Below w.heap.size w wr) (fun _ _ iv _ => a.length - (intOf iv).toNat)
  case atStart => exact ⟨0, 0, [], Nat.zero_le _, rfl, rfl, by decide, rfl, Lib.hid (by simp), Lib.hid (by simp [valG]), World.ownsRow_nil _ _ _ _, Below.refl _ _⟩
  case round =>
    obtain ⟨k, u, outs, hk, rfl, rfl, hu, hol, hdig, hval, hown, hbr⟩ := hrel
    have hzr := hbr.size
    have hol' := Lib.hid hol
    clear hol
    by_cases hlt : k < a.length
    · obtain ⟨x, hx⟩ : ∃ x, a[k]? = some x := ⟨_, List.getElem?_eq_getElem hlt⟩
      obtain ⟨b1, o1, rfl, hb1, hc1⟩ := (hRH.out.1.below hbr) k [.int .i64 (x : Int)] (by rw [List.getElem?_map, hx]; rfl)
      have hk1 : wr.cell? ⟨b1, o1 + k, none⟩ = some (.int .i64 (x : Int)) := by simpa using hc1 0 _ rfl
      have hkl : (k : Int) < (a.length : Int) := by omega
      have hxb := hH.out.1 x (List.mem_of_getElem? hx)
      have hta := Lib.hid (show valG (a.take (k + 1)) = valG (a.take k) + 10000 ^ k * x by rw [show a.take (k + 1) = a.take k ++ [x] by rw [List.take_add_one, hx]; rfl, valG_snoc, show (a.take k).length = k by rw [List.length_take]; omega])
      have a9 : IntKind.i64.wrap ((k : Int) + 1) = (k : Int) + 1 := IntWalk.i64_in _ (by omega)
      obtain ⟨s1, hs1⟩ : ∃ s1, s1 = (x : Int) - (u : Int) := ⟨_, rfl⟩
      have a1 : IntKind.i64.wrap ((x : Int) - (u : Int)) = s1 := by rw [IntWalk.i64_in _ (by omega)]; omega
      clear hx hc1
      by_cases hkb : k < b.length
      · obtain ⟨y, hy⟩ : ∃ y, b[k]? = some y := ⟨_, List.getElem?_eq_getElem hkb⟩
        obtain ⟨b2, o2, rfl, hb2, hc2⟩ := (hRH.out.2.below hbr) k [.int .i64 (y : Int)] (by rw [List.getElem?_map, hy]; rfl)
        have hk2 : wr.cell? ⟨b2, o2 + k, none⟩ = some (.int .i64 (y : Int)) := by simpa using hc2 0 _ rfl
        have hkbl : (k : Int) < (b.length : Int) := by omega
        have hyb := hH.out.2.1 y (List.mem_of_getElem? hy)
        have htb := Lib.hid (show valG (b.take (k + 1)) = valG (b.take k) + 10000 ^ k * y by rw [show b.take (k + 1) = b.take k ++ [y] by rw [List.take_add_one, hy]; rfl, valG_snoc, show (b.take k).length = k by rw [List.length_take]; omega])
        clear hy hc2
        obtain ⟨s2, hs2⟩ : ∃ s2, s2 = s1 - (y : Int) := ⟨_, rfl⟩
        by_cases hng : s2 < 0
        · skip
          have a2 : IntKind.i64.wrap (s1 - (y : Int)) = s2 := by rw [IntWalk.i64_in _ (by omega)]; omega
          obtain ⟨d, hd⟩ : ∃ d : Nat, (d : Int) = s2 + 10000 := ⟨(s2 + 10000).toNat, by omega⟩
          have a3 : IntKind.i64.wrap (s2 + 10000) = (d : Int) := by rw [IntWalk.i64_in _ (by omega)]; omega
          have hst := Lib.hid (less_step _ _ _ _ y u d 1 x hval.out htb.out hta.out hol'.out (by omega))
          have hdb : d < 10000 := by omega
          clear hd hs1 hs2 hval
          go_wp2_with (at_builtin; refine wpList_append_own_at _ rfl _ _ 96 rfl w.heap.size 3 i0 (.int .i64 0) 1 8 Tryd.underlying96 hi hz0 hz1 hz2 rfl (by decide) _ _ _ rfl (hown.alloc _) ⟨wr.heap.size, 0, none⟩ 1 1 [.int .i64 (d : Int)] rfl rfl (cell_one_new _ _ _) (by simp [Value.oneCell']) (by unfold maxLen; omega) (by omega) (by simp; omega) ?_; intro v' w1 hown1 hgrow1 hnil1 hloc1)
          go_roundw
          case rel =>
            refine ⟨k + 1, 1, outs ++ [d], by omega, by go_num, by first | rfl | trivial, by omega, by rw [List.length_append, hol'.out]; rfl, Lib.hid ?_, Lib.hid ?_, ?_, ?_⟩
            · intro z hz
              rcases List.mem_append.1 hz with h | h
              · exact hdig.out z h
              · simp at h; omega
            · exact hst.out
            · rw [List.map_append]; exact hown1
            · refine (hbr.alloc hzr _).grown hgrow1 (by simp; omega) (fun j hj => ?_)
              exact (hown.lt j hj).1
          case measure => simp [intOf]; omega
        · skip
          have a2 : IntKind.i64.wrap (s1 - (y : Int)) = s2 := by rw [IntWalk.i64_in _ (by omega)]; omega
          obtain ⟨d, hd⟩ : ∃ d : Nat, s2 = (d : Int) := ⟨(s2).toNat, by omega⟩
          have hst := Lib.hid (less_step _ _ _ _ y u d 0 x hval.out htb.out hta.out hol'.out (by omega))
          have hdb : d < 10000 := by omega
          have hdn : ¬ ((d : Int) < 0) := by omega
          rw [hd] at a2
          clear hd hs1 hs2 hval hng
          go_wp2_with (at_builtin; refine wpList_append_own_at _ rfl _ _ 96 rfl w.heap.size 3 i0 (.int .i64 0) 1 8 Tryd.underlying96 hi hz0 hz1 hz2 rfl (by decide) _ _ _ rfl (hown.alloc _) ⟨wr.heap.size, 0, none⟩ 1 1 [.int .i64 (d : Int)] rfl rfl (cell_one_new _ _ _) (by simp [Value.oneCell']) (by unfold maxLen; omega) (by omega) (by simp; omega) ?_; intro v' w1 hown1 hgrow1 hnil1 hloc1)
          go_roundw
          case rel =>
            refine ⟨k + 1, 0, outs ++ [d], by omega, by go_num, by first | rfl | trivial, by omega, by rw [List.length_append, hol'.out]; rfl, Lib.hid ?_, Lib.hid ?_, ?_, ?_⟩
            · intro z hz
              rcases List.mem_append.1 hz with h | h
              · exact hdig.out z h
              · simp at h; omega
            · exact hst.out
            · rw [List.map_append]; exact hown1
            · refine (hbr.alloc hzr _).grown hgrow1 (by simp; omega) (fun j hj => ?_)
              exact (hown.lt j hj).1
          case measure => simp [intOf]; omega
      · have hkbl : ¬ ((k : Int) < (b.length : Int)) := by omega
        have htb := Lib.hid (show valG (b.take (k + 1)) = valG (b.take k) + 10000 ^ k * 0 by rw [List.take_of_length_le (by omega), List.take_of_length_le (by omega)]; simp)
        have hs2 : True := trivial
        by_cases hng : s1 < 0
        · skip
          obtain ⟨d, hd⟩ : ∃ d : Nat, (d : Int) = s1 + 10000 := ⟨(s1 + 10000).toNat, by omega⟩
          have a3 : IntKind.i64.wrap (s1 + 10000) = (d : Int) := by rw [IntWalk.i64_in _ (by omega)]; omega
          have hst := Lib.hid (less_step _ _ _ _ 0 u d 1 x hval.out htb.out hta.out hol'.out (by omega))
          have hdb : d < 10000 := by omega
          clear hd hs1 hs2 hval
          go_wp2_with (at_builtin; refine wpList_append_own_at _ rfl _ _ 96 rfl w.heap.size 3 i0 (.int .i64 0) 1 8 Tryd.underlying96 hi hz0 hz1 hz2 rfl (by decide) _ _ _ rfl (hown.alloc _) ⟨wr.heap.size, 0, none⟩ 1 1 [.int .i64 (d : Int)] rfl rfl (cell_one_new _ _ _) (by simp [Value.oneCell']) (by unfold maxLen; omega) (by omega) (by simp; omega) ?_; intro v' w1 hown1 hgrow1 hnil1 hloc1)
          go_roundw
          case rel =>
            refine ⟨k + 1, 1, outs ++ [d], by omega, by go_num, by first | rfl | trivial, by omega, by rw [List.length_append, hol'.out]; rfl, Lib.hid ?_, Lib.hid ?_, ?_, ?_⟩
            · intro z hz
              rcases List.mem_append.1 hz with h | h
              · exact hdig.out z h
              · simp at h; omega
            · exact hst.out
            · rw [List.map_append]; exact hown1
            · refine (hbr.alloc hzr _).grown hgrow1 (by simp; omega) (fun j hj => ?_)
              exact (hown.lt j hj).1
          case measure => simp [intOf]; omega
        · skip
          obtain ⟨d, hd⟩ : ∃ d : Nat, s1 = (d : Int) := ⟨(s1).toNat, by omega⟩
          have hst := Lib.hid (less_step _ _ _ _ 0 u d 0 x hval.out htb.out hta.out hol'.out (by omega))
          have hdb : d < 10000 := by omega
          have hdn : ¬ ((d : Int) < 0) := by omega
          rw [hd] at a1
          clear hd hs1 hs2 hval hng
          go_wp2_with (at_builtin; refine wpList_append_own_at _ rfl _ _ 96 rfl w.heap.size 3 i0 (.int .i64 0) 1 8 Tryd.underlying96 hi hz0 hz1 hz2 rfl (by decide) _ _ _ rfl (hown.alloc _) ⟨wr.heap.size, 0, none⟩ 1 1 [.int .i64 (d : Int)] rfl rfl (cell_one_new _ _ _) (by simp [Value.oneCell']) (by unfold maxLen; omega) (by omega) (by simp; omega) ?_; intro v' w1 hown1 hgrow1 hnil1 hloc1)
          go_roundw
          case rel =>
            refine ⟨k + 1, 0, outs ++ [d], by omega, by go_num, by first | rfl | trivial, by omega, by rw [List.length_append, hol'.out]; rfl, Lib.hid ?_, Lib.hid ?_, ?_, ?_⟩
            · intro z hz
              rcases List.mem_append.1 hz with h | h
              · exact hdig.out z h
              · simp at h; omega
            · exact hst.out
            · rw [List.map_append]; exact hown1
            · refine (hbr.alloc hzr _).grown hgrow1 (by simp; omega) (fun j hj => ?_)
              exact (hown.lt j hj).1
          case measure => simp [intOf]; omega
    · obtain rfl : a.length = k := by omega
      have hkl : ¬ ((a.length : Int) < (a.length : Int)) := by omega
      have hv := hval.out
      rw [List.take_length] at hv
      have hend := Lib.hid (less_end a b outs u hH.out.2.2.1 hH.out.1 hdig.out hol'.out hu hH.out.2.2.2 hv)
      have hown' := hown
      rw [← hol'.out] at hown'
      have hownR := Lib.hid hown'
      clear hown' hown hv
      go_wp2_with fail
      with_reducible refine (cut_any w.heap.size outs (by rw [hol'.out]; exact hlen) wr _ hownR.out).mono ?_
      rintro e w3 ⟨rfl, u, l', rfl, ho, hv, hc, hl, hm⟩
      have hoH := Lib.hid (And.intro ho (And.intro hv (And.intro hc (And.intro hl hm))))
      clear ho hv hc hl hm
      go_wp2
      go_ret
      exact ⟨_, l', rfl, ⟨hoH.out.1, fun d hd => hdig.out d (hoH.out.2.2.2.2 d hd), hbr, hzr⟩, by rw [hoH.out.2.1]; exact hend.out, hoH.out.2.2.1, by rw [← hol'.out]; exact hoH.out.2.2.2.1⟩
end Go.Proofs.YtjnjklcnccfgaaaDoor
