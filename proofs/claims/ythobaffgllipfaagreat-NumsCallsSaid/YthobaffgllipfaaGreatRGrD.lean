/-
  The document's great numbers: product.
-/
import Derived.Test.YthobaffgllipfaaGreatRows
import Derived.Test.YthobaffgllipfaaGreatBase
import Derived.Test.YthobaffgllipfaaGreatMg3
import Derived.Test.YthobaffgllipfaaGreatMg36
import Derived.WalkSpells
import Derived.WalkLawsBesides
import Derived.StillTactics
import Derived.Laws.Pointers
import Derived.Deep.RegionHeld3
import Derived.Deep.QuietTactic
import Derived.BigQuiet
import Derived.RowKit3
import Derived.Lib.Hide
import Derived.Lib.OthersKept
import Derived.OwnWalk
import Derived.Lib.IndexLaws
import Derived.Lib.ItoaMem
import Derived.WalkKit
import Derived.ProofKit
import Derived.OpenShut
import Derived.Carry
import Derived.ChangeSame
import Derived.Deep.Draws
import Derived.Maps.AppendAt
namespace Go.Proofs.YthobaffgllipfaaGreat
open Go.RowKit

theorem valG_set : ∀ (r : List Nat) (j d q : Nat), r[j]? = some d → valG (r.set j q) + 10000 ^ j * d = valG r + 10000 ^ j * q
  | [], j, d, q, h => by simp at h
  | x :: r, 0, d, q, h => by
    simp at h
    simp only [List.set_cons_zero, valG]
    omega
  | x :: r, j + 1, d, q, h => by
    have ih := valG_set r j d q (by simpa using h)
    simp only [List.set_cons_succ, valG, Nat.pow_succ]
    rw [Nat.mul_comm (10000 ^ j) 10000, Nat.mul_assoc, Nat.mul_assoc]
    omega
theorem prod_step (vr vs p o c x y t q o' A : Nat) (h : vr + p * o = A) (hs : vs + p * c = vr + p * q) (ht : t = o + c + x * y) (hq : q = t % 10000) (ho : o' = t / 10000) : vs + p * 10000 * o' = A + p * (x * y) := by
  have e : t = q + 10000 * o' := by omega
  have e2 : p * t = p * q + p * 10000 * o' := by rw [e, Nat.mul_add, Nat.mul_assoc]
  rw [ht, Nat.mul_add, Nat.mul_add] at e2
  omega
theorem prod_val (vs o' A0 x y vk i k j : Nat) (hj : j = i + k) (h : vs + 10000 ^ j * 10000 * o' = A0 + 10000 ^ i * x * vk + 10000 ^ j * (x * y)) : vs + 10000 ^ (i + (k + 1)) * o' = A0 + 10000 ^ i * x * (vk + 10000 ^ k * y) := by
  have e1 : 10000 ^ (i + (k + 1)) = 10000 ^ j * 10000 := by rw [hj, ← Nat.add_assoc, Nat.pow_succ]
  have e2 : 10000 ^ i * x * (10000 ^ k * y) = 10000 ^ j * (x * y) := by
    rw [hj, Nat.pow_add]
    obtain ⟨p, hp⟩ : ∃ p, 10000 ^ i = p := ⟨_, rfl⟩
    obtain ⟨q, hq⟩ : ∃ q, 10000 ^ k = q := ⟨_, rfl⟩
    rw [hp, hq]
    ac_rfl
  rw [e1, Nat.mul_add, e2, h, Nat.add_assoc]
theorem prod_next (vr A ai vb p : Nat) (h : vr = A * vb + p * ai * vb) : vr = (A + p * ai) * vb := by rw [Nat.add_mul]; exact h
set_option maxRecDepth 100000 in
set_option maxHeartbeats 4000000 in
theorem product_any (a b : List Nat) (ha : ∀ d ∈ a, d < 10000) (hb : ∀ d ∈ b, d < 10000) (hlen : a.length + b.length ≤ 1000000) (w : World) (A A' : Option Addr) (cap cap' : Nat) (hR : RdB w w.heap.size A 1 (a.map fun (d : Nat) => [Value.int .i64 (d : Int)])) (hR' : RdB w w.heap.size A' 1 (b.map fun (d : Nat) => [Value.int .i64 (d : Int)])) : Calls Tryz.prog 98 #[.slice A a.length cap, .slice A' b.length cap'] w (GreatAt (valG a * valG b) (a.length + b.length) w) := by
  obtain ⟨i0, hi, hz0, hz1, hz2⟩ := info_parts int_info
  have hH := Lib.hid (And.intro ha hb)
  have hRH := Lib.hid (And.intro hR hR')
  clear ha hb hR hR'
  obtain ⟨L, hL⟩ : ∃ L, L = a.length + b.length := ⟨_, rfl⟩
  have eL : IntKind.i64.wrap ((a.length : Int) + (b.length : Int)) = (L : Int) := by rw [IntWalk.i64_in _ (by omega)]; omega
  have hLb : L ≤ 1000000 := by omega
  have hLH := Lib.hid hL
  clear hL
  go_enter Tryz.func98, Tryz.ntmps98
  go_wp2_with (at_make; refine wpList_make_full _ rfl _ _ 103 rfl w.heap.size 3 i0 (.int .i64 0) 1 Tryz.underlying103 hi hz0 hz1 .i64 .i64 _ _ L rfl rfl rfl rfl (by rw [hz2]; omega) (by unfold maxLen; omega) (Nat.le_refl _) ?_; intro w1 hown1 hgrow1)
  have hb1 : Below w.heap.size w w1 := (Below.refl _ _).grown hgrow1 (Nat.le_refl _) (fun k e => by cases e)
  have hg1 : w.heap.size < w1.heap.size := (hown1.lt w.heap.size rfl).2
  rw [show (Value.int .i64 0).cells = #[.int .i64 0] from rfl, Nat.mul_one, toList_madeCells_one] at hown1
  have hownH := Lib.hid hown1
  have hbH := Lib.hid (And.intro hb1 hg1)
  clear hown1 hb1 hg1 hgrow1 hz0 hz1 hz2 hi
  go_loopw [6] (fun iv wr => ∃ (i : Nat) (r : List Nat), i ≤ a.length ∧ iv = .int .i64 (i : Int) ∧ Hid (r.length = L) ∧ Hid (∀ d ∈ r, d < 10000) ∧ Hid (∀ j d, i + b.length ≤ j → r[j]? = some d → d = 0) ∧ Hid (valG r = valG (a.take i) * valG b) ∧ wr.ownsRow w.heap.size 3 1 (.slice (some ⟨w.heap.size, 0, none⟩) L L) L (r.map fun (n : Nat) => Value.int .i64 (n : Int)) ∧ Below w.heap.size w wr ∧ w.heap.size < wr.heap.size) (fun iv _ => a.length - (intOf iv).toNat)
  case atStart =>
    refine ⟨0, List.replicate L 0, Nat.zero_le _, rfl, Lib.hid (by simp), Lib.hid (by intro d hd; rw [List.eq_of_mem_replicate hd]; decide), Lib.hid (by intro j d _ h; rw [List.getElem?_replicate] at h; split at h <;> simp at h; exact h.symm), Lib.hid ?_, by rw [List.map_replicate]; exact hownH.out, hbH.out.1, hbH.out.2⟩
    rw [valG_all0 _ (fun d hd => List.eq_of_mem_replicate hd)]; simp [valG]
  case round =>
    obtain ⟨i, r, hia, rfl, hrl, hdig, hzero, hval, hown, hbr, hgr⟩ := hrel
    have hzr := hbr.size
    by_cases hlt : i < a.length
    · obtain ⟨x, hx⟩ : ∃ x, a[i]? = some x := ⟨_, List.getElem?_eq_getElem hlt⟩
      have hil : (i : Int) < (a.length : Int) := by omega
      have hxb := hH.out.1 x (List.mem_of_getElem? hx)
      have hxH := Lib.hid hx
      have hownR := Lib.hid hown
      clear hx hownH hbH hown
      go_wp2
      go_loopw [7, 8] (fun ov kv wq => ∃ (k o : Nat) (r : List Nat), k ≤ b.length ∧ kv = .int .i64 (k : Int) ∧ ov = .int .i64 (o : Int) ∧ o < 10000 ∧ Hid (r.length = L) ∧ Hid (∀ d ∈ r, d < 10000) ∧ Hid (∀ j d, i + b.length ≤ j → r[j]? = some d → d = 0) ∧ Hid (valG r + 10000 ^ (i + k) * o = valG (a.take i) * valG b + 10000 ^ i * x * valG (b.take k)) ∧ wq.ownsRow w.heap.size 3 1 (.slice (some ⟨w.heap.size, 0, none⟩) L L) L (r.map fun (n : Nat) => Value.int .i64 (n : Int)) ∧ Below w.heap.size w wq ∧ w.heap.size < wq.heap.size) (fun _ kv _ => b.length - (intOf kv).toNat)
      case atStart => exact ⟨0, 0, r, Nat.zero_le _, rfl, rfl, by decide, hrl, hdig, hzero, Lib.hid (by rw [hval.out]; simp [valG]), hownR.out, hbr, hgr⟩
      case round =>
        obtain ⟨k, o, r, hkb, rfl, rfl, hob, hrl, hdig, hzero, hval, hown, hbr, hgr⟩ := hrel
        have hzr := hbr.size
        obtain ⟨b1, o1, rfl, hb1, hc1⟩ := (hRH.out.1.below hbr) i [.int .i64 (x : Int)] (by rw [List.getElem?_map, hxH.out]; rfl)
        by_cases hlk : k < b.length
        · obtain ⟨y, hy⟩ : ∃ y, b[k]? = some y := ⟨_, List.getElem?_eq_getElem hlk⟩
          obtain ⟨j, hj⟩ : ∃ j, j = i + k := ⟨_, rfl⟩
          have hjL : j < L := by have := hLH.out; omega
          obtain ⟨c, hc⟩ : ∃ c, r[j]? = some c := ⟨_, List.getElem?_eq_getElem (by rw [hrl.out]; exact hjL)⟩
          obtain ⟨b2, o2, rfl, hb2, hc2⟩ := (hRH.out.2.below hbr) k [.int .i64 (y : Int)] (by rw [List.getElem?_map, hy]; rfl)
          have hk1 : wr.cell? ⟨b1, o1 + i, none⟩ = some (.int .i64 (x : Int)) := by simpa using hc1 0 _ rfl
          have hk2 : wr.cell? ⟨b2, o2 + k, none⟩ = some (.int .i64 (y : Int)) := by simpa using hc2 0 _ rfl
          have hcA := (hown.cellAt j (by omega)).trans (show _ = some (Value.int .i64 (c : Int)) by rw [List.getElem?_map, hc]; rfl)
          have hfA := hown.frozenAt j
          have hkl : (k : Int) < (b.length : Int) := by omega
          have hjl : (j : Int) < (L : Int) := by omega
          have hyb := hH.out.2 y (List.mem_of_getElem? hy)
          have hcb := hdig.out c (List.mem_of_getElem? hc)
          obtain ⟨p, hp⟩ : ∃ p, p = x * y := ⟨_, rfl⟩
          have hpb : p ≤ 9999 * 9999 := by rw [hp]; exact Nat.mul_le_mul (by omega) (by omega)
          obtain ⟨t1, ht1⟩ : ∃ t1, t1 = o + c := ⟨_, rfl⟩
          obtain ⟨t, ht⟩ : ∃ t, t = t1 + p := ⟨_, rfl⟩
          obtain ⟨q, hq⟩ : ∃ q, q = t % 10000 := ⟨_, rfl⟩
          obtain ⟨o', ho'⟩ : ∃ o', o' = t / 10000 := ⟨_, rfl⟩
          have a1 : IntKind.i64.wrap ((i : Int) + (k : Int)) = (j : Int) := by rw [IntWalk.i64_in _ (by omega)]; omega
          have a2 : IntKind.i64.wrap ((x : Int) * (y : Int)) = (p : Int) := by
            have e : (x : Int) * (y : Int) = (p : Int) := by rw [hp]; exact (Int.natCast_mul x y).symm
            rw [e]; exact IntWalk.i64_in _ (by omega)
          have a3 : IntKind.i64.wrap ((o : Int) + (c : Int)) = (t1 : Int) := by rw [IntWalk.i64_in _ (by omega)]; omega
          have a4 : IntKind.i64.wrap ((t1 : Int) + (p : Int)) = (t : Int) := by rw [IntWalk.i64_in _ (by omega)]; omega
          have a5 : (t : Int) % 10000 = (q : Int) := by omega
          have a6 : (t : Int) / 10000 = (o' : Int) := by omega
          have a7 : IntKind.i64.wrap (q : Int) = (q : Int) := IntWalk.i64_in _ (by omega)
          have a8 : IntKind.i64.wrap (o' : Int) = (o' : Int) := IntWalk.i64_in _ (by omega)
          have a9 : IntKind.i64.wrap ((k : Int) + 1) = (k : Int) + 1 := IntWalk.i64_in _ (by omega)
          have hob' : o' < 10000 := by omega
          have hqb : q < 10000 := by omega
          have hst := Lib.hid (prod_step _ (valG (r.set j q)) (10000 ^ j) o c x y t q o' (valG (a.take i) * valG b + 10000 ^ i * x * valG (b.take k)) (by rw [hj]; exact hval.out) (valG_set r j c q hc) (by omega) hq ho')
          have hyH := Lib.hid (And.intro hy (And.intro hc (And.intro hj hp)))
          have hownH2 := Lib.hid hown
          clear hy hc hj hp ht1 ht hq ho' hpb hc1 hc2 hval hown
          go_wp2
          go_quiet (fail)
          go_wp2
          go_roundw
          case rel =>
            refine ⟨k + 1, o', r.set j q, by omega, by go_num, rfl, hob', Lib.hid (by rw [List.length_set]; exact hrl.out), Lib.hid ?_, Lib.hid ?_, Lib.hid ?_, ?_, ?_, ?_⟩
            · intro d hd
              rcases List.mem_or_eq_of_mem_set hd with h | h
              · exact hdig.out d h
              · rw [h]; exact hqb
            · intro j' d hj' h
              rw [List.getElem?_set_ne (by have := hyH.out.2.2.1; omega)] at h
              exact hzero.out j' d hj' h
            · rw [show b.take (k + 1) = b.take k ++ [y] by rw [List.take_add_one, hyH.out.1]; rfl, valG_snoc, show (b.take k).length = k by rw [List.length_take]; omega]
              exact prod_val _ _ _ _ _ _ _ _ _ hyH.out.2.2.1 hst.out
            · rw [List.map_set]; exact ((ownsRow_below hownH2.out (below_drewN (Below.refl _ _) _)).stored j _).1
            · exact (below_drewN hbr _).setCell (Nat.le_refl _) _
            · simp; omega
          case measure => simp [intOf]; omega
        · obtain rfl : b.length = k := by omega
          have hkl : ¬ ((b.length : Int) < (b.length : Int)) := by omega
          obtain ⟨m, hm⟩ : ∃ m, m = i + b.length := ⟨_, rfl⟩
          have hmL : m < L := by have := hLH.out; omega
          obtain ⟨c, hc⟩ : ∃ c, r[m]? = some c := ⟨_, List.getElem?_eq_getElem (by rw [hrl.out]; exact hmL)⟩
          obtain rfl : c = 0 := hzero.out m c (by omega) hc
          have hcA := (hown.cellAt m (by omega)).trans (show _ = some (Value.int .i64 ((0 : Nat) : Int)) by rw [List.getElem?_map, hc]; rfl)
          have hfA := hown.frozenAt m
          have hml : (m : Int) < (L : Int) := by omega
          have a1 : IntKind.i64.wrap ((i : Int) + (b.length : Int)) = (m : Int) := by rw [IntWalk.i64_in _ (by omega)]; omega
          have a9 : IntKind.i64.wrap ((i : Int) + 1) = (i : Int) + 1 := IntWalk.i64_in _ (by omega)
          have hcH := Lib.hid (And.intro hc hm)
          have hownH2 := Lib.hid hown
          clear hc hm hc1 hown
          go_wp2
          go_roundw
          case rel =>
            refine ⟨i + 1, r.set m o, by omega, by go_num, Lib.hid (by rw [List.length_set]; exact hrl.out), Lib.hid ?_, Lib.hid ?_, Lib.hid ?_, ?_, ?_, ?_⟩
            · intro d hd
              rcases List.mem_or_eq_of_mem_set hd with h | h
              · exact hdig.out d h
              · rw [h]; exact hob
            · intro j' d hj' h
              rw [List.getElem?_set_ne (by have := hcH.out.2; omega)] at h
              exact hzero.out j' d (by omega) h
            · rw [show a.take (i + 1) = a.take i ++ [x] by rw [List.take_add_one, hxH.out]; rfl, valG_snoc, show (a.take i).length = i by rw [List.length_take]; omega]
              refine prod_next _ _ _ _ _ ?_
              have e := valG_set r m 0 o hcH.out.1
              have e2 := hval.out
              rw [List.take_length, ← hcH.out.2] at e2
              rw [← e2]; exact e
            · rw [List.map_set]; exact (hownH2.out.stored m _).1
            · exact hbr.setCell (Nat.le_refl _) _
            · simp; omega
          case measure => simp [intOf]; omega
    · obtain rfl : a.length = i := by omega
      have hil : ¬ ((a.length : Int) < (a.length : Int)) := by omega
      have hown' : wr.ownsRow w.heap.size 3 1 (.slice (some ⟨w.heap.size, 0, none⟩) L L) r.length (r.map fun (n : Nat) => Value.int .i64 (n : Int)) := by rw [hrl.out]; exact hown
      have hv := hval.out
      rw [List.take_length] at hv
      have hvH := Lib.hid hv
      have hownR := Lib.hid hown'
      clear hown' hown hv hownH hbH
      go_wp2_with fail
      with_reducible refine (cut_any w.heap.size r (by rw [hrl.out]; exact hLb) wr _ hownR.out).mono ?_
      rintro e w3 ⟨rfl, u, l', rfl, ho, hv, hc, hl, hm⟩
      have hoH := Lib.hid (And.intro ho (And.intro hv (And.intro hc (And.intro hl hm))))
      clear ho hv hc hl hm
      go_wp2
      go_ret
      exact ⟨_, l', rfl, ⟨hoH.out.1, fun d hd => hdig.out d (hoH.out.2.2.2.2 d hd), hbr, hzr⟩, by rw [hoH.out.2.1]; exact hvH.out, hoH.out.2.2.1, by rw [← hLH.out, ← hrl.out]; exact hoH.out.2.2.2.1⟩
end Go.Proofs.YthobaffgllipfaaGreat
