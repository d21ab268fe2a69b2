/-
  The document's Power.
-/
import Derived.Test.YthobaffgllipfaaGreatRows
import Derived.Test.YthobaffgllipfaaGreatBase
import Derived.Test.YthobaffgllipfaaGreatMg3
import Derived.Test.YthobaffgllipfaaGreatMg36
import Derived.Test.YthobaffgllipfaaGreatRGrD
import Derived.Test.YthobaffgllipfaaGreatMg38
import Derived.Test.YthobaffgllipfaaGreatMg39
import Derived.Test.YthobaffgllipfaaGreatDecS
import Derived.Test.YthobaffgllipfaaGreatDMod
import Derived.Test.YthobaffgllipfaaGreatDFlo
import Derived.Test.YthobaffgllipfaaGreatProg
import Derived.Test.YthobaffgllipfaaGreatMg12
import Derived.Test.YthobaffgllipfaaGreatDRnd
import Derived.Test.YthobaffgllipfaaGreatMg14
import Derived.Test.YthobaffgllipfaaGreatKnuth
import Derived.Test.YthobaffgllipfaaGreatDDiv
import Derived.Test.YthobaffgllipfaaGreatValA
import Derived.Test.YthobaffgllipfaaGreatMg17
import Derived.Test.YthobaffgllipfaaGreatDPowB
import Derived.Test.YthobaffgllipfaaGreatDPowC
import Derived.Test.YthobaffgllipfaaGreatRQuo
import Derived.WalkSpells
import Derived.WalkLawsBesides
import Derived.StillTactics
import Derived.Laws.Pointers
import Derived.Deep.RegionHeld3
import Derived.Deep.QuietTactic
import Derived.BigQuiet
import Derived.RowKit3
import Derived.Lib.Hide
import Derived.Lib.OthersKept
import Derived.OwnWalk
import Derived.Lib.IndexLaws
import Derived.Lib.ItoaMem
import Derived.WalkKit
import Derived.ProofKit
import Derived.OpenShut
import Derived.Carry
import Derived.ChangeSame
import Derived.Deep.Draws
import Derived.Maps.AppendAt
import Derived.Laws.BitsAllLaws
import Derived.Shelf.Small.Bits
import Derived.Shelf.Strconv.Itoa0
import Derived.Shelf.Bits.Mul64
import Derived.Lib.TrimByte
import Derived.Lib.Bytealg
import Derived.Lib.SlTrimSet
import Derived.Lib.ParseIntB
import Derived.Shelf.Strings.SlTrimAscii
import Derived.Lib.SmallJoins
import Derived.Laws.Externs
import Derived.Laws.AppendOwnNone
namespace Go.Proofs.YthobaffgllipfaaGreat
open Go.RowKit

theorem rdB_nil (w : World) (B : Nat) (A : Option Addr) (k : Nat) : RdB w B A k [] := fun i c h => by simp at h
theorem powH_pos (m k : Nat) (n : Int) (hn : n = (k : Int) + 1) : powH m n = 2 * m ^ (k + 1) / 10000 ^ k := by
  subst hn
  unfold powH
  rw [if_pos (by omega), show ((k : Int) + 1).toNat = k + 1 by omega, Nat.add_sub_cancel]
theorem powH_neg (m k : Nat) (n : Int) (hk : 0 < k) (hn : -n = (k : Int)) : powH m n = 2 * 10000 ^ (k + 1) / m ^ k := by
  unfold powH
  rw [if_neg (by omega), show (-n).toNat = k by omega, Nat.add_comm 1 k]
theorem pow_over (x n : Int) (v : Nat) (hv : v = (powH x.natAbs n + 1) / 2) (h : ¬ v ≤ 9223372036854775807) : exV (powS x n) = 0 ∧ exC (powS x n) = 2 := by
  have h3 : ¬ (-9223372036854775807 ≤ powS x n ∧ powS x n ≤ 9223372036854775807) := by
    unfold powS
    rw [← hv]
    split <;> omega
  rw [exV, exC, if_neg h3, if_neg h3]
  exact ⟨rfl, rfl⟩
theorem pow_none (x n : Int) (h : (powH x.natAbs n + 1) / 2 = 0) : exV (powS x n) = 0 ∧ exC (powS x n) = 0 := by
  have h3 : powS x n = 0 := by unfold powS; rw [h]; split <;> rfl
  rw [h3]
  exact ⟨rfl, rfl⟩
theorem rpow_few (k v : Nat) (l : List Nat) (hd : ∀ d ∈ l, d < 10000) (hv : valG l = v) (hlt : l.length < k) : (2 * v / 10000 ^ k + 1) / 2 = 0 := by
  have h1 := valG_lt l hd
  have h2 : 10000 ^ l.length ≤ 10000 ^ (k - 1) := Nat.pow_le_pow_right (by decide) (by omega)
  have h3 : 10000 ^ k = 10000 ^ (k - 1) * 10000 := by rw [← Nat.pow_succ, show (k - 1).succ = k by omega]
  have h4 : 2 * v / 10000 ^ k = 0 := Nat.div_eq_of_lt (by omega)
  rw [h4]
theorem rpow_cut (k j v x : Nat) (l : List Nat) (hd : ∀ d ∈ l, d < 10000) (hv : valG l = v) (hk : k = j + 1) (hx : l[j]? = some x) : (2 * v / 10000 ^ k + 1) / 2 = if 5000 ≤ x then valG (l.drop k) + 1 else valG (l.drop k) := by
  obtain ⟨h, e⟩ := List.getElem?_eq_some_iff.1 hx
  subst hk hv
  rw [valG_cut l j hd h, e]
theorem canG_drop (l : List Nat) (k : Nat) (h : CanG l) : CanG (l.drop k) := by
  intro d hd
  refine h d ?_
  rcases Nat.lt_or_ge k l.length with h1 | h1
  · rw [← hd, List.getLast?_drop, if_neg (by omega)]
  · rw [List.drop_eq_nil_of_le h1] at hd; simp at hd
/-- a row's rest, read -/
theorem rd_drop {w : World} {B g cap k : Nat} {l : List Nat} (h : w.ownsRow B 3 1 (.slice (some ⟨g, 0, none⟩) l.length cap) l.length (l.map fun (n : Nat) => Value.int .i64 (n : Int))) : RdB w w.heap.size (some ⟨g, k, none⟩) 1 ((((l.drop k).map fun (n : Nat) => Value.int .i64 (n : Int))).map fun u => [u]) := by
  intro i c hi
  rw [List.getElem?_map, List.getElem?_map, List.getElem?_drop] at hi
  obtain ⟨v, hv, rfl⟩ := Option.map_eq_some_iff.1 hi
  obtain ⟨d, hd, rfl⟩ := Option.map_eq_some_iff.1 hv
  obtain ⟨hlt, _⟩ := List.getElem?_eq_some_iff.1 hd
  refine ⟨g, k, rfl, (h.lt g rfl).2, fun j u hu => ?_⟩
  rcases j with _ | j
  · simp at hu
    subst hu
    have := h.cellAt (k + i) (show k + i < l.length * 1 by omega)
    rw [List.getElem?_map, hd] at this
    simpa using this
  · simp at hu
theorem own_block {w : World} {B : Nat} {v : Value} {l : List Nat} (h : w.ownsRow B 3 1 v l.length (l.map fun (n : Nat) => Value.int .i64 (n : Int))) : (v = .slice none 0 0 ∧ l = []) ∨ ∃ g cap, v = .slice (some ⟨g, 0, none⟩) l.length cap ∧ l.length ≤ cap ∧ cap ≤ 9223372036854775807 ∧ g < w.heap.size := by
  rcases h.2 with ⟨h2, h3⟩ | ⟨g, cap, cur, hv, hB, hh, hn, hm, hr⟩
  · exact .inl ⟨h2, List.eq_nil_of_length_eq_zero h3⟩
  · unfold maxLen at hm
    exact .inr ⟨g, cap, hv, hn, hm, (h.lt g (by rw [hv]; rfl)).2⟩
set_option maxRecDepth 100000 in
set_option maxHeartbeats 4000000 in
theorem rpower_neg (x n : Int) (hx : -9223372036854775808 ≤ x ∧ x ≤ 9223372036854775807) (hx1 : x ≠ -9223372036854775808) (hx0 : ¬ x = 0) (hn : n < 0 ∧ -64 ≤ n) (w : World) : Calls Tryz.prog 68 #[.int .i64 x, .int .i64 n] w fun e w' => e = .returned (.tuple #[.int .i64 (exV (powS x n)), .int .i64 (exC (powS x n))]) ∧ Below w.heap.size w w' := by
  have hmay : decMay x = true := by simp [decMay]; omega
  obtain ⟨m, hm⟩ : ∃ m : Nat, m = x.natAbs := ⟨_, rfl⟩
  have hma : absI x = (m : Int) := by unfold absI; split <;> omega
  have hmb : m < 18446744073709551616 := by omega
  have S0 := drmay_any x hx w
  have S1 := rsize_any x hx w
  obtain ⟨low, hlow⟩ : ∃ low, low = decide (x < 0) := ⟨_, rfl⟩
  rw [hma, ← hlow] at S1
  rw [hmay] at S0
  have C1 := Lib.hid (great_any m hmb w)
  obtain ⟨k, hk0⟩ : ∃ k : Nat, -n = (k : Int) := ⟨(-n).toNat, by omega⟩
  obtain ⟨k1, hk1⟩ : ∃ k1 : Nat, k1 = k + 1 := ⟨_, rfl⟩
  have hk : k ≤ 64 := by omega
  have hkp : 0 < k := by omega
  have e1 : ¬ n = 0 := by omega
  have e3 : ¬ (n < -64) := by omega
  have e4 : ¬ (64 < n) := by omega
  have e5 : n < 0 := by omega
  have e6 : IntKind.i64.wrap (1 - n) = (k1 : Int) := by rw [IntWalk.i64_in _ (by omega)]; omega
  have e7 : IntKind.i64.wrap (-n) = (k : Int) := by rw [IntWalk.i64_in _ (by omega)]; omega
  have hk0' := Lib.hid (And.intro hk0 hk1)
  have hk1b : k1 ≤ 65 := by omega
  have hm0 := Lib.hid (show 0 < m by omega)
  clear hn hk0 hk1 hx1 hx
  have hm' := Lib.hid hm
  have hlow' := Lib.hid hlow
  clear hm hma hmb hmay hlow
  go_enter Tryz.func68, Tryz.ntmps68
  go_wp2_with fail
  with_reducible refine S0.mono ?_
  rintro e w1 ⟨rfl, rfl⟩
  go_wp2_with fail
  with_reducible refine S1.mono ?_
  rintro e w1 ⟨rfl, rfl⟩
  go_wp2_with fail
  with_reducible refine C1.out.mono ?_
  rintro e w1 ⟨u1, l1, rfl, hw1, hv1, hc1, hl1⟩
  obtain ⟨A1, cap1, rfl, hR1⟩ := rdG_own hw1.own
  have C2 := Lib.hid (raised_any l1 hw1.dig (by omega) k hk w1 A1 cap1 hR1)
  have h1H := Lib.hid (And.intro hw1.bel (And.intro hv1 hw1.siz))
  clear hR1 hw1 hv1 hc1 C1 S0 S1
  go_wp2_with fail
  with_reducible refine C2.out.mono ?_
  rintro e w2 ⟨u2, l2, rfl, hw2, hv2, hc2, hl2⟩
  obtain ⟨A2, cap2, rfl, hR2⟩ := rdG_own hw2.own
  have hll : l2.length ≤ 1000 := by
    have : k * l1.length ≤ 64 * 5 := Nat.mul_le_mul hk hl1
    omega
  have hv2' : valG l2 = m ^ k := by rw [hv2, h1H.out.2.1]
  have C3 := Lib.hid (quotient_any k1 (by omega) l2 hw2.dig hc2 (by rw [hv2']; exact Nat.pow_pos hm0.out) hll w2 A2 cap2 hR2)
  have h2H := Lib.hid (And.intro (h1H.out.1.trans (hw2.bel.mono h1H.out.2.2)) (And.intro hv2' (Nat.le_trans h1H.out.2.2 hw2.siz)))
  clear hR2 hw2 hv2 hc2 hv2' hl2 C2
  go_wp2_with fail
  with_reducible refine C3.out.mono ?_
  rintro e w3 ⟨u3, l3, rfl, hw3, hv3, hc3, hl3⟩
  obtain ⟨A3, cap3, rfl, hR3⟩ := rdG_own hw3.own
  have hval : Hid (valG l3 = (powH m n + 1) / 2) := Lib.hid (by rw [hv3, h2H.out.2.1, powH_neg m k n hkp hk0'.out.1, hk0'.out.2])
  have h3H := Lib.hid (And.intro hw3.dig (And.intro hc3 (And.intro hR3 (h2H.out.1.trans (hw3.bel.mono h2H.out.2.2)))))
  have hlen1 : l3.length ≤ 1000 := by omega
  clear hR3 hw3 hv3 hc3 hl3 C3
  have C := small_any l3 h3H.out.1 h3H.out.2.1 (by omega) w3 A3 cap3 h3H.out.2.2.1
  have hbl := Lib.hid h3H.out.2.2.2
  by_cases hv : valG l3 ≤ 9223372036854775807
  · rw [decide_eq_true hv, show smallV l3 = valG l3 from if_pos hv] at C
    obtain ⟨h, hh⟩ : ∃ h, powH m n = h := ⟨_, rfl⟩
    have hvl : valG l3 = (h + 1) / 2 := by rw [hval.out, hh]
    obtain ⟨y, hy⟩ : ∃ y, valG l3 = y := ⟨_, rfl⟩
    rw [hy] at C hv hvl
    have CH := Lib.hid C
    have hyH := Lib.hid hvl
    have hhH := Lib.hid hh.symm
    clear C hvl hh hy
    go_wp2_with fail
    with_reducible refine CH.out.mono ?_
    rintro e wz ⟨rfl, rfl⟩
    cases low
    · go_wp2_with fail
      have S := rsigned_any (y : Int) ⟨by omega, by omega⟩ false wz
      have se := pow_sig x n m h _ false hm'.out hlow'.out rfl hhH.out
      rw [← hyH.out] at se
      rw [se] at S
      have SH := Lib.hid S
      clear S se
      with_reducible refine SH.out.mono ?_
      rintro e w9 ⟨rfl, rfl⟩
      go_wp2
      go_ret2
      exact ⟨rfl, hbl.out⟩
    · go_wp2_with fail
      have S := rsigned_any (y : Int) ⟨by omega, by omega⟩ (n.tmod 2 != 0) wz
      have se := pow_sig x n m h _ (n.tmod 2 != 0) hm'.out hlow'.out (tmod_dec _) hhH.out
      rw [← hyH.out] at se
      rw [se] at S
      have SH := Lib.hid S
      clear S se
      with_reducible refine SH.out.mono ?_
      rintro e w9 ⟨rfl, rfl⟩
      go_wp2
      go_ret2
      exact ⟨rfl, hbl.out⟩
  · have ho := pow_over x n (valG l3) (by rw [hval.out, ← hm'.out]) hv
    have hoH := Lib.hid ho
    rw [decide_eq_false hv, show smallV l3 = 0 from if_neg hv] at C
    have CH := Lib.hid (show Calls _ _ _ _ (fun e w' => e = .returned (.tuple #[.int .u64 0, .bool false]) ∧ w' = w3) from C)
    clear C hv ho
    go_wp2_with fail
    with_reducible refine CH.out.mono ?_
    rintro e wz ⟨rfl, rfl⟩
    go_wp2
    go_ret2
    exact ⟨by rw [hoH.out.1, hoH.out.2]; rfl, hbl.out⟩
set_option maxRecDepth 100000 in
set_option maxHeartbeats 8000000 in
theorem rpower_pos (x n : Int) (hx : -9223372036854775808 ≤ x ∧ x ≤ 9223372036854775807) (hx1 : x ≠ -9223372036854775808) (hn : 0 < n ∧ n ≤ 64) (w : World) : Calls Tryz.prog 68 #[.int .i64 x, .int .i64 n] w fun e w' => e = .returned (.tuple #[.int .i64 (exV (powS x n)), .int .i64 (exC (powS x n))]) ∧ Below w.heap.size w w' := by
  obtain ⟨i0, hi, hz0, hz1, hz2⟩ := info_parts int_info
  have hmay : decMay x = true := by simp [decMay]; omega
  obtain ⟨m, hm⟩ : ∃ m : Nat, m = x.natAbs := ⟨_, rfl⟩
  have hma : absI x = (m : Int) := by unfold absI; split <;> omega
  have hmb : m < 18446744073709551616 := by omega
  have S0 := drmay_any x hx w
  have S1 := rsize_any x hx w
  obtain ⟨low, hlow⟩ : ∃ low, low = decide (x < 0) := ⟨_, rfl⟩
  rw [hma, ← hlow] at S1
  rw [hmay] at S0
  have C1 := Lib.hid (great_any m hmb w)
  obtain ⟨k, hk0⟩ : ∃ k : Nat, n = (k : Int) + 1 := ⟨(n - 1).toNat, by omega⟩
  obtain ⟨k1, hk1⟩ : ∃ k1 : Nat, k1 = k + 1 := ⟨_, rfl⟩
  have hk : k ≤ 63 := by omega
  have hk1b : k1 ≤ 64 := by omega
  have e1 : ¬ n = 0 := by omega
  have e3 : ¬ (n < -64) := by omega
  have e4 : ¬ (64 < n) := by omega
  have e5 : ¬ n < 0 := by omega
  have e6 : IntKind.i64.wrap (n - 1) = (k : Int) := by rw [IntWalk.i64_in _ (by omega)]; omega
  have hnk : n = (k1 : Int) := by omega
  have hk0' := Lib.hid (And.intro hk0 hk1)
  have hnkH := Lib.hid hnk
  clear hn hk0 hk1 hx1 hx hnk
  have hm' := Lib.hid hm
  have hlow' := Lib.hid hlow
  clear hm hma hmb hmay hlow
  go_enter Tryz.func68, Tryz.ntmps68
  go_wp2_with fail
  with_reducible refine S0.mono ?_
  rintro e w1 ⟨rfl, rfl⟩
  go_wp2_with fail
  with_reducible refine S1.mono ?_
  rintro e w1 ⟨rfl, rfl⟩
  go_wp2_with fail
  with_reducible refine C1.out.mono ?_
  rintro e w1 ⟨u1, l1, rfl, hw1, hv1, hc1, hl1⟩
  obtain ⟨A1, cap1, rfl, hR1⟩ := rdG_own hw1.own
  have C2 := raised_any l1 hw1.dig (by omega) k1 hk1b w1 A1 cap1 hR1
  rw [← hnkH.out] at C2
  have C2H := Lib.hid C2
  have h1H := Lib.hid (And.intro hw1.bel (And.intro hv1 hw1.siz))
  clear hR1 hw1 hv1 hc1 C1 C2 S0 S1
  go_wp2_with fail
  with_reducible refine C2H.out.mono ?_
  rintro e w2 ⟨u2, l2, rfl, hw2, hv2, hc2, hl2⟩
  have hll : l2.length ≤ 1000 := by
    have : k1 * l1.length ≤ 64 * 5 := Nat.mul_le_mul hk1b hl1
    omega
  have hv2' : valG l2 = m ^ (k + 1) := by rw [hv2, h1H.out.2.1, hk0'.out.2]
  have hpH := Lib.hid (powH_pos m k n hk0'.out.1)
  have h2H := Lib.hid (And.intro hw2 (And.intro hv2' (And.intro hc2 (h1H.out.1.trans (hw2.bel.mono h1H.out.2.2)))))
  have hblk := own_block hw2.own
  have hsz2 := Lib.hid (Nat.le_trans h1H.out.2.2 hw2.siz)
  clear hw2 hv2 hc2 hv2' hl2 C2H
  by_cases hfew : l2.length < k
  · have hfl : (l2.length : Int) < (k : Int) := by omega
    have hn0 := pow_none x n (by rw [← hm'.out, hpH.out]; exact rpow_few k _ l2 h2H.out.1.dig h2H.out.2.1 hfew)
    have hnH := Lib.hid hn0
    rcases hblk with ⟨rfl, rfl⟩ | ⟨g, cap, rfl, hlc, hcb, hgw⟩
    · clear hn0
      have hfl0 : (0 : Int) < (k : Int) := by simpa using hfl
      go_wp2
      go_ret2
      exact ⟨by rw [hnH.out.1, hnH.out.2]; rfl, h2H.out.2.2.2⟩
    · clear hn0
      go_wp2
      go_ret2
      exact ⟨by rw [hnH.out.1, hnH.out.2]; rfl, h2H.out.2.2.2⟩
  · rcases hblk with ⟨rfl, rfl⟩ | ⟨g, cap, rfl, hlc, hcb, hgw⟩
    · have hk0 : k = 0 := by simp at hfew; exact hfew
      subst hk0
      have hk0 : (0 : Nat) = 0 := rfl
      have hn0 : ¬ (1 < n) := by have := hk0'.out.1; omega
      have hk0H := Lib.hid hk0
      clear hk0
      go_wp2_with (at_builtin; refine wpList_append_read rfl _ _ 103 rfl w2.heap.size 3 i0 (.int .i64 0) 8 Tryz.underlying103 hi hz0 hz1 hz2 rfl _ 0 [] rfl (World.ownsRow_nil _ _ _ _) none 0 0 [] (by rfl) (fun _ => ⟨rfl, rfl⟩) rfl (rdB_nil w2 0 none 1) (by simp) (by unfold maxLen; omega) (by omega) (Nat.le_refl _) ?_; intro v' w4 hown4 hgrow4)
      obtain ⟨lq, hlq⟩ : ∃ lq, lq = ([] : List Nat) := ⟨_, rfl⟩
      have hlqH := Lib.hid hlq
      have hb4 : Below w2.heap.size w2 w4 := (Below.refl _ _).grown hgrow4 (Nat.le_refl _) (fun j hj => by cases hj)
      have hq : HeldG w2.heap.size w2 w4 v' lq := ⟨by rw [hlq]; exact hown4, fun d hd => by rw [hlq] at hd; simp at hd, hb4, hb4.size⟩
      have hbw := Lib.hid (h2H.out.2.2.2.trans (hb4.mono hsz2.out))
      have hcq : Hid (CanG lq) := Lib.hid (by rw [hlq]; exact canG_nil)
      have hdl : lq.length ≤ 1000 := by rw [hlq]; simp
      clear hgrow4 hown4 hb4 hlq
      have hval : Hid (valG lq = (powH m n + 1) / 2) := Lib.hid (by
        have e := h2H.out.2.1
        rw [hpH.out, ← e, hlqH.out]; rfl)
      obtain ⟨A4, cap4, rfl, hR4⟩ := rdG_own hq.own
      have h4H := Lib.hid (And.intro hq.dig hR4)
      have hlen1 : lq.length ≤ 1000 := hdl
      clear hq hR4
      have C := small_any lq h4H.out.1 hcq.out (by omega) w4 A4 cap4 h4H.out.2
      have hbl := Lib.hid hbw.out
      by_cases hv : valG lq ≤ 9223372036854775807
      · rw [decide_eq_true hv, show smallV lq = valG lq from if_pos hv] at C
        obtain ⟨h, hh⟩ : ∃ h, powH m n = h := ⟨_, rfl⟩
        have hvl : valG lq = (h + 1) / 2 := by rw [hval.out, hh]
        obtain ⟨y, hy⟩ : ∃ y, valG lq = y := ⟨_, rfl⟩
        rw [hy] at C hv hvl
        have CH := Lib.hid C
        have hyH := Lib.hid hvl
        have hhH := Lib.hid hh.symm
        clear C hvl hh hy
        go_wp2_with fail
        with_reducible refine CH.out.mono ?_
        rintro e wz ⟨rfl, rfl⟩
        cases low
        · go_wp2_with fail
          have S := rsigned_any (y : Int) ⟨by omega, by omega⟩ false wz
          have se := pow_sig x n m h _ false hm'.out hlow'.out rfl hhH.out
          rw [← hyH.out] at se
          rw [se] at S
          have SH := Lib.hid S
          clear S se
          with_reducible refine SH.out.mono ?_
          rintro e w9 ⟨rfl, rfl⟩
          go_wp2
          go_ret2
          exact ⟨rfl, hbl.out⟩
        · go_wp2_with fail
          have S := rsigned_any (y : Int) ⟨by omega, by omega⟩ (n % 2 != 0) wz
          have se := pow_sig x n m h _ (n % 2 != 0) hm'.out hlow'.out (bne_dec _) hhH.out
          rw [← hyH.out] at se
          rw [se] at S
          have SH := Lib.hid S
          clear S se
          with_reducible refine SH.out.mono ?_
          rintro e w9 ⟨rfl, rfl⟩
          go_wp2
          go_ret2
          exact ⟨rfl, hbl.out⟩
      · have ho := pow_over x n (valG lq) (by rw [hval.out, ← hm'.out]) hv
        have hoH := Lib.hid ho
        rw [decide_eq_false hv, show smallV lq = 0 from if_neg hv] at C
        have CH := Lib.hid (show Calls _ _ _ _ (fun e w' => e = .returned (.tuple #[.int .u64 0, .bool false]) ∧ w' = w4) from C)
        clear C hv ho
        go_wp2_with fail
        with_reducible refine CH.out.mono ?_
        rintro e wz ⟨rfl, rfl⟩
        go_wp2
        go_ret2
        exact ⟨by rw [hoH.out.1, hoH.out.2]; rfl, hbl.out⟩
    · skip
      by_cases hkc : k = cap
      · obtain rfl : k = l2.length := by omega
        obtain rfl : cap = l2.length := by omega
        by_cases hk0 : l2.length = 0
        · skip
          have hn0 : ¬ (1 < n) := by have := hk0'.out.1; omega
          have hk0H := Lib.hid hk0
          clear hk0
          go_wp2_with (at_builtin; refine wpList_append_read rfl _ _ 103 rfl w2.heap.size 3 i0 (.int .i64 0) 8 Tryz.underlying103 hi hz0 hz1 hz2 rfl _ 0 [] rfl (World.ownsRow_nil _ _ _ _) (some ⟨g, 0, none⟩) 0 0 [] (by rfl) (fun h => by cases h) rfl (rdB_nil w2 0 _ 1) (by simp) (by unfold maxLen; omega) (by omega) (Nat.le_refl _) ?_; intro v' w4 hown4 hgrow4)
          obtain ⟨lq, hlq⟩ : ∃ lq, lq = l2.drop l2.length := ⟨_, rfl⟩
          have hlqH := Lib.hid hlq
          have hb4 : Below w2.heap.size w2 w4 := (Below.refl _ _).grown hgrow4 (Nat.le_refl _) (fun j hj => by cases hj)
          have hq : HeldG w2.heap.size w2 w4 v' lq := ⟨by rw [hlq, List.drop_length]; exact hown4, fun d hd => h2H.out.1.dig d (List.mem_of_mem_drop (by rw [← hlq]; exact hd)), hb4, hb4.size⟩
          have hbw := Lib.hid (h2H.out.2.2.2.trans (hb4.mono hsz2.out))
          have hcq : Hid (CanG lq) := Lib.hid (by rw [hlq]; exact canG_drop l2 l2.length h2H.out.2.2.1)
          have hdl : lq.length ≤ 1000 := by rw [hlq, List.length_drop]; omega
          clear hgrow4 hown4 hb4 hlq
          have hval : Hid (valG lq = (powH m n + 1) / 2) := Lib.hid (by
            have e := h2H.out.2.1
            rw [hpH.out, ← e, hlqH.out, hk0H.out, List.drop_zero, Nat.pow_zero, Nat.div_one]; omega)
          obtain ⟨A4, cap4, rfl, hR4⟩ := rdG_own hq.own
          have h4H := Lib.hid (And.intro hq.dig hR4)
          have hlen1 : lq.length ≤ 1000 := hdl
          clear hq hR4
          have C := small_any lq h4H.out.1 hcq.out (by omega) w4 A4 cap4 h4H.out.2
          have hbl := Lib.hid hbw.out
          by_cases hv : valG lq ≤ 9223372036854775807
          · rw [decide_eq_true hv, show smallV lq = valG lq from if_pos hv] at C
            obtain ⟨h, hh⟩ : ∃ h, powH m n = h := ⟨_, rfl⟩
            have hvl : valG lq = (h + 1) / 2 := by rw [hval.out, hh]
            obtain ⟨y, hy⟩ : ∃ y, valG lq = y := ⟨_, rfl⟩
            rw [hy] at C hv hvl
            have CH := Lib.hid C
            have hyH := Lib.hid hvl
            have hhH := Lib.hid hh.symm
            clear C hvl hh hy
            go_wp2_with fail
            with_reducible refine CH.out.mono ?_
            rintro e wz ⟨rfl, rfl⟩
            cases low
            · go_wp2_with fail
              have S := rsigned_any (y : Int) ⟨by omega, by omega⟩ false wz
              have se := pow_sig x n m h _ false hm'.out hlow'.out rfl hhH.out
              rw [← hyH.out] at se
              rw [se] at S
              have SH := Lib.hid S
              clear S se
              with_reducible refine SH.out.mono ?_
              rintro e w9 ⟨rfl, rfl⟩
              go_wp2
              go_ret2
              exact ⟨rfl, hbl.out⟩
            · go_wp2_with fail
              have S := rsigned_any (y : Int) ⟨by omega, by omega⟩ (n % 2 != 0) wz
              have se := pow_sig x n m h _ (n % 2 != 0) hm'.out hlow'.out (bne_dec _) hhH.out
              rw [← hyH.out] at se
              rw [se] at S
              have SH := Lib.hid S
              clear S se
              with_reducible refine SH.out.mono ?_
              rintro e w9 ⟨rfl, rfl⟩
              go_wp2
              go_ret2
              exact ⟨rfl, hbl.out⟩
          · have ho := pow_over x n (valG lq) (by rw [hval.out, ← hm'.out]) hv
            have hoH := Lib.hid ho
            rw [decide_eq_false hv, show smallV lq = 0 from if_neg hv] at C
            have CH := Lib.hid (show Calls _ _ _ _ (fun e w' => e = .returned (.tuple #[.int .u64 0, .bool false]) ∧ w' = w4) from C)
            clear C hv ho
            go_wp2_with fail
            with_reducible refine CH.out.mono ?_
            rintro e wz ⟨rfl, rfl⟩
            go_wp2
            go_ret2
            exact ⟨by rw [hoH.out.1, hoH.out.2]; rfl, hbl.out⟩
        · skip
          obtain ⟨j, hj⟩ : ∃ j, l2.length = j + 1 := ⟨l2.length - 1, by omega⟩
          obtain ⟨d, hd⟩ : ∃ d, l2[j]? = some d := ⟨_, List.getElem?_eq_getElem (by omega)⟩
          have hjl : (j : Int) < (l2.length : Int) := by omega
          have hn0 : 1 < n := by have := hk0'.out.1; omega
          have e8 : IntKind.i64.wrap (n - 2) = (j : Int) := by have := hk0'.out.1; rw [IntWalk.i64_in _ (by omega)]; omega
          have e8b : n - 2 = (j : Int) := by have := hk0'.out.1; omega
          have hcut := Lib.hid (rpow_cut l2.length j _ d l2 h2H.out.1.dig h2H.out.2.1 hj hd)
          have hcA : w2.cell? ⟨g, j, none⟩ = some (.int .i64 (d : Int)) := (h2H.out.1.own.cellAt j (show j < l2.length * 1 by omega)).trans (by rw [List.getElem?_map, hd]; rfl)
          clear hd hj hk0
          by_cases h5 : 5000 ≤ d
          · have h5' : (5000 : Int) ≤ (d : Int) := by omega
            have h5H := Lib.hid h5
            clear h5
            go_wp2_with (at_builtin; refine wpList_append_read rfl _ _ 103 rfl w2.heap.size 3 i0 (.int .i64 0) 8 Tryz.underlying103 hi hz0 hz1 hz2 rfl _ 0 [] rfl (World.ownsRow_nil _ _ _ _) (some ⟨g, 0, none⟩) 0 0 [] (by rfl) (fun h => by cases h) rfl (rdB_nil w2 0 _ 1) (by simp) (by unfold maxLen; omega) (by omega) (Nat.le_refl _) ?_; intro v' w4 hown4 hgrow4; have hcB : w4.cell? ⟨g, j, none⟩ = some (.int .i64 (d : Int)) := (((Below.refl w2.heap.size w2).grown hgrow4 (Nat.le_refl _) (fun j hj => by cases hj)).cell (p := ⟨g, j, none⟩) hgw).trans hcA)
            obtain ⟨lq, hlq⟩ : ∃ lq, lq = l2.drop l2.length := ⟨_, rfl⟩
            have hlqH := Lib.hid hlq
            have hb4 : Below w2.heap.size w2 w4 := (Below.refl _ _).grown hgrow4 (Nat.le_refl _) (fun j hj => by cases hj)
            have hq : HeldG w2.heap.size w2 w4 v' lq := ⟨by rw [hlq, List.drop_length]; exact hown4, fun d hd => h2H.out.1.dig d (List.mem_of_mem_drop (by rw [← hlq]; exact hd)), hb4, hb4.size⟩
            have hbw := Lib.hid (h2H.out.2.2.2.trans (hb4.mono hsz2.out))
            have hcq : Hid (CanG lq) := Lib.hid (by rw [hlq]; exact canG_drop l2 l2.length h2H.out.2.2.1)
            have hdl : lq.length ≤ 1000 := by rw [hlq, List.length_drop]; omega
            clear hgrow4 hown4 hb4 hlq
            obtain ⟨A4, cap4, rfl, hR4⟩ := rdG_own hq.own
            have C4 := Lib.hid (next_any lq hq.dig (by omega) w4 A4 cap4 hR4)
            have hv4 := Lib.hid (show valG lq + 1 = (powH m n + 1) / 2 by rw [hpH.out, hcut.out, if_pos h5H.out, hlqH.out])
            have hsz := Lib.hid hq.siz
            clear hq hR4
            go_wp2_with fail
            with_reducible refine C4.out.mono ?_
            rintro e w5 ⟨u5, l5, rfl, hw5, hv5, hc5, hl5⟩
            obtain ⟨A5, cap5, rfl, hR5⟩ := rdG_own hw5.own
            have hval : Hid (valG l5 = (powH m n + 1) / 2) := Lib.hid (by rw [hv5, hv4.out])
            have h6H := Lib.hid (And.intro hw5.dig (And.intro hc5 (And.intro hR5 (hbw.out.trans (hw5.bel.mono (Nat.le_trans hsz2.out hsz.out))))))
            have hlen1 : l5.length ≤ 1001 := by omega
            clear hR5 hw5 hv5 hc5 hl5 C4
            have C := small_any l5 h6H.out.1 h6H.out.2.1 (by omega) w5 A5 cap5 h6H.out.2.2.1
            have hbl := Lib.hid h6H.out.2.2.2
            by_cases hv : valG l5 ≤ 9223372036854775807
            · rw [decide_eq_true hv, show smallV l5 = valG l5 from if_pos hv] at C
              obtain ⟨h, hh⟩ : ∃ h, powH m n = h := ⟨_, rfl⟩
              have hvl : valG l5 = (h + 1) / 2 := by rw [hval.out, hh]
              obtain ⟨y, hy⟩ : ∃ y, valG l5 = y := ⟨_, rfl⟩
              rw [hy] at C hv hvl
              have CH := Lib.hid C
              have hyH := Lib.hid hvl
              have hhH := Lib.hid hh.symm
              clear C hvl hh hy
              go_wp2_with fail
              with_reducible refine CH.out.mono ?_
              rintro e wz ⟨rfl, rfl⟩
              cases low
              · go_wp2_with fail
                have S := rsigned_any (y : Int) ⟨by omega, by omega⟩ false wz
                have se := pow_sig x n m h _ false hm'.out hlow'.out rfl hhH.out
                rw [← hyH.out] at se
                rw [se] at S
                have SH := Lib.hid S
                clear S se
                with_reducible refine SH.out.mono ?_
                rintro e w9 ⟨rfl, rfl⟩
                go_wp2
                go_ret2
                exact ⟨rfl, hbl.out⟩
              · go_wp2_with fail
                have S := rsigned_any (y : Int) ⟨by omega, by omega⟩ (n % 2 != 0) wz
                have se := pow_sig x n m h _ (n % 2 != 0) hm'.out hlow'.out (bne_dec _) hhH.out
                rw [← hyH.out] at se
                rw [se] at S
                have SH := Lib.hid S
                clear S se
                with_reducible refine SH.out.mono ?_
                rintro e w9 ⟨rfl, rfl⟩
                go_wp2
                go_ret2
                exact ⟨rfl, hbl.out⟩
            · have ho := pow_over x n (valG l5) (by rw [hval.out, ← hm'.out]) hv
              have hoH := Lib.hid ho
              rw [decide_eq_false hv, show smallV l5 = 0 from if_neg hv] at C
              have CH := Lib.hid (show Calls _ _ _ _ (fun e w' => e = .returned (.tuple #[.int .u64 0, .bool false]) ∧ w' = w5) from C)
              clear C hv ho
              go_wp2_with fail
              with_reducible refine CH.out.mono ?_
              rintro e wz ⟨rfl, rfl⟩
              go_wp2
              go_ret2
              exact ⟨by rw [hoH.out.1, hoH.out.2]; rfl, hbl.out⟩
          · have h5' : ¬ ((5000 : Int) ≤ (d : Int)) := by omega
            have h5H := Lib.hid h5
            clear h5
            go_wp2_with (at_builtin; refine wpList_append_read rfl _ _ 103 rfl w2.heap.size 3 i0 (.int .i64 0) 8 Tryz.underlying103 hi hz0 hz1 hz2 rfl _ 0 [] rfl (World.ownsRow_nil _ _ _ _) (some ⟨g, 0, none⟩) 0 0 [] (by rfl) (fun h => by cases h) rfl (rdB_nil w2 0 _ 1) (by simp) (by unfold maxLen; omega) (by omega) (Nat.le_refl _) ?_; intro v' w4 hown4 hgrow4; have hcB : w4.cell? ⟨g, j, none⟩ = some (.int .i64 (d : Int)) := (((Below.refl w2.heap.size w2).grown hgrow4 (Nat.le_refl _) (fun j hj => by cases hj)).cell (p := ⟨g, j, none⟩) hgw).trans hcA)
            obtain ⟨lq, hlq⟩ : ∃ lq, lq = l2.drop l2.length := ⟨_, rfl⟩
            have hlqH := Lib.hid hlq
            have hb4 : Below w2.heap.size w2 w4 := (Below.refl _ _).grown hgrow4 (Nat.le_refl _) (fun j hj => by cases hj)
            have hq : HeldG w2.heap.size w2 w4 v' lq := ⟨by rw [hlq, List.drop_length]; exact hown4, fun d hd => h2H.out.1.dig d (List.mem_of_mem_drop (by rw [← hlq]; exact hd)), hb4, hb4.size⟩
            have hbw := Lib.hid (h2H.out.2.2.2.trans (hb4.mono hsz2.out))
            have hcq : Hid (CanG lq) := Lib.hid (by rw [hlq]; exact canG_drop l2 l2.length h2H.out.2.2.1)
            have hdl : lq.length ≤ 1000 := by rw [hlq, List.length_drop]; omega
            clear hgrow4 hown4 hb4 hlq
            have hval : Hid (valG lq = (powH m n + 1) / 2) := Lib.hid (by rw [hpH.out, hcut.out, if_neg h5H.out, hlqH.out])
            obtain ⟨A4, cap4, rfl, hR4⟩ := rdG_own hq.own
            have h4H := Lib.hid (And.intro hq.dig hR4)
            have hlen1 : lq.length ≤ 1000 := hdl
            clear hq hR4
            have C := small_any lq h4H.out.1 hcq.out (by omega) w4 A4 cap4 h4H.out.2
            have hbl := Lib.hid hbw.out
            by_cases hv : valG lq ≤ 9223372036854775807
            · rw [decide_eq_true hv, show smallV lq = valG lq from if_pos hv] at C
              obtain ⟨h, hh⟩ : ∃ h, powH m n = h := ⟨_, rfl⟩
              have hvl : valG lq = (h + 1) / 2 := by rw [hval.out, hh]
              obtain ⟨y, hy⟩ : ∃ y, valG lq = y := ⟨_, rfl⟩
              rw [hy] at C hv hvl
              have CH := Lib.hid C
              have hyH := Lib.hid hvl
              have hhH := Lib.hid hh.symm
              clear C hvl hh hy
              go_wp2_with fail
              with_reducible refine CH.out.mono ?_
              rintro e wz ⟨rfl, rfl⟩
              cases low
              · go_wp2_with fail
                have S := rsigned_any (y : Int) ⟨by omega, by omega⟩ false wz
                have se := pow_sig x n m h _ false hm'.out hlow'.out rfl hhH.out
                rw [← hyH.out] at se
                rw [se] at S
                have SH := Lib.hid S
                clear S se
                with_reducible refine SH.out.mono ?_
                rintro e w9 ⟨rfl, rfl⟩
                go_wp2
                go_ret2
                exact ⟨rfl, hbl.out⟩
              · go_wp2_with fail
                have S := rsigned_any (y : Int) ⟨by omega, by omega⟩ (n % 2 != 0) wz
                have se := pow_sig x n m h _ (n % 2 != 0) hm'.out hlow'.out (bne_dec _) hhH.out
                rw [← hyH.out] at se
                rw [se] at S
                have SH := Lib.hid S
                clear S se
                with_reducible refine SH.out.mono ?_
                rintro e w9 ⟨rfl, rfl⟩
                go_wp2
                go_ret2
                exact ⟨rfl, hbl.out⟩
            · have ho := pow_over x n (valG lq) (by rw [hval.out, ← hm'.out]) hv
              have hoH := Lib.hid ho
              rw [decide_eq_false hv, show smallV lq = 0 from if_neg hv] at C
              have CH := Lib.hid (show Calls _ _ _ _ (fun e w' => e = .returned (.tuple #[.int .u64 0, .bool false]) ∧ w' = w4) from C)
              clear C hv ho
              go_wp2_with fail
              with_reducible refine CH.out.mono ?_
              rintro e wz ⟨rfl, rfl⟩
              go_wp2
              go_ret2
              exact ⟨by rw [hoH.out.1, hoH.out.2]; rfl, hbl.out⟩
      · have hkc2 : k < cap := by omega
        by_cases hk0 : k = 0
        · skip
          have hn0 : ¬ (1 < n) := by have := hk0'.out.1; omega
          have hk0H := Lib.hid hk0
          clear hk0
          go_wp2_with (at_builtin; refine wpList_append_read rfl _ _ 103 rfl w2.heap.size 3 i0 (.int .i64 0) 8 Tryz.underlying103 hi hz0 hz1 hz2 rfl _ 0 [] rfl (World.ownsRow_nil _ _ _ _) _ _ _ ((l2.drop k).map fun (n : Nat) => Value.int .i64 (n : Int)) (by rfl) (fun h => by cases h) (by rw [List.length_map, List.length_drop]) (rd_drop h2H.out.1.own) (one_ints _) (by unfold maxLen; omega) (by omega) (Nat.le_refl _) ?_; intro v' w4 hown4 hgrow4)
          obtain ⟨lq, hlq⟩ : ∃ lq, lq = l2.drop k := ⟨_, rfl⟩
          have hlqH := Lib.hid hlq
          have hb4 : Below w2.heap.size w2 w4 := (Below.refl _ _).grown hgrow4 (Nat.le_refl _) (fun j hj => by cases hj)
          have hq : HeldG w2.heap.size w2 w4 v' lq := ⟨by rw [hlq, List.length_drop]; simpa using hown4, fun d hd => h2H.out.1.dig d (List.mem_of_mem_drop (by rw [← hlq]; exact hd)), hb4, hb4.size⟩
          have hbw := Lib.hid (h2H.out.2.2.2.trans (hb4.mono hsz2.out))
          have hcq : Hid (CanG lq) := Lib.hid (by rw [hlq]; exact canG_drop l2 k h2H.out.2.2.1)
          have hdl : lq.length ≤ 1000 := by rw [hlq, List.length_drop]; omega
          clear hgrow4 hown4 hb4 hlq
          have hval : Hid (valG lq = (powH m n + 1) / 2) := Lib.hid (by
            have e := h2H.out.2.1
            rw [hpH.out, ← e, hlqH.out, hk0H.out, List.drop_zero, Nat.pow_zero, Nat.div_one]; omega)
          obtain ⟨A4, cap4, rfl, hR4⟩ := rdG_own hq.own
          have h4H := Lib.hid (And.intro hq.dig hR4)
          have hlen1 : lq.length ≤ 1000 := hdl
          clear hq hR4
          have C := small_any lq h4H.out.1 hcq.out (by omega) w4 A4 cap4 h4H.out.2
          have hbl := Lib.hid hbw.out
          by_cases hv : valG lq ≤ 9223372036854775807
          · rw [decide_eq_true hv, show smallV lq = valG lq from if_pos hv] at C
            obtain ⟨h, hh⟩ : ∃ h, powH m n = h := ⟨_, rfl⟩
            have hvl : valG lq = (h + 1) / 2 := by rw [hval.out, hh]
            obtain ⟨y, hy⟩ : ∃ y, valG lq = y := ⟨_, rfl⟩
            rw [hy] at C hv hvl
            have CH := Lib.hid C
            have hyH := Lib.hid hvl
            have hhH := Lib.hid hh.symm
            clear C hvl hh hy
            go_wp2_with fail
            with_reducible refine CH.out.mono ?_
            rintro e wz ⟨rfl, rfl⟩
            cases low
            · go_wp2_with fail
              have S := rsigned_any (y : Int) ⟨by omega, by omega⟩ false wz
              have se := pow_sig x n m h _ false hm'.out hlow'.out rfl hhH.out
              rw [← hyH.out] at se
              rw [se] at S
              have SH := Lib.hid S
              clear S se
              with_reducible refine SH.out.mono ?_
              rintro e w9 ⟨rfl, rfl⟩
              go_wp2
              go_ret2
              exact ⟨rfl, hbl.out⟩
            · go_wp2_with fail
              have S := rsigned_any (y : Int) ⟨by omega, by omega⟩ (n % 2 != 0) wz
              have se := pow_sig x n m h _ (n % 2 != 0) hm'.out hlow'.out (bne_dec _) hhH.out
              rw [← hyH.out] at se
              rw [se] at S
              have SH := Lib.hid S
              clear S se
              with_reducible refine SH.out.mono ?_
              rintro e w9 ⟨rfl, rfl⟩
              go_wp2
              go_ret2
              exact ⟨rfl, hbl.out⟩
          · have ho := pow_over x n (valG lq) (by rw [hval.out, ← hm'.out]) hv
            have hoH := Lib.hid ho
            rw [decide_eq_false hv, show smallV lq = 0 from if_neg hv] at C
            have CH := Lib.hid (show Calls _ _ _ _ (fun e w' => e = .returned (.tuple #[.int .u64 0, .bool false]) ∧ w' = w4) from C)
            clear C hv ho
            go_wp2_with fail
            with_reducible refine CH.out.mono ?_
            rintro e wz ⟨rfl, rfl⟩
            go_wp2
            go_ret2
            exact ⟨by rw [hoH.out.1, hoH.out.2]; rfl, hbl.out⟩
        · skip
          obtain ⟨j, hj⟩ : ∃ j, k = j + 1 := ⟨k - 1, by omega⟩
          obtain ⟨d, hd⟩ : ∃ d, l2[j]? = some d := ⟨_, List.getElem?_eq_getElem (by omega)⟩
          have hjl : (j : Int) < (l2.length : Int) := by omega
          have hn0 : 1 < n := by have := hk0'.out.1; omega
          have e8 : IntKind.i64.wrap (n - 2) = (j : Int) := by have := hk0'.out.1; rw [IntWalk.i64_in _ (by omega)]; omega
          have e8b : n - 2 = (j : Int) := by have := hk0'.out.1; omega
          have hcut := Lib.hid (rpow_cut k j _ d l2 h2H.out.1.dig h2H.out.2.1 hj hd)
          have hcA : w2.cell? ⟨g, j, none⟩ = some (.int .i64 (d : Int)) := (h2H.out.1.own.cellAt j (show j < l2.length * 1 by omega)).trans (by rw [List.getElem?_map, hd]; rfl)
          clear hd hj hk0
          by_cases h5 : 5000 ≤ d
          · have h5' : (5000 : Int) ≤ (d : Int) := by omega
            have h5H := Lib.hid h5
            clear h5
            go_wp2_with (at_builtin; refine wpList_append_read rfl _ _ 103 rfl w2.heap.size 3 i0 (.int .i64 0) 8 Tryz.underlying103 hi hz0 hz1 hz2 rfl _ 0 [] rfl (World.ownsRow_nil _ _ _ _) _ _ _ ((l2.drop k).map fun (n : Nat) => Value.int .i64 (n : Int)) (by rfl) (fun h => by cases h) (by rw [List.length_map, List.length_drop]) (rd_drop h2H.out.1.own) (one_ints _) (by unfold maxLen; omega) (by omega) (Nat.le_refl _) ?_; intro v' w4 hown4 hgrow4; have hcB : w4.cell? ⟨g, j, none⟩ = some (.int .i64 (d : Int)) := (((Below.refl w2.heap.size w2).grown hgrow4 (Nat.le_refl _) (fun j hj => by cases hj)).cell (p := ⟨g, j, none⟩) hgw).trans hcA)
            obtain ⟨lq, hlq⟩ : ∃ lq, lq = l2.drop k := ⟨_, rfl⟩
            have hlqH := Lib.hid hlq
            have hb4 : Below w2.heap.size w2 w4 := (Below.refl _ _).grown hgrow4 (Nat.le_refl _) (fun j hj => by cases hj)
            have hq : HeldG w2.heap.size w2 w4 v' lq := ⟨by rw [hlq, List.length_drop]; simpa using hown4, fun d hd => h2H.out.1.dig d (List.mem_of_mem_drop (by rw [← hlq]; exact hd)), hb4, hb4.size⟩
            have hbw := Lib.hid (h2H.out.2.2.2.trans (hb4.mono hsz2.out))
            have hcq : Hid (CanG lq) := Lib.hid (by rw [hlq]; exact canG_drop l2 k h2H.out.2.2.1)
            have hdl : lq.length ≤ 1000 := by rw [hlq, List.length_drop]; omega
            clear hgrow4 hown4 hb4 hlq
            obtain ⟨A4, cap4, rfl, hR4⟩ := rdG_own hq.own
            have C4 := Lib.hid (next_any lq hq.dig (by omega) w4 A4 cap4 hR4)
            have hv4 := Lib.hid (show valG lq + 1 = (powH m n + 1) / 2 by rw [hpH.out, hcut.out, if_pos h5H.out, hlqH.out])
            have hsz := Lib.hid hq.siz
            clear hq hR4
            go_wp2_with fail
            with_reducible refine C4.out.mono ?_
            rintro e w5 ⟨u5, l5, rfl, hw5, hv5, hc5, hl5⟩
            obtain ⟨A5, cap5, rfl, hR5⟩ := rdG_own hw5.own
            have hval : Hid (valG l5 = (powH m n + 1) / 2) := Lib.hid (by rw [hv5, hv4.out])
            have h6H := Lib.hid (And.intro hw5.dig (And.intro hc5 (And.intro hR5 (hbw.out.trans (hw5.bel.mono (Nat.le_trans hsz2.out hsz.out))))))
            have hlen1 : l5.length ≤ 1001 := by omega
            clear hR5 hw5 hv5 hc5 hl5 C4
            have C := small_any l5 h6H.out.1 h6H.out.2.1 (by omega) w5 A5 cap5 h6H.out.2.2.1
            have hbl := Lib.hid h6H.out.2.2.2
            by_cases hv : valG l5 ≤ 9223372036854775807
            · rw [decide_eq_true hv, show smallV l5 = valG l5 from if_pos hv] at C
              obtain ⟨h, hh⟩ : ∃ h, powH m n = h := ⟨_, rfl⟩
              have hvl : valG l5 = (h + 1) / 2 := by rw [hval.out, hh]
              obtain ⟨y, hy⟩ : ∃ y, valG l5 = y := ⟨_, rfl⟩
              rw [hy] at C hv hvl
              have CH := Lib.hid C
              have hyH := Lib.hid hvl
              have hhH := Lib.hid hh.symm
              clear C hvl hh hy
              go_wp2_with fail
              with_reducible refine CH.out.mono ?_
              rintro e wz ⟨rfl, rfl⟩
              cases low
              · go_wp2_with fail
                have S := rsigned_any (y : Int) ⟨by omega, by omega⟩ false wz
                have se := pow_sig x n m h _ false hm'.out hlow'.out rfl hhH.out
                rw [← hyH.out] at se
                rw [se] at S
                have SH := Lib.hid S
                clear S se
                with_reducible refine SH.out.mono ?_
                rintro e w9 ⟨rfl, rfl⟩
                go_wp2
                go_ret2
                exact ⟨rfl, hbl.out⟩
              · go_wp2_with fail
                have S := rsigned_any (y : Int) ⟨by omega, by omega⟩ (n % 2 != 0) wz
                have se := pow_sig x n m h _ (n % 2 != 0) hm'.out hlow'.out (bne_dec _) hhH.out
                rw [← hyH.out] at se
                rw [se] at S
                have SH := Lib.hid S
                clear S se
                with_reducible refine SH.out.mono ?_
                rintro e w9 ⟨rfl, rfl⟩
                go_wp2
                go_ret2
                exact ⟨rfl, hbl.out⟩
            · have ho := pow_over x n (valG l5) (by rw [hval.out, ← hm'.out]) hv
              have hoH := Lib.hid ho
              rw [decide_eq_false hv, show smallV l5 = 0 from if_neg hv] at C
              have CH := Lib.hid (show Calls _ _ _ _ (fun e w' => e = .returned (.tuple #[.int .u64 0, .bool false]) ∧ w' = w5) from C)
              clear C hv ho
              go_wp2_with fail
              with_reducible refine CH.out.mono ?_
              rintro e wz ⟨rfl, rfl⟩
              go_wp2
              go_ret2
              exact ⟨by rw [hoH.out.1, hoH.out.2]; rfl, hbl.out⟩
          · have h5' : ¬ ((5000 : Int) ≤ (d : Int)) := by omega
            have h5H := Lib.hid h5
            clear h5
            go_wp2_with (at_builtin; refine wpList_append_read rfl _ _ 103 rfl w2.heap.size 3 i0 (.int .i64 0) 8 Tryz.underlying103 hi hz0 hz1 hz2 rfl _ 0 [] rfl (World.ownsRow_nil _ _ _ _) _ _ _ ((l2.drop k).map fun (n : Nat) => Value.int .i64 (n : Int)) (by rfl) (fun h => by cases h) (by rw [List.length_map, List.length_drop]) (rd_drop h2H.out.1.own) (one_ints _) (by unfold maxLen; omega) (by omega) (Nat.le_refl _) ?_; intro v' w4 hown4 hgrow4; have hcB : w4.cell? ⟨g, j, none⟩ = some (.int .i64 (d : Int)) := (((Below.refl w2.heap.size w2).grown hgrow4 (Nat.le_refl _) (fun j hj => by cases hj)).cell (p := ⟨g, j, none⟩) hgw).trans hcA)
            obtain ⟨lq, hlq⟩ : ∃ lq, lq = l2.drop k := ⟨_, rfl⟩
            have hlqH := Lib.hid hlq
            have hb4 : Below w2.heap.size w2 w4 := (Below.refl _ _).grown hgrow4 (Nat.le_refl _) (fun j hj => by cases hj)
            have hq : HeldG w2.heap.size w2 w4 v' lq := ⟨by rw [hlq, List.length_drop]; simpa using hown4, fun d hd => h2H.out.1.dig d (List.mem_of_mem_drop (by rw [← hlq]; exact hd)), hb4, hb4.size⟩
            have hbw := Lib.hid (h2H.out.2.2.2.trans (hb4.mono hsz2.out))
            have hcq : Hid (CanG lq) := Lib.hid (by rw [hlq]; exact canG_drop l2 k h2H.out.2.2.1)
            have hdl : lq.length ≤ 1000 := by rw [hlq, List.length_drop]; omega
            clear hgrow4 hown4 hb4 hlq
            have hval : Hid (valG lq = (powH m n + 1) / 2) := Lib.hid (by rw [hpH.out, hcut.out, if_neg h5H.out, hlqH.out])
            obtain ⟨A4, cap4, rfl, hR4⟩ := rdG_own hq.own
            have h4H := Lib.hid (And.intro hq.dig hR4)
            have hlen1 : lq.length ≤ 1000 := hdl
            clear hq hR4
            have C := small_any lq h4H.out.1 hcq.out (by omega) w4 A4 cap4 h4H.out.2
            have hbl := Lib.hid hbw.out
            by_cases hv : valG lq ≤ 9223372036854775807
            · rw [decide_eq_true hv, show smallV lq = valG lq from if_pos hv] at C
              obtain ⟨h, hh⟩ : ∃ h, powH m n = h := ⟨_, rfl⟩
              have hvl : valG lq = (h + 1) / 2 := by rw [hval.out, hh]
              obtain ⟨y, hy⟩ : ∃ y, valG lq = y := ⟨_, rfl⟩
              rw [hy] at C hv hvl
              have CH := Lib.hid C
              have hyH := Lib.hid hvl
              have hhH := Lib.hid hh.symm
              clear C hvl hh hy
              go_wp2_with fail
              with_reducible refine CH.out.mono ?_
              rintro e wz ⟨rfl, rfl⟩
              cases low
              · go_wp2_with fail
                have S := rsigned_any (y : Int) ⟨by omega, by omega⟩ false wz
                have se := pow_sig x n m h _ false hm'.out hlow'.out rfl hhH.out
                rw [← hyH.out] at se
                rw [se] at S
                have SH := Lib.hid S
                clear S se
                with_reducible refine SH.out.mono ?_
                rintro e w9 ⟨rfl, rfl⟩
                go_wp2
                go_ret2
                exact ⟨rfl, hbl.out⟩
              · go_wp2_with fail
                have S := rsigned_any (y : Int) ⟨by omega, by omega⟩ (n % 2 != 0) wz
                have se := pow_sig x n m h _ (n % 2 != 0) hm'.out hlow'.out (bne_dec _) hhH.out
                rw [← hyH.out] at se
                rw [se] at S
                have SH := Lib.hid S
                clear S se
                with_reducible refine SH.out.mono ?_
                rintro e w9 ⟨rfl, rfl⟩
                go_wp2
                go_ret2
                exact ⟨rfl, hbl.out⟩
            · have ho := pow_over x n (valG lq) (by rw [hval.out, ← hm'.out]) hv
              have hoH := Lib.hid ho
              rw [decide_eq_false hv, show smallV lq = 0 from if_neg hv] at C
              have CH := Lib.hid (show Calls _ _ _ _ (fun e w' => e = .returned (.tuple #[.int .u64 0, .bool false]) ∧ w' = w4) from C)
              clear C hv ho
              go_wp2_with fail
              with_reducible refine CH.out.mono ?_
              rintro e wz ⟨rfl, rfl⟩
              go_wp2
              go_ret2
              exact ⟨by rw [hoH.out.1, hoH.out.2]; rfl, hbl.out⟩
end Go.Proofs.YthobaffgllipfaaGreat
