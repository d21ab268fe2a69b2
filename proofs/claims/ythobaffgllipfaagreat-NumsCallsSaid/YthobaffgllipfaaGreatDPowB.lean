/-
  dec.Power: a great number divided.
-/
import Derived.Test.YthobaffgllipfaaGreatRows
import Derived.Test.YthobaffgllipfaaGreatBase
import Derived.Test.YthobaffgllipfaaGreatMg3
import Derived.Test.YthobaffgllipfaaGreatDecS
import Derived.Test.YthobaffgllipfaaGreatDMod
import Derived.Test.YthobaffgllipfaaGreatDFlo
import Derived.Test.YthobaffgllipfaaGreatProg
import Derived.Test.YthobaffgllipfaaGreatMg12
import Derived.Test.YthobaffgllipfaaGreatDRnd
import Derived.Test.YthobaffgllipfaaGreatKnuth
import Derived.Test.YthobaffgllipfaaGreatDDiv
import Derived.Test.YthobaffgllipfaaGreatValA
import Derived.Test.YthobaffgllipfaaGreatMg17
import Derived.Maps.AppendAt
import Derived.WalkSpells
import Derived.WalkLawsBesides
import Derived.StillTactics
import Derived.Laws.Pointers
import Derived.Deep.RegionHeld3
import Derived.Deep.QuietTactic
import Derived.BigQuiet
import Derived.RowKit3
import Derived.Lib.Hide
import Derived.Lib.OthersKept
import Derived.OwnWalk
import Derived.Lib.IndexLaws
import Derived.Lib.ItoaMem
import Derived.WalkKit
import Derived.ProofKit
import Derived.OpenShut
import Derived.Carry
import Derived.ChangeSame
import Derived.Deep.Draws
import Derived.Laws.BitsAllLaws
import Derived.Shelf.Small.Bits
import Derived.Shelf.Strconv.Itoa0
import Derived.Shelf.Bits.Mul64
import Derived.Lib.TrimByte
import Derived.Lib.Bytealg
import Derived.Lib.SlTrimSet
import Derived.Lib.ParseIntB
import Derived.Shelf.Strings.SlTrimAscii
import Derived.Lib.SmallJoins
import Derived.Laws.Externs
namespace Go.Proofs.YthobaffgllipfaaGreat
open Go.RowKit

theorem valB_append : ∀ (a b : List Nat), valB (a ++ b) = valB a + 18446744073709551616 ^ a.length * valB b
  | [], b => by simp [valB]
  | d :: a, b => by
    simp only [List.cons_append, valB, valB_append a b, List.length_cons, Nat.pow_succ]
    rw [Nat.mul_add, Nat.add_assoc, Nat.mul_comm (18446744073709551616 ^ a.length) 18446744073709551616, Nat.mul_assoc]
theorem valB_zeros : ∀ (n : Nat), valB (List.replicate n 0) = 0
  | 0 => rfl
  | n + 1 => by rw [List.replicate_succ, valB, valB_zeros n]
theorem set_zeros {z q : Value} (j : Nat) (outs : List Value) : (List.replicate (j + 1) z ++ outs).set j q = List.replicate j z ++ q :: outs := by
  rw [List.replicate_succ', List.append_assoc, List.set_append_right _ _ (by simp)]
  simp
theorem by_step (VL VO x r d q r' : Nat) (h : VL = x * VO + r) (hd : r * 18446744073709551616 + d = x * q + r') : d + 18446744073709551616 * VL = x * (q + 18446744073709551616 * VO) + r' := by
  have e1 : x * (q + 18446744073709551616 * VO) = x * q + 18446744073709551616 * (x * VO) := by rw [Nat.mul_add, ← Nat.mul_assoc x 18446744073709551616, Nat.mul_comm x 18446744073709551616, Nat.mul_assoc]
  rw [e1, h, Nat.mul_add, Nat.mul_comm 18446744073709551616 r]
  omega
theorem ownsRow_take {w : World} {B g n L : Nat} {e : TypeId} {xs : List Value} (h : w.ownsRow B e 1 (.slice (some ⟨g, 0, none⟩) L L) L xs) (hn : n ≤ L) : w.ownsRow B e 1 (.slice (some ⟨g, 0, none⟩) n L) n (xs.take n) := by
  obtain ⟨h1, h2⟩ := h
  rcases h2 with ⟨h2, _⟩ | ⟨g', cap, cur, hv, hB, hh, hnc, hm, hs, ht⟩
  · cases h2
  · injection hv with hv1 hv2 hv3
    injection hv1 with hv1
    injection hv1 with hv1
    subst hv1; subst hv3
    refine ⟨by rw [List.length_take, h1]; omega, .inr ⟨g, L, cur, rfl, hB, hh, hn, hm, hs, ?_⟩⟩
    rw [← ht, List.take_take, show min n (L * 1) = n by omega, Nat.mul_one]
theorem valB_all0 : ∀ (l : List Nat), (∀ d ∈ l, d = 0) → valB l = 0
  | [], _ => rfl
  | d :: l, h => by
    rw [valB, h d (by simp), valB_all0 l (fun y hy => h y (by simp [hy]))]
theorem nz_last (l : List Nat) (n d : Nat) (hd : l[n]? = some d) (hd0 : 0 < d) : 1 < n + 1 → 18446744073709551616 ≤ valB (l.take (n + 1)) := by
  intro hn
  have e : l.take (n + 1) = l.take n ++ [d] := by rw [List.take_add_one, hd]; rfl
  have hlt : n < l.length := (List.getElem?_eq_some_iff.1 hd).1
  rw [e, valB_snoc, List.length_take, Nat.min_eq_left (by omega)]
  obtain ⟨k, rfl⟩ : ∃ k, n = k + 1 := ⟨n - 1, by omega⟩
  have h1 : 0 < 18446744073709551616 ^ k := Nat.pow_pos (by decide)
  have h2 : 18446744073709551616 * 1 ≤ 18446744073709551616 * (18446744073709551616 ^ k * d) := Nat.mul_le_mul_left _ (Nat.mul_pos h1 hd0)
  rw [Nat.pow_succ, Nat.mul_comm (18446744073709551616 ^ k) 18446744073709551616, Nat.mul_assoc]
  omega
def sliceLen : Value → Nat | .slice _ n _ => n | _ => 0
/-- no word of nought at the end -/
def NZ (l : List Nat) : Prop := 1 < l.length → 18446744073709551616 ≤ valB l
set_option maxRecDepth 100000 in
set_option maxHeartbeats 4000000 in
theorem by_any (l : List Nat) (hl : ∀ d ∈ l, d < 18446744073709551616) (hlen : l.length ≤ 1000) (x : Nat) (hx0 : 0 < x) (hx : x < 18446744073709551616) (w : World) (A : Option Addr) (cap : Nat) (hR : RdB w w.heap.size A 1 (l.map fun (d : Nat) => [Value.int .u64 (d : Int)])) : Calls Tryz.prog 88 #[.slice A l.length cap, .int .u64 (x : Int)] w (WordsAt (valB l / x) l.length NZ w) := by
  obtain ⟨i0, hi, hz0, hz1, hz2⟩ := info_parts u64_info
  have hl' := Lib.hid hl
  have hR' := Lib.hid hR
  clear hl hR
  go_enter Tryz.func88, Tryz.ntmps88
  go_wp2_with (at_make; refine wpList_make_full _ rfl _ _ 97 rfl w.heap.size 76 i0 (.int .u64 0) 1 Tryz.underlying97 hi hz0 hz1 .i64 .i64 _ _ l.length rfl rfl rfl rfl (by rw [hz2]; omega) (by unfold maxLen; omega) (Nat.le_refl _) ?_; intro w1 hown1 hgrow1)
  have hb1 : Below w.heap.size w w1 := (Below.refl _ _).grown hgrow1 (Nat.le_refl _) (fun k e => by cases e)
  have hg1 : w.heap.size < w1.heap.size := (hown1.lt w.heap.size rfl).2
  have hz1' := hgrow1.size
  rw [show (Value.int .u64 0).cells = #[.int .u64 0] from rfl, Nat.mul_one, toList_madeCells_one] at hown1
  have hown1' := hown1
  clear hown1
  go_loopw [6, 7] (fun rv iv wr => ∃ (j : Nat) (i : Int), j ≤ l.length ∧ i = (j : Int) - 1 ∧ iv = .int .i64 i ∧ ∃ (r : Nat) (outs : List Nat), rv = .int .u64 (r : Int) ∧ r < x ∧ j + outs.length = l.length ∧ Hid (valB (l.drop j) = x * valB outs + r) ∧ Hid (∀ d ∈ outs, d < 18446744073709551616) ∧ wr.ownsRow w.heap.size 76 1 (.slice (some ⟨w.heap.size, 0, none⟩) l.length l.length) l.length (List.replicate j (.int .u64 0) ++ outs.map fun (n : Nat) => Value.int .u64 (n : Int)) ∧ Below w.heap.size w wr ∧ w.heap.size < wr.heap.size) (fun _ iv _ => (intOf iv + 1).toNat)
  case atStart => exact ⟨l.length, _, Nat.le_refl _, rfl, rfl, 0, [], rfl, by omega, by simp, Lib.hid (by simp [valB]), Lib.hid (by simp), by simpa using hown1', hb1, hg1⟩
  case round =>
    obtain ⟨j, i, hj, hi', rfl, r, outs, rfl, hr, hol, hval, hdig, hown, hbr, hgr⟩ := hrel
    have hzr := hbr.size
    have hol' := Lib.hid hol
    clear hol hb1 hgrow1 hg1 hz1' hown1'
    have hownH := Lib.hid hown
    clear hown
    rcases j with _ | j
    · obtain rfl : i = -1 := by omega
      clear hi'
      obtain ⟨L, hL⟩ : ∃ L, L = l.length := ⟨_, rfl⟩
      have hown := hownH.out
      rw [List.replicate_zero, List.nil_append] at hown
      rw [List.drop_zero] at hval
      rw [← hL] at hown hlen ⊢
      have hoL : outs.length = L := by have := hol'.out; omega
      have hv' : valB l / x = valB outs := by rw [hval.out, Nat.mul_add_div hx0, Nat.div_eq_of_lt hr, Nat.add_zero]
      have hall := Lib.hid (And.intro hoL (And.intro hv' hL))
      have hownH2 := Lib.hid hown
      clear hown hownH hoL hv' hL hval hol' hx0 hx hr hR' hl' hzr
      go_wp2
      go_loopw [5] (fun sv wq => wq = wr ∧ ∃ n, n ≤ L ∧ sv = .slice (some ⟨w.heap.size, 0, none⟩) n L ∧ Hid (∀ d ∈ outs.drop n, d = 0)) (fun sv _ => sliceLen sv)
      case atStart => exact ⟨rfl, L, Nat.le_refl _, rfl, Lib.hid (by rw [List.drop_of_length_le (by have := hall.out.1; omega)]; simp)⟩
      case round =>
        obtain ⟨rfl, n, hn, rfl, hz⟩ := hrel
        rcases n with _ | k
        · go_wp2
          go_ret
          have h0 := valB_all0 _ hz.out
          rw [List.drop_zero] at h0
          exact ⟨_, [], rfl, by simpa using ownsRow_take hownH2.out (Nat.zero_le _), by rw [hall.out.2.1, h0]; rfl, by simp, Nat.zero_le _, by simp [NZ], hbr⟩
        · obtain ⟨d, hd⟩ : ∃ d, outs[k]? = some d := ⟨_, List.getElem?_eq_getElem (by have := hall.out.1; omega)⟩
          have hcA := (hownH2.out.cellAt k (by omega)).trans (show _ = some (Value.int .u64 (d : Int)) by rw [List.getElem?_map, hd]; rfl)
          have hw1 : IntKind.i64.wrap ((k : Int) + 1 - 1) = (k : Int) := by rw [IntWalk.i64_in _ (by omega)]; omega
          have hk0 : (0 : Int) < (k : Int) + 1 := by omega
          have hkk : (k : Int) < (k : Int) + 1 := by omega
          by_cases hd0 : d = 0
          · subst hd0
            have hd' := Lib.hid hd
            clear hd
            go_wp2
            go_roundw
            case rel =>
              refine ⟨trivial, k, by omega, rfl, Lib.hid ?_⟩
              intro y hy
              obtain ⟨hlt, e⟩ := List.getElem?_eq_some_iff.1 hd'.out
              rw [List.drop_eq_getElem_cons hlt, e] at hy
              rcases List.mem_cons.1 hy with h | h
              · exact h
              · exact hz.out y h
            case measure => simp [sliceLen]
          · have hdp : (0 : Int) < (d : Int) := by omega
            have hdn : ((d : Int) = 0) = False := by simp; omega
            have hd' := Lib.hid (And.intro hd hd0)
            clear hd
            go_wp2
            go_ret
            have hsp : valB outs = valB (outs.take (k + 1)) := by
              have h := valB_append (outs.take (k + 1)) (outs.drop (k + 1))
              rw [List.take_append_drop, valB_all0 _ hz.out, Nat.mul_zero, Nat.add_zero] at h
              exact h
            have hl2 : (outs.take (k + 1)).length = k + 1 := by rw [List.length_take]; have := hall.out.1; omega
            refine ⟨_, outs.take (k + 1), rfl, ?_, by rw [hall.out.2.1, hsp], fun y hy => hdig.out y (List.mem_of_mem_take hy), by rw [hl2, ← hall.out.2.2]; exact hn, ?_, hbr⟩
            · rw [hl2, List.map_take]; exact ownsRow_take hownH2.out hn
            · unfold NZ; rw [hl2]; exact nz_last _ _ _ hd'.out.1 (by have := hd'.out.2; omega)
    · obtain rfl : i = (j : Int) := by omega
      clear hi'
      obtain ⟨d, hd⟩ : ∃ d, l[j]? = some d := ⟨_, List.getElem?_eq_getElem (by omega)⟩
      obtain ⟨b, off, rfl, hbb, hcell⟩ := (hR'.out.below hbr) j [.int .u64 (d : Int)] (by rw [List.getElem?_map, hd]; rfl)
      have hck : wr.cell? ⟨b, off + j, none⟩ = some (.int .u64 (d : Int)) := by simpa using hcell 0 _ rfl
      have hdb := hl'.out d (List.mem_of_getElem? hd)
      have hts : l.drop j = d :: l.drop (j + 1) := by
        obtain ⟨hlt, e⟩ := List.getElem?_eq_some_iff.1 hd
        rw [List.drop_eq_getElem_cons hlt, e]
      have hts' := Lib.hid hts
      have hkl : (j : Int) < (l.length : Int) := by omega
      have hwj : IntKind.i64.wrap ((j : Int) - 1) = (j : Int) - 1 := IntWalk.i64_in _ (by omega)
      have C1 := Lib.hid (div64_any r d x hdb hx hr wr)
      obtain ⟨q, hq⟩ : ∃ q, (r * 18446744073709551616 + d) / x = q := ⟨_, rfl⟩
      obtain ⟨r', hr'⟩ : ∃ r', (r * 18446744073709551616 + d) % x = r' := ⟨_, rfl⟩
      rw [hq, hr'] at C1
      have hrb : r' < x := by rw [← hr']; exact Nat.mod_lt _ hx0
      have hqm : x * q + r' = r * 18446744073709551616 + d := by rw [← hq, ← hr']; exact Nat.div_add_mod _ _
      have hqb : q < 18446744073709551616 := by rw [← hq]; exact (Nat.div_lt_iff_lt_mul hx0).2 (by have : (r + 1) * 18446744073709551616 ≤ x * 18446744073709551616 := Nat.mul_le_mul_right _ hr; rw [Nat.mul_comm 18446744073709551616 x]; omega)
      have hst := Lib.hid (by_step _ _ x r d q r' hval.out (by omega))
      have hb3 := Lib.hid (And.intro hqb hrb)
      clear hd hcell hts hq hr' hqm hval hdb hqb hrb
      have hx' := Lib.hid (And.intro hx0 hx)
      clear hx0 hx
      go_wp2_with fail
      refine C1.out.mono ?_
      rintro e w2 ⟨rfl, hb2⟩
      have hown2 := ownsRow_below hownH.out hb2
      have hcA : w2.cell? ⟨w.heap.size, j, none⟩ = some (.int .u64 0) := (hown2.cellAt j (by omega)).trans (by rw [List.getElem?_append_left (by simp), List.getElem?_replicate, if_pos (by omega)])
      have hfA := hown2.frozenAt j
      have hst2 := hown2.stored j (.int .u64 (q : Int))
      rw [set_zeros] at hst2
      have hown3 := Lib.hid hst2.1
      have hb2z := hb2.size
      clear hst2
      go_wp2
      go_roundw
      case rel =>
        refine ⟨j, _, by omega, rfl, by go_num, r', q :: outs, rfl, hb3.out.2, by have := hol'.out; simp; omega, Lib.hid ?_, Lib.hid ?_, hown3.out, ?_, ?_⟩
        · rw [hts'.out]; exact hst.out
        · intro y hy
          rcases List.mem_cons.1 hy with h | h
          · rw [h]; exact hb3.out.1
          · exact hdig.out y h
        · exact (hbr.trans (hb2.mono (by omega))).setCell (Nat.le_refl _) _
        · simp; omega
      case measure => simp [intOf]
end Go.Proofs.YthobaffgllipfaaGreat
