/-
  dec.Power.
-/
import Derived.Test.YthobaffgllipfaaGreatRows
import Derived.Test.YthobaffgllipfaaGreatBase
import Derived.Test.YthobaffgllipfaaGreatMg3
import Derived.Test.YthobaffgllipfaaGreatDecS
import Derived.Test.YthobaffgllipfaaGreatDMod
import Derived.Test.YthobaffgllipfaaGreatDFlo
import Derived.Test.YthobaffgllipfaaGreatProg
import Derived.Test.YthobaffgllipfaaGreatMg12
import Derived.Test.YthobaffgllipfaaGreatDRnd
import Derived.Test.YthobaffgllipfaaGreatKnuth
import Derived.Test.YthobaffgllipfaaGreatDDiv
import Derived.Test.YthobaffgllipfaaGreatValA
import Derived.Test.YthobaffgllipfaaGreatMg17
import Derived.Test.YthobaffgllipfaaGreatDPowB
import Derived.WalkSpells
import Derived.WalkLawsBesides
import Derived.StillTactics
import Derived.Laws.Pointers
import Derived.Deep.RegionHeld3
import Derived.Deep.QuietTactic
import Derived.BigQuiet
import Derived.RowKit3
import Derived.Lib.Hide
import Derived.Lib.OthersKept
import Derived.OwnWalk
import Derived.Lib.IndexLaws
import Derived.Lib.ItoaMem
import Derived.WalkKit
import Derived.ProofKit
import Derived.OpenShut
import Derived.Carry
import Derived.ChangeSame
import Derived.Deep.Draws
import Derived.Laws.BitsAllLaws
import Derived.Shelf.Small.Bits
import Derived.Shelf.Strconv.Itoa0
import Derived.Shelf.Bits.Mul64
import Derived.Lib.TrimByte
import Derived.Lib.Bytealg
import Derived.Lib.SlTrimSet
import Derived.Lib.ParseIntB
import Derived.Shelf.Strings.SlTrimAscii
import Derived.Lib.SmallJoins
import Derived.Laws.Externs
import Derived.Maps.AppendAt
namespace Go.Proofs.YthobaffgllipfaaGreat
open Go.RowKit

/-- a row of words that is the call's own -/
structure HeldW (B : Nat) (w0 w : World) (v : Value) (l : List Nat) : Prop where
  own : w.ownsRow B 76 1 v l.length (l.map fun (n : Nat) => Value.int .u64 (n : Int))
  dig : ∀ d ∈ l, d < 18446744073709551616
  bel : Below B w0 w
  siz : B ≤ w.heap.size
theorem rdB_own {w : World} {B : Nat} {e : TypeId} {v : Value} {l : List Nat} (h : w.ownsRow B e 1 v l.length (l.map fun (n : Nat) => Value.int .u64 (n : Int))) : ∃ A cap, v = .slice A l.length cap ∧ RdB w w.heap.size A 1 (l.map fun (d : Nat) => [Value.int .u64 (d : Int)]) := by
  rcases h.2 with ⟨h2, h3⟩ | ⟨g, cap, cur, hv, hB, hh, hr⟩
  · exact ⟨none, 0, by rw [h2, h3], fun i c hi => by rw [List.eq_nil_of_length_eq_zero h3] at hi; simp at hi⟩
  · refine ⟨_, cap, hv, fun i c hi => ⟨g, 0, rfl, (Array.getElem?_eq_some_iff.1 hh).1, fun j u hu => ?_⟩⟩
    rw [List.getElem?_map] at hi
    obtain ⟨d, hd, rfl⟩ := Option.map_eq_some_iff.1 hi
    obtain ⟨hlt, _⟩ := List.getElem?_eq_some_iff.1 hd
    rcases j with _ | j
    · simp at hu
      subst hu
      subst hv
      have := h.cellAt i (by omega)
      rw [List.getElem?_map, hd] at this
      simpa using this
    · simp at hu
theorem times_held {B : Nat} {w0 w : World} {v : Value} {l : List Nat} (h : HeldW B w0 w v l) (hlen : l.length ≤ 1000) (x : Nat) (hx : x < 18446744073709551616) : Calls Tryz.prog 87 #[v, .int .u64 (x : Int)] w fun e w' => ∃ u l', e = .returned u ∧ HeldW B w0 w' u l' ∧ Hid (valB l' = valB l * x) ∧ l'.length ≤ l.length + 1 ∧ Hid (l'.length = l.length ∨ 18446744073709551616 ^ l.length ≤ valB l') := by
  obtain ⟨A, cap, rfl, hR⟩ := rdB_own h.own
  refine (times_any l h.dig hlen x hx w A cap hR).mono ?_
  rintro e w' ⟨u, l', rfl, hown, hv, hd, hl, hq, hb⟩
  exact ⟨u, l', rfl, ⟨ownsRow_base hown h.siz, hd, h.bel.trans (hb.mono h.siz), Nat.le_trans h.siz hb.size⟩, Lib.hid hv, hl, Lib.hid hq⟩
theorem by_held {B : Nat} {w0 w : World} {v : Value} {l : List Nat} (h : HeldW B w0 w v l) (hlen : l.length ≤ 1000) (x : Nat) (hx : x < 18446744073709551616) (hx0 : 0 < x) : Calls Tryz.prog 88 #[v, .int .u64 (x : Int)] w fun e w' => ∃ u l', e = .returned u ∧ HeldW B w0 w' u l' ∧ Hid (valB l' = valB l / x) ∧ l'.length ≤ l.length ∧ Hid (NZ l') := by
  obtain ⟨A, cap, rfl, hR⟩ := rdB_own h.own
  refine (by_any l h.dig hlen x hx0 hx w A cap hR).mono ?_
  rintro e w' ⟨u, l', rfl, hown, hv, hd, hl, hq, hb⟩
  exact ⟨u, l', rfl, ⟨ownsRow_base hown h.siz, hd, h.bel.trans (hb.mono h.siz), Nat.le_trans h.siz hb.size⟩, Lib.hid hv, hl, Lib.hid hq⟩
theorem fin_one (i a b v : Nat) (ha : a ≤ i + 1) (hb : b ≤ a + 1) (h : b = a ∨ 18446744073709551616 ^ a ≤ v) : i + 1 ≠ 1 ∨ b ≤ 1 ∨ 18446744073709551616 ≤ v := by
  rcases Nat.eq_zero_or_pos i with h0 | h0
  · subst h0
    rcases (show a = 0 ∨ a = 1 by omega) with h1 | h1
    · exact .inr (.inl (by omega))
    · subst h1
      rcases h with h | h
      · exact .inr (.inl (by omega))
      · exact .inr (.inr (by simpa using h))
  · exact .inl (by omega)
theorem valB_word (l : List Nat) (h : l.length ≤ 1) (hd : ∀ d ∈ l, d < 18446744073709551616) : valB l < 18446744073709551616 := by
  rcases l with _ | ⟨d, _ | ⟨_, _⟩⟩
  · simp [valB]
  · have := hd d (by simp)
    simpa [valB] using this
  · simp at h
/-- twice the power, in parts -/
def powH (m : Nat) (n : Int) : Nat := if 0 < n then 2 * m ^ n.toNat / 10000 ^ (n.toNat - 1) else 2 * 10000 ^ (1 + (-n).toNat) / m ^ (-n).toNat
def powS (x n : Int) : Int := if x < 0 ∧ n % 2 ≠ 0 then -(((powH x.natAbs n + 1) / 2 : Nat) : Int) else ((powH x.natAbs n + 1) / 2 : Nat)
theorem pow_big (x n : Int) (m : Nat) (hm : m = x.natAbs) (h : 18446744073709551616 ≤ powH m n) : Ending.returned (.tuple #[.int .i64 0, .int .i64 2]) = Ending.returned (.tuple #[.int .i64 (exV (powS x n)), .int .i64 (exC (powS x n))]) := by
  subst hm
  have h2 : 9223372036854775808 ≤ (powH x.natAbs n + 1) / 2 := by omega
  obtain ⟨q, hq⟩ : ∃ q, (powH x.natAbs n + 1) / 2 = q := ⟨_, rfl⟩
  have h3 : ¬ (-9223372036854775807 ≤ powS x n ∧ powS x n ≤ 9223372036854775807) := by
    unfold powS
    rw [hq]
    rw [hq] at h2
    split <;> omega
  rw [exV, exC, if_neg h3, if_neg h3]
theorem tmod_dec (a : Int) : (a.tmod 2 != 0) = (true && decide (a % 2 ≠ 0)) := by
  have h : a.tmod 2 = 0 ↔ a % 2 = 0 := ⟨fun h => Int.emod_eq_zero_of_dvd (Int.dvd_of_tmod_eq_zero h), fun h => Int.tmod_eq_zero_of_dvd (Int.dvd_of_emod_eq_zero h)⟩
  by_cases h2 : a % 2 = 0
  · simp [h2, h.2 h2]
  · have : ¬ a.tmod 2 = 0 := fun e => h2 (h.1 e)
    simp [h2, this]
theorem bne_dec (a : Int) : (a != 0) = (true && decide (a ≠ 0)) := by
  by_cases h : a = 0 <;> simp [h]
theorem pow_sig (x n : Int) (m h : Nat) (low b : Bool) (hm : m = x.natAbs) (hlow : low = decide (x < 0)) (hb : b = (low && decide (n % 2 ≠ 0))) (hh : h = powH m n) : (if b = true then -(((h + 1) / 2 : Nat) : Int) else (((h + 1) / 2 : Nat) : Int)) = powS x n := by
  subst hm hlow hb hh
  unfold powS
  by_cases h1 : x < 0 <;> by_cases h2 : n % 2 = 0 <;> simp [h1, h2]
set_option maxRecDepth 100000 in
set_option maxHeartbeats 400000 in
theorem power_pos (x n : Int) (hx : -9223372036854775808 ≤ x ∧ x ≤ 9223372036854775807) (hx1 : x ≠ -9223372036854775808) (hx0 : ¬ x = 0) (hn : 0 < n ∧ n ≤ 64) (w : World) : Calls Tryz.prog 46 #[.int .i64 x, .int .i64 n] w fun e w' => e = .returned (.tuple #[.int .i64 (exV (powS x n)), .int .i64 (exC (powS x n))]) ∧ Below w.heap.size w w' := by
  have hmay : decMay x = true := by simp [decMay]; omega
  obtain ⟨m, hm⟩ : ∃ m : Nat, m = x.natAbs := ⟨_, rfl⟩
  have hma : absI x = (m : Int) := by unfold absI; split <;> omega
  have hmb : m < 18446744073709551616 := by omega
  have S0 := dmay_any x hx w
  have S1 := size_any x hx w
  obtain ⟨low, hlow⟩ : ∃ low, low = decide (x < 0) := ⟨_, rfl⟩
  rw [hma, ← hlow] at S1
  rw [hmay] at S0
  obtain ⟨k, rfl⟩ : ∃ k : Nat, n = (k : Int) + 1 := ⟨(n - 1).toNat, by omega⟩
  have hk : k ≤ 63 := by omega
  have e1 : ((k : Int) + 1 = 0) = False := by simp; omega
  have e2 : (0 : Int) < (k : Int) + 1 := by omega
  have e3 : ¬ ((k : Int) + 1 < -64) := by omega
  have e4 : ¬ ((64 : Int) < (k : Int) + 1) := by omega
  have e5 : ¬ ((k : Int) + 1 < 0) := by omega
  have e6 : IntKind.i64.wrap ((k : Int) + 1 - 1) = (k : Int) := by rw [IntWalk.i64_in _ (by omega)]; omega
  clear hn
  have hx' := Lib.hid (And.intro hx hx1)
  have hm' := Lib.hid hm
  have hlow' := Lib.hid hlow
  have hmb' := Lib.hid hmb
  clear hx hx1 hm hma hmb hmay hlow
  go_enter Tryz.func46, Tryz.ntmps46
  go_wp2_with fail
  with_reducible refine S0.mono ?_
  rintro e w1 ⟨rfl, rfl⟩
  go_wp2_with fail
  with_reducible refine S1.mono ?_
  rintro e w1 ⟨rfl, rfl⟩
  go_wp2
  have hst0 : HeldW w.heap.size w (w.alloc (Obj.cells #[Value.int .u64 2] 76)) (.slice (some ⟨w.heap.size, 0, none⟩) 1 1) [2] := by
    refine ⟨⟨rfl, .inr ⟨w.heap.size, 1, #[.int .u64 2], rfl, Nat.le_refl _, by show (w.heap.push _)[w.heap.size]? = _; simp, Nat.le_refl _, by unfold maxLen; omega, rfl, rfl⟩⟩, by simp, (Below.refl _ _).alloc (Nat.le_refl _) _, by simp⟩
  go_loopw [8, 42] (fun hv iv wr => ∃ i : Nat, i ≤ (k + 1) ∧ iv = .int .i64 (i : Int) ∧ ∃ l : List Nat, HeldW w.heap.size w wr hv l ∧ Hid (valB l = 2 * m ^ i) ∧ l.length ≤ i + 1 ∧ Hid (i ≠ 1 ∨ l.length ≤ 1 ∨ 18446744073709551616 ≤ valB l)) (fun _ iv _ => (k + 1) - (intOf iv).toNat)
  case atStart => exact ⟨0, Nat.zero_le _, rfl, [2], hst0, Lib.hid (by simp [valB]), by simp, Lib.hid (.inl (by omega))⟩
  case round =>
    obtain ⟨i, hi', rfl, l, hw, hval, hlen, hfin⟩ := hrel
    by_cases hlt : i < (k + 1)
    · have hlti : (i : Int) < (((k + 1) : Nat) : Int) := by omega
      have hwi : IntKind.i64.wrap ((i : Int) + 1) = (i : Int) + 1 := IntWalk.i64_in _ (by omega)
      have C := Lib.hid (times_held hw (by omega) m hmb'.out)
      go_wp2_with fail
      with_reducible refine C.out.mono ?_
      rintro e w2 ⟨u, l', rfl, hw2, hv2, hl2, hq2⟩
      have hwH := Lib.hid hw2
      clear hw2
      go_wp2
      go_roundw
      case rel => exact ⟨i + 1, by omega, by go_num, l', hwH.out, Lib.hid (by rw [hv2.out, hval.out]; rw [Nat.pow_succ, Nat.mul_assoc]), by omega, Lib.hid (fin_one _ _ _ _ hlen hl2 hq2.out)⟩
      case measure => simp [intOf]; omega
    · obtain rfl : (k + 1) = i := by omega
      have hlti : ¬ ((((k + 1) : Nat) : Int) < (((k + 1) : Nat) : Int)) := by omega
      clear hst0
      go_wp2
      go_loopw [8, 50] (fun hv iv wr => ∃ i : Nat, i ≤ k ∧ iv = .int .i64 (i : Int) ∧ ∃ l : List Nat, HeldW w.heap.size w wr hv l ∧ Hid (valB l = 2 * m ^ (k + 1) / 10000 ^ i) ∧ l.length ≤ k + 2 ∧ Hid (i + 1 ≤ k ∨ l.length ≤ 1 ∨ 18446744073709551616 ≤ valB l)) (fun _ iv _ => k - (intOf iv).toNat)
      case atStart => exact ⟨0, Nat.zero_le _, rfl, l, hw, Lib.hid (by rw [hval.out]; simp), by omega, Lib.hid (hfin.out.elim (fun h => .inl (by omega)) .inr)⟩
      case round =>
        obtain ⟨i, hi', rfl, l, hw, hval, hlen, hfin⟩ := hrel
        by_cases hlt : i < k
        · have hlti : (i : Int) < ((k : Nat) : Int) := by omega
          have hwi : IntKind.i64.wrap ((i : Int) + 1) = (i : Int) + 1 := IntWalk.i64_in _ (by omega)
          have C := Lib.hid (show Calls _ _ #[_, .int .u64 10000] _ _ from by_held hw (by omega) 10000 (by decide) (by decide))
          go_wp2_with fail
          with_reducible refine C.out.mono ?_
          rintro e w2 ⟨u, l', rfl, hw2, hv2, hl2, hq2⟩
          have hwH := Lib.hid hw2
          clear hw2
          go_wp2
          go_roundw
          case rel => exact ⟨i + 1, by omega, by go_num, l', hwH.out, Lib.hid (by rw [hv2.out, hval.out]; rw [Nat.div_div_eq_div_mul, ← Nat.pow_succ]), by omega, Lib.hid (by have := hq2.out; unfold NZ at this; omega)⟩
          case measure => simp [intOf]; omega
        · obtain rfl : k = i := by omega
          have hlti : ¬ (((k : Nat) : Int) < ((k : Nat) : Int)) := by omega
          have hH : Hid (valB l = powH m ((k : Int) + 1)) := Lib.hid (by rw [hval.out]; unfold powH; rw [if_pos (by omega)]; rfl)
          have hfin2 : l.length ≤ 1 ∨ 18446744073709551616 ≤ valB l := hfin.out.resolve_left (by omega)
          clear hval hfin hlen
          by_cases h1 : 1 < l.length
          · have h1' : (1 : Int) < (l.length : Int) := by omega
            have hbig := Lib.hid (hfin2.resolve_left (by omega))
            obtain ⟨A, cap, rfl, hR⟩ := rdB_own hw.own
            have hR' := Lib.hid hR
            have hwH := Lib.hid hw
            clear hR hw hfin2
            go_wp2
            go_ret2
            exact ⟨pow_big _ _ m hm'.out (by rw [← hH.out]; exact hbig.out), hwH.out.bel⟩
          · have h1' : ¬ ((1 : Int) < (l.length : Int)) := by omega
            have hle : l.length ≤ 1 := by omega
            obtain ⟨A, cap, rfl, hR⟩ := rdB_own hw.own
            have hbelH := Lib.hid hw.bel
            have hlb := Lib.hid (valB_word l hle hw.dig)
            have hR' := Lib.hid hR
            clear hR hw hfin2
            go_wp2
            go_loopw [9, 75] (fun hv iv wq => wq = wr ∧ ∃ i : Nat, i ≤ l.length ∧ iv = .int .i64 (i : Int) ∧ hv = .int .u64 (valB (l.take i) : Int)) (fun _ iv _ => l.length - (intOf iv).toNat)
            case atStart => exact ⟨rfl, 0, Nat.zero_le _, rfl, rfl⟩
            case round =>
              obtain ⟨rfl, i, hi', rfl, rfl⟩ := hrel
              by_cases hlt : i < l.length
              · obtain rfl : 0 = i := by omega
                obtain ⟨d, rfl⟩ : ∃ d, l = [d] := List.length_eq_one_iff.1 (by omega)
                obtain ⟨b, off, rfl, hbb, hcell⟩ := hR'.out 0 [.int .u64 (d : Int)] rfl
                have hck : wr.cell? ⟨b, off, none⟩ = some (.int .u64 (d : Int)) := by simpa using hcell 0 _ rfl
                clear hcell
                go_wp2
                go_roundw
                case rel => exact ⟨by first | rfl | trivial, 1, by simp, by go_num, by simp [valB]⟩
                case measure => simp [intOf]
              · obtain rfl : l.length = i := by omega
                have hlti : ¬ ((l.length : Int) < (l.length : Int)) := by omega
                rw [List.take_length]
                obtain ⟨h, hh⟩ : ∃ h, valB l = h := ⟨_, rfl⟩
                rw [hh] at hH hlb ⊢
                have hhi : ((h : Int) + 1) / 2 = (((h + 1) / 2 : Nat) : Int) := by omega
                have hq : IntKind.u64.wrap (IntKind.u64.wrap ((h : Int) / 2) + (h : Int) % 2) = (((h + 1) / 2 : Nat) : Int) := by have := hlb.out; rw [IntKind.wrap_u64, IntKind.wrap_u64]; omega
                have hhH := Lib.hid hhi
                clear hhi
                cases low
                · go_wp2_with fail
                  have S := signed_any (((h + 1) / 2 : Nat) : Int) ⟨by omega, by have := hlb.out; omega⟩ false wr
                  rw [pow_sig x ((k : Int) + 1) m h _ false hm'.out hlow'.out rfl hH.out] at S
                  rw [hhH.out]
                  with_reducible refine S.mono ?_
                  rintro e w3 ⟨rfl, rfl⟩
                  go_wp2
                  go_ret2
                  exact ⟨rfl, hbelH.out⟩
                · go_wp2_with fail
                  have S := signed_any (((h + 1) / 2 : Nat) : Int) ⟨by omega, by have := hlb.out; omega⟩ (((k : Int) + 1) % 2 != 0) wr
                  rw [pow_sig x ((k : Int) + 1) m h _ (((k : Int) + 1) % 2 != 0) hm'.out hlow'.out (bne_dec _) hH.out] at S
                  rw [hhH.out]
                  with_reducible refine S.mono ?_
                  rintro e w3 ⟨rfl, rfl⟩
                  go_wp2
                  go_ret2
                  exact ⟨rfl, hbelH.out⟩
set_option maxRecDepth 100000 in
set_option maxHeartbeats 400000 in
theorem power_zero (n : Int) (hn : 0 < n ∧ n ≤ 64) (w : World) : Calls Tryz.prog 46 #[.int .i64 0, .int .i64 n] w fun e w' => e = .returned (.tuple #[.int .i64 (exV (powS 0 n)), .int .i64 (exC (powS 0 n))]) ∧ Below w.heap.size w w' := by
  obtain ⟨m, hm⟩ : ∃ m : Nat, m = (0 : Int).natAbs := ⟨_, rfl⟩
  have hma : absI 0 = (m : Int) := by rw [hm]; rfl
  have hmb : m < 18446744073709551616 := by rw [hm]; decide
  have hmay : True := trivial
  have S0 := dmay_any 0 (by decide) w
  have S1 := size_any 0 (by decide) w
  obtain ⟨low, hlow⟩ : ∃ low, low = decide ((0 : Int) < 0) := ⟨_, rfl⟩
  rw [hma, ← hlow] at S1
  rw [show decMay 0 = true from rfl] at S0
  obtain ⟨k, rfl⟩ : ∃ k : Nat, n = (k : Int) + 1 := ⟨(n - 1).toNat, by omega⟩
  have hk : k ≤ 63 := by omega
  have e1 : ((k : Int) + 1 = 0) = False := by simp; omega
  have e2 : (0 : Int) < (k : Int) + 1 := by omega
  have e3 : ¬ ((k : Int) + 1 < -64) := by omega
  have e4 : ¬ ((64 : Int) < (k : Int) + 1) := by omega
  have e5 : ¬ ((k : Int) + 1 < 0) := by omega
  have e6 : IntKind.i64.wrap ((k : Int) + 1 - 1) = (k : Int) := by rw [IntWalk.i64_in _ (by omega)]; omega
  clear hn
  have hm' := Lib.hid hm
  have hlow' := Lib.hid hlow
  have hmb' := Lib.hid hmb
  clear hm hma hmb hmay hlow
  go_enter Tryz.func46, Tryz.ntmps46
  go_wp2_with fail
  with_reducible refine S0.mono ?_
  rintro e w1 ⟨rfl, rfl⟩
  go_wp2_with fail
  with_reducible refine S1.mono ?_
  rintro e w1 ⟨rfl, rfl⟩
  go_wp2
  have hst0 : HeldW w.heap.size w (w.alloc (Obj.cells #[Value.int .u64 2] 76)) (.slice (some ⟨w.heap.size, 0, none⟩) 1 1) [2] := by
    refine ⟨⟨rfl, .inr ⟨w.heap.size, 1, #[.int .u64 2], rfl, Nat.le_refl _, by show (w.heap.push _)[w.heap.size]? = _; simp, Nat.le_refl _, by unfold maxLen; omega, rfl, rfl⟩⟩, by simp, (Below.refl _ _).alloc (Nat.le_refl _) _, by simp⟩
  go_loopw [8, 42] (fun hv iv wr => ∃ i : Nat, i ≤ (k + 1) ∧ iv = .int .i64 (i : Int) ∧ ∃ l : List Nat, HeldW w.heap.size w wr hv l ∧ Hid (valB l = 2 * m ^ i) ∧ l.length ≤ i + 1 ∧ Hid (i ≠ 1 ∨ l.length ≤ 1 ∨ 18446744073709551616 ≤ valB l)) (fun _ iv _ => (k + 1) - (intOf iv).toNat)
  case atStart => exact ⟨0, Nat.zero_le _, rfl, [2], hst0, Lib.hid (by simp [valB]), by simp, Lib.hid (.inl (by omega))⟩
  case round =>
    obtain ⟨i, hi', rfl, l, hw, hval, hlen, hfin⟩ := hrel
    by_cases hlt : i < (k + 1)
    · have hlti : (i : Int) < (((k + 1) : Nat) : Int) := by omega
      have hwi : IntKind.i64.wrap ((i : Int) + 1) = (i : Int) + 1 := IntWalk.i64_in _ (by omega)
      have C := Lib.hid (times_held hw (by omega) m hmb'.out)
      go_wp2_with fail
      with_reducible refine C.out.mono ?_
      rintro e w2 ⟨u, l', rfl, hw2, hv2, hl2, hq2⟩
      have hwH := Lib.hid hw2
      clear hw2
      go_wp2
      go_roundw
      case rel => exact ⟨i + 1, by omega, by go_num, l', hwH.out, Lib.hid (by rw [hv2.out, hval.out]; rw [Nat.pow_succ, Nat.mul_assoc]), by omega, Lib.hid (fin_one _ _ _ _ hlen hl2 hq2.out)⟩
      case measure => simp [intOf]; omega
    · obtain rfl : (k + 1) = i := by omega
      have hlti : ¬ ((((k + 1) : Nat) : Int) < (((k + 1) : Nat) : Int)) := by omega
      clear hst0
      go_wp2
      go_loopw [8, 50] (fun hv iv wr => ∃ i : Nat, i ≤ k ∧ iv = .int .i64 (i : Int) ∧ ∃ l : List Nat, HeldW w.heap.size w wr hv l ∧ Hid (valB l = 2 * m ^ (k + 1) / 10000 ^ i) ∧ l.length ≤ k + 2 ∧ Hid (i + 1 ≤ k ∨ l.length ≤ 1 ∨ 18446744073709551616 ≤ valB l)) (fun _ iv _ => k - (intOf iv).toNat)
      case atStart => exact ⟨0, Nat.zero_le _, rfl, l, hw, Lib.hid (by rw [hval.out]; simp), by omega, Lib.hid (hfin.out.elim (fun h => .inl (by omega)) .inr)⟩
      case round =>
        obtain ⟨i, hi', rfl, l, hw, hval, hlen, hfin⟩ := hrel
        by_cases hlt : i < k
        · have hlti : (i : Int) < ((k : Nat) : Int) := by omega
          have hwi : IntKind.i64.wrap ((i : Int) + 1) = (i : Int) + 1 := IntWalk.i64_in _ (by omega)
          have C := Lib.hid (show Calls _ _ #[_, .int .u64 10000] _ _ from by_held hw (by omega) 10000 (by decide) (by decide))
          go_wp2_with fail
          with_reducible refine C.out.mono ?_
          rintro e w2 ⟨u, l', rfl, hw2, hv2, hl2, hq2⟩
          have hwH := Lib.hid hw2
          clear hw2
          go_wp2
          go_roundw
          case rel => exact ⟨i + 1, by omega, by go_num, l', hwH.out, Lib.hid (by rw [hv2.out, hval.out]; rw [Nat.div_div_eq_div_mul, ← Nat.pow_succ]), by omega, Lib.hid (by have := hq2.out; unfold NZ at this; omega)⟩
          case measure => simp [intOf]; omega
        · obtain rfl : k = i := by omega
          have hlti : ¬ (((k : Nat) : Int) < ((k : Nat) : Int)) := by omega
          have hH : Hid (valB l = powH m ((k : Int) + 1)) := Lib.hid (by rw [hval.out]; unfold powH; rw [if_pos (by omega)]; rfl)
          have hfin2 : l.length ≤ 1 ∨ 18446744073709551616 ≤ valB l := hfin.out.resolve_left (by omega)
          clear hval hfin hlen
          by_cases h1 : 1 < l.length
          · have h1' : (1 : Int) < (l.length : Int) := by omega
            have hbig := Lib.hid (hfin2.resolve_left (by omega))
            obtain ⟨A, cap, rfl, hR⟩ := rdB_own hw.own
            have hR' := Lib.hid hR
            have hwH := Lib.hid hw
            clear hR hw hfin2
            go_wp2
            go_ret2
            exact ⟨pow_big _ _ m hm'.out (by rw [← hH.out]; exact hbig.out), hwH.out.bel⟩
          · have h1' : ¬ ((1 : Int) < (l.length : Int)) := by omega
            have hle : l.length ≤ 1 := by omega
            obtain ⟨A, cap, rfl, hR⟩ := rdB_own hw.own
            have hbelH := Lib.hid hw.bel
            have hlb := Lib.hid (valB_word l hle hw.dig)
            have hR' := Lib.hid hR
            clear hR hw hfin2
            go_wp2
            go_loopw [9, 75] (fun hv iv wq => wq = wr ∧ ∃ i : Nat, i ≤ l.length ∧ iv = .int .i64 (i : Int) ∧ hv = .int .u64 (valB (l.take i) : Int)) (fun _ iv _ => l.length - (intOf iv).toNat)
            case atStart => exact ⟨rfl, 0, Nat.zero_le _, rfl, rfl⟩
            case round =>
              obtain ⟨rfl, i, hi', rfl, rfl⟩ := hrel
              by_cases hlt : i < l.length
              · obtain rfl : 0 = i := by omega
                obtain ⟨d, rfl⟩ : ∃ d, l = [d] := List.length_eq_one_iff.1 (by omega)
                obtain ⟨b, off, rfl, hbb, hcell⟩ := hR'.out 0 [.int .u64 (d : Int)] rfl
                have hck : wr.cell? ⟨b, off, none⟩ = some (.int .u64 (d : Int)) := by simpa using hcell 0 _ rfl
                clear hcell
                go_wp2
                go_roundw
                case rel => exact ⟨by first | rfl | trivial, 1, by simp, by go_num, by simp [valB]⟩
                case measure => simp [intOf]
              · obtain rfl : l.length = i := by omega
                have hlti : ¬ ((l.length : Int) < (l.length : Int)) := by omega
                rw [List.take_length]
                obtain ⟨h, hh⟩ : ∃ h, valB l = h := ⟨_, rfl⟩
                rw [hh] at hH hlb ⊢
                have hhi : ((h : Int) + 1) / 2 = (((h + 1) / 2 : Nat) : Int) := by omega
                have hq : IntKind.u64.wrap (IntKind.u64.wrap ((h : Int) / 2) + (h : Int) % 2) = (((h + 1) / 2 : Nat) : Int) := by have := hlb.out; rw [IntKind.wrap_u64, IntKind.wrap_u64]; omega
                have hhH := Lib.hid hhi
                clear hhi
                cases low
                · go_wp2_with fail
                  have S := signed_any (((h + 1) / 2 : Nat) : Int) ⟨by omega, by have := hlb.out; omega⟩ false wr
                  rw [pow_sig 0 ((k : Int) + 1) m h _ false hm'.out hlow'.out rfl hH.out] at S
                  rw [hhH.out]
                  with_reducible refine S.mono ?_
                  rintro e w3 ⟨rfl, rfl⟩
                  go_wp2
                  go_ret2
                  exact ⟨rfl, hbelH.out⟩
                · go_wp2_with fail
                  have S := signed_any (((h + 1) / 2 : Nat) : Int) ⟨by omega, by have := hlb.out; omega⟩ (((k : Int) + 1) % 2 != 0) wr
                  rw [pow_sig 0 ((k : Int) + 1) m h _ (((k : Int) + 1) % 2 != 0) hm'.out hlow'.out (bne_dec _) hH.out] at S
                  rw [hhH.out]
                  with_reducible refine S.mono ?_
                  rintro e w3 ⟨rfl, rfl⟩
                  go_wp2
                  go_ret2
                  exact ⟨rfl, hbelH.out⟩
set_option maxRecDepth 100000 in
set_option maxHeartbeats 400000 in
theorem power_neg (x n : Int) (hx : -9223372036854775808 ≤ x ∧ x ≤ 9223372036854775807) (hx1 : x ≠ -9223372036854775808) (hx0 : ¬ x = 0) (hn : n < 0 ∧ -64 ≤ n) (w : World) : Calls Tryz.prog 46 #[.int .i64 x, .int .i64 n] w fun e w' => e = .returned (.tuple #[.int .i64 (exV (powS x n)), .int .i64 (exC (powS x n))]) ∧ Below w.heap.size w w' := by
  have hmay : decMay x = true := by simp [decMay]; omega
  obtain ⟨m, hm⟩ : ∃ m : Nat, m = x.natAbs := ⟨_, rfl⟩
  have hma : absI x = (m : Int) := by unfold absI; split <;> omega
  have hmb : m < 18446744073709551616 := by omega
  have S0 := dmay_any x hx w
  have S1 := size_any x hx w
  obtain ⟨low, hlow⟩ : ∃ low, low = decide (x < 0) := ⟨_, rfl⟩
  rw [hma, ← hlow] at S1
  rw [hmay] at S0
  obtain ⟨k, hk0⟩ : ∃ k : Nat, -n = (k : Int) + 1 := ⟨(-n - 1).toNat, by omega⟩
  have hk : k ≤ 63 := by omega
  have e1 : ¬ n = 0 := by omega
  have e2 : ¬ 0 < n := by omega
  have e3 : ¬ (n < -64) := by omega
  have e4 : ¬ (64 < n) := by omega
  have e5 : n < 0 := by omega
  have e6 : IntKind.i64.wrap (1 - n) = (k : Int) + 2 := by rw [IntWalk.i64_in _ (by omega)]; omega
  have e7 : IntKind.i64.wrap (-n) = (k : Int) + 1 := by rw [IntWalk.i64_in _ (by omega)]; omega
  have hk0' := Lib.hid hk0
  have hm0 := Lib.hid (show 0 < m by omega)
  clear hn hk0
  have hx' := Lib.hid (And.intro hx hx1)
  have hm' := Lib.hid hm
  have hlow' := Lib.hid hlow
  have hmb' := Lib.hid hmb
  clear hx hx1 hm hma hmb hmay hlow
  go_enter Tryz.func46, Tryz.ntmps46
  go_wp2_with fail
  with_reducible refine S0.mono ?_
  rintro e w1 ⟨rfl, rfl⟩
  go_wp2_with fail
  with_reducible refine S1.mono ?_
  rintro e w1 ⟨rfl, rfl⟩
  go_wp2
  have hst0 : HeldW w.heap.size w (w.alloc (Obj.cells #[Value.int .u64 2] 76)) (.slice (some ⟨w.heap.size, 0, none⟩) 1 1) [2] := by
    refine ⟨⟨rfl, .inr ⟨w.heap.size, 1, #[.int .u64 2], rfl, Nat.le_refl _, by show (w.heap.push _)[w.heap.size]? = _; simp, Nat.le_refl _, by unfold maxLen; omega, rfl, rfl⟩⟩, by simp, (Below.refl _ _).alloc (Nat.le_refl _) _, by simp⟩
  go_loopw [8, 57] (fun hv iv wr => ∃ i : Nat, i ≤ (k + 2) ∧ iv = .int .i64 (i : Int) ∧ ∃ l : List Nat, HeldW w.heap.size w wr hv l ∧ Hid (valB l = 2 * 10000 ^ i) ∧ l.length ≤ i + 1 ∧ Hid (True)) (fun _ iv _ => (k + 2) - (intOf iv).toNat)
  case atStart => exact ⟨0, Nat.zero_le _, rfl, [2], hst0, Lib.hid (by simp [valB]), by simp, Lib.hid trivial⟩
  case round =>
    obtain ⟨i, hi', rfl, l, hw, hval, hlen, hfin⟩ := hrel
    by_cases hlt : i < (k + 2)
    · have hlti : (i : Int) < (((k + 2) : Nat) : Int) := by omega
      have hwi : IntKind.i64.wrap ((i : Int) + 1) = (i : Int) + 1 := IntWalk.i64_in _ (by omega)
      have C := Lib.hid (show Calls _ _ #[_, .int .u64 10000] _ _ from times_held hw (by omega) 10000 (by decide))
      go_wp2_with fail
      with_reducible refine C.out.mono ?_
      rintro e w2 ⟨u, l', rfl, hw2, hv2, hl2, hq2⟩
      have hwH := Lib.hid hw2
      clear hw2
      go_wp2
      go_roundw
      case rel => exact ⟨i + 1, by omega, by go_num, l', hwH.out, Lib.hid (by rw [hv2.out, hval.out]; rw [Nat.pow_succ, Nat.mul_assoc]), by omega, Lib.hid (trivial)⟩
      case measure => simp [intOf]; omega
    · obtain rfl : (k + 2) = i := by omega
      have hlti : ¬ ((((k + 2) : Nat) : Int) < (((k + 2) : Nat) : Int)) := by omega
      clear hst0
      go_wp2
      go_loopw [8, 64] (fun hv iv wr => ∃ i : Nat, i ≤ (k + 1) ∧ iv = .int .i64 (i : Int) ∧ ∃ l : List Nat, HeldW w.heap.size w wr hv l ∧ Hid (valB l = 2 * 10000 ^ (k + 2) / m ^ i) ∧ l.length ≤ k + 3 ∧ Hid (i = 0 ∨ l.length ≤ 1 ∨ 18446744073709551616 ≤ valB l)) (fun _ iv _ => (k + 1) - (intOf iv).toNat)
      case atStart => exact ⟨0, Nat.zero_le _, rfl, l, hw, Lib.hid (by rw [hval.out]; simp), by omega, Lib.hid (.inl rfl)⟩
      case round =>
        obtain ⟨i, hi', rfl, l, hw, hval, hlen, hfin⟩ := hrel
        by_cases hlt : i < (k + 1)
        · have hlti : (i : Int) < (((k + 1) : Nat) : Int) := by omega
          have hwi : IntKind.i64.wrap ((i : Int) + 1) = (i : Int) + 1 := IntWalk.i64_in _ (by omega)
          have C := Lib.hid (by_held hw (by omega) m hmb'.out hm0.out)
          go_wp2_with fail
          with_reducible refine C.out.mono ?_
          rintro e w2 ⟨u, l', rfl, hw2, hv2, hl2, hq2⟩
          have hwH := Lib.hid hw2
          clear hw2
          go_wp2
          go_roundw
          case rel => exact ⟨i + 1, by omega, by go_num, l', hwH.out, Lib.hid (by rw [hv2.out, hval.out]; rw [Nat.div_div_eq_div_mul, ← Nat.pow_succ]), by omega, Lib.hid (by have := hq2.out; unfold NZ at this; omega)⟩
          case measure => simp [intOf]; omega
        · obtain rfl : (k + 1) = i := by omega
          have hlti : ¬ ((((k + 1) : Nat) : Int) < (((k + 1) : Nat) : Int)) := by omega
          have hH : Hid (valB l = powH m n) := Lib.hid (by rw [hval.out]; unfold powH; rw [if_neg (by omega), show (-n).toNat = k + 1 by have := hk0'.out; omega, Nat.add_comm 1 (k + 1)])
          have hfin2 : l.length ≤ 1 ∨ 18446744073709551616 ≤ valB l := hfin.out.resolve_left (by omega)
          clear hval hfin hlen
          by_cases h1 : 1 < l.length
          · have h1' : (1 : Int) < (l.length : Int) := by omega
            have hbig := Lib.hid (hfin2.resolve_left (by omega))
            obtain ⟨A, cap, rfl, hR⟩ := rdB_own hw.own
            have hR' := Lib.hid hR
            have hwH := Lib.hid hw
            clear hR hw hfin2
            go_wp2
            go_ret2
            exact ⟨pow_big _ _ m hm'.out (by rw [← hH.out]; exact hbig.out), hwH.out.bel⟩
          · have h1' : ¬ ((1 : Int) < (l.length : Int)) := by omega
            have hle : l.length ≤ 1 := by omega
            obtain ⟨A, cap, rfl, hR⟩ := rdB_own hw.own
            have hbelH := Lib.hid hw.bel
            have hlb := Lib.hid (valB_word l hle hw.dig)
            have hR' := Lib.hid hR
            clear hR hw hfin2
            go_wp2
            go_loopw [9, 75] (fun hv iv wq => wq = wr ∧ ∃ i : Nat, i ≤ l.length ∧ iv = .int .i64 (i : Int) ∧ hv = .int .u64 (valB (l.take i) : Int)) (fun _ iv _ => l.length - (intOf iv).toNat)
            case atStart => exact ⟨rfl, 0, Nat.zero_le _, rfl, rfl⟩
            case round =>
              obtain ⟨rfl, i, hi', rfl, rfl⟩ := hrel
              by_cases hlt : i < l.length
              · obtain rfl : 0 = i := by omega
                obtain ⟨d, rfl⟩ : ∃ d, l = [d] := List.length_eq_one_iff.1 (by omega)
                obtain ⟨b, off, rfl, hbb, hcell⟩ := hR'.out 0 [.int .u64 (d : Int)] rfl
                have hck : wr.cell? ⟨b, off, none⟩ = some (.int .u64 (d : Int)) := by simpa using hcell 0 _ rfl
                clear hcell
                go_wp2
                go_roundw
                case rel => exact ⟨by first | rfl | trivial, 1, by simp, by go_num, by simp [valB]⟩
                case measure => simp [intOf]
              · obtain rfl : l.length = i := by omega
                have hlti : ¬ ((l.length : Int) < (l.length : Int)) := by omega
                rw [List.take_length]
                obtain ⟨h, hh⟩ : ∃ h, valB l = h := ⟨_, rfl⟩
                rw [hh] at hH hlb ⊢
                have hhi : ((h : Int) + 1) / 2 = (((h + 1) / 2 : Nat) : Int) := by omega
                have hq : IntKind.u64.wrap (IntKind.u64.wrap ((h : Int) / 2) + (h : Int) % 2) = (((h + 1) / 2 : Nat) : Int) := by have := hlb.out; rw [IntKind.wrap_u64, IntKind.wrap_u64]; omega
                have hhH := Lib.hid hhi
                clear hhi
                cases low
                · go_wp2_with fail
                  have S := signed_any (((h + 1) / 2 : Nat) : Int) ⟨by omega, by have := hlb.out; omega⟩ false wr
                  rw [pow_sig x n m h _ false hm'.out hlow'.out rfl hH.out] at S
                  rw [hhH.out]
                  with_reducible refine S.mono ?_
                  rintro e w3 ⟨rfl, rfl⟩
                  go_wp2
                  go_ret2
                  exact ⟨rfl, hbelH.out⟩
                · go_wp2_with fail
                  have S := signed_any (((h + 1) / 2 : Nat) : Int) ⟨by omega, by have := hlb.out; omega⟩ (n.tmod 2 != 0) wr
                  rw [pow_sig x n m h _ (n.tmod 2 != 0) hm'.out hlow'.out (tmod_dec _) hH.out] at S
                  rw [hhH.out]
                  with_reducible refine S.mono ?_
                  rintro e w3 ⟨rfl, rfl⟩
                  go_wp2
                  go_ret2
                  exact ⟨rfl, hbelH.out⟩
set_option maxHeartbeats 400000 in
theorem power_may (x n : Int) (hx : -9223372036854775808 ≤ x ∧ x ≤ 9223372036854775807) (h : x = -9223372036854775808) (w : World) : Calls Tryz.prog 46 #[.int .i64 x, .int .i64 n] w fun e w' => e = .returned (.tuple #[.int .i64 0, .int .i64 2]) ∧ Below w.heap.size w w' := by
  have S0 := dmay_any x hx w
  rw [show decMay x = false by simp [decMay]; try omega] at S0
  clear h
  clear hx
  go_enter Tryz.func46, Tryz.ntmps46
  go_wp2_with fail
  with_reducible refine S0.mono ?_
  rintro e w1 ⟨rfl, rfl⟩
  go_wp2
  go_ret2
  exact ⟨rfl, Below.refl _ _⟩
set_option maxHeartbeats 400000 in
theorem power_low (x n : Int) (hx : -9223372036854775808 ≤ x ∧ x ≤ 9223372036854775807) (h : ¬ x = -9223372036854775808) (hn : n < -64) (w : World) : Calls Tryz.prog 46 #[.int .i64 x, .int .i64 n] w fun e w' => e = .returned (.tuple #[.int .i64 0, .int .i64 8]) ∧ Below w.heap.size w w' := by
  have S0 := dmay_any x hx w
  rw [show decMay x = true by simp [decMay]; try omega] at S0
  clear h
  clear hx
  go_enter Tryz.func46, Tryz.ntmps46
  go_wp2_with fail
  with_reducible refine S0.mono ?_
  rintro e w1 ⟨rfl, rfl⟩
  go_wp2
  go_ret2
  exact ⟨rfl, Below.refl _ _⟩
set_option maxHeartbeats 400000 in
theorem power_high (x n : Int) (hx : -9223372036854775808 ≤ x ∧ x ≤ 9223372036854775807) (h : ¬ x = -9223372036854775808) (hn : 64 < n) (w : World) : Calls Tryz.prog 46 #[.int .i64 x, .int .i64 n] w fun e w' => e = .returned (.tuple #[.int .i64 0, .int .i64 8]) ∧ Below w.heap.size w w' := by
  have S0 := dmay_any x hx w
  rw [show decMay x = true by simp [decMay]; try omega] at S0
  have e3 : ¬ (n < -64) := by omega
  clear h
  clear hx
  go_enter Tryz.func46, Tryz.ntmps46
  go_wp2_with fail
  with_reducible refine S0.mono ?_
  rintro e w1 ⟨rfl, rfl⟩
  go_wp2
  go_ret2
  exact ⟨rfl, Below.refl _ _⟩
set_option maxHeartbeats 400000 in
theorem power_none (x n : Int) (hx : -9223372036854775808 ≤ x ∧ x ≤ 9223372036854775807) (h : ¬ x = -9223372036854775808) (hn : n = 0) (w : World) : Calls Tryz.prog 46 #[.int .i64 x, .int .i64 n] w fun e w' => e = .returned (.tuple #[.int .i64 10000, .int .i64 0]) ∧ Below w.heap.size w w' := by
  have S0 := dmay_any x hx w
  rw [show decMay x = true by simp [decMay]; try omega] at S0
  subst hn
  clear h
  clear hx
  go_enter Tryz.func46, Tryz.ntmps46
  go_wp2_with fail
  with_reducible refine S0.mono ?_
  rintro e w1 ⟨rfl, rfl⟩
  go_wp2
  go_ret2
  exact ⟨rfl, Below.refl _ _⟩
set_option maxHeartbeats 400000 in
theorem power_div (x n : Int) (hx : -9223372036854775808 ≤ x ∧ x ≤ 9223372036854775807) (hx0 : x = 0) (hn : n < 0 ∧ -64 ≤ n) (w : World) : Calls Tryz.prog 46 #[.int .i64 x, .int .i64 n] w fun e w' => e = .returned (.tuple #[.int .i64 0, .int .i64 3]) ∧ Below w.heap.size w w' := by
  have S0 := dmay_any x hx w
  rw [show decMay x = true by simp [decMay]; try omega] at S0
  have e1 : ¬ n = 0 := by omega
  have e3 : ¬ (n < -64) := by omega
  have e4 : ¬ (64 < n) := by omega
  have e5 : n < 0 := hn.1
  subst hx0
  clear hn
  clear hx
  go_enter Tryz.func46, Tryz.ntmps46
  go_wp2_with fail
  with_reducible refine S0.mono ?_
  rintro e w1 ⟨rfl, rfl⟩
  go_wp2
  go_ret2
  exact ⟨rfl, Below.refl _ _⟩
def powerV (x n : Int) : Int := if x = -9223372036854775808 then 0 else if n < -64 ∨ 64 < n then 0 else if n = 0 then 10000 else if x = 0 ∧ n < 0 then 0 else exV (powS x n)
def powerC (x n : Int) : Int := if x = -9223372036854775808 then 2 else if n < -64 ∨ 64 < n then 8 else if n = 0 then 0 else if x = 0 ∧ n < 0 then 3 else exC (powS x n)
theorem power_any (x n : Int) (hx : -9223372036854775808 ≤ x ∧ x ≤ 9223372036854775807) (w : World) : Calls Tryz.prog 46 #[.int .i64 x, .int .i64 n] w fun e w' => e = .returned (.tuple #[.int .i64 (powerV x n), .int .i64 (powerC x n)]) ∧ Below w.heap.size w w' := by
  unfold powerV powerC
  by_cases h1 : x = -9223372036854775808
  · rw [if_pos h1, if_pos h1]; exact power_may x n hx h1 w
  rw [if_neg h1, if_neg h1]
  by_cases h2 : n < -64
  · rw [if_pos (.inl h2), if_pos (.inl h2)]; exact power_low x n hx h1 h2 w
  by_cases h3 : 64 < n
  · rw [if_pos (.inr h3), if_pos (.inr h3)]; exact power_high x n hx h1 h3 w
  have h4 : ¬ (n < -64 ∨ 64 < n) := by omega
  rw [if_neg h4, if_neg h4]
  by_cases h5 : n = 0
  · rw [if_pos h5, if_pos h5]; exact power_none x n hx h1 h5 w
  rw [if_neg h5, if_neg h5]
  by_cases h6 : x = 0
  · by_cases h7 : n < 0
    · rw [if_pos ⟨h6, h7⟩, if_pos ⟨h6, h7⟩]; exact power_div x n hx h6 ⟨h7, by omega⟩ w
    · rw [if_neg (fun h => h7 h.2), if_neg (fun h => h7 h.2)]
      subst h6
      exact power_zero n ⟨by omega, by omega⟩ w
  · rw [if_neg (fun h => h6 h.1), if_neg (fun h => h6 h.1)]
    by_cases h7 : n < 0
    · exact power_neg x n hx h1 h6 ⟨h7, by omega⟩ w
    · exact power_pos x n hx h1 h6 ⟨by omega, by omega⟩ w
end Go.Proofs.YthobaffgllipfaaGreat
