/-
  math/bits.Div64: the quotient and what is left, of any two words by a greater one; dec.Power: great numbers of the program.
-/
import Derived.Test.YthobaffgllipfaaGreatKnuth
import Derived.Test.YthobaffgllipfaaGreatProg
import Derived.Test.YthobaffgllipfaaGreatMg12
import Derived.Test.YthobaffgllipfaaGreatRows
import Derived.Test.YthobaffgllipfaaGreatBase
import Derived.Test.YthobaffgllipfaaGreatDDiv
import Derived.Test.YthobaffgllipfaaGreatMg3
import Derived.Test.YthobaffgllipfaaGreatValA
import Derived.Test.YthobaffgllipfaaGreatDecS
import Derived.Test.YthobaffgllipfaaGreatDMod
import Derived.Test.YthobaffgllipfaaGreatDFlo
import Derived.Test.YthobaffgllipfaaGreatDRnd
import Derived.WalkSpells
import Derived.WalkLawsBesides
import Derived.StillTactics
import Derived.Laws.Pointers
import Derived.Deep.RegionHeld3
import Derived.Deep.QuietTactic
import Derived.BigQuiet
import Derived.RowKit3
import Derived.Lib.Hide
import Derived.Lib.OthersKept
import Derived.OwnWalk
import Derived.Lib.IndexLaws
import Derived.Lib.ItoaMem
import Derived.Lib.Bytealg
import Derived.Shelf.Small.Bits
import Derived.Shelf.Strconv.Itoa0
import Derived.Shelf.Bits.Mul64
import Derived.WalkKit
import Derived.ProofKit
import Derived.OpenShut
import Derived.Carry
import Derived.ChangeSame
import Derived.Deep.Draws
import Derived.Laws.BitsAllLaws
import Derived.Lib.TrimByte
import Derived.Lib.SlTrimSet
import Derived.Lib.ParseIntB
import Derived.Shelf.Strings.SlTrimAscii
import Derived.Lib.SmallJoins
import Derived.Laws.Externs
import Derived.Maps.AppendAt
namespace Go.Proofs.YthobaffgllipfaaGreat
open Go.RowKit

theorem wrapN (n : Nat) : IntKind.u64.wrap (n : Int) = ((n % 18446744073709551616 : Nat) : Int) := by rw [IntKind.wrap_u64]; omega
theorem wrapM (a b n : Nat) (h : a * b = n) : IntKind.u64.wrap ((a : Int) * (b : Int)) = ((n % 18446744073709551616 : Nat) : Int) := by rw [← Int.natCast_mul, h]; exact wrapN n
theorem wrapP (a s n : Nat) (h : a * 2 ^ s = n) : IntKind.u64.wrap ((a : Int) * 2 ^ s) = ((n % 18446744073709551616 : Nat) : Int) := by
  have : ((a * 2 ^ s : Nat) : Int) = (a : Int) * 2 ^ s := by simp
  rw [← this, h]; exact wrapN n
theorem divP (a t : Nat) : (a : Int) / 2 ^ t = ((a / 2 ^ t : Nat) : Int) := by simp
theorem andMask (Y : Nat) (h : Y < 18446744073709551616) : bits .and .u64 (Y : Int) 4294967295 = ((Y % 4294967296 : Nat) : Int) := by
  have := u64_and_nat Y 4294967295 h (by omega)
  rw [show Y &&& 4294967295 = Y % 4294967296 from Nat.and_two_pow_sub_one_eq_mod Y 32] at this
  exact this
theorem orJoin (A Bq s : Nat) (hA : A < 18446744073709551616) (hB : Bq < 18446744073709551616) (h1 : A % 2 ^ s = 0) (h2 : Bq < 2 ^ s) : bits .or .u64 (A : Int) (Bq : Int) = ((A + Bq : Nat) : Int) := by
  have := u64_or_nat A Bq hA hB
  rw [nat_join s A Bq h1 h2] at this
  exact this
theorem subW (N p R a2 a3 : Nat) (h : p + R = N) (hR : R < 18446744073709551616) (h2 : a2 = N % 18446744073709551616) (h3 : a3 = p % 18446744073709551616) : IntKind.u64.wrap ((a2 : Int) - (a3 : Int)) = (R : Int) := by
  rw [IntKind.wrap_u64]; omega
theorem shift_at (hi lo y s k : Nat) (hk : k ≤ 63) (hs : s = 63 - k) (h1 : 2 ^ k ≤ y) (h2 : y < 2 ^ (k + 1)) (hhy : hi < y) (hlo : lo < 18446744073709551616) :
    9223372036854775808 ≤ y * 2 ^ s ∧ y * 2 ^ s < 18446744073709551616 ∧ hi * 2 ^ s < 18446744073709551616 ∧ lo / 2 ^ (64 - s) < 2 ^ s ∧ lo / 2 ^ (64 - s) < 18446744073709551616 ∧ hi * 2 ^ s + lo / 2 ^ (64 - s) < y * 2 ^ s ∧
    (hi * 18446744073709551616 + lo) * 2 ^ s = (hi * 2 ^ s + lo / 2 ^ (64 - s)) * 18446744073709551616 + lo * 2 ^ s % 18446744073709551616 := by
  have e1 : 2 ^ k * 2 ^ s = 9223372036854775808 := by rw [← Nat.pow_add, show k + s = 63 by omega]
  have e2 : 2 ^ (k + 1) * 2 ^ s = 18446744073709551616 := by rw [← Nat.pow_add, show k + 1 + s = 64 by omega]
  have e3 : 2 ^ (64 - s) * 2 ^ s = 18446744073709551616 := by rw [← Nat.pow_add, show 64 - s + s = 64 by omega]
  have p0 : 0 < 2 ^ s := Nat.pow_pos (by omega)
  have p1 : 0 < 2 ^ (64 - s) := Nat.pow_pos (by omega)
  have a1 : 9223372036854775808 ≤ y * 2 ^ s := by rw [← e1]; exact Nat.mul_le_mul_right _ h1
  have a2 : y * 2 ^ s < 18446744073709551616 := by rw [← e2]; exact Nat.mul_lt_mul_of_pos_right h2 p0
  have a3 : (hi + 1) * 2 ^ s ≤ y * 2 ^ s := Nat.mul_le_mul_right _ hhy
  rw [Nat.add_mul, Nat.one_mul] at a3
  have a4 : lo / 2 ^ (64 - s) < 2 ^ s := by rw [Nat.div_lt_iff_lt_mul p1, Nat.mul_comm, e3]; exact hlo
  have a5 : lo * 2 ^ s / 18446744073709551616 = lo / 2 ^ (64 - s) := by rw [← e3]; exact Nat.mul_div_mul_right lo (2 ^ (64 - s)) p0
  have a6 := Nat.div_add_mod (lo * 2 ^ s) 18446744073709551616
  rw [a5] at a6
  refine ⟨a1, a2, by omega, a4, by omega, by omega, ?_⟩
  rw [Nat.add_mul, Nat.add_mul, Nat.mul_right_comm]
  omega
theorem div64_any (hi lo y : Nat) (hlo : lo < 18446744073709551616) (hy : y < 18446744073709551616) (hhy : hi < y) (w : World) : Calls Tryz.prog 109 #[.int .u64 (hi : Int), .int .u64 (lo : Int), .int .u64 (y : Int)] w fun e w' => e = .returned (.tuple #[.int .u64 (((hi * 18446744073709551616 + lo) / y : Nat) : Int), .int .u64 (((hi * 18446744073709551616 + lo) % y : Nat) : Int)]) ∧ Below w.heap.size w w' := by
  by_cases hhi : hi = 0
  · subst hhi
    rw [Nat.zero_mul, Nat.zero_add]
    exact div64_small lo y hlo hy (by omega) w
  obtain ⟨k, hk, hbl, hk1, hk2⟩ := bitLen_spec y y (Nat.le_refl _) (by omega) hy
  obtain ⟨s, hs⟩ : ∃ s, s = 63 - k := ⟨_, rfl⟩
  obtain ⟨c1, c2, c3, c4, c5, c6, c7⟩ := shift_at hi lo y s k hk hs hk1 hk2 hhy hlo
  have p0 : 0 < 2 ^ s := Nat.pow_pos (by omega)
  have hA0 : hi * 2 ^ s % 2 ^ s = 0 := Nat.mul_mod_left _ _
  have hfin1 := Nat.mul_div_mul_right (hi * 18446744073709551616 + lo) y p0
  have hfin2 := Nat.mul_mod_mul_right (2 ^ s) (hi * 18446744073709551616 + lo) y
  rw [c7] at hfin1 hfin2
  obtain ⟨Y, hY⟩ : ∃ Y, y * 2 ^ s = Y := ⟨_, rfl⟩
  obtain ⟨A, hA⟩ : ∃ A, hi * 2 ^ s = A := ⟨_, rfl⟩
  obtain ⟨Bq, hBq⟩ : ∃ Bq, lo / 2 ^ (64 - s) = Bq := ⟨_, rfl⟩
  obtain ⟨L, hL⟩ : ∃ L, lo * 2 ^ s = L := ⟨_, rfl⟩
  rw [hY] at c1 c2 c6 hfin1 hfin2
  rw [hA, hBq] at c6 hfin1 hfin2
  rw [hA] at c3 hA0
  rw [hBq] at c4 c5
  rw [hL] at hfin1 hfin2
  clear c7
  obtain ⟨U, hU⟩ : ∃ U, A + Bq = U := ⟨_, rfl⟩
  obtain ⟨D, hD⟩ : ∃ D, L % 18446744073709551616 = D := ⟨_, rfl⟩
  rw [hU] at c6 hfin1 hfin2
  rw [hD] at hfin1 hfin2
  have hDM : D < 18446744073709551616 := by rw [← hD]; exact Nat.mod_lt _ (by omega)
  obtain ⟨y1, hy1⟩ : ∃ y1, Y / 4294967296 = y1 := ⟨_, rfl⟩
  obtain ⟨y0, hy0⟩ : ∃ y0, Y % 4294967296 = y0 := ⟨_, rfl⟩
  obtain ⟨d1, hd1⟩ : ∃ d1, D / 4294967296 = d1 := ⟨_, rfl⟩
  obtain ⟨d0, hd0⟩ : ∃ d0, D % 4294967296 = d0 := ⟨_, rfl⟩
  have hYy : Y = y1 * 4294967296 + y0 := by omega
  have hDd : D = d1 * 4294967296 + d0 := by omega
  have b1 : 2147483648 ≤ y1 := by omega
  have b2 : y1 < 4294967296 := by omega
  have b3 : y0 < 4294967296 := by omega
  have b4 : d1 < 4294967296 := by omega
  have b5 : d0 < 4294967296 := by omega
  have two := kn_two U d1 d0 Y (by omega)
  rw [← hDd, hfin1, hfin2] at two
  have F1 := wrapP y s Y hY
  rw [Nat.mod_eq_of_lt c2] at F1
  have F2 : (Y : Int) / 4294967296 = (y1 : Int) := by omega
  have F3 := andMask Y c2
  rw [hy0] at F3
  have F4 := wrapP hi s A hA
  rw [Nat.mod_eq_of_lt c3] at F4
  have F4b := divP lo (64 - s)
  rw [hBq] at F4b
  have F4c := orJoin A Bq s c3 c5 hA0 c4
  rw [hU] at F4c
  have F5 := wrapP lo s L hL
  rw [hD] at F5
  have F6 : (D : Int) / 4294967296 = (d1 : Int) := by omega
  have F7 := andMask D hDM
  rw [hd0] at F7
  have hUY : U < y1 * 4294967296 + y0 := by omega
  have K0 := kn_start U y1 y0 d1 b1 b2 b3 hUY b4
  have T1b : (U * 4294967296 + d1) / (y1 * 4294967296 + y0) < 4294967296 := by rw [Nat.div_lt_iff_lt_mul (by omega)]; rw [Nat.mul_comm]; have := kn_T hUY b4; omega
  have step : ∀ V : Nat, V < 18446744073709551616 → V < y1 * 4294967296 + y0 → ∀ d, d < 4294967296 → ∃ q p r : Nat, IntKind.u64.wrap ((V : Int).tdiv y1) = (q : Int) ∧ (V : Int) / y1 = (q : Int) ∧ V / y1 = q ∧ IntKind.u64.wrap (q : Int) = (q : Int) ∧ IntKind.u64.wrap ((q : Int) * (y1 : Int)) = (p : Int) ∧ IntKind.u64.wrap ((V : Int) - (p : Int)) = (r : Int) ∧ q ≤ 4294967297 ∧ r < 4294967296 ∧ KInv V y1 ((V * 4294967296 + d) / (y1 * 4294967296 + y0)) q r := by
    intro V hVM hV d hd
    have K := kn_start V y1 y0 d b1 b2 b3 hV hd
    have e := Nat.div_add_mod V y1
    have hm := Nat.mod_lt V (show 0 < y1 by omega)
    have hq : (V : Int) / y1 = ((V / y1 : Nat) : Int) := by simp
    refine ⟨V / y1, V / y1 * y1, V % y1, ?_, hq, rfl, IntWalk.u64_in _ (by have h := K.2.2; generalize V / y1 = z at h ⊢; omega), ?_, ?_, K.2.2, by omega, K⟩
    · rw [IntWalk.u64_quo _ _ (by omega)]; exact hq
    · rw [wrapM _ _ _ rfl, Nat.mod_eq_of_lt (Nat.lt_of_le_of_lt (Nat.div_mul_le_self V y1) hVM)]
    · rw [Nat.mul_comm] at e
      generalize V / y1 * y1 = p at *
      rw [show (V : Int) - (p : Int) = ((V % y1 : Nat) : Int) by omega]
      exact IntWalk.u64_in _ (by omega)
  have half : ∀ V d : Nat, V < y1 * 4294967296 + y0 → d < 4294967296 → ∃ Q a1 a2 a3 R : Nat, (V * 4294967296 + d) / (y1 * 4294967296 + y0) = Q ∧ (V * 4294967296 + d) % Y = R ∧ Q < 4294967296 ∧ IntKind.u64.wrap ((V : Int) * 4294967296) = (a1 : Int) ∧ IntKind.u64.wrap ((a1 : Int) + (d : Int)) = (a2 : Int) ∧ IntKind.u64.wrap ((Q : Int) * (Y : Int)) = (a3 : Int) ∧ IntKind.u64.wrap ((a2 : Int) - (a3 : Int)) = (R : Int) ∧ R < y1 * 4294967296 + y0 ∧ R < 18446744073709551616 := by
    intro V d hV hd
    have e := Nat.div_add_mod (V * 4294967296 + d) Y
    have hm := Nat.mod_lt (V * 4294967296 + d) (show 0 < Y by omega)
    have hQ : (V * 4294967296 + d) / (y1 * 4294967296 + y0) < 4294967296 := by rw [Nat.div_lt_iff_lt_mul (by omega)]; rw [Nat.mul_comm]; have := kn_T hV hd; omega
    rw [← hYy] at hQ
    refine ⟨(V * 4294967296 + d) / (y1 * 4294967296 + y0), V * 4294967296 % 18446744073709551616, (V * 4294967296 + d) % 18446744073709551616, ((V * 4294967296 + d) / Y * Y) % 18446744073709551616, (V * 4294967296 + d) % Y, rfl, rfl, by rw [← hYy]; exact hQ, ?_, ?_, ?_, ?_, by omega, by omega⟩
    · rw [IntKind.wrap_u64]; omega
    · rw [IntKind.wrap_u64]; omega
    · rw [← hYy]; exact wrapM _ _ _ rfl
    · refine subW (V * 4294967296 + d) ((V * 4294967296 + d) / Y * Y) _ _ _ ?_ (by omega) rfl rfl
      rw [Nat.mul_comm]; exact e
  obtain ⟨q0, p0', r0, F8, F8b, F8c, F9, F10, F11, hq0, hr0, K0⟩ := step U (by omega) hUY d1 b4
  obtain ⟨Q1, a1, a2, a3, R1, hQ1, hR1, hQ1b, W1, W2, W3, W4, hRY, hRM⟩ := half U d1 hUY b4
  obtain ⟨q1, p1, r1, H8, H8b, _, H9, H10, H11, hq1, hr1, K1⟩ := step R1 hRM hRY d0 b5
  obtain ⟨Q0, e1, e2, e3, R0, hQ0, hR0, hQ0b, V1, V2, V3, V4, hR0Y, hR0M⟩ := half R1 d0 hRY b5
  have C := div64_walk hi lo y s (by omega) hhy hy hlo (by omega) (Lib.hid (by omega)) (Lib.hid (by omega)) Y y1 y0 A Bq U D d1 d0 q0 c2 b1 b2 b3 (Lib.hid hYy) (by omega) (Lib.hid hUY) b4 b5
    F1 F2 F3 F4 F4b F4c F5 F6 F7 F8 F8b (Lib.hid F8c) p0' r0 F9 F10 F11 hq0 hr0 (Lib.hid K0) Q1 (Lib.hid hQ1) hQ1b a1 a2 a3 R1 W1 W2 W3 W4 (Lib.hid hRY) hRM
    q1 p1 r1 H8 H8b H9 H10 H11 hq1 hr1 (Lib.hid K1) Q0 (Lib.hid hQ0) hQ0b e1 e2 e3 R0 (R0 / 2 ^ s) V1 V2 V3 V4 (divP R0 s) w
  have g1 : (hi * 18446744073709551616 + lo) / y = Q1 * 4294967296 + Q0 := by rw [two.1, hYy, hQ1, ← hYy, hR1, hYy, hQ0]
  have g2 : R0 / 2 ^ s = (hi * 18446744073709551616 + lo) % y := by
    have : (hi * 18446744073709551616 + lo) % y * 2 ^ s = R0 := by rw [two.2, hR1, hR0]
    rw [← this]; exact Nat.mul_div_cancel _ p0
  rw [g2] at C
  refine C.mono fun _ _ ⟨he, hw⟩ => ⟨?_, by rw [← hw]; exact Below.refl _ _⟩
  rw [he, g1]
  rfl
end Go.Proofs.YthobaffgllipfaaGreat
namespace Go.Proofs.YthobaffgllipfaaGreat
open Go.RowKit

/-- the number that words of sixty-four bits make, the lowest first -/
def valB : List Nat → Nat
  | [] => 0
  | d :: l => d + 18446744073709551616 * valB l
theorem valB_snoc : ∀ (l : List Nat) (d : Nat), valB (l ++ [d]) = valB l + 18446744073709551616 ^ l.length * d
  | [], d => by simp [valB]
  | e :: l, d => by
    simp only [List.cons_append, valB, valB_snoc l d, List.length_cons, Nat.pow_succ]
    rw [Nat.mul_add, Nat.add_assoc, Nat.mul_comm (18446744073709551616 ^ l.length) 18446744073709551616, Nat.mul_assoc]
theorem times_step (V X P d x o hi lo : Nat) (hV : V + P * o = X * x) (hd : d * x + o = hi * 18446744073709551616 + lo) : V + P * lo + P * 18446744073709551616 * hi = (X + P * d) * x := by
  have h1 : P * (d * x + o) = P * (hi * 18446744073709551616 + lo) := by rw [hd]
  have e1 : P * (d * x + o) = P * d * x + P * o := by rw [Nat.mul_add, Nat.mul_assoc]
  have e2 : P * (hi * 18446744073709551616 + lo) = P * 18446744073709551616 * hi + P * lo := by rw [Nat.mul_add, Nat.mul_comm hi 18446744073709551616, ← Nat.mul_assoc]
  have e3 : (X + P * d) * x = X * x + P * d * x := Nat.add_mul _ _ _
  rw [e3]
  omega
/-- words that come back -/
structure WordsAt (v : Nat) (n : Nat) (q : List Nat → Prop) (w : World) (e : Ending) (w' : World) : Prop where
  out : ∃ u l, e = .returned u ∧ w'.ownsRow w.heap.size 76 1 u l.length (l.map fun (n : Nat) => Value.int .u64 (n : Int)) ∧ valB l = v ∧ (∀ d ∈ l, d < 18446744073709551616) ∧ l.length ≤ n ∧ q l ∧ Below w.heap.size w w'
theorem add64_at (x y sm cr : Nat) (h1 : (x + y) % 18446744073709551616 = sm) (h2 : (x + y) / 18446744073709551616 = cr) (w : World) : Sem.run Tryz.prog (callFunc 108 #[.int .u64 (x : Int), .int .u64 (y : Int), .int .u64 0]) w = .ok (.value (.tuple #[.int .u64 (sm : Int), .int .u64 (cr : Int)])) w := by
  rw [run_callFunc_extern Tryz.func108 (by kernel_rfl) (by kernel_rfl) (by kernel_rfl) (e := add64Entry) (by kernel_rfl), run_add64 _ _ 0 (by omega) (by omega) (by omega) (by omega)]
  have e1 : ((x : Int) + (y : Int) + 0) % 18446744073709551616 = (sm : Int) := by omega
  have e2 : ((x : Int) + (y : Int) + 0) / 18446744073709551616 = (cr : Int) := by omega
  rw [e1, e2]
  rfl
set_option maxRecDepth 100000 in
set_option maxHeartbeats 4000000 in
theorem times_any (l : List Nat) (hl : ∀ d ∈ l, d < 18446744073709551616) (hlen : l.length ≤ 1000) (x : Nat) (hx : x < 18446744073709551616) (w : World) (A : Option Addr) (cap : Nat) (hR : RdB w w.heap.size A 1 (l.map fun (d : Nat) => [Value.int .u64 (d : Int)])) : Calls Tryz.prog 87 #[.slice A l.length cap, .int .u64 (x : Int)] w (WordsAt (valB l * x) (l.length + 1) (fun u => u.length = l.length ∨ 18446744073709551616 ^ l.length ≤ valB u) w) := by
  obtain ⟨i0, hi, hz0, hz1, hz2⟩ := info_parts u64_info
  have hl' := Lib.hid hl
  have hR' := Lib.hid hR
  clear hl hR
  go_enter Tryz.func87, Tryz.ntmps87
  go_wp2
  go_loopw [5, 6, 15] (fun v ov i wr => ∃ k : Nat, k ≤ l.length ∧ i = .int .i64 (k : Int) ∧ ∃ (o : Nat) (outs : List Nat), ov = .int .u64 (o : Int) ∧ o < 18446744073709551616 ∧ outs.length = k ∧ Hid (valB outs + 18446744073709551616 ^ k * o = valB (l.take k) * x) ∧ Hid (∀ d ∈ outs, d < 18446744073709551616) ∧ wr.ownsRow w.heap.size 76 1 v k (outs.map fun (n : Nat) => Value.int .u64 (n : Int)) ∧ Below w.heap.size w wr) (fun _ _ i _ => l.length - (intOf i).toNat)
  case atStart => exact ⟨0, Nat.zero_le _, rfl, 0, [], rfl, by omega, rfl, Lib.hid (by simp [valB]), Lib.hid (by simp), World.ownsRow_nil _ _ _ _, Below.refl _ _⟩
  case round =>
    obtain ⟨k, hk, rfl, o, outs, rfl, hob, hol, hval, hdig, hown, hbr⟩ := hrel
    have hzr := hbr.size
    have hol' := Lib.hid hol
    clear hol
    by_cases hlt : k < l.length
    · obtain ⟨d, hd⟩ : ∃ d, l[k]? = some d := ⟨_, List.getElem?_eq_getElem hlt⟩
      obtain ⟨b, off, rfl, hbb, hcell⟩ := (hR'.out.below hbr) k [.int .u64 (d : Int)] (by rw [List.getElem?_map, hd]; rfl)
      have hck : wr.cell? ⟨b, off + k, none⟩ = some (.int .u64 (d : Int)) := by simpa using hcell 0 _ rfl
      have hdb := hl'.out d (List.mem_of_getElem? hd)
      have hts : l.take (k + 1) = l.take k ++ [d] := by rw [List.take_add_one, hd]; rfl
      have hts' := Lib.hid hts
      have hlk : (l.take k).length = k := by rw [List.length_take]; omega
      have hkl : (k : Int) < (l.length : Int) := by omega
      have hbr2 : b < wr.heap.size := by omega
      obtain ⟨p, hp⟩ : ∃ p, d * x = p := ⟨_, rfl⟩
      have hpb : p ≤ 18446744073709551615 * 18446744073709551615 := by rw [← hp]; exact Nat.mul_le_mul (by omega) (by omega)
      have C1 := Lib.hid (mul64_r (d : Int) d x (p / 18446744073709551616) (p % 18446744073709551616) rfl hdb hx (by rw [hp]) (by rw [hp]) wr)
      obtain ⟨ph, hph⟩ : ∃ ph, p / 18446744073709551616 = ph := ⟨_, rfl⟩
      obtain ⟨pl, hpl⟩ : ∃ pl, p % 18446744073709551616 = pl := ⟨_, rfl⟩
      rw [hph, hpl] at C1
      obtain ⟨sm, hsm⟩ : ∃ sm, (pl + o) % 18446744073709551616 = sm := ⟨_, rfl⟩
      obtain ⟨cr, hcr⟩ : ∃ cr, (pl + o) / 18446744073709551616 = cr := ⟨_, rfl⟩
      have A2 := add64_at pl o sm cr hsm hcr wr
      have a1 : ((pl : Int) + (o : Int)) % 18446744073709551616 = (sm : Int) := by rw [← hsm]; omega
      have a2 : ((pl : Int) + (o : Int)) / 18446744073709551616 = (cr : Int) := by rw [← hcr]; omega
      have a3 : IntKind.u64.wrap ((ph : Int) + (cr : Int)) = ((ph + cr : Nat) : Int) := by rw [IntKind.wrap_u64]; omega
      have hs2 : p + o = (ph + cr) * 18446744073709551616 + sm := by omega
      have hst : valB outs + 18446744073709551616 ^ k * sm + 18446744073709551616 ^ k * 18446744073709551616 * (ph + cr) = (valB (l.take k) + 18446744073709551616 ^ k * d) * x := times_step _ _ _ d x o (ph + cr) sm hval.out (by rw [hp]; exact hs2)
      have hst' := Lib.hid hst
      have hsb : sm < 18446744073709551616 := by omega
      have hcb : ph + cr < 18446744073709551616 := by omega
      have hlk' := Lib.hid hlk
      clear hd hcell hts hp hph hpl hsm hcr hs2 hst hlk hval
      go_wp2_with fail
      refine C1.out.mono ?_
      rintro e w' ⟨rfl, rfl⟩
      go_wp2_with (at_builtin; refine wpList_append_own_at _ rfl _ _ 97 rfl w.heap.size 76 i0 (.int .u64 0) 1 8 Tryz.underlying97 hi hz0 hz1 hz2 rfl (by decide) _ _ _ rfl (hown.alloc _) ⟨wr.heap.size, 0, none⟩ 1 1 [.int .u64 (sm : Int)] rfl rfl (cell_one_new _ _ _) (by simp [Value.oneCell']) (by unfold maxLen; omega) (by omega) (by simp; omega) ?_; intro v' w1 hown1 hgrow1 hnil1 hloc1)
      go_roundw
      case rel =>
        refine ⟨k + 1, by omega, by go_num, ph + cr, outs ++ [sm], by first | rfl | simp, hcb, by rw [List.length_append, hol'.out]; rfl, Lib.hid ?_, Lib.hid ?_, ?_, ?_⟩
        · rw [valB_snoc, hts'.out, valB_snoc, hol'.out, hlk'.out, Nat.pow_succ]; exact hst'.out
        · intro y hy
          rcases List.mem_append.1 hy with h | h
          · exact hdig.out y h
          · simp at h; omega
        · rw [List.map_append]; exact hown1
        · refine (hbr.alloc hzr _).grown hgrow1 (by simp; omega) (fun j hj => ?_)
          exact (hown.lt j hj).1
      case measure => simp [intOf]; omega
    · obtain rfl : k = l.length := by omega
      have hv0 := hval.out
      rw [List.take_length] at hv0
      by_cases ho : 0 < o
      · have ho1 : decide ((0 : Int) < (o : Int)) = true := by simp; omega
        have hv0' := Lib.hid hv0
        clear hv0
        go_wp2_with (at_builtin; refine wpList_append_own_at _ rfl _ _ 97 rfl w.heap.size 76 i0 (.int .u64 0) 1 8 Tryz.underlying97 hi hz0 hz1 hz2 rfl (by decide) _ _ _ rfl (hown.alloc _) ⟨wr.heap.size, 0, none⟩ 1 1 [.int .u64 (o : Int)] rfl rfl (cell_one_new _ _ _) (by simp [Value.oneCell']) (by unfold maxLen; omega) (by omega) (by simp; omega) ?_; intro v' w1 hown1 hgrow1 hnil1 hloc1)
        go_ret
        refine ⟨_, outs ++ [o], rfl, ?_, ?_, ?_, ?_, .inr ?_, ?_⟩
        · rw [List.map_append, List.length_append, hol'.out]; exact hown1
        · rw [valB_snoc, hol'.out]; exact hv0'.out
        · intro y hy
          rcases List.mem_append.1 hy with h | h
          · exact hdig.out y h
          · simp at h; omega
        · rw [List.length_append, hol'.out]; exact Nat.le_refl _
        · rw [valB_snoc, hol'.out]
          exact Nat.le_trans (Nat.le_mul_of_pos_right _ ho) (Nat.le_add_left _ _)
        · refine (hbr.alloc hzr _).grown hgrow1 (by simp; omega) (fun j hj => ?_)
          exact (hown.lt j hj).1
      · obtain rfl : o = 0 := by omega
        have hv0' := Lib.hid hv0
        clear hv0
        go_wp2
        go_ret
        exact ⟨_, outs, rfl, by rw [hol'.out]; exact hown, by have := hv0'.out; omega, hdig.out, by rw [hol'.out]; omega, .inl hol'.out, hbr⟩
end Go.Proofs.YthobaffgllipfaaGreat
