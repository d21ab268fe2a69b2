/-
  Contracts of Go's library at this seat's translation, laid by the kit's own command in its plain mode; The plain law of numbers' texts, written: the four digits of a rest. No program in sight; Print of package dec: the text of any number; The document's Print of a number; Package dec: what the laws' known tells; alike; Package value: cmp.Compare, truth; Package value: Compare; Package value: the document's Same, Compare.
-/
import Derived.Test.YthobaffgllipfaaGreatProg
import Derived.Test.YthobaffgllipfaaGreatRows
import Derived.Test.YthobaffgllipfaaGreatBase
import Derived.Test.YthobaffgllipfaaGreatMg3
import Derived.Test.YthobaffgllipfaaGreatValA
import Derived.Test.YthobaffgllipfaaGreatValB
import Derived.Test.YthobaffgllipfaaGreatDecS
import Derived.Test.YthobaffgllipfaaGreatValC
import Derived.Shelf.Small.Bits
import Derived.Shelf.Strconv.Itoa0
import Derived.Shelf.Bits.Mul64
import Derived.WalkSpells
import Derived.WalkLawsBesides
import Derived.StillTactics
import Derived.Laws.Pointers
import Derived.Deep.RegionHeld3
import Derived.Deep.QuietTactic
import Derived.BigQuiet
import Derived.RowKit3
import Derived.Lib.Hide
import Derived.Lib.OthersKept
import Derived.OwnWalk
import Derived.Lib.IndexLaws
import Derived.Lib.ItoaMem
import Derived.WalkKit
import Derived.ProofKit
import Derived.OpenShut
import Derived.Carry
import Derived.ChangeSame
import Derived.Deep.Draws
import Derived.Lib.Bytealg
import Derived.Lib.TrimByte
import Derived.Lib.SlTrimSet
import Derived.Lib.ParseIntB
import Derived.Shelf.Strings.SlTrimAscii
import Derived.Lib.SmallJoins
namespace Go.Proofs
open Go.Shelf
def Tryz.lays134_ren : Go.Shelf.Ren := ⟨fun | 134 => 117 | 129 => 118 | n => n, fun | 53 => 76 | 3 => 3 | 4 => 4 | 46 => 99 | 5 => 5 | 9 => 9 | n => n, fun | n => n⟩
theorem Tryz.lays134 : Go.Proofs.Lays.n134 Tryz.prog Tryz.lays134_ren := {
  mixed := by kernel_rfl
  f129 := Tryz.func118.trans (congrArg some (by kernel_rfl))
  f134 := Tryz.func117.trans (congrArg some (by kernel_rfl))
  t3 := Tryz.underlying3
  a3 := Tryz.isAgg3
  z3 := Tryz.sizeOf3
  v3 := Tryz.zeroValue3
  t4 := Tryz.underlying4
  a4 := Tryz.isAgg4
  z4 := Tryz.sizeOf4
  v4 := Tryz.zeroValue4
  t5 := Tryz.underlying5
  a5 := Tryz.isAgg5
  z5 := Tryz.sizeOf5
  v5 := Tryz.zeroValue5
  t9 := Tryz.underlying9
  a9 := Tryz.isAgg9
  z9 := Tryz.sizeOf9
  v9 := Tryz.zeroValue9
  t46 := Tryz.underlying99
  a46 := Tryz.isAgg99
  z46 := Tryz.sizeOf99
  v46 := Tryz.zeroValue99
  t53 := Tryz.underlying76
  a53 := Tryz.isAgg76
  z53 := Tryz.sizeOf76
  v53 := Tryz.zeroValue76 }
/-- bits.LeadingZeros64: "LeadingZeros64 returns the number of leading zero bits in x; the result is 64 for x == 0.": IT RETURNS '64 - Lib.bitLen x'; the world is as it was. ITS CALLEE bits.Len64 IS MET BY ITS OWN CONTRACT OFF THE SHELF (lay that first): entered in place it sends the kernel out of memory. (LAID: no walk: one application.) -/
theorem Tryz.bits_LeadingZeros64 (x : Int) (w : World) (h0 : 0 ≤ x) (h1 : x ≤ 18446744073709551615) :
    Calls Tryz.prog 117 #[.int .u64 x] w fun e w' => e = .returned (.int .i64 (64 - (Lib.bitLen x.toNat : Int))) ∧ w' = w := Any.bits_LeadingZeros64 Tryz.lays134 x w h0 h1
def Tryz.lays264_ren : Go.Shelf.Ren := ⟨fun | 264 => 83 | n => n, fun | 53 => 76 | 46 => 99 | n => n, fun | n => n⟩
theorem Tryz.lays264 : Go.Proofs.Lays.n264 Tryz.prog Tryz.lays264_ren := {
  mixed := by kernel_rfl
  f264 := Tryz.func83.trans (congrArg some (by kernel_rfl))
  t46 := Tryz.underlying99
  a46 := Tryz.isAgg99
  z46 := Tryz.sizeOf99
  v46 := Tryz.zeroValue99
  t53 := Tryz.underlying76
  a53 := Tryz.isAgg76
  z53 := Tryz.sizeOf76
  v53 := Tryz.zeroValue76 }
open Go.RowKit Go.Lib in
theorem Tryz.bits_Mul64 (x y : Nat) (hx : x < 18446744073709551616) (hy : y < 18446744073709551616) (w : World) :
    Calls Tryz.prog 83 #[.int .u64 x, .int .u64 y] w fun e w' => e = .returned (.tuple #[.int .u64 ((x * y / 18446744073709551616 : Nat) : Int), .int .u64 ((x * y % 18446744073709551616 : Nat) : Int)]) ∧ w' = w := Any.bits_Mul64 Tryz.lays264 x y hx hy w
end Go.Proofs
namespace Go.Proofs.YthobaffgllipfaaGreat
open Go

/-- four digits -/
def four (r : Nat) : List UInt8 := [UInt8.ofNat (48 + r / 1000), UInt8.ofNat (48 + r / 100 % 10), UInt8.ofNat (48 + r / 10 % 10), UInt8.ofNat (48 + r % 10)]
/-- the digits behind the point -/
def frac (r : Nat) : List UInt8 := Lib.trimRightB (four r) 48
/-- a number's text: n its size, low: is it below 0? -/
def textOf (low : Bool) (n : Nat) : List UInt8 := (if low then [45] else []) ++ (Lib.decDigits (n / 10000) ++ (if n % 10000 = 0 then [] else 46 :: frac (n % 10000)))
def printL (x : Int) : List UInt8 := if x = -9223372036854775808 then [] else textOf (decide (x < 0)) x.natAbs

theorem decSnoc {r : Nat} (h : 10 ≤ r) : Lib.decDigits r = Lib.decDigits (r / 10) ++ [UInt8.ofNat (48 + r % 10)] := by
  rw [Lib.decDigits, dif_neg (by omega)]
theorem dec_five {r : Nat} (h : r < 10000) : Lib.decDigits (10000 + r) = 49 :: four r := by
  rw [decSnoc (by omega), decSnoc (by omega), decSnoc (by omega), decSnoc (by omega), Lib.decDigits_one (by omega)]
  simp only [four, List.cons_append, List.nil_append]
  have e1 : (10000 + r) / 10 / 10 / 10 / 10 = 1 := by omega
  have e2 : (10000 + r) / 10 / 10 / 10 % 10 = r / 1000 := by omega
  have e3 : (10000 + r) / 10 / 10 % 10 = r / 100 % 10 := by omega
  have e4 : (10000 + r) / 10 % 10 = r / 10 % 10 := by omega
  have e5 : (10000 + r) % 10 = r % 10 := by omega
  rw [e1, e2, e3, e4, e5]
  rfl
theorem dec_len20 {u : Nat} (h : u < 18446744073709551616) : (Lib.decDigits u).length ≤ 20 := by
  rw [Lib.decDigits_length]
  by_cases h0 : u = 0
  · subst h0; rw [Lib.nDigits_small (by omega)]; omega
  · have := Lib.numDigits_eq u (by omega) h
    split at this <;> omega
theorem frac_len (r : Nat) : (frac r).length ≤ 4 := by
  unfold frac Lib.trimRightB
  rw [List.length_reverse]
  refine Nat.le_trans (List.dropWhile_sublist _).length_le ?_
  simp [four]
/-- the document's own way: digit by digit, as long as something is left -/
def digs : Nat → Nat → List UInt8
  | 0, _ => []
  | k + 1, r => if r = 0 then [] else UInt8.ofNat (48 + r / 1000) :: digs k (r % 1000 * 10)
theorem digs_frac : ∀ a b c d : Fin 10, a.val * 1000 + b.val * 100 + c.val * 10 + d.val = 0 ∨ digs 4 (a.val * 1000 + b.val * 100 + c.val * 10 + d.val) = frac (a.val * 1000 + b.val * 100 + c.val * 10 + d.val) := by decide +kernel
theorem digs_four {r : Nat} (h : r < 10000) (h0 : r ≠ 0) : digs 4 r = frac r := by
  have := digs_frac ⟨r / 1000, by omega⟩ ⟨r / 100 % 10, by omega⟩ ⟨r / 10 % 10, by omega⟩ ⟨r % 10, by omega⟩
  simp only at this
  rw [show r / 1000 * 1000 + r / 100 % 10 * 100 + r / 10 % 10 * 10 + r % 10 = r by omega] at this
  exact this.resolve_left h0
end Go.Proofs.YthobaffgllipfaaGreat
namespace Go.Proofs.YthobaffgllipfaaGreat
open Go.RowKit

theorem absI_nat (x : Int) : absI x = (x.natAbs : Int) := by unfold absI; split <;> omega
theorem size_nat (x : Int) (N : Nat) (hx : -9223372036854775808 ≤ x ∧ x ≤ 9223372036854775807) (h : x.natAbs = N) (w : World) : Calls Tryz.prog 82 #[.int .i64 x] w fun e w' => e = .returned (.tuple #[.int .u64 N, .bool (decide (x < 0))]) ∧ w = w' := by
  have := size_any x hx w
  rw [absI_nat, h] at this
  exact this
end Go.Proofs.YthobaffgllipfaaGreat
namespace Go.Proofs.YthobaffgllipfaaGreat
open Go.RowKit

theorem ofNat_toNat8 {n : Nat} (h : n < 256) : (UInt8.ofNat n).toNat = n := by simp; omega
/-- what is still to be written is so short -/
def okd : Nat → Nat → Prop
  | 0, m => m = 0
  | 1, m => m % 1000 = 0
  | 2, m => m % 100 = 0
  | 3, m => m % 10 = 0
  | _, _ => True
theorem okd_step {k m : Nat} (hk : k ≤ 3) (h : okd (k + 1) m) : okd k (m % 1000 * 10) := by
  have : k = 0 ∨ k = 1 ∨ k = 2 ∨ k = 3 := by omega
  rcases this with rfl | rfl | rfl | rfl <;> simp only [okd] at * <;> omega
theorem okd_pos {k m : Nat} (h : okd k m) (h0 : 0 < m) : 0 < k := by
  rcases k with _ | k
  · simp only [okd] at h; omega
  · omega
theorem digs_step {k m : Nat} (h0 : 0 < m) : digs (k + 1) m = UInt8.ofNat (48 + m / 1000) :: digs k (m % 1000 * 10) := by
  simp only [digs]; rw [if_neg (by omega)]
theorem digs_zero (k : Nat) : digs k 0 = [] := by cases k <;> simp [digs]
def strSize : Value → Nat
  | .string b => b.size
  | _ => 0
theorem rsize_nat (x : Int) (N : Nat) (hx : -9223372036854775808 ≤ x ∧ x ≤ 9223372036854775807) (h : x.natAbs = N) (w : World) : Calls Tryz.prog 101 #[.int .i64 x] w fun e w' => e = .returned (.tuple #[.int .u64 N, .bool (decide (x < 0))]) ∧ w = w' := by
  have := rsize_any x hx w
  rw [absI_nat, h] at this
  exact this
end Go.Proofs.YthobaffgllipfaaGreat
namespace Go.Proofs.YthobaffgllipfaaGreat
open Go.RowKit

set_option maxRecDepth 100000 in
set_option maxHeartbeats 1000000 in
theorem div64_small (lo y : Nat) (hlo : lo < 18446744073709551616) (hy : y < 18446744073709551616) (h0 : 0 < y) (w : World) : Calls Tryz.prog 109 #[.int .u64 0, .int .u64 lo, .int .u64 y] w fun e w' => e = .returned (.tuple #[.int .u64 ((lo / y : Nat) : Int), .int .u64 ((lo % y : Nat) : Int)]) ∧ Below w.heap.size w w' := by
  have T1 : IntKind.u64.wrap ((lo : Int).tdiv y) = (lo : Int) / y := IntWalk.u64_quo _ _ (by omega)
  have T2 : (lo : Int).tmod y = (lo : Int) % y := Int.tmod_eq_emod_of_nonneg (by omega)
  have hq : (lo : Int) / y = ((lo / y : Nat) : Int) := by simp
  have hr : (lo : Int) % y = ((lo % y : Nat) : Int) := by simp
  have hq' := Lib.hid hq
  have hr' := Lib.hid hr
  have T3 : IntKind.u64.wrap ((lo : Int) % y) = (lo : Int) % y := IntWalk.u64_in _ (by rw [hr]; have := Nat.mod_lt lo h0; omega)
  have T4 : IntKind.u64.wrap ((lo : Int) / y) = (lo : Int) / y := IntWalk.u64_in _ (by rw [hq]; exact ⟨Int.natCast_nonneg _, Int.le_trans (Int.ofNat_le.2 (Nat.div_le_self lo y)) (by omega)⟩)
  clear hq hr
  go_enter Tryz.func109, Tryz.ntmps109
  go_wp2
  go_quiet (fail)
  go_wp2
  go_ret2
  refine ⟨?_, by first | assumption | (go_split_ands; first | assumption | ((repeat (first | (with_reducible exact Below.refl _ _) | (with_reducible refine Below.alloc ?_ (by first | omega | (dsimp only; omega) | (simp <;> omega)) _) | (with_reducible refine Below.setCell ?_ (by first | omega | (dsimp only; omega) | (simp <;> omega)) _) | (with_reducible refine Below.drew ?_) | (with_reducible refine below_drewN ?_ _) | (with_reducible refine Below.trans ?_ (Below.mono (by assumption) (by first | omega | (dsimp only; omega) | (simp <;> omega)))))); done)) | ((repeat (first | (with_reducible exact Below.refl _ _) | (with_reducible refine Below.alloc ?_ (by first | omega | (dsimp only; omega) | (simp <;> omega)) _) | (with_reducible refine Below.setCell ?_ (by first | omega | (dsimp only; omega) | (simp <;> omega)) _) | (with_reducible refine Below.drew ?_) | (with_reducible refine below_drewN ?_ _) | (with_reducible refine Below.trans ?_ (Below.mono (by assumption) (by first | omega | (dsimp only; omega) | (simp <;> omega)))))); done)⟩
  rw [← hq'.out, ← hr'.out]
  rfl
theorem mul64_k (w : World) : Calls Tryz.prog 83 #[.int .u64 15000, .int .u64 15000] w fun e w' => e = .returned (.tuple #[.int .u64 0, .int .u64 225000000]) ∧ w = w' :=
  (Tryz.bits_Mul64 15000 15000 (by omega) (by omega) w).mono fun _ _ ⟨he, hw⟩ => ⟨by rw [he]; rfl, hw.symm⟩
theorem div64_k (w : World) : Calls Tryz.prog 109 #[.int .u64 0, .int .u64 225000000, .int .u64 10000] w fun e w' => e = .returned (.tuple #[.int .u64 22500, .int .u64 0]) ∧ Below w.heap.size w w' :=
  (div64_small 225000000 10000 (by omega) (by omega) (by omega) w).mono fun _ _ ⟨he, hw⟩ => ⟨by rw [he]; rfl, hw⟩
theorem add_k (w : World) : Calls Tryz.prog 107 #[.int .i64 15000, .int .i64 (-5000)] w fun e w' => e = .returned (.tuple #[.int .i64 10000, .int .i64 0]) ∧ Below w.heap.size w w' :=
  (add_any 15000 (-5000) (by omega) (by omega) w).mono fun _ _ ⟨he, hw⟩ => ⟨he, by first | exact hw | (rw [hw]; exact Below.refl _ _)⟩
end Go.Proofs.YthobaffgllipfaaGreat
namespace Go.Proofs.YthobaffgllipfaaGreat
open Go.RowKit

theorem ret_i {a a' : Int} (h : a = a') : Ending.returned (.int .i64 a) = Ending.returned (.int .i64 a') := by rw [h]
/-- which of two numbers stands ahead -/
def cmpI (a b : Int) : Int := if a < b then -1 else if b < a then 1 else 0
def b2i (b : Bool) : Int := if b then 1 else 0
theorem b2i_range (b : Bool) : 0 ≤ b2i b ∧ b2i b ≤ 1 := by cases b <;> simp [b2i]
set_option maxHeartbeats 400000 in
theorem truth_int (b : Bool) (w : World) : Calls Tryz.prog 30 #[.bool b] w fun e w' => e = .returned (.int .i64 (b2i b)) ∧ w = w' := by
  cases b
  all_goals
    go_enter Tryz.func30, Tryz.ntmps30
    go_wp2
    go_ret
    exact ⟨rfl, rfl⟩
end Go.Proofs.YthobaffgllipfaaGreat
namespace Go.Proofs.YthobaffgllipfaaGreat
open Go.RowKit

theorem vmay_yes (t n : Int) (s : ByteArray) (b : Bool) (c : Int) (hn : -9223372036854775808 ≤ n ∧ n ≤ 9223372036854775807) (h : vMay t n s b c = true) (w : World) : Calls Tryz.prog 24 #[.agg #[.int .i64 t, .int .i64 n, .string s, .bool b, .int .i64 c]] w fun e w' => e = .returned (.bool true) ∧ Below w.heap.size w w' := by
  have := vmay_any t n s b c hn w
  rw [h] at this
  exact this
theorem vmay_not (t n : Int) (s : ByteArray) (b : Bool) (c : Int) (hn : -9223372036854775808 ≤ n ∧ n ≤ 9223372036854775807) (h : vMay t n s b c = false) (w : World) : Calls Tryz.prog 24 #[.agg #[.int .i64 t, .int .i64 n, .string s, .bool b, .int .i64 c]] w fun e w' => e = .returned (.bool false) ∧ Below w.heap.size w w' := by
  have := vmay_any t n s b c hn w
  rw [h] at this
  exact this
end Go.Proofs.YthobaffgllipfaaGreat
namespace Go.Proofs.YthobaffgllipfaaGreat
open Go.RowKit

theorem rvmay_yes (t n : Int) (s : ByteArray) (b : Bool) (c : Int) (hn : -9223372036854775808 ≤ n ∧ n ≤ 9223372036854775807) (h : vMay t n s b c = true) (w : World) : Calls Tryz.prog 93 #[.agg #[.int .i64 t, .int .i64 n, .string s, .bool b, .int .i64 c]] w fun e w' => e = .returned (.bool true) ∧ Below w.heap.size w w' := by
  have := rvmay_any t n s b c hn w
  rw [h] at this
  exact this
theorem rvmay_not (t n : Int) (s : ByteArray) (b : Bool) (c : Int) (hn : -9223372036854775808 ≤ n ∧ n ≤ 9223372036854775807) (h : vMay t n s b c = false) (w : World) : Calls Tryz.prog 93 #[.agg #[.int .i64 t, .int .i64 n, .string s, .bool b, .int .i64 c]] w fun e w' => e = .returned (.bool false) ∧ Below w.heap.size w w' := by
  have := rvmay_any t n s b c hn w
  rw [h] at this
  exact this
theorem may_of_0 {n : Int} {s : ByteArray} {b : Bool} {c : Int} (h : vMay 0 n s b c = true) : n = 0 ∧ s = ⟨#[]⟩ ∧ b = false ∧ c = 0 := by
  rw [vMay_iff] at h; simp at h; exact ⟨h.1, h.2.1, h.2.2.1, h.2.2.2⟩
theorem may_of_1 {n : Int} {s : ByteArray} {b : Bool} {c : Int} (h : vMay 1 n s b c = true) : s = ⟨#[]⟩ ∧ b = false ∧ c = 0 := by
  rw [vMay_iff] at h; simp at h; exact ⟨h.1, h.2.1, h.2.2.1⟩
theorem may_of_2 {n : Int} {s : ByteArray} {b : Bool} {c : Int} (h : vMay 2 n s b c = true) : n = 0 ∧ b = false ∧ c = 0 := by
  rw [vMay_iff] at h; simp at h; exact ⟨h.1, h.2.1, h.2.2⟩
theorem may_of_3 {n : Int} {s : ByteArray} {b : Bool} {c : Int} (h : vMay 3 n s b c = true) : n = 0 ∧ s = ⟨#[]⟩ ∧ c = 0 := by
  rw [vMay_iff] at h; simp at h; exact ⟨h.1, h.2.1, h.2.2⟩
theorem cb_at {a b : List UInt8} (k : Nat) (ha : k < a.length) (hb : k < b.length) : Lib.compareBytes (a.drop k) (b.drop k) = if a[k] < b[k] then -1 else if b[k] < a[k] then 1 else Lib.compareBytes (a.drop (k + 1)) (b.drop (k + 1)) := by
  rw [List.drop_eq_getElem_cons ha, List.drop_eq_getElem_cons hb]
  rfl
theorem cb_end {a b : List UInt8} (h : a.length = 0 ∨ b.length = 0) : Lib.compareBytes a b = cmpI a.length b.length := by
  cases a <;> cases b <;> simp [Lib.compareBytes, cmpI] at *
  all_goals omega
theorem cb_take (a b : List UInt8) (k : Nat) (ha : k < a.length) (hb : k < b.length) (h : Lib.compareBytes a b = Lib.compareBytes (a.drop k) (b.drop k)) : (a[k].toNat < b[k].toNat → Lib.compareBytes a b = -1) ∧ (b[k].toNat < a[k].toNat → Lib.compareBytes a b = 1) ∧ (a[k].toNat = b[k].toNat → Lib.compareBytes a b = Lib.compareBytes (a.drop (k + 1)) (b.drop (k + 1))) := by
  rw [h, cb_at k ha hb]
  simp only [UInt8.lt_iff_toNat_lt]
  refine ⟨fun h => if_pos h, fun h => ?_, fun h => ?_⟩
  · rw [if_neg (by omega), if_pos h]
  · rw [if_neg (by omega), if_neg (by omega)]
end Go.Proofs.YthobaffgllipfaaGreat
