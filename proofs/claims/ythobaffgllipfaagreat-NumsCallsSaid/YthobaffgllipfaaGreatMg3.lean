/-
  Rows of cells in memory; Package dec and the document's own: May, size, signed; The document's great numbers: great; Append of a row that is read.
-/
import Derived.Test.YthobaffgllipfaaGreatRows
import Derived.Test.YthobaffgllipfaaGreatBase
import Derived.WalkSpells
import Derived.WalkLawsBesides
import Derived.StillTactics
import Derived.Laws.Pointers
import Derived.Deep.RegionHeld3
import Derived.Deep.QuietTactic
import Derived.BigQuiet
import Derived.RowKit3
import Derived.Lib.Hide
import Derived.Lib.OthersKept
import Derived.OwnWalk
import Derived.Lib.IndexLaws
import Derived.Lib.ItoaMem
import Derived.WalkKit
import Derived.ProofKit
import Derived.OpenShut
import Derived.Carry
import Derived.ChangeSame
import Derived.Deep.Draws
import Derived.Maps.AppendAt
import Derived.Laws.AppendOwnNone
namespace Go.Proofs.YthobaffgllipfaaGreat
open Go.RowKit

/-- rows of cells, k a row -/
def RdS (w : World) (A : Option Addr) (k : Nat) (l : List (List Value)) : Prop :=
  ∀ i c, l[i]? = some c → ∃ b o, A = some ⟨b, o, none⟩ ∧ b < w.heap.size ∧ ∀ j u, c[j]? = some u → w.cell? ⟨b, o + i * k + j, none⟩ = some u
theorem RdS.below {w w' : World} {A : Option Addr} {k : Nat} {l : List (List Value)} (h : RdS w A k l) {B : Nat} (hb : Below B w w') (hB : w.heap.size ≤ B) : RdS w' A k l := fun i c hi => by
  obtain ⟨b, o, e, hlt, hc⟩ := h i c hi
  exact ⟨b, o, e, Nat.lt_of_lt_of_le hlt hb.size, fun j u hu => (hb.cell (p := ⟨b, _, none⟩) (Nat.lt_of_lt_of_le hlt hB)).trans (hc j u hu)⟩
/-- rows below a block number: kept while nothing below it is turned -/
def RdB (w : World) (B : Nat) (A : Option Addr) (k : Nat) (l : List (List Value)) : Prop :=
  ∀ i c, l[i]? = some c → ∃ b o, A = some ⟨b, o, none⟩ ∧ b < B ∧ ∀ j u, c[j]? = some u → w.cell? ⟨b, o + i * k + j, none⟩ = some u
theorem RdB.below {w w' : World} {B : Nat} {A : Option Addr} {k : Nat} {l : List (List Value)} (h : RdB w B A k l) (hb : Below B w w') : RdB w' B A k l := fun i c hi => by
  obtain ⟨b, o, e, hlt, hc⟩ := h i c hi
  exact ⟨b, o, e, hlt, fun j u hu => (hb.cell (p := ⟨b, _, none⟩) hlt).trans (hc j u hu)⟩
theorem RdB.mono {w : World} {B B' : Nat} {A : Option Addr} {k : Nat} {l : List (List Value)} (h : RdB w B A k l) (hB : B ≤ B') : RdB w B' A k l := fun i c hi => by
  obtain ⟨b, o, e, hlt, hc⟩ := h i c hi
  exact ⟨b, o, e, by omega, hc⟩
theorem u64_info : (Tryz.prog.info? 76).map (fun i => (i.zero, i.size, i.bytes)) = some (some (.int .u64 0), 1, 8) := by kernel_rfl
theorem ownsRow_below {w w' : World} {B size n : Nat} {e : TypeId} {v : Value} {xs : List Value} (h : w.ownsRow B e size v n xs) (hb : Below w.heap.size w w') : w'.ownsRow B e size v n xs := by
  obtain ⟨h1, h2⟩ := h
  rcases h2 with ⟨h2, h3⟩ | ⟨g, cap, cur, hv, hB, hh, hr⟩
  · exact ⟨h1, .inl ⟨h2, h3⟩⟩
  · exact ⟨h1, .inr ⟨g, cap, cur, hv, hB, by rw [hb.block g (by exact (Array.getElem?_eq_some_iff.1 hh).1)]; exact hh, hr⟩⟩
theorem ownsRow_base {w : World} {base base' size n : Nat} {e : TypeId} {v : Value} {xs : List Value} (h : w.ownsRow base e size v n xs) (hb : base' ≤ base) : w.ownsRow base' e size v n xs := by
  obtain ⟨h1, h2⟩ := h
  rcases h2 with h2 | ⟨g, cap, cur, hv, hB, hr⟩
  · exact ⟨h1, .inl h2⟩
  · exact ⟨h1, .inr ⟨g, cap, cur, hv, Nat.le_trans hb hB, hr⟩⟩
end Go.Proofs.YthobaffgllipfaaGreat
namespace Go.Proofs.YthobaffgllipfaaGreat
open Go.RowKit

/-- may a number be? -/
def decMay (x : Int) : Bool := !(decide (x = -9223372036854775808))
/-- a number out of its exact value: too great ones have none -/
def exV (n : Int) : Int := if -9223372036854775807 ≤ n ∧ n ≤ 9223372036854775807 then n else 0
def exC (n : Int) : Int := if -9223372036854775807 ≤ n ∧ n ≤ 9223372036854775807 then 0 else 2
/-- Neg, Add, Sub -/
def negV (x : Int) : Int := if x = -9223372036854775808 then 0 else -x
def negC (x : Int) : Int := if x = -9223372036854775808 then 2 else 0
def addV (a b : Int) : Int := if a = -9223372036854775808 ∨ b = -9223372036854775808 then 0 else exV (a + b)
def addC (a b : Int) : Int := if a = -9223372036854775808 ∨ b = -9223372036854775808 then 2 else exC (a + b)
def subV (a b : Int) : Int := if a = -9223372036854775808 ∨ b = -9223372036854775808 then 0 else exV (a - b)
def subC (a b : Int) : Int := if a = -9223372036854775808 ∨ b = -9223372036854775808 then 2 else exC (a - b)
/-- a number's size -/
def absI (x : Int) : Int := if x < 0 then -x else x

theorem ret_ub {a a' : Int} {b b' : Bool} (h : a = a') (k : b = b') : Ending.returned (.tuple #[.int .u64 a, .bool b]) = Ending.returned (.tuple #[.int .u64 a', .bool b']) := by rw [h, k]
theorem ret_ii {a a' b b' : Int} (h : a = a') (k : b = b') : Ending.returned (.tuple #[.int .i64 a, .int .i64 b]) = Ending.returned (.tuple #[.int .i64 a', .int .i64 b']) := by rw [h, k]
theorem ret_ib {a a' : Int} {b b' : Bool} (h : a = a') (k : b = b') : Ending.returned (.tuple #[.int .i64 a, .bool b]) = Ending.returned (.tuple #[.int .i64 a', .bool b']) := by rw [h, k]
theorem ret_b {b b' : Bool} (k : b = b') : Ending.returned (.bool b) = Ending.returned (.bool b') := by rw [k]

set_option maxHeartbeats 400000 in
theorem dmay_any (x : Int) (hx : -9223372036854775808 ≤ x ∧ x ≤ 9223372036854775807) (w : World) : Calls Tryz.prog 73 #[.int .i64 x] w fun e w' => e = .returned (.bool (decMay x)) ∧ w = w' := by
  obtain ⟨x0, x1⟩ := hx
  go_enter Tryz.func73, Tryz.ntmps73
  go_wp2
  all_goals go_ret
  all_goals refine ⟨ret_b (Bool.eq_iff_iff.2 ?_), rfl⟩
  all_goals simp [decMay]
  all_goals try omega
set_option maxHeartbeats 400000 in
theorem drmay_any (x : Int) (hx : -9223372036854775808 ≤ x ∧ x ≤ 9223372036854775807) (w : World) : Calls Tryz.prog 60 #[.int .i64 x] w fun e w' => e = .returned (.bool (decMay x)) ∧ w = w' := by
  obtain ⟨x0, x1⟩ := hx
  go_enter Tryz.func60, Tryz.ntmps60
  go_wp2
  all_goals go_ret
  all_goals refine ⟨ret_b (Bool.eq_iff_iff.2 ?_), rfl⟩
  all_goals simp [decMay]
  all_goals try omega
set_option maxHeartbeats 400000 in
theorem size_any (x : Int) (hx : -9223372036854775808 ≤ x ∧ x ≤ 9223372036854775807) (w : World) : Calls Tryz.prog 82 #[.int .i64 x] w fun e w' => e = .returned (.tuple #[.int .u64 (absI x), .bool (decide (x < 0))]) ∧ w = w' := by
  obtain ⟨x0, x1⟩ := hx
  go_enter Tryz.func82, Tryz.ntmps82
  go_wp2
  all_goals go_ret2
  all_goals refine ⟨ret_ub ?_ (Bool.eq_iff_iff.2 ?_), rfl⟩
  all_goals simp [absI, IntKind.wrap_u64]
  all_goals repeat' split
  all_goals omega
set_option maxHeartbeats 400000 in
theorem rsize_any (x : Int) (hx : -9223372036854775808 ≤ x ∧ x ≤ 9223372036854775807) (w : World) : Calls Tryz.prog 101 #[.int .i64 x] w fun e w' => e = .returned (.tuple #[.int .u64 (absI x), .bool (decide (x < 0))]) ∧ w = w' := by
  obtain ⟨x0, x1⟩ := hx
  go_enter Tryz.func101, Tryz.ntmps101
  go_wp2
  all_goals go_ret2
  all_goals refine ⟨ret_ub ?_ (Bool.eq_iff_iff.2 ?_), rfl⟩
  all_goals simp [absI, IntKind.wrap_u64, wrap64]
  all_goals repeat' split
  all_goals omega
set_option maxHeartbeats 400000 in
theorem signed_any (n : Int) (hn : 0 ≤ n ∧ n ≤ 18446744073709551615) (low : Bool) (w : World) : Calls Tryz.prog 84 #[.int .u64 n, .bool low] w fun e w' => e = .returned (.tuple #[.int .i64 (exV (if low then -n else n)), .int .i64 (exC (if low then -n else n))]) ∧ w = w' := by
  obtain ⟨n0, n1⟩ := hn
  cases low
  all_goals
    go_enter Tryz.func84, Tryz.ntmps84
    go_wp2
  all_goals go_ret2
  all_goals refine ⟨ret_ii ?_ ?_, rfl⟩
  all_goals simp [exV, exC]
  all_goals repeat' split
  all_goals omega
set_option maxHeartbeats 400000 in
theorem rsigned_any (n : Int) (hn : 0 ≤ n ∧ n ≤ 18446744073709551615) (low : Bool) (w : World) : Calls Tryz.prog 102 #[.int .u64 n, .bool low] w fun e w' => e = .returned (.tuple #[.int .i64 (exV (if low then -n else n)), .int .i64 (exC (if low then -n else n))]) ∧ w = w' := by
  obtain ⟨n0, n1⟩ := hn
  cases low
  all_goals
    go_enter Tryz.func102, Tryz.ntmps102
    go_wp2
  all_goals go_ret2
  all_goals refine ⟨ret_ii ?_ ?_, rfl⟩
  all_goals simp [exV, exC]
  all_goals repeat' split
  all_goals omega
end Go.Proofs.YthobaffgllipfaaGreat
namespace Go.Proofs.YthobaffgllipfaaGreat
open Go.RowKit

theorem int_info : (Tryz.prog.info? 3).map (fun i => (i.zero, i.size, i.bytes)) = some (some (.int .i64 0), 1, 8) := by kernel_rfl
/-- words of four digits, the lowest first -/
def valG : List Nat → Nat
  | [] => 0
  | d :: l => d + 10000 * valG l
theorem valG_snoc : ∀ (l : List Nat) (d : Nat), valG (l ++ [d]) = valG l + 10000 ^ l.length * d
  | [], d => by simp [valG]
  | a :: l, d => by
    simp only [List.cons_append, valG, valG_snoc l d, List.length_cons, Nat.pow_succ]
    rw [Nat.mul_add, Nat.add_assoc, Nat.mul_comm (10000 ^ l.length) 10000, Nat.mul_assoc]
/-- none of nought at the end -/
def CanG (l : List Nat) : Prop := ∀ d, l.getLast? = some d → 0 < d
/-- a row of such words that is the call's own -/
structure HeldG (B : Nat) (w0 w : World) (v : Value) (l : List Nat) : Prop where
  own : w.ownsRow B 3 1 v l.length (l.map fun (n : Nat) => Value.int .i64 (n : Int))
  dig : ∀ d ∈ l, d < 10000
  bel : Below B w0 w
  siz : B ≤ w.heap.size
/-- such words that come back -/
structure GreatAt (v : Nat) (n : Nat) (w : World) (e : Ending) (w' : World) : Prop where
  out : ∃ u l, e = .returned u ∧ HeldG w.heap.size w w' u l ∧ valG l = v ∧ CanG l ∧ l.length ≤ n
theorem rdG_own {w : World} {B : Nat} {e : TypeId} {v : Value} {l : List Nat} (h : w.ownsRow B e 1 v l.length (l.map fun (n : Nat) => Value.int .i64 (n : Int))) : ∃ A cap, v = .slice A l.length cap ∧ RdB w w.heap.size A 1 (l.map fun (d : Nat) => [Value.int .i64 (d : Int)]) := by
  rcases h.2 with ⟨h2, h3⟩ | ⟨g, cap, cur, hv, hB, hh, hr⟩
  · exact ⟨none, 0, by rw [h2, h3], fun i c hi => by rw [List.eq_nil_of_length_eq_zero h3] at hi; simp at hi⟩
  · refine ⟨_, cap, hv, fun i c hi => ⟨g, 0, rfl, (Array.getElem?_eq_some_iff.1 hh).1, fun j u hu => ?_⟩⟩
    rw [List.getElem?_map] at hi
    obtain ⟨d, hd, rfl⟩ := Option.map_eq_some_iff.1 hi
    obtain ⟨hlt, _⟩ := List.getElem?_eq_some_iff.1 hd
    rcases j with _ | j
    · simp at hu
      subst hu
      subst hv
      have := h.cellAt i (by omega)
      rw [List.getElem?_map, hd] at this
      simpa using this
    · simp at hu
theorem great_step (v p q d q' n : Nat) (h : v + p * q = n) (hd : d = q % 10000) (hq : q' = q / 10000) : v + p * d + p * 10000 * q' = n := by
  have e : q = d + 10000 * q' := by omega
  rw [← h, e, Nat.mul_add, Nat.mul_assoc, Nat.add_assoc]
theorem great_len (v p q n k : Nat) (hk : k ≤ 5) (hp : p = 10000 ^ k) (h : v + p * q = n) (hn : n < 18446744073709551616) (hq : 0 < q) : k ≤ 4 := by
  rcases Nat.lt_or_ge k 5 with h5 | h5
  · omega
  · obtain rfl : k = 5 := by omega
    have h6 : p * 1 ≤ p * q := Nat.mul_le_mul_left _ hq
    rw [hp] at h6 h
    omega
set_option maxRecDepth 100000 in
set_option maxHeartbeats 2000000 in
theorem great_any (n : Nat) (hn : n < 18446744073709551616) (w : World) : Calls Tryz.prog 99 #[.int .u64 (n : Int)] w (GreatAt n 5 w) := by
  obtain ⟨i0, hi, hz0, hz1, hz2⟩ := info_parts int_info
  have hn' := Lib.hid hn
  clear hn
  go_enter Tryz.func99, Tryz.ntmps99
  go_wp2
  go_loopw [0, 3] (fun nv ov wr => ∃ (q : Nat) (outs : List Nat), nv = .int .u64 (q : Int) ∧ Hid (q < 18446744073709551616) ∧ Hid (valG outs + 10000 ^ outs.length * q = n) ∧ Hid (∀ d ∈ outs, d < 10000) ∧ outs.length ≤ 5 ∧ Hid (q = 0 → CanG outs) ∧ wr.ownsRow w.heap.size 3 1 ov outs.length (outs.map fun (n : Nat) => Value.int .i64 (n : Int)) ∧ Below w.heap.size w wr) (fun nv _ _ => (intOf nv).toNat)
  case atStart => exact ⟨n, [], rfl, hn', Lib.hid (by simp [valG]), Lib.hid (by simp), by simp, Lib.hid (fun _ d h => by simp at h), World.ownsRow_nil _ _ _ _, Below.refl _ _⟩
  case round =>
    obtain ⟨q, outs, rfl, hqb, hval, hdig, hlen, hcan, hown, hbr⟩ := hrel
    have hzr := hbr.size
    by_cases hq0 : q = 0
    · subst hq0
      go_wp2
      go_ret
      exact ⟨_, outs, rfl, ⟨hown, hdig.out, hbr, hzr⟩, by have := hval.out; simpa using this, by first | exact hcan.out rfl | exact hcan.out trivial, hlen⟩
    · have hqp : (0 : Int) < (q : Int) := by omega
      obtain ⟨d, hd⟩ : ∃ d, d = q % 10000 := ⟨_, rfl⟩
      obtain ⟨q', hq'⟩ : ∃ q', q' = q / 10000 := ⟨_, rfl⟩
      have hl4 := great_len _ _ q n _ hlen rfl hval.out hn'.out (by omega)
      have a1 : (q : Int) % 10000 = (d : Int) := by omega
      have a2 : (q : Int) / 10000 = (q' : Int) := by omega
      have a3 : IntKind.i64.wrap (d : Int) = (d : Int) := IntWalk.i64_in _ (by omega)
      have a4 : IntKind.u64.wrap (q' : Int) = (q' : Int) := by rw [IntKind.wrap_u64]; have := hqb.out; omega
      have hst := Lib.hid (great_step _ _ q d q' n hval.out hd hq')
      have hdb : d < 10000 := by omega
      have hqb' := Lib.hid (show q' < 18446744073709551616 by have := hqb.out; omega)
      have hc' := Lib.hid (show q' = 0 → 0 < d by omega)
      have hlt' := Lib.hid (show q' < q by omega)
      clear hd hq' hval hqb hq0 hcan hlen
      go_wp2_with (at_builtin; refine wpList_append_own_at _ rfl _ _ 103 rfl w.heap.size 3 i0 (.int .i64 0) 1 8 Tryz.underlying103 hi hz0 hz1 hz2 rfl (by decide) _ _ _ rfl (hown.alloc _) ⟨wr.heap.size, 0, none⟩ 1 1 [.int .i64 (d : Int)] rfl rfl (cell_one_new _ _ _) (by simp [Value.oneCell']) (by unfold maxLen; omega) (by omega) (by simp; omega) ?_; intro v' w1 hown1 hgrow1 hnil1 hloc1)
      go_roundw
      case rel =>
        refine ⟨q', outs ++ [d], by first | rfl | trivial, hqb', Lib.hid ?_, Lib.hid ?_, by simp; omega, Lib.hid ?_, ?_, ?_⟩
        · rw [valG_snoc, List.length_append, List.length_singleton, Nat.pow_succ]; exact hst.out
        · intro y hy
          rcases List.mem_append.1 hy with h | h
          · exact hdig.out y h
          · simp at h; omega
        · intro h0 y hy
          rw [List.getLast?_concat] at hy
          injection hy with hy
          rw [← hy]; exact hc'.out h0
        · rw [List.map_append, List.length_append]; exact hown1
        · refine (hbr.alloc hzr _).grown hgrow1 (by simp; omega) (fun j hj => ?_)
          exact (hown.lt j hj).1
      case measure => have := hlt'.out; simp [intOf]; omega
end Go.Proofs.YthobaffgllipfaaGreat
namespace Go.Proofs.YthobaffgllipfaaGreat
open Go.RowKit

/-- append of a row that is read, nil or not, to a row of the call's own -/
theorem wpList_append_read {P : Program} {w : World} {ops : Array Oper} {rest : List Oper} {o : Oper} {a : Act} {Q : Exit → Act → World → Prop} (hgd : o.guard = none) (s x : Operand) (t : TypeId)
    (ho : o.op = .call { callee := .builtin .append, args := #[s, x], argTypes := #[t, t] })
    (base : Nat) (e : TypeId) (i : TypeInfo) (z : Value) (bytes : Nat) (ht : P.underlying t = some (.slice e)) (hi : P.info? e = some i) (hz : i.zero = some z)
    (hsize : i.size = 1) (hby : i.bytes = bytes) (hzs : z.cells.size = 1)
    (v : Value) (n : Nat) (xs : List Value) (hs : a.eval s = v) (hown : w.ownsRow base e 1 v n xs)
    (A : Option Addr) (m c : Nat) (news : List Value) (hx : a.eval x = .slice A m c) (hA : A = none → m = 0 ∧ c = 0) (hl : news.length = m) {B : Nat} (hR : RdB w B A 1 (news.map fun u => [u])) (h1 : ∀ u ∈ news, u.oneCell' = true)
    (h63 : n + m ≤ maxLen) (hbytes : (n + m) * bytes ≤ 140737488355328) (hbase : base ≤ w.heap.size)
    (h : ∀ v' w', w'.ownsRow base e 1 v' (n + m) (xs ++ news) → w.grownBy w' v.ownBlock → wpList P ops Q rest (a.put o.dst v') w') :
    wpList P ops Q (o :: rest) a w := by
  rcases A with _ | ad
  · obtain ⟨rfl, rfl⟩ := hA rfl
    obtain rfl : news = [] := List.eq_nil_of_length_eq_zero hl
    refine wpList_append_own_none hgd s x t ho base e i 1 ht hi v n xs hs hown hx (h v w ?_ ⟨rfl, rfl, rfl, Nat.le_refl _, fun _ _ _ => rfl⟩)
    rw [Nat.add_zero, List.append_nil]; exact hown
  · refine wpList_append_own_at w hgd s x t ho base e i z 1 bytes ht hi hz hsize hby hzs (by decide) v n xs hs hown ad m c news hx (by omega) ?_ h1 h63 hbytes hbase (fun v' w' h2 h3 _ _ => h v' w' h2 h3)
    intro j u hj
    obtain ⟨b, off, e1, _, hc⟩ := hR j [u] (by rw [List.getElem?_map, hj]; rfl)
    injection e1 with e1
    subst e1
    have := hc 0 u rfl
    rcases j with _ | j
    · simpa [Addr.add] using this
    · simpa [Addr.add] using this
end Go.Proofs.YthobaffgllipfaaGreat
