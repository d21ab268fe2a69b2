/-
  Rows of cells in memory; Contracts of In and Before, and of the document's own; Arguments of functions: how they lie in memory; nums: numbers, faults, wholes; nums: slices.Contains; nums: Call, what its parts answer; Contracts of the document's In, May, Before, their results by name.
-/
import Derived.Test.YtgmhifafbebjfaaGreatDoorAddrC
import Derived.Test.YtgmhifafbebjfaaGreatDoorMapK
import Derived.Test.YtgmhifafbebjfaaGreatDoorDParse
import Derived.Test.YtgmhifafbebjfaaGreatDoorValL
import Derived.Deep.RegionWith
import Derived.Laws.EntriesVeiled
namespace Go.Proofs.YtgmhifafbebjfaaGreatDoor
open Go.RowKit

/-- rows of cells, k a row -/
def RdS (w : World) (A : Option Addr) (k : Nat) (l : List (List Value)) : Prop :=
  ∀ i c, l[i]? = some c → ∃ b o, A = some ⟨b, o, none⟩ ∧ b < w.heap.size ∧ ∀ j u, c[j]? = some u → w.cell? ⟨b, o + i * k + j, none⟩ = some u
theorem RdS.below {w w' : World} {A : Option Addr} {k : Nat} {l : List (List Value)} (h : RdS w A k l) {B : Nat} (hb : Below B w w') (hB : w.heap.size ≤ B) : RdS w' A k l := fun i c hi => by
  obtain ⟨b, o, e, hlt, hc⟩ := h i c hi
  exact ⟨b, o, e, Nat.lt_of_lt_of_le hlt hb.size, fun j u hu => (hb.cell (p := ⟨b, _, none⟩) (Nat.lt_of_lt_of_le hlt hB)).trans (hc j u hu)⟩
/-- rows below a block number: kept while nothing below it is turned -/
def RdB (w : World) (B : Nat) (A : Option Addr) (k : Nat) (l : List (List Value)) : Prop :=
  ∀ i c, l[i]? = some c → ∃ b o, A = some ⟨b, o, none⟩ ∧ b < B ∧ ∀ j u, c[j]? = some u → w.cell? ⟨b, o + i * k + j, none⟩ = some u
theorem RdB.below {w w' : World} {B : Nat} {A : Option Addr} {k : Nat} {l : List (List Value)} (h : RdB w B A k l) (hb : Below B w w') : RdB w' B A k l := fun i c hi => by
  obtain ⟨b, o, e, hlt, hc⟩ := h i c hi
  exact ⟨b, o, e, hlt, fun j u hu => (hb.cell (p := ⟨b, _, none⟩) hlt).trans (hc j u hu)⟩
theorem RdB.mono {w : World} {B B' : Nat} {A : Option Addr} {k : Nat} {l : List (List Value)} (h : RdB w B A k l) (hB : B ≤ B') : RdB w B' A k l := fun i c hi => by
  obtain ⟨b, o, e, hlt, hc⟩ := h i c hi
  exact ⟨b, o, e, by omega, hc⟩
theorem ownsRow_below {w w' : World} {B size n : Nat} {e : TypeId} {v : Value} {xs : List Value} (h : w.ownsRow B e size v n xs) (hb : Below w.heap.size w w') : w'.ownsRow B e size v n xs := by
  obtain ⟨h1, h2⟩ := h
  rcases h2 with ⟨h2, h3⟩ | ⟨g, cap, cur, hv, hB, hh, hr⟩
  · exact ⟨h1, .inl ⟨h2, h3⟩⟩
  · exact ⟨h1, .inr ⟨g, cap, cur, hv, hB, by rw [hb.block g (by exact (Array.getElem?_eq_some_iff.1 hh).1)]; exact hh, hr⟩⟩
theorem flat_at {k : Nat} : ∀ (l : List (List Value)), (∀ c ∈ l, c.length = k) → ∀ (i : Nat) (c : List Value), l[i]? = some c → ∀ (j : Nat) (u : Value), c[j]? = some u → l.flatten[i * k + j]? = some u
  | [], _, i, c, h, _, _, _ => by simp at h
  | d :: l, hl, i, c, h, j, u, hu => by
    have hd := hl d (by simp)
    rw [List.flatten_cons]
    cases i with
    | zero =>
      simp at h; subst h
      have : j < d.length := (List.getElem?_eq_some_iff.1 hu).1
      rw [Nat.zero_mul, Nat.zero_add, List.getElem?_append_left this]; exact hu
    | succ i =>
      have h2 : l[i]? = some c := by simpa using h
      have := flat_at l (fun c hc => hl c (by simp [hc])) i c h2 j u hu
      rw [List.getElem?_append_right (by rw [hd, Nat.succ_mul]; omega), hd]
      rw [show (i + 1) * k + j - k = i * k + j by rw [Nat.succ_mul]; omega]
      exact this
end Go.Proofs.YtgmhifafbebjfaaGreatDoor
namespace Go.Proofs.YtgmhifafbebjfaaGreatDoor
open Go.RowKit

set_option maxHeartbeats 400000 in
theorem in_any (t l b r row col : Int) (w : World) :
    Calls Tryz.prog 61 #[.agg #[.int .i64 t, .int .i64 l, .int .i64 b, .int .i64 r], .agg #[.int .i64 row, .int .i64 col]] w
      fun e w' => e = .returned (.bool (inB t l b r row col)) ∧ Below w.heap.size w w' := by
  go_enter Tryz.func61, Tryz.ntmps61
  go_wp2
  all_goals go_ret
  all_goals refine ⟨congrArg (fun b => Ending.returned (Value.bool b)) (Bool.eq_iff_iff.2 ?_), by (repeat (first | (with_reducible exact Below.refl _ _) | (with_reducible refine Below.alloc ?_ (by first | omega | (dsimp only; omega) | (simp <;> omega)) _) | (with_reducible refine Below.setCell ?_ (by first | omega | (dsimp only; omega) | (simp <;> omega)) _) | (with_reducible refine Below.drew ?_) | (with_reducible refine below_drewN ?_ _) | (with_reducible refine Below.trans ?_ (Below.mono (by assumption) (by first | omega | (dsimp only; omega) | (simp <;> omega))))))⟩
  all_goals simp [inB]
  all_goals omega
set_option maxHeartbeats 400000 in
theorem rin_any (t l b r row col : Int) (w : World) :
    Calls Tryz.prog 162 #[.agg #[.int .i64 t, .int .i64 l, .int .i64 b, .int .i64 r], .agg #[.int .i64 row, .int .i64 col]] w
      fun e w' => e = .returned (.bool (inB t l b r row col)) ∧ Below w.heap.size w w' := by
  go_enter Tryz.func162, Tryz.ntmps162
  go_wp2
  all_goals go_ret
  all_goals refine ⟨congrArg (fun b => Ending.returned (Value.bool b)) (Bool.eq_iff_iff.2 ?_), by (repeat (first | (with_reducible exact Below.refl _ _) | (with_reducible refine Below.alloc ?_ (by first | omega | (dsimp only; omega) | (simp <;> omega)) _) | (with_reducible refine Below.setCell ?_ (by first | omega | (dsimp only; omega) | (simp <;> omega)) _) | (with_reducible refine Below.drew ?_) | (with_reducible refine below_drewN ?_ _) | (with_reducible refine Below.trans ?_ (Below.mono (by assumption) (by first | omega | (dsimp only; omega) | (simp <;> omega))))))⟩
  all_goals simp [inB]
  all_goals omega
set_option maxHeartbeats 400000 in
theorem before_any (a b c d : Int) (w : World) :
    Calls Tryz.prog 62 #[.agg #[.int .i64 a, .int .i64 b], .agg #[.int .i64 c, .int .i64 d]] w
      fun e w' => e = .returned (.bool (befB a b c d)) ∧ Below w.heap.size w w' := by
  go_enter Tryz.func62, Tryz.ntmps62
  go_wp2
  all_goals go_ret
  all_goals simp only [bne_iff_ne, ne_eq, bne_eq_false_iff_eq] at *
  all_goals refine ⟨congrArg (fun b => Ending.returned (Value.bool b)) (Bool.eq_iff_iff.2 ?_), by (repeat (first | (with_reducible exact Below.refl _ _) | (with_reducible refine Below.alloc ?_ (by first | omega | (dsimp only; omega) | (simp <;> omega)) _) | (with_reducible refine Below.setCell ?_ (by first | omega | (dsimp only; omega) | (simp <;> omega)) _) | (with_reducible refine Below.drew ?_) | (with_reducible refine below_drewN ?_ _) | (with_reducible refine Below.trans ?_ (Below.mono (by assumption) (by first | omega | (dsimp only; omega) | (simp <;> omega))))))⟩
  all_goals simp [befB]
  all_goals omega
set_option maxHeartbeats 400000 in
theorem rbefore_any (a b c d : Int) (w : World) :
    Calls Tryz.prog 163 #[.agg #[.int .i64 a, .int .i64 b], .agg #[.int .i64 c, .int .i64 d]] w
      fun e w' => e = .returned (.bool (befB a b c d)) ∧ Below w.heap.size w w' := by
  go_enter Tryz.func163, Tryz.ntmps163
  go_wp2
  all_goals go_ret
  all_goals refine ⟨congrArg (fun b => Ending.returned (Value.bool b)) (Bool.eq_iff_iff.2 ?_), by (repeat (first | (with_reducible exact Below.refl _ _) | (with_reducible refine Below.alloc ?_ (by first | omega | (dsimp only; omega) | (simp <;> omega)) _) | (with_reducible refine Below.setCell ?_ (by first | omega | (dsimp only; omega) | (simp <;> omega)) _) | (with_reducible refine Below.drew ?_) | (with_reducible refine below_drewN ?_ _) | (with_reducible refine Below.trans ?_ (Below.mono (by assumption) (by first | omega | (dsimp only; omega) | (simp <;> omega))))))⟩
  all_goals simp [befB]
  all_goals omega
end Go.Proofs.YtgmhifafbebjfaaGreatDoor
namespace Go.Proofs.YtgmhifafbebjfaaGreatDoor
open Go.RowKit

/-- a value's cells by name -/
structure VL where
  t : Int
  n : Int
  s : ByteArray
  b : Bool
  c : Int
def VL.cs (v : VL) : List Value := [.int .i64 v.t, .int .i64 v.n, .string v.s, .bool v.b, .int .i64 v.c]
def VL.ok (v : VL) : Prop := -9223372036854775808 ≤ v.n ∧ v.n ≤ 9223372036854775807
def VL.may (v : VL) : Bool := vMay v.t v.n v.s v.b v.c
/-- a place with its value -/
structure EL where
  r : Int
  c : Int
  v : VL
def EL.cs (e : EL) : List Value := [.int .i64 e.r, .int .i64 e.c, .int .i64 e.v.t, .int .i64 e.v.n, .string e.v.s, .bool e.v.b, .int .i64 e.v.c]
/-- an argument -/
structure AL where
  many : Bool
  v : VL
  t : Int
  l : Int
  b : Int
  r : Int
  A : Option Addr
  cap : Nat
  es : List EL
def AL.cs (x : AL) : List Value := [.bool x.many, .int .i64 x.v.t, .int .i64 x.v.n, .string x.v.s, .bool x.v.b, .int .i64 x.v.c, .int .i64 x.t, .int .i64 x.l, .int .i64 x.b, .int .i64 x.r, .slice x.A x.es.length x.cap]
def AL.In (w : World) (B : Nat) (x : AL) : Prop := x.v.ok ∧ RdB w B x.A 7 (x.es.map EL.cs) ∧ (∀ e ∈ x.es, e.v.ok) ∧ x.es.length ≤ 9223372036854775807
theorem AL.In.below {w w' : World} {B : Nat} {x : AL} (h : x.In w B) (hb : Below B w w') : x.In w' B := ⟨h.1, h.2.1.below hb, h.2.2⟩
theorem AL.In.mono {w : World} {B B' : Nat} {x : AL} (h : x.In w B) (hB : B ≤ B') : x.In w B' := ⟨h.1, h.2.1.mono hB, h.2.2⟩
/-- may the entries be, from the k-th on? -/
def entOk (x : AL) (k : Nat) : Bool :=
  match x.es[k]? with
  | some e => inB x.t x.l x.b x.r e.r e.c && e.v.may && (match k with | 0 => true | j + 1 => match x.es[j]? with | some d => befB d.r d.c e.r e.c | none => true)
  | none => true
def entsOk (x : AL) : Bool := (List.range x.es.length).all (entOk x)
def v0 : VL := ⟨0, 0, ⟨#[]⟩, false, 0⟩
def vZero (v : VL) : Bool := vEq v.t v.n v.s v.b v.c 0 0 ⟨#[]⟩ false 0
def rZero (x : AL) : Bool := decide (x.t = 0) && decide (x.l = 0) && decide (x.b = 0) && decide (x.r = 0)
def argMay (x : AL) : Bool :=
  if x.many then mayRectB x.t x.l x.b x.r && vZero x.v && entsOk x else rZero x && decide (x.es = []) && x.v.may
theorem in_is (t l b r row col : Int) (z : Bool) (h : inB t l b r row col = z) (w : World) : Calls Tryz.prog 61 #[.agg #[.int .i64 t, .int .i64 l, .int .i64 b, .int .i64 r], .agg #[.int .i64 row, .int .i64 col]] w
      fun e w' => e = .returned (.bool z) ∧ Below w.heap.size w w' := by
  subst h; exact in_any t l b r row col w
theorem vmay_is (t n : Int) (s : ByteArray) (b : Bool) (c : Int) (hn : -9223372036854775808 ≤ n ∧ n ≤ 9223372036854775807) (z : Bool) (h : vMay t n s b c = z) (w : World) : Calls Tryz.prog 59 #[.agg #[.int .i64 t, .int .i64 n, .string s, .bool b, .int .i64 c]] w
      fun e w' => e = .returned (.bool z) ∧ Below w.heap.size w w' := by
  subst h; exact vmay_any t n s b c hn w
theorem before_is (a b c d : Int) (z : Bool) (h : befB a b c d = z) (w : World) : Calls Tryz.prog 62 #[.agg #[.int .i64 a, .int .i64 b], .agg #[.int .i64 c, .int .i64 d]] w
      fun e w' => e = .returned (.bool z) ∧ Below w.heap.size w w' := by
  subst h; exact before_any a b c d w
end Go.Proofs.YtgmhifafbebjfaaGreatDoor
namespace Go.Proofs.YtgmhifafbebjfaaGreatDoor
open Go.RowKit

def VL.val (v : VL) : Value := .agg #[.int .i64 v.t, .int .i64 v.n, .string v.s, .bool v.b, .int .i64 v.c]
def errL (c : Int) : VL := ⟨4, 0, ⟨#[]⟩, false, errC c⟩
def numL (x : Int) : VL := ⟨numT x, numN x, ⟨#[]⟩, false, numF x⟩
theorem verr_any (c : Int) (w : World) : Calls Tryz.prog 11 #[.int .i64 c] w fun e w' => e = .returned (.agg #[.int .i64 4, .int .i64 0, .string ⟨#[]⟩, .bool false, .int .i64 (errC c)]) ∧ Below w.heap.size w w' := by
  unfold errC
  by_cases h : 1 ≤ c ∧ c ≤ 8
  · rw [if_pos h]; exact verr_yes c h w
  · rw [if_neg h]; exact verr_no c h w
theorem vnum_any (x : Int) (hx : -9223372036854775808 ≤ x ∧ x ≤ 9223372036854775807) (w : World) : Calls Tryz.prog 141 #[.int .i64 x] w fun e w' => e = .returned (.agg #[.int .i64 (numT x), .int .i64 (numN x), .string ⟨#[]⟩, .bool false, .int .i64 (numF x)]) ∧ Below w.heap.size w w' := by
  unfold numT numN numF
  by_cases h : x = -9223372036854775808
  · rw [if_pos h, if_pos h, if_pos h]; exact vnum_no x hx h w
  · rw [if_neg h, if_neg h, if_neg h]; exact vnum_yes x hx h w
end Go.Proofs.YtgmhifafbebjfaaGreatDoor
namespace Go.Proofs.YtgmhifafbebjfaaGreatDoor
open Go.RowKit

/-- an index of a list, or -1 -/
structure cbAt (l : List Bool) (v : Bool) (w : World) (e : Ending) (w' : World) : Prop where
  out : ∃ r : Int, e = .returned (.int .i64 r) ∧ decide (0 ≤ r) = l.any (fun y => (v == y))
  same : w = w'
set_option maxHeartbeats 1000000 in
theorem cb_idx (l : List Bool) (v : Bool) (hlen : l.length ≤ 9223372036854775807) (w : World) (A : Option Addr) (cap : Nat) (hA : RdB w w.heap.size A 1 (l.map fun (x : Bool) => [.bool x])) : Calls Tryz.prog 140 #[.slice A l.length cap, .bool v] w (cbAt l v w) := by
  have hA' := Lib.hid hA
  clear hA
  go_enter Tryz.func140, Tryz.ntmps140
  go_wp2
  go_loop [8] (fun i => ∃ k : Nat, k ≤ l.length ∧ i = .int .i64 (k : Int) ∧ Hid ((l.take k).any (fun y => (v == y)) = false)) (fun i => l.length - (intOf i).toNat)
  case atStart => exact ⟨0, Nat.zero_le _, rfl, Lib.hid rfl⟩
  case round =>
    obtain ⟨k, hk, rfl, hno⟩ := hrel
    by_cases hlt : k < l.length
    · obtain ⟨x, hx⟩ : ∃ x, l[k]? = some x := ⟨_, List.getElem?_eq_getElem hlt⟩
      obtain ⟨b, o, rfl, hb, hcell⟩ := hA'.out k [.bool x] (by rw [List.getElem?_map, hx]; rfl)
      have hck : w.cell? ⟨b, o + k, none⟩ = some (.bool x) := by simpa using hcell 0 _ rfl
      have hts : (l.take (k + 1)).any (fun y => (v == y)) = (v == x) := by rw [List.take_add_one, hx, Option.toList_some, List.any_append, hno.out]; simp
      have hts' := Lib.hid hts
      have hmem := Lib.hid (List.mem_of_getElem? hx)
      have hkl : (k : Int) < (l.length : Int) := by omega
      clear hx hcell hts
      cases heq : (v == x)
      · rw [heq] at hts'
        have hq : ((v == x)) = false := heq
        go_wp2
        go_round
        case rel => exact ⟨k + 1, by omega, by go_num, hts'⟩
        case measure => simp [intOf]; omega
      · have heq' := Lib.hid heq
        have hq : ((v == x)) = true := heq
        go_wp2
        go_ret
        exact ⟨⟨_, rfl, by rw [eq_comm, show decide (0 ≤ (k : Int)) = true by simp, List.any_eq_true]; exact ⟨x, hmem.out, heq'.out⟩⟩, rfl⟩
    · obtain rfl : k = l.length := by omega
      go_wp2
      go_ret
      have := hno.out
      rw [List.take_length] at this
      exact ⟨⟨_, rfl, by rw [this]; rfl⟩, rfl⟩
set_option maxHeartbeats 1000000 in
theorem cb_has (l : List Bool) (v : Bool) (hlen : l.length ≤ 9223372036854775807) (z : Bool) (hz : l.any (fun y => (v == y)) = z) (w : World) (A : Option Addr) (cap : Nat) (hA : RdB w w.heap.size A 1 (l.map fun (x : Bool) => [.bool x])) : Calls Tryz.prog 63 #[.slice A l.length cap, .bool v] w fun e w' => e = .returned (.bool z) ∧ w = w' := by
  have C := Lib.hid (cb_idx l v hlen w A cap hA)
  have hz' := Lib.hid hz
  clear hA hz
  go_enter Tryz.func63, Tryz.ntmps63
  go_wp2_with fail
  refine C.out.mono ?_
  clear C
  rintro e w' ⟨⟨r, rfl, hr⟩, rfl⟩
  have hr' := Lib.hid hr
  clear hr
  go_wp2
  go_ret
  exact ⟨ret_b (by rw [hr'.out, hz'.out]), rfl⟩
end Go.Proofs.YtgmhifafbebjfaaGreatDoor
namespace Go.Proofs.YtgmhifafbebjfaaGreatDoor
open Go.RowKit

def VL.asN (v : VL) : Int := if v.may = true then (if v.t = 1 then v.n else if v.t = 3 then (if v.b = true then 10000 else 0) else 0) else 0
def VL.asC (v : VL) : Int := if v.may = true then (if v.t = 4 then v.c else if v.t = 2 then 4 else 0) else 8
theorem asnum_any (v : VL) (hv : v.ok) (w : World) : Calls Tryz.prog 16 #[.agg #[.int .i64 v.t, .int .i64 v.n, .string v.s, .bool v.b, .int .i64 v.c]] w fun e w' => e = .returned (.tuple #[.int .i64 v.asN, .int .i64 v.asC]) ∧ Below w.heap.size w w' := by
  obtain ⟨t, n, s, b, c⟩ := v
  have hn : -9223372036854775808 ≤ n ∧ n ≤ 9223372036854775807 := hv
  unfold VL.asN VL.asC VL.may
  cases m : vMay t n s b c
  · exact asnum_N t n s b c hn m w
  · obtain ⟨h1, h2, h3, h4, h5, h6, h7, h8⟩ := (vMay_iff t n s b c).1 m
    have ht : t = 0 ∨ t = 1 ∨ t = 2 ∨ t = 3 ∨ t = 4 := by omega
    rcases ht with rfl | rfl | rfl | rfl | rfl
    · obtain rfl : n = 0 := by omega
      obtain rfl : s = ⟨#[]⟩ := by rcases h4 with h | h; omega; exact h
      obtain rfl : b = false := by rcases h5 with h | h; omega; exact h
      obtain rfl : c = 0 := by omega
      exact asnum_0 w
    · obtain rfl : s = ⟨#[]⟩ := by rcases h4 with h | h; omega; exact h
      obtain rfl : b = false := by rcases h5 with h | h; omega; exact h
      obtain rfl : c = 0 := by omega
      exact asnum_1 n hn (h7 rfl) w
    · obtain rfl : n = 0 := by omega
      obtain rfl : b = false := by rcases h5 with h | h; omega; exact h
      obtain rfl : c = 0 := by omega
      exact asnum_2 s w
    · obtain rfl : n = 0 := by omega
      obtain rfl : s = ⟨#[]⟩ := by rcases h4 with h | h; omega; exact h
      obtain rfl : c = 0 := by omega
      cases b
      · exact asnum_f w
      · exact asnum_t w
    · obtain rfl : n = 0 := by omega
      obtain rfl : s = ⟨#[]⟩ := by rcases h4 with h | h; omega; exact h
      obtain rfl : b = false := by rcases h5 with h | h; omega; exact h
      exact asnum_4 c (h8 rfl) w
theorem asN_in (v : VL) (hv : v.ok) : -9223372036854775807 ≤ v.asN ∧ v.asN ≤ 9223372036854775807 := by
  have hn : -9223372036854775808 ≤ v.n ∧ v.n ≤ 9223372036854775807 := hv
  unfold VL.asN
  split
  · rename_i h
    obtain ⟨h1, h2, h3, h4, h5, h6, h7, h8⟩ := (vMay_iff v.t v.n v.s v.b v.c).1 h
    split
    · rename_i ht; have := h7 ht; omega
    · split
      · split <;> omega
      · omega
  · omega
theorem bool_info : (Tryz.prog.info? 4).map (fun i => (i.zero, i.size, i.bytes)) = some (some (.bool false), 1, 1) := by kernel_rfl
theorem cell_lt {w : World} {b j : Nat} {v : Value} (h : w.cell? ⟨b, j, none⟩ = some v) : b < w.heap.size := by
  rcases Nat.lt_or_ge b w.heap.size with h1 | h1
  · exact h1
  · unfold World.cell? at h
    rw [Array.getElem?_eq_none h1] at h
    cases h
theorem ownsRow_rd {w : World} {B : Nat} {e : TypeId} {v : Value} {n : Nat} {xs : List Value} (h : w.ownsRow B e 1 v n xs) : ∃ A cap, v = .slice A n cap ∧ RdB w w.heap.size A 1 (xs.map fun x => [x]) := by
  obtain ⟨h1, h2⟩ := h
  rcases h2 with ⟨rfl, rfl⟩ | ⟨g, cap, cur, rfl, hB, hh, hnc, hm, hs, ht⟩
  · obtain rfl : xs = [] := List.eq_nil_of_length_eq_zero (by simpa using h1)
    exact ⟨none, 0, rfl, fun i c hi => by simp at hi⟩
  · refine ⟨_, cap, rfl, fun i c hi => ?_⟩
    rw [List.getElem?_map] at hi
    cases hx : xs[i]? with
    | none => rw [hx] at hi; cases hi
    | some x =>
      rw [hx] at hi; simp at hi; subst hi
      refine ⟨g, 0, rfl, (Array.getElem?_eq_some_iff.1 hh).1, fun j u hj => ?_⟩
      rcases j with _ | j
      · simp at hj; subst hj
        have hi2 : i < xs.length := (List.getElem?_eq_some_iff.1 hx).1
        rw [cell_of_row w g _ cur _ (0, 0) hh, ← Array.getElem?_toList]
        have : (cur.toList.take (n * 1))[i]? = some x := by rw [ht, hx]
        rw [List.getElem?_take, if_pos (by omega)] at this
        simpa using this
      · simp at hj
end Go.Proofs.YtgmhifafbebjfaaGreatDoor
namespace Go.Proofs.YtgmhifafbebjfaaGreatDoor
open Go.RowKit

theorem rin_is (t l b r row col : Int) (z : Bool) (h : inB t l b r row col = z) (w : World) : Calls Tryz.prog 162 #[.agg #[.int .i64 t, .int .i64 l, .int .i64 b, .int .i64 r], .agg #[.int .i64 row, .int .i64 col]] w
      fun e w' => e = .returned (.bool z) ∧ Below w.heap.size w w' := by
  subst h; exact rin_any t l b r row col w
theorem rvmay_is (t n : Int) (s : ByteArray) (b : Bool) (c : Int) (hn : -9223372036854775808 ≤ n ∧ n ≤ 9223372036854775807) (z : Bool) (h : vMay t n s b c = z) (w : World) : Calls Tryz.prog 160 #[.agg #[.int .i64 t, .int .i64 n, .string s, .bool b, .int .i64 c]] w
      fun e w' => e = .returned (.bool z) ∧ Below w.heap.size w w' := by
  subst h; exact rvmay_any t n s b c hn w
theorem rbefore_is (a b c d : Int) (z : Bool) (h : befB a b c d = z) (w : World) : Calls Tryz.prog 163 #[.agg #[.int .i64 a, .int .i64 b], .agg #[.int .i64 c, .int .i64 d]] w
      fun e w' => e = .returned (.bool z) ∧ Below w.heap.size w w' := by
  subst h; exact rbefore_any a b c d w
end Go.Proofs.YtgmhifafbebjfaaGreatDoor
