/-
 Rows of cells in memory; Package value: the document's May; Txt, Truth, Num, Err of both; Contracts of In and Before, and of the document's own; Arguments of functions: how they lie in memory; cells of an argument, told by one line; Package value: cmp.Compare, truth; Package value: Compare; Package value: what the laws' known tells; Package value: the document's Same, Compare; Contracts of the document's In, May, Before, their results by name; Slices of things of several cells that came in: their lists; Values, entries, arguments that came in.
-/
import Derived.Test.YtgmhifafbebjfaaGreatDoorValB
import Derived.Test.YtgmhifafbebjfaaGreatDoorMg1
import Derived.Lib.Bytealg
import Derived.Deep.Slices
import Derived.ChangeSlices
set_option maxRecDepth 100000
set_option maxHeartbeats 32000000
namespace Go.Proofs.YtgmhifafbebjfaaGreatDoor
open Go.RowKit

def RdS (w : World) (A : Option Addr) (k : Nat) (l : List (List Value)) : Prop :=
 ∀ i c, l[i]? = some c → ∃ b o, A = some ⟨b, o, none⟩ ∧ b < w.heap.size ∧ ∀ j u, c[j]? = some u → w.cell? ⟨b, o + i * k + j, none⟩ = some u
theorem RdS.below {w w' : World} {A : Option Addr} {k : Nat} {l : List (List Value)} (h : RdS w A k l) {B : Nat} (hb : Below B w w') (hB : w.heap.size ≤ B) : RdS w' A k l := fun i c hi => by
 obtain ⟨b, o, e, hlt, hc⟩ := h i c hi
 exact ⟨b, o, e, Nat.lt_of_lt_of_le hlt hb.size, fun j u hu => (hb.cell (p := ⟨b, _, none⟩) (Nat.lt_of_lt_of_le hlt hB)).trans (hc j u hu)⟩
def RdB (w : World) (B : Nat) (A : Option Addr) (k : Nat) (l : List (List Value)) : Prop :=
 ∀ i c, l[i]? = some c → ∃ b o, A = some ⟨b, o, none⟩ ∧ b < B ∧ ∀ j u, c[j]? = some u → w.cell? ⟨b, o + i * k + j, none⟩ = some u
theorem RdB.below {w w' : World} {B : Nat} {A : Option Addr} {k : Nat} {l : List (List Value)} (h : RdB w B A k l) (hb : Below B w w') : RdB w' B A k l := fun i c hi => by
 obtain ⟨b, o, e, hlt, hc⟩ := h i c hi
 exact ⟨b, o, e, hlt, fun j u hu => (hb.cell (p := ⟨b, _, none⟩) hlt).trans (hc j u hu)⟩
theorem RdB.mono {w : World} {B B' : Nat} {A : Option Addr} {k : Nat} {l : List (List Value)} (h : RdB w B A k l) (hB : B ≤ B') : RdB w B' A k l := fun i c hi => by
 obtain ⟨b, o, e, hlt, hc⟩ := h i c hi
 exact ⟨b, o, e, by omega, hc⟩
theorem ownsRow_below {w w' : World} {B size n : Nat} {e : TypeId} {v : Value} {xs : List Value} (h : w.ownsRow B e size v n xs) (hb : Below w.heap.size w w') : w'.ownsRow B e size v n xs := by
 obtain ⟨h1, h2⟩ := h
 rcases h2 with ⟨h2, h3⟩ | ⟨g, cap, cur, hv, hB, hh, hr⟩
 ·exact ⟨h1, .inl ⟨h2, h3⟩⟩
 ·exact ⟨h1, .inr ⟨g, cap, cur, hv, hB, by rw [hb.block g (by exact (Array.getElem?_eq_some_iff.1 hh).1)]; exact hh, hr⟩⟩
theorem ownsRow_base {w : World} {base base' size n : Nat} {e : TypeId} {v : Value} {xs : List Value} (h : w.ownsRow base e size v n xs) (hb : base' ≤ base) : w.ownsRow base' e size v n xs := by
 obtain ⟨h1, h2⟩ := h
 rcases h2 with h2 | ⟨g, cap, cur, hv, hB, hr⟩
 ·exact ⟨h1, .inl h2⟩
 ·exact ⟨h1, .inr ⟨g, cap, cur, hv, Nat.le_trans hb hB, hr⟩⟩
theorem flat_at {k : Nat} : ∀ (l : List (List Value)), (∀ c ∈ l, c.length = k) → ∀ (i : Nat) (c : List Value), l[i]? = some c → ∀ (j : Nat) (u : Value), c[j]? = some u → l.flatten[i * k + j]? = some u
 | [], _, i, c, h, _, _, _ => by simp at h
 |
  d :: l, hl, i, c, h, j, u, hu => by
  have hd := hl d (by simp)
  rw [List.flatten_cons]
  cases i with
  |
   zero =>
   simp at h; subst h
   have : j < d.length := (List.getElem?_eq_some_iff.1 hu).1
   rw [Nat.zero_mul, Nat.zero_add, List.getElem?_append_left this]; exact hu
  |
   succ i =>
   have h2 : l[i]? = some c := by simpa using h
   have := flat_at l (fun c hc => hl c (by simp [hc])) i c h2 j u hu
   rw [List.getElem?_append_right (by rw [hd, Nat.succ_mul]; omega), hd]
   rw [show (i + 1) * k + j - k = i * k + j by rw [Nat.succ_mul]; omega]
   exact this
theorem ownsRow_rdk {w : World} {B k : Nat} {e : TypeId} {v : Value} {n : Nat} {l : List (List Value)} (_hk : 0 < k) (hl : ∀ c ∈ l, c.length = k) (hn : l.length = n) (h : w.ownsRow B e k v n l.flatten) : ∃ A cap, v = .slice A n cap ∧ RdB w w.heap.size A k l := by
 obtain ⟨h1, h2⟩ := h
 rcases h2 with ⟨rfl, rfl⟩ | ⟨g, cap, cur, rfl, hB, hh, hnc, hm, hs, ht⟩
 ·exact ⟨none, 0, rfl, fun i c hi => by
   have : i < l.length := (List.getElem?_eq_some_iff.1 hi).1
   omega⟩
 ·refine ⟨_, cap, rfl, fun i c hi => ⟨g, 0, rfl, (Array.getElem?_eq_some_iff.1 hh).1, fun j u hu => ?_⟩⟩
  have hf := flat_at l hl i c hi j u hu
  have hlt : i * k + j < l.flatten.length := (List.getElem?_eq_some_iff.1 hf).1
  rw [cell_of_row w g _ cur _ (0, 0) hh, ← Array.getElem?_toList, Nat.zero_add]
  rw [← ht, List.getElem?_take] at hf
  rw [h1] at hlt
  rw [if_pos hlt] at hf
  exact hf
end Go.Proofs.YtgmhifafbebjfaaGreatDoor
namespace Go.Proofs.YtgmhifafbebjfaaGreatDoor
open Go.RowKit

theorem rvmay_any (t n : Int) (s : ByteArray) (b : Bool) (c : Int) (hn : -9223372036854775808 ≤ n ∧ n ≤ 9223372036854775807) (w : World) :
  Calls Tryz.prog 160 #[.agg #[.int .i64 t, .int .i64 n, .string s, .bool b, .int .i64 c]] w
   fun e w' => e = .returned (.bool (vMay t n s b c)) ∧ Below w.heap.size w w' := by
 go_enter Tryz.func160, Tryz.ntmps160
 go_wp2_with (go_at_call 164; refine (drmay_any _ (by first | assumption | (constructor <;> omega)) _).mono ?_; rintro e w1 ⟨rfl, rfl⟩)
 all_goals go_ret
 all_goals refine ⟨ret_b (Bool.eq_iff_iff.2 ?_), belq⟩
 all_goals try simp only [beq_iff_eq, beq_eq_false_iff_ne, ne_eq, decide_eq_true_eq] at *
 all_goals simp [vMay, decMay, *]
 all_goals first | done | omega | grind
theorem vtxt_any (s : ByteArray) (w : World) :
  Calls Tryz.prog 184 #[.string s] w
   fun e w' => e = .returned (.agg #[.int .i64 2, .int .i64 0, .string s, .bool false, .int .i64 0]) ∧ Below w.heap.size w w' := by
 go_enter Tryz.func184, Tryz.ntmps184
 go_wp2
 refine bodyPost_ret (v := .agg #[.int .i64 2, .int .i64 0, .string s, .bool false, .int .i64 0]) ?_ rfl ⟨rfl, belq⟩
 simp [results, Tryz.results184, go_sem, *]
theorem rvtxt_any (s : ByteArray) (w : World) :
  Calls Tryz.prog 91 #[.string s] w
   fun e w' => e = .returned (.agg #[.int .i64 2, .int .i64 0, .string s, .bool false, .int .i64 0]) ∧ Below w.heap.size w w' := by
 go_enter Tryz.func91, Tryz.ntmps91
 go_wp2
 refine bodyPost_ret (v := .agg #[.int .i64 2, .int .i64 0, .string s, .bool false, .int .i64 0]) ?_ rfl ⟨rfl, belq⟩
 simp [results, Tryz.results91, go_sem, *]
def numN (x : Int) : Int := if x = -9223372036854775808 then 0 else x
def numT (x : Int) : Int := if x = -9223372036854775808 then 4 else 1
def numF (x : Int) : Int := if x = -9223372036854775808 then 2 else 0
def errC (c : Int) : Int := if 1 ≤ c ∧ c ≤ 8 then c else 8
theorem ne_yes {c : Int} (h : 1 ≤ c ∧ c ≤ 8) : (codeName c = ⟨#[]⟩) = False := eq_false (codeName_yes h)
theorem verr_yes (c : Int) (h : 1 ≤ c ∧ c ≤ 8) (w : World) :
  Calls Tryz.prog 11 #[.int .i64 c] w
   fun e w' => e = .returned (.agg #[.int .i64 4, .int .i64 0, .string ⟨#[]⟩, .bool false, .int .i64 c]) ∧ Below w.heap.size w w' := by
 have hn := ne_yes h
 go_enter Tryz.func11, Tryz.ntmps11
 go_wp2_with (go_at_call 58; refine (name_any _ _).mono ?_; rintro e w1 ⟨rfl, hb⟩; obtain ⟨hc, hf, hz⟩ := bkeep hb (w.heap.size + 1) (by first | omega | (simp <;> omega)))
 refine bodyPost_ret (v := .agg #[.int .i64 4, .int .i64 0, .string ⟨#[]⟩, .bool false, .int .i64 c]) ?_ rfl ⟨rfl, by first | assumption | exact Below.trans (by assumption) (Below.mono (by assumption) (by omega)) | exact belq⟩
 simp [results, Tryz.results11, go_sem, *]
theorem rverr_yes (c : Int) (h : 1 ≤ c ∧ c ≤ 8) (w : World) :
  Calls Tryz.prog 20 #[.int .i64 c] w
   fun e w' => e = .returned (.agg #[.int .i64 4, .int .i64 0, .string ⟨#[]⟩, .bool false, .int .i64 c]) ∧ Below w.heap.size w w' := by
 obtain ⟨h1, h2⟩ := h
 go_enter Tryz.func20, Tryz.ntmps20
 go_wp2
 refine bodyPost_ret (v := .agg #[.int .i64 4, .int .i64 0, .string ⟨#[]⟩, .bool false, .int .i64 c]) ?_ rfl ⟨rfl, belq⟩
 simp [results, Tryz.results20, go_sem, *]
theorem ne_no {c : Int} (h : ¬ (1 ≤ c ∧ c ≤ 8)) : (codeName c = ⟨#[]⟩) = True := eq_true (codeName_no h)
theorem verr_no (c : Int) (h : ¬ (1 ≤ c ∧ c ≤ 8)) (w : World) :
  Calls Tryz.prog 11 #[.int .i64 c] w
   fun e w' => e = .returned (.agg #[.int .i64 4, .int .i64 0, .string ⟨#[]⟩, .bool false, .int .i64 8]) ∧ Below w.heap.size w w' := by
 have hn := ne_no h
 go_enter Tryz.func11, Tryz.ntmps11
 go_wp2_with (go_at_call 58; refine (name_any _ _).mono ?_; rintro e w1 ⟨rfl, hb⟩; obtain ⟨hc, hf, hz⟩ := bkeep hb (w.heap.size + 1) (by first | omega | (simp <;> omega)))
 refine bodyPost_ret (v := .agg #[.int .i64 4, .int .i64 0, .string ⟨#[]⟩, .bool false, .int .i64 8]) ?_ rfl ⟨rfl, by first | assumption | exact Below.trans (by assumption) (Below.mono (by assumption) (by omega)) | exact belq⟩
 simp [results, Tryz.results11, go_sem, *]
theorem rverr_no (c : Int) (h : ¬ (1 ≤ c ∧ c ≤ 8)) (w : World) :
  Calls Tryz.prog 20 #[.int .i64 c] w
   fun e w' => e = .returned (.agg #[.int .i64 4, .int .i64 0, .string ⟨#[]⟩, .bool false, .int .i64 8]) ∧ Below w.heap.size w w' := by
 have h' : c < 1 ∨ 8 < c := by omega
 clear h
 rcases h' with h | h
 all_goals
  go_enter Tryz.func20, Tryz.ntmps20
  go_wp2
 all_goals refine bodyPost_ret (v := .agg #[.int .i64 4, .int .i64 0, .string ⟨#[]⟩, .bool false, .int .i64 8]) ?_ rfl ⟨rfl, belq⟩
 all_goals simp [results, Tryz.results20, go_sem, *]
theorem vnum_yes (x : Int) (hx : -9223372036854775808 ≤ x ∧ x ≤ 9223372036854775807) (h : x ≠ -9223372036854775808) (w : World) :
  Calls Tryz.prog 141 #[.int .i64 x] w
   fun e w' => e = .returned (.agg #[.int .i64 1, .int .i64 x, .string ⟨#[]⟩, .bool false, .int .i64 0]) ∧ Below w.heap.size w w' := by
 have m1 := may_yes h
 go_enter Tryz.func141, Tryz.ntmps141
 go_wp2_with (first | (go_at_call 87; refine (dmay_any _ hx _).mono ?_; rintro e w1 ⟨rfl, rfl⟩) | (go_at_call 11; refine (verr_yes 2 (by decide) _).mono ?_; rintro e w1 ⟨rfl, hb⟩; obtain ⟨hc, hf, hz⟩ := bkeep hb (w.heap.size + 1) (by first | omega | (simp <;> omega))))
 refine bodyPost_ret (v := .agg #[.int .i64 1, .int .i64 x, .string ⟨#[]⟩, .bool false, .int .i64 0]) ?_ rfl ⟨rfl, by first | assumption | exact Below.trans (by assumption) (Below.mono (by assumption) (by omega)) | exact belq⟩
 simp [results, Tryz.results141, go_sem, *]
theorem rvnum_yes (x : Int) (hx : -9223372036854775808 ≤ x ∧ x ≤ 9223372036854775807) (h : x ≠ -9223372036854775808) (w : World) :
  Calls Tryz.prog 99 #[.int .i64 x] w
   fun e w' => e = .returned (.agg #[.int .i64 1, .int .i64 x, .string ⟨#[]⟩, .bool false, .int .i64 0]) ∧ Below w.heap.size w w' := by
 have m1 := may_yes h
 go_enter Tryz.func99, Tryz.ntmps99
 go_wp2_with (go_at_call 164; refine (drmay_any _ hx _).mono ?_; rintro e w1 ⟨rfl, rfl⟩)
 refine bodyPost_ret (v := .agg #[.int .i64 1, .int .i64 x, .string ⟨#[]⟩, .bool false, .int .i64 0]) ?_ rfl ⟨rfl, by first | assumption | exact Below.trans (by assumption) (Below.mono (by assumption) (by omega)) | exact belq⟩
 simp [results, Tryz.results99, go_sem, *]
theorem vnum_no (x : Int) (hx : -9223372036854775808 ≤ x ∧ x ≤ 9223372036854775807) (h : x = -9223372036854775808) (w : World) :
  Calls Tryz.prog 141 #[.int .i64 x] w
   fun e w' => e = .returned (.agg #[.int .i64 4, .int .i64 0, .string ⟨#[]⟩, .bool false, .int .i64 2]) ∧ Below w.heap.size w w' := by
 have m1 := may_no h
 clear h
 go_enter Tryz.func141, Tryz.ntmps141
 go_wp2_with (first | (go_at_call 87; refine (dmay_any _ hx _).mono ?_; rintro e w1 ⟨rfl, rfl⟩) | (go_at_call 11; refine (verr_yes 2 (by decide) _).mono ?_; rintro e w1 ⟨rfl, hb⟩; obtain ⟨hc, hf, hz⟩ := bkeep hb (w.heap.size + 1) (by first | omega | (simp <;> omega))))
 refine bodyPost_ret (v := .agg #[.int .i64 4, .int .i64 0, .string ⟨#[]⟩, .bool false, .int .i64 2]) ?_ rfl ⟨rfl, by first | assumption | exact Below.trans (by assumption) (Below.mono (by assumption) (by omega)) | exact belq⟩
 simp [results, Tryz.results141, go_sem, *]
theorem rvnum_no (x : Int) (hx : -9223372036854775808 ≤ x ∧ x ≤ 9223372036854775807) (h : x = -9223372036854775808) (w : World) :
  Calls Tryz.prog 99 #[.int .i64 x] w
   fun e w' => e = .returned (.agg #[.int .i64 4, .int .i64 0, .string ⟨#[]⟩, .bool false, .int .i64 2]) ∧ Below w.heap.size w w' := by
 have m1 := may_no h
 clear h
 go_enter Tryz.func99, Tryz.ntmps99
 go_wp2_with (go_at_call 164; refine (drmay_any _ hx _).mono ?_; rintro e w1 ⟨rfl, rfl⟩)
 refine bodyPost_ret (v := .agg #[.int .i64 4, .int .i64 0, .string ⟨#[]⟩, .bool false, .int .i64 2]) ?_ rfl ⟨rfl, by first | assumption | exact Below.trans (by assumption) (Below.mono (by assumption) (by omega)) | exact belq⟩
 simp [results, Tryz.results99, go_sem, *]
end Go.Proofs.YtgmhifafbebjfaaGreatDoor
namespace Go.Proofs.YtgmhifafbebjfaaGreatDoor
open Go.RowKit

theorem in_any (t l b r row col : Int) (w : World) :
  Calls Tryz.prog 61 #[.agg #[.int .i64 t, .int .i64 l, .int .i64 b, .int .i64 r], .agg #[.int .i64 row, .int .i64 col]] w
   fun e w' => e = .returned (.bool (inB t l b r row col)) ∧ Below w.heap.size w w' := by
 go_enter Tryz.func61, Tryz.ntmps61
 go_wp2
 all_goals go_ret
 all_goals refine ⟨congrArg (fun b => Ending.returned (Value.bool b)) (Bool.eq_iff_iff.2 ?_), belq⟩
 all_goals simp [inB]
 all_goals omega
theorem rin_any (t l b r row col : Int) (w : World) :
  Calls Tryz.prog 162 #[.agg #[.int .i64 t, .int .i64 l, .int .i64 b, .int .i64 r], .agg #[.int .i64 row, .int .i64 col]] w
   fun e w' => e = .returned (.bool (inB t l b r row col)) ∧ Below w.heap.size w w' := by
 go_enter Tryz.func162, Tryz.ntmps162
 go_wp2
 all_goals go_ret
 all_goals refine ⟨congrArg (fun b => Ending.returned (Value.bool b)) (Bool.eq_iff_iff.2 ?_), belq⟩
 all_goals simp [inB]
 all_goals omega
theorem before_any (a b c d : Int) (w : World) :
  Calls Tryz.prog 62 #[.agg #[.int .i64 a, .int .i64 b], .agg #[.int .i64 c, .int .i64 d]] w
   fun e w' => e = .returned (.bool (befB a b c d)) ∧ Below w.heap.size w w' := by
 go_enter Tryz.func62, Tryz.ntmps62
 go_wp2
 all_goals go_ret
 all_goals simp only [bne_iff_ne, ne_eq, bne_eq_false_iff_eq] at *
 all_goals refine ⟨congrArg (fun b => Ending.returned (Value.bool b)) (Bool.eq_iff_iff.2 ?_), belq⟩
 all_goals simp [befB]
 all_goals omega
theorem rbefore_any (a b c d : Int) (w : World) :
  Calls Tryz.prog 163 #[.agg #[.int .i64 a, .int .i64 b], .agg #[.int .i64 c, .int .i64 d]] w
   fun e w' => e = .returned (.bool (befB a b c d)) ∧ Below w.heap.size w w' := by
 go_enter Tryz.func163, Tryz.ntmps163
 go_wp2
 all_goals go_ret
 all_goals refine ⟨congrArg (fun b => Ending.returned (Value.bool b)) (Bool.eq_iff_iff.2 ?_), belq⟩
 all_goals simp [befB]
 all_goals omega
end Go.Proofs.YtgmhifafbebjfaaGreatDoor
namespace Go.Proofs.YtgmhifafbebjfaaGreatDoor
open Go.RowKit

structure VL where
 t : Int
 n : Int
 s : ByteArray
 b : Bool
 c : Int
def VL.cs (v : VL) : List Value := [.int .i64 v.t, .int .i64 v.n, .string v.s, .bool v.b, .int .i64 v.c]
def VL.ok (v : VL) : Prop := -9223372036854775808 ≤ v.n ∧ v.n ≤ 9223372036854775807
def VL.may (v : VL) : Bool := vMay v.t v.n v.s v.b v.c
structure EL where
 r : Int
 c : Int
 v : VL
def EL.cs (e : EL) : List Value := [.int .i64 e.r, .int .i64 e.c, .int .i64 e.v.t, .int .i64 e.v.n, .string e.v.s, .bool e.v.b, .int .i64 e.v.c]
structure AL where
 many : Bool
 v : VL
 t : Int
 l : Int
 b : Int
 r : Int
 A : Option Addr
 cap : Nat
 es : List EL
def AL.cs (x : AL) : List Value := [.bool x.many, .int .i64 x.v.t, .int .i64 x.v.n, .string x.v.s, .bool x.v.b, .int .i64 x.v.c, .int .i64 x.t, .int .i64 x.l, .int .i64 x.b, .int .i64 x.r, .slice x.A x.es.length x.cap]
def AL.In (w : World) (B : Nat) (x : AL) : Prop := x.v.ok ∧ RdB w B x.A 7 (x.es.map EL.cs) ∧ (∀ e ∈ x.es, e.v.ok) ∧ x.es.length ≤ 9223372036854775807
theorem AL.In.below {w w' : World} {B : Nat} {x : AL} (h : x.In w B) (hb : Below B w w') : x.In w' B := ⟨h.1, h.2.1.below hb, h.2.2⟩
theorem AL.In.mono {w : World} {B B' : Nat} {x : AL} (h : x.In w B) (hB : B ≤ B') : x.In w B' := ⟨h.1, h.2.1.mono hB, h.2.2⟩
def entOk (x : AL) (k : Nat) : Bool :=
 match x.es[k]? with
 | some e => inB x.t x.l x.b x.r e.r e.c && e.v.may && (match k with | 0 => true | j + 1 => match x.es[j]? with | some d => befB d.r d.c e.r e.c | none => true)
 | none => true
def entsOk (x : AL) : Bool := (List.range x.es.length).all (entOk x)
def v0 : VL := ⟨0, 0, ⟨#[]⟩, false, 0⟩
def vZero (v : VL) : Bool := vEq v.t v.n v.s v.b v.c 0 0 ⟨#[]⟩ false 0
def rZero (x : AL) : Bool := decide (x.t = 0) && decide (x.l = 0) && decide (x.b = 0) && decide (x.r = 0)
def argMay (x : AL) : Bool :=
 if x.many then mayRectB x.t x.l x.b x.r && vZero x.v && entsOk x else rZero x && decide (x.es = []) && x.v.may
theorem in_is (t l b r row col : Int) (z : Bool) (h : inB t l b r row col = z) (w : World) : Calls Tryz.prog 61 #[.agg #[.int .i64 t, .int .i64 l, .int .i64 b, .int .i64 r], .agg #[.int .i64 row, .int .i64 col]] w
   fun e w' => e = .returned (.bool z) ∧ Below w.heap.size w w' := by
 subst h; exact in_any t l b r row col w
theorem vmay_is (t n : Int) (s : ByteArray) (b : Bool) (c : Int) (hn : -9223372036854775808 ≤ n ∧ n ≤ 9223372036854775807) (z : Bool) (h : vMay t n s b c = z) (w : World) : Calls Tryz.prog 59 #[.agg #[.int .i64 t, .int .i64 n, .string s, .bool b, .int .i64 c]] w
   fun e w' => e = .returned (.bool z) ∧ Below w.heap.size w w' := by
 subst h; exact vmay_any t n s b c hn w
theorem before_is (a b c d : Int) (z : Bool) (h : befB a b c d = z) (w : World) : Calls Tryz.prog 62 #[.agg #[.int .i64 a, .int .i64 b], .agg #[.int .i64 c, .int .i64 d]] w
   fun e w' => e = .returned (.bool z) ∧ Below w.heap.size w w' := by
 subst h; exact before_any a b c d w
end Go.Proofs.YtgmhifafbebjfaaGreatDoor
namespace Go.Proofs.YtgmhifafbebjfaaGreatDoor
open Go.RowKit
theorem cs5_0 {w : World} {b o : Nat} {x : AL} (h : ∀ (j : Nat) (u : Value), x.cs[j]? = some u → w.cell? ⟨b, o + 0 * 11 + j, none⟩ = some u) : w.cell? ⟨b, o + 1, none⟩ = some (Value.int .i64 x.v.t) ∧ w.cell? ⟨b, o + 2, none⟩ = some (Value.int .i64 x.v.n) ∧ w.cell? ⟨b, o + 3, none⟩ = some (Value.string x.v.s) ∧ w.cell? ⟨b, o + 4, none⟩ = some (Value.bool x.v.b) ∧ w.cell? ⟨b, o + 5, none⟩ = some (Value.int .i64 x.v.c) := ⟨by have h9 := h 1 _ rfl; simpa using h9, by have h9 := h 2 _ rfl; simpa using h9, by have h9 := h 3 _ rfl; simpa using h9, by have h9 := h 4 _ rfl; simpa using h9, by have h9 := h 5 _ rfl; simpa using h9⟩
theorem cs11_0 {w : World} {b o : Nat} {x : AL} (h : ∀ (j : Nat) (u : Value), x.cs[j]? = some u → w.cell? ⟨b, o + 0 * 11 + j, none⟩ = some u) : w.cell? ⟨b, o, none⟩ = some (Value.bool x.many) ∧ w.cell? ⟨b, o + 1, none⟩ = some (Value.int .i64 x.v.t) ∧ w.cell? ⟨b, o + 2, none⟩ = some (Value.int .i64 x.v.n) ∧ w.cell? ⟨b, o + 3, none⟩ = some (Value.string x.v.s) ∧ w.cell? ⟨b, o + 4, none⟩ = some (Value.bool x.v.b) ∧ w.cell? ⟨b, o + 5, none⟩ = some (Value.int .i64 x.v.c) ∧ w.cell? ⟨b, o + 6, none⟩ = some (Value.int .i64 x.t) ∧ w.cell? ⟨b, o + 7, none⟩ = some (Value.int .i64 x.l) ∧ w.cell? ⟨b, o + 8, none⟩ = some (Value.int .i64 x.b) ∧ w.cell? ⟨b, o + 9, none⟩ = some (Value.int .i64 x.r) ∧ w.cell? ⟨b, o + 10, none⟩ = some (Value.slice x.A x.es.length x.cap) := ⟨by have h9 := h 0 _ rfl; simpa using h9, by have h9 := h 1 _ rfl; simpa using h9, by have h9 := h 2 _ rfl; simpa using h9, by have h9 := h 3 _ rfl; simpa using h9, by have h9 := h 4 _ rfl; simpa using h9, by have h9 := h 5 _ rfl; simpa using h9, by have h9 := h 6 _ rfl; simpa using h9, by have h9 := h 7 _ rfl; simpa using h9, by have h9 := h 8 _ rfl; simpa using h9, by have h9 := h 9 _ rfl; simpa using h9, by have h9 := h 10 _ rfl; simpa using h9⟩
theorem cs5_1 {w : World} {b o : Nat} {x : AL} (h : ∀ (j : Nat) (u : Value), x.cs[j]? = some u → w.cell? ⟨b, o + 1 * 11 + j, none⟩ = some u) : w.cell? ⟨b, o + 11 + 1, none⟩ = some (Value.int .i64 x.v.t) ∧ w.cell? ⟨b, o + 11 + 2, none⟩ = some (Value.int .i64 x.v.n) ∧ w.cell? ⟨b, o + 11 + 3, none⟩ = some (Value.string x.v.s) ∧ w.cell? ⟨b, o + 11 + 4, none⟩ = some (Value.bool x.v.b) ∧ w.cell? ⟨b, o + 11 + 5, none⟩ = some (Value.int .i64 x.v.c) := ⟨by have h9 := h 1 _ rfl; simpa using h9, by have h9 := h 2 _ rfl; simpa using h9, by have h9 := h 3 _ rfl; simpa using h9, by have h9 := h 4 _ rfl; simpa using h9, by have h9 := h 5 _ rfl; simpa using h9⟩
theorem cs11_1 {w : World} {b o : Nat} {x : AL} (h : ∀ (j : Nat) (u : Value), x.cs[j]? = some u → w.cell? ⟨b, o + 1 * 11 + j, none⟩ = some u) : w.cell? ⟨b, o + 11, none⟩ = some (Value.bool x.many) ∧ w.cell? ⟨b, o + 11 + 1, none⟩ = some (Value.int .i64 x.v.t) ∧ w.cell? ⟨b, o + 11 + 2, none⟩ = some (Value.int .i64 x.v.n) ∧ w.cell? ⟨b, o + 11 + 3, none⟩ = some (Value.string x.v.s) ∧ w.cell? ⟨b, o + 11 + 4, none⟩ = some (Value.bool x.v.b) ∧ w.cell? ⟨b, o + 11 + 5, none⟩ = some (Value.int .i64 x.v.c) ∧ w.cell? ⟨b, o + 11 + 6, none⟩ = some (Value.int .i64 x.t) ∧ w.cell? ⟨b, o + 11 + 7, none⟩ = some (Value.int .i64 x.l) ∧ w.cell? ⟨b, o + 11 + 8, none⟩ = some (Value.int .i64 x.b) ∧ w.cell? ⟨b, o + 11 + 9, none⟩ = some (Value.int .i64 x.r) ∧ w.cell? ⟨b, o + 11 + 10, none⟩ = some (Value.slice x.A x.es.length x.cap) := ⟨by have h9 := h 0 _ rfl; simpa using h9, by have h9 := h 1 _ rfl; simpa using h9, by have h9 := h 2 _ rfl; simpa using h9, by have h9 := h 3 _ rfl; simpa using h9, by have h9 := h 4 _ rfl; simpa using h9, by have h9 := h 5 _ rfl; simpa using h9, by have h9 := h 6 _ rfl; simpa using h9, by have h9 := h 7 _ rfl; simpa using h9, by have h9 := h 8 _ rfl; simpa using h9, by have h9 := h 9 _ rfl; simpa using h9, by have h9 := h 10 _ rfl; simpa using h9⟩
theorem cs5_2 {w : World} {b o : Nat} {x : AL} (h : ∀ (j : Nat) (u : Value), x.cs[j]? = some u → w.cell? ⟨b, o + 2 * 11 + j, none⟩ = some u) : w.cell? ⟨b, o + 22 + 1, none⟩ = some (Value.int .i64 x.v.t) ∧ w.cell? ⟨b, o + 22 + 2, none⟩ = some (Value.int .i64 x.v.n) ∧ w.cell? ⟨b, o + 22 + 3, none⟩ = some (Value.string x.v.s) ∧ w.cell? ⟨b, o + 22 + 4, none⟩ = some (Value.bool x.v.b) ∧ w.cell? ⟨b, o + 22 + 5, none⟩ = some (Value.int .i64 x.v.c) := ⟨by have h9 := h 1 _ rfl; simpa using h9, by have h9 := h 2 _ rfl; simpa using h9, by have h9 := h 3 _ rfl; simpa using h9, by have h9 := h 4 _ rfl; simpa using h9, by have h9 := h 5 _ rfl; simpa using h9⟩
theorem cs11_2 {w : World} {b o : Nat} {x : AL} (h : ∀ (j : Nat) (u : Value), x.cs[j]? = some u → w.cell? ⟨b, o + 2 * 11 + j, none⟩ = some u) : w.cell? ⟨b, o + 22, none⟩ = some (Value.bool x.many) ∧ w.cell? ⟨b, o + 22 + 1, none⟩ = some (Value.int .i64 x.v.t) ∧ w.cell? ⟨b, o + 22 + 2, none⟩ = some (Value.int .i64 x.v.n) ∧ w.cell? ⟨b, o + 22 + 3, none⟩ = some (Value.string x.v.s) ∧ w.cell? ⟨b, o + 22 + 4, none⟩ = some (Value.bool x.v.b) ∧ w.cell? ⟨b, o + 22 + 5, none⟩ = some (Value.int .i64 x.v.c) ∧ w.cell? ⟨b, o + 22 + 6, none⟩ = some (Value.int .i64 x.t) ∧ w.cell? ⟨b, o + 22 + 7, none⟩ = some (Value.int .i64 x.l) ∧ w.cell? ⟨b, o + 22 + 8, none⟩ = some (Value.int .i64 x.b) ∧ w.cell? ⟨b, o + 22 + 9, none⟩ = some (Value.int .i64 x.r) ∧ w.cell? ⟨b, o + 22 + 10, none⟩ = some (Value.slice x.A x.es.length x.cap) := ⟨by have h9 := h 0 _ rfl; simpa using h9, by have h9 := h 1 _ rfl; simpa using h9, by have h9 := h 2 _ rfl; simpa using h9, by have h9 := h 3 _ rfl; simpa using h9, by have h9 := h 4 _ rfl; simpa using h9, by have h9 := h 5 _ rfl; simpa using h9, by have h9 := h 6 _ rfl; simpa using h9, by have h9 := h 7 _ rfl; simpa using h9, by have h9 := h 8 _ rfl; simpa using h9, by have h9 := h 9 _ rfl; simpa using h9, by have h9 := h 10 _ rfl; simpa using h9⟩
end Go.Proofs.YtgmhifafbebjfaaGreatDoor
namespace Go.Proofs.YtgmhifafbebjfaaGreatDoor
open Go.RowKit

def b2i (b : Bool) : Int := if b then 1 else 0
theorem truth_int (b : Bool) (w : World) : Calls Tryz.prog 86 #[.bool b] w fun e w' => e = .returned (.int .i64 (b2i b)) ∧ w = w' := by
 cases b
 all_goals
  go_enter Tryz.func86, Tryz.ntmps86
  go_wp2
  go_ret
  exact ⟨rfl, rfl⟩
end Go.Proofs.YtgmhifafbebjfaaGreatDoor
namespace Go.Proofs.YtgmhifafbebjfaaGreatDoor
open Go.RowKit

theorem vmay_yes (t n : Int) (s : ByteArray) (b : Bool) (c : Int) (hn : -9223372036854775808 ≤ n ∧ n ≤ 9223372036854775807) (h : vMay t n s b c = true) (w : World) : Calls Tryz.prog 59 #[.agg #[.int .i64 t, .int .i64 n, .string s, .bool b, .int .i64 c]] w fun e w' => e = .returned (.bool true) ∧ Below w.heap.size w w' := by
 have := vmay_any t n s b c hn w
 rw [h] at this
 exact this
theorem vmay_not (t n : Int) (s : ByteArray) (b : Bool) (c : Int) (hn : -9223372036854775808 ≤ n ∧ n ≤ 9223372036854775807) (h : vMay t n s b c = false) (w : World) : Calls Tryz.prog 59 #[.agg #[.int .i64 t, .int .i64 n, .string s, .bool b, .int .i64 c]] w fun e w' => e = .returned (.bool false) ∧ Below w.heap.size w w' := by
 have := vmay_any t n s b c hn w
 rw [h] at this
 exact this
end Go.Proofs.YtgmhifafbebjfaaGreatDoor
namespace Go.Proofs.YtgmhifafbebjfaaGreatDoor
open Go.RowKit

theorem astext_1 (n : Int) (s : ByteArray) (b : Bool) (c : Int) (hn : -9223372036854775808 ≤ n ∧ n ≤ 9223372036854775807) (m : vMay 1 n s b c = true) (w : World) (ht : Tab w) :
  Calls Tryz.prog 15 #[.agg #[.int .i64 1, .int .i64 n, .string s, .bool b, .int .i64 c]] w
   fun e w' => e = .returned (.tuple #[.string ⟨(printL n).toArray⟩, .int .i64 0]) ∧ Below w.heap.size w w' := by
 go_enter Tryz.func15, Tryz.ntmps15
 go_wp2_with fail
 go_wp2_with (go_at_call 59; refine (vmay_yes _ _ _ _ _ (by first | assumption | (constructor <;> omega)) (by assumption) _).mono ?_; rintro e w1 ⟨rfl, hb⟩; obtain ⟨hc, hf, hz⟩ := bkeep hb (w.heap.size + 1) (by first | omega | (simp <;> omega)))
 go_wp2_with (go_at_call 85; refine (dprint_any _ (by first | assumption | (constructor <;> omega)) _ (Tab.below ht (by first | assumption | exact belq))).mono ?_; rintro e w2 ⟨rfl, hb2⟩)
 refine bodyPost_ret (v := .tuple #[.string ⟨(printL n).toArray⟩, .int .i64 0]) ?_ rfl ⟨rfl, by first | assumption | exact belq⟩
 simp [results, Tryz.results15, go_sem, *]
end Go.Proofs.YtgmhifafbebjfaaGreatDoor
namespace Go.Proofs.YtgmhifafbebjfaaGreatDoor
open Go.RowKit

theorem rvmay_yes (t n : Int) (s : ByteArray) (b : Bool) (c : Int) (hn : -9223372036854775808 ≤ n ∧ n ≤ 9223372036854775807) (h : vMay t n s b c = true) (w : World) : Calls Tryz.prog 160 #[.agg #[.int .i64 t, .int .i64 n, .string s, .bool b, .int .i64 c]] w fun e w' => e = .returned (.bool true) ∧ Below w.heap.size w w' := by
 have := rvmay_any t n s b c hn w
 rw [h] at this
 exact this
theorem rvmay_not (t n : Int) (s : ByteArray) (b : Bool) (c : Int) (hn : -9223372036854775808 ≤ n ∧ n ≤ 9223372036854775807) (h : vMay t n s b c = false) (w : World) : Calls Tryz.prog 160 #[.agg #[.int .i64 t, .int .i64 n, .string s, .bool b, .int .i64 c]] w fun e w' => e = .returned (.bool false) ∧ Below w.heap.size w w' := by
 have := rvmay_any t n s b c hn w
 rw [h] at this
 exact this
theorem rvsame_any (t n : Int) (s : ByteArray) (b : Bool) (c : Int) (t' n' : Int) (s' : ByteArray) (b' : Bool) (c' : Int) (w : World) :
  Calls Tryz.prog 127 #[.agg #[.int .i64 t, .int .i64 n, .string s, .bool b, .int .i64 c], .agg #[.int .i64 t', .int .i64 n', .string s', .bool b', .int .i64 c']] w
   fun e w' => e = .returned (.bool (vEq t n s b c t' n' s' b' c')) ∧ Below w.heap.size w w' := by
 go_enter Tryz.func127, Tryz.ntmps127
 go_wp2
 all_goals go_ret
 all_goals refine ⟨ret_b (Bool.eq_iff_iff.2 ?_), belq⟩
 all_goals rw [beq_val]
 all_goals simp [*]
 all_goals omega
end Go.Proofs.YtgmhifafbebjfaaGreatDoor
namespace Go.Proofs.YtgmhifafbebjfaaGreatDoor
open Go.RowKit

theorem rin_is (t l b r row col : Int) (z : Bool) (h : inB t l b r row col = z) (w : World) : Calls Tryz.prog 162 #[.agg #[.int .i64 t, .int .i64 l, .int .i64 b, .int .i64 r], .agg #[.int .i64 row, .int .i64 col]] w
   fun e w' => e = .returned (.bool z) ∧ Below w.heap.size w w' := by
 subst h; exact rin_any t l b r row col w
theorem rvmay_is (t n : Int) (s : ByteArray) (b : Bool) (c : Int) (hn : -9223372036854775808 ≤ n ∧ n ≤ 9223372036854775807) (z : Bool) (h : vMay t n s b c = z) (w : World) : Calls Tryz.prog 160 #[.agg #[.int .i64 t, .int .i64 n, .string s, .bool b, .int .i64 c]] w
   fun e w' => e = .returned (.bool z) ∧ Below w.heap.size w w' := by
 subst h; exact rvmay_any t n s b c hn w
theorem rbefore_is (a b c d : Int) (z : Bool) (h : befB a b c d = z) (w : World) : Calls Tryz.prog 163 #[.agg #[.int .i64 a, .int .i64 b], .agg #[.int .i64 c, .int .i64 d]] w
   fun e w' => e = .returned (.bool z) ∧ Below w.heap.size w w' := by
 subst h; exact rbefore_any a b c d w
end Go.Proofs.YtgmhifafbebjfaaGreatDoor
namespace Go.Proofs.YtgmhifafbebjfaaGreatDoor
open Go.RowKit Go.ChangeShapes Go.WideShapes Go.Deep

theorem cellLt {w : World} {b j : Nat} {v : Value} (h : w.cell? ⟨b, j, none⟩ = some v) : b < w.heap.size := by
 rcases Nat.lt_or_ge b w.heap.size with h1 | h1
 ·exact h1
 ·unfold World.cell? at h
  rw [Array.getElem?_eq_none h1] at h
  cases h
section
variable {H : Type} {enc : TypeId × Value → H} {P : Program} {w : World}
theorem rd_sliceK {α : Type} (k : Nat) (hk : 0 < k) (cs : α → List Value) (p : α → Prop) (hcs : ∀ x, (cs x).length = k) {t e : TypeId} {v : Value} {fuel : Nat} {y : DataW H × List MemPlace} {sp : Nat → Bool} {held : Bool} (ht : P.underlying t = some (.slice e)) (hc : P.cellsOf e = k)
  (he : ∀ (n : Nat) (us : List Value) (z : DataW H × List MemPlace), DataW.trod enc P w 0 sp held n e us = some z → ∃ x : α, us = cs x ∧ p x)
  (h : DataW.trod enc P w 0 sp held fuel t [v] = some y) : ∃ (A : Option Addr) (l : List α) (cap : Nat), v = .slice A l.length cap ∧ l.length ≤ cap ∧ cap ≤ maxLen ∧ RdB w w.heap.size A k (l.map cs) ∧ (∀ x ∈ l, p x) ∧ (l = [] ∨ ∃ es sr, y.1 = .slice es sr ∧ es.length = l.length) ∧ (A = none → l.length = 0 ∧ cap = 0) := by
 rcases Go.Deep.open_slice ht h with ⟨h0, _⟩ | ⟨a, len, cap, m, n', D, Pl, h0, hb, hl, hm, hmm, hx, hi⟩
 ·have h1 : v = .slice none 0 0 := by simpa using h0
  subst h1
  exact ⟨none, [], 0, rfl, Nat.le_refl _, Nat.zero_le _, fun i c hi => by simp at hi, fun x hx => by simp at hx, .inl rfl, fun _ => ⟨rfl, rfl⟩⟩
 ·have h1 : v = .slice (some a) len cap := by simpa using h0
  subst h1
  rw [hc] at hi
  have hlm : len ≤ m := by rw [hmm]; split <;> omega
  have hch : ∀ i, i < len → ∃ x : α, p x ∧ ∀ j, j < k → w.cell? ((a.add (i * k)).add j) = (cs x)[j]? := fun i hlt => by
   obtain ⟨cs', hcells, htr⟩ := hi i (by omega)
   obtain ⟨x, rfl, hp⟩ := he _ _ _ htr
   obtain ⟨_, _, hat⟩ := World.cells?_some hcells
   exact ⟨x, hp, hat⟩
  obtain ⟨X, hX⟩ : ∃ X : (i : Nat) → i < len → α, ∀ i (h : i < len), p (X i h) ∧ ∀ j, j < k → w.cell? ((a.add (i * k)).add j) = (cs (X i h))[j]? := ⟨fun i h => (hch i h).choose, fun i h => (hch i h).choose_spec⟩
  have hlen : ((List.finRange len).map fun i => X i.1 i.2).length = len := by simp
  refine ⟨some a, (List.finRange len).map fun i => X i.1 i.2, cap, by rw [hlen], by rw [hlen]; exact hl, hm, ?_, ?_, .inr ?_, fun e => by cases e⟩
  ·intro i c hic
   rw [List.getElem?_map] at hic
   have hlt : i < len := by
    rcases Nat.lt_or_ge i len with h | h
    ·exact h
    ·rw [List.getElem?_eq_none (by rw [hlen]; exact h)] at hic; cases hic
   rw [List.getElem?_eq_getElem (by rw [hlen]; exact hlt)] at hic
   simp at hic
   subst hic
   have h00 := (hX 0 (by omega)).2 0 hk
   rw [List.getElem?_eq_getElem (by rw [hcs]; exact hk)] at h00
   have hspot : a.spot = none := by simpa [Addr.add] using World.cell?_spot h00
   obtain ⟨b, o, sp'⟩ := a
   simp only at hspot
   subst hspot
   have hat : ∀ j, ((⟨b, o, none⟩ : Addr).add (i * k)).add j = ⟨b, o + i * k + j, none⟩ := fun j => by
    rw [Go.Deep.add_add]; unfold Addr.add
    split
    ·rename_i h; simp only [Addr.mk.injEq, true_and, and_true]; omega
    ·simp only [Addr.mk.injEq, true_and, and_true]; omega
   refine ⟨b, o, rfl, ?_, fun j u hj => ?_⟩
   ·have h1 := (hX i hlt).2 0 hk
    rw [hat 0, List.getElem?_eq_getElem (by rw [hcs]; exact hk)] at h1
    exact cellLt h1
   ·have hjk : j < k := by rw [← hcs (X i hlt)]; exact (List.getElem?_eq_some_iff.1 hj).1
    rw [← hat j, (hX i hlt).2 j hjk]; exact hj
  ·intro x hx'
   obtain ⟨i, _, rfl⟩ := List.mem_map.1 hx'
   exact (hX i.1 i.2).1
  ·exact ⟨(List.range len).map D, (List.range (m - len)).map fun j => D (len + j), by rw [hx], by simp⟩
end
end Go.Proofs.YtgmhifafbebjfaaGreatDoor
namespace Go.Proofs.YtgmhifafbebjfaaGreatDoor
open Go.RowKit Go.ChangeShapes Go.WideShapes Go.Deep

section
variable {H : Type} {enc : TypeId × Value → H} {w : World} {sp : Nat → Bool} {held : Bool}
theorem rd_ent (fuel : Nat) (us : List Value) (z : DataW H × List MemPlace) (h : DataW.trod enc Tryz.prog w 0 sp held fuel 99 us = some z) : ∃ x : EL, us = x.cs ∧ x.v.ok := by
 have g := readsAll_of_trod 6 99 [3, 3, 23, 2, 9, 4, 24] fuel us z (by kernel_rfl) h
 obtain ⟨_, _, rfl, g0, _, _, rfl, g1, _, _, rfl, g2, _, _, rfl, g3, _, _, rfl, g4, _, _, rfl, g5, _, _, rfl, g6, rfl⟩ := g
 obtain ⟨r, rfl, b_r⟩ := Reads1.i64 Tryz.underlying3 g0
 obtain ⟨q, rfl, b_q⟩ := Reads1.i64 Tryz.underlying3 g1
 obtain ⟨t, rfl, b_t⟩ := Reads1.i64 Tryz.underlying23 g2
 obtain ⟨n, rfl, b_n⟩ := Reads1.i64 Tryz.underlying2 g3
 obtain ⟨s, rfl, b_s⟩ := Reads1.string Tryz.underlying9 g4
 obtain ⟨b, rfl⟩ := Reads1.bool Tryz.underlying4 g5
 obtain ⟨c, rfl, b_c⟩ := Reads1.i64 Tryz.underlying24 g6
 exact ⟨⟨r, q, ⟨t, n, s, b, c⟩⟩, rfl, b_n⟩
end
end Go.Proofs.YtgmhifafbebjfaaGreatDoor
