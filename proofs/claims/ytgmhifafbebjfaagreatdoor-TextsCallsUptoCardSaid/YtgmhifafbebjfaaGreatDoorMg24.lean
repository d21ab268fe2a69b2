/-
  the laws of texts: what they call with; texts: each function behind its name; the laws' calls; texts: REPT behind its name; texts: CONCAT behind its name; texts: LEFT, RIGHT, REV, UPPER, LOWER behind their names; texts: EXACT, ORD, NUM behind their names.
-/
import Derived.Test.YtgmhifafbebjfaaGreatDoorTDoD
import Derived.Test.YtgmhifafbebjfaaGreatDoorTArg
import Derived.Test.YtgmhifafbebjfaaGreatDoorTDoE
import Derived.Test.YtgmhifafbebjfaaGreatDoorTDoF
import Derived.Test.YtgmhifafbebjfaaGreatDoorTDoG
namespace Go.Proofs.YtgmhifafbebjfaaGreatDoor
open Go.RowKit

/-- an argument that is a value; a text; a whole number -/
def sglL (v : VL) : AL := ⟨false, v, 0, 0, 0, 0, none, 0, []⟩
def txA (s : ByteArray) : AL := sglL (txtL s)
def whV (n : Int) : VL := ⟨1, n * 10000, ⟨#[]⟩, false, 0⟩
def whA (n : Int) : AL := sglL (whV n)
set_option maxHeartbeats 1000000 in
theorem ltxt_any (s : ByteArray) (w : World) : Calls Tryz.prog 33 #[.string s] w fun e w' => e = .returned (.agg #[.bool false, .int .i64 2, .int .i64 0, .string s, .bool false, .int .i64 0, .int .i64 0, .int .i64 0, .int .i64 0, .int .i64 0, .slice none 0 0]) ∧ Below w.heap.size w w' := by
  go_enter Tryz.func33, Tryz.ntmps33
  go_wp2
  refine bodyPost_ret (v := .agg #[.bool false, .int .i64 2, .int .i64 0, .string s, .bool false, .int .i64 0, .int .i64 0, .int .i64 0, .int .i64 0, .int .i64 0, .slice none 0 0]) ?_ rfl ⟨rfl, by (repeat (first | (with_reducible exact Below.refl _ _) | (with_reducible refine Below.alloc ?_ (by first | omega | (dsimp only; omega) | (simp <;> omega)) _) | (with_reducible refine Below.setCell ?_ (by first | omega | (dsimp only; omega) | (simp <;> omega)) _) | (with_reducible refine Below.drew ?_) | (with_reducible refine below_drewN ?_ _) | (with_reducible refine Below.trans ?_ (Below.mono (by assumption) (by first | omega | (dsimp only; omega) | (simp <;> omega))))))⟩
  simp [results, Tryz.results33, go_sem, *]
set_option maxHeartbeats 1000000 in
theorem lwhole_any (n : Int) (hn : -922337203685477 ≤ n ∧ n ≤ 922337203685477) (w : World) : Calls Tryz.prog 34 #[.int .i64 n] w fun e w' => e = .returned (.agg #[.bool false, .int .i64 1, .int .i64 (n * 10000), .string ⟨#[]⟩, .bool false, .int .i64 0, .int .i64 0, .int .i64 0, .int .i64 0, .int .i64 0, .slice none 0 0]) ∧ Below w.heap.size w w' := by
  go_enter Tryz.func34, Tryz.ntmps34
  go_wp2
  refine bodyPost_ret (v := .agg #[.bool false, .int .i64 1, .int .i64 (n * 10000), .string ⟨#[]⟩, .bool false, .int .i64 0, .int .i64 0, .int .i64 0, .int .i64 0, .int .i64 0, .slice none 0 0]) ?_ rfl ⟨rfl, by (repeat (first | (with_reducible exact Below.refl _ _) | (with_reducible refine Below.alloc ?_ (by first | omega | (dsimp only; omega) | (simp <;> omega)) _) | (with_reducible refine Below.setCell ?_ (by first | omega | (dsimp only; omega) | (simp <;> omega)) _) | (with_reducible refine Below.drew ?_) | (with_reducible refine below_drewN ?_ _) | (with_reducible refine Below.trans ?_ (Below.mono (by assumption) (by first | omega | (dsimp only; omega) | (simp <;> omega))))))⟩
  simp [results, Tryz.results34, go_sem, *]
/-- a list of arguments -/
def ArgsAt (w : World) (v : Value) (l : List AL) : Prop := ∃ A cap, v = .slice A l.length cap ∧ RdB w w.heap.size A 11 (l.map AL.cs)
theorem rows3 {w : World} {C : Array Value} {b : Nat} (x y z : AL) (hb : b = w.heap.size) (hC : C.toList = x.cs ++ y.cs ++ z.cs) : RdB (w.alloc (.cells C 36)) (w.alloc (.cells C 36)).heap.size (some ⟨b, 0, none⟩) 11 ([x, y, z].map AL.cs) := by
  subst hb
  intro i c hi
  refine ⟨w.heap.size, 0, rfl, by simp, fun j u hj => ?_⟩
  rw [cell_of_row _ w.heap.size _ C 36 (0, 0) (heap_alloc_new _ _), ← Array.getElem?_toList, hC]
  have h9 := flat_at (k := 11) ([x, y, z].map AL.cs) (by intro c hc; obtain ⟨q, _, rfl⟩ := List.mem_map.1 hc; rfl) i c hi j u hj
  rw [Nat.zero_add]
  simpa using h9
theorem RdB.take {w : World} {B : Nat} {A : Option Addr} {k : Nat} {l : List (List Value)} (h : RdB w B A k l) (n : Nat) : RdB w B A k (l.take n) := fun i c hi => h i c (by
  rw [List.getElem?_take] at hi
  split at hi
  · exact hi
  · cases hi)
set_option maxRecDepth 100000 in
set_option maxHeartbeats 4000000 in
theorem llist_any (x y z : VL) (n : Nat) (hn : n ≤ 3) (w : World) : Calls Tryz.prog 32 #[.agg #[.bool false, .int .i64 x.t, .int .i64 x.n, .string x.s, .bool x.b, .int .i64 x.c, .int .i64 0, .int .i64 0, .int .i64 0, .int .i64 0, .slice none 0 0], .agg #[.bool false, .int .i64 y.t, .int .i64 y.n, .string y.s, .bool y.b, .int .i64 y.c, .int .i64 0, .int .i64 0, .int .i64 0, .int .i64 0, .slice none 0 0], .agg #[.bool false, .int .i64 z.t, .int .i64 z.n, .string z.s, .bool z.b, .int .i64 z.c, .int .i64 0, .int .i64 0, .int .i64 0, .int .i64 0, .slice none 0 0], .int .i64 n] w fun e w' => (∃ v, e = .returned v ∧ ArgsAt w' v ([sglL x, sglL y, sglL z].take n)) ∧ Below w.heap.size w w' := by
  go_enter Tryz.func32, Tryz.ntmps32
  have hn1 : (0 : Int) ≤ n := by omega
  have hn2 : (n : Int) ≤ 3 := by omega
  go_wp2
  go_ret
  refine ⟨⟨_, rfl, some ⟨w.heap.size + 3, 0, none⟩, 3, ?_, ?_⟩, by (repeat (first | (with_reducible exact Below.refl _ _) | (with_reducible refine Below.alloc ?_ (by first | omega | (dsimp only; omega) | (simp <;> omega)) _) | (with_reducible refine Below.setCell ?_ (by first | omega | (dsimp only; omega) | (simp <;> omega)) _) | (with_reducible refine Below.drew ?_) | (with_reducible refine below_drewN ?_ _) | (with_reducible refine Below.trans ?_ (Below.mono (by assumption) (by first | omega | (dsimp only; omega) | (simp <;> omega))))))⟩
  · have : ([sglL x, sglL y, sglL z].take n).length = n := by simp; omega
    rw [this]; rfl
  · rw [List.map_take]
    refine RdB.take ?_ n
    refine rows3 (sglL x) (sglL y) (sglL z) ?_ ?_
    · simp
    · rfl
set_option maxHeartbeats 1000000 in
theorem lis_any (v : VL) (u : ByteArray) (w : World) : Calls Tryz.prog 35 #[.agg #[.int .i64 v.t, .int .i64 v.n, .string v.s, .bool v.b, .int .i64 v.c], .string u] w fun e w' => e = .returned (.bool (vEq v.t v.n v.s v.b v.c 2 0 u false 0)) ∧ Below w.heap.size w w' := by
  go_enter Tryz.func35, Tryz.ntmps35
  go_wp2
  go_ret
  exact ⟨rfl, by (repeat (first | (with_reducible exact Below.refl _ _) | (with_reducible refine Below.alloc ?_ (by first | omega | (dsimp only; omega) | (simp <;> omega)) _) | (with_reducible refine Below.setCell ?_ (by first | omega | (dsimp only; omega) | (simp <;> omega)) _) | (with_reducible refine Below.drew ?_) | (with_reducible refine below_drewN ?_ _) | (with_reducible refine Below.trans ?_ (Below.mono (by assumption) (by first | omega | (dsimp only; omega) | (simp <;> omega))))))⟩
end Go.Proofs.YtgmhifafbebjfaaGreatDoor
namespace Go.Proofs.YtgmhifafbebjfaaGreatDoor
open Go.RowKit

theorem third_of {a b c a' b' c' : Value} (h : Value.agg #[a, b, c] = Value.agg #[a', b', c']) : c = c' := by
  injection h with h
  injection h with h
  injection h with _ h
  injection h with _ h
  injection h with h _
set_option maxRecDepth 100000 in
theorem at_LEN (s : ByteArray) (hs : s.size ≤ 1048576) (text : Int) : DoT ⟨#[76, 69, 78]⟩ [s] [] text (numL ((s.size : Int) * 10000)) := ⟨fun w b0 b1 b2 b3 kd lo d vs vn h q0 q1 q2 q3 ht hS hN => by
  have e : lookL tZero (tTab b0 b1 b2 b3) ⟨#[76, 69, 78]⟩ = .agg #[.string ⟨#[115]⟩, .int .i64 1, .func (.func 64) #[] #[]] := by kernel_rfl
  have hd := third_of (e.symm.trans h)
  exact ⟨64, #[], hd.symm, fun _ _ => by simp [go_sem], tdo_LEN s hs text vs vn w hS hN⟩⟩
set_option maxRecDepth 100000 in
theorem at_MID (s : ByteArray) (hs : s.size ≤ 1048576) (a b : Int) (hb : -922337203685477 ≤ b ∧ b ≤ 922337203685477) (ha : -922337203685477 ≤ a ∧ a ≤ 922337203685477) (h1 : 1 ≤ a) (h2 : 0 ≤ b) (text : Int) : DoT ⟨#[77, 73, 68]⟩ [s] [a, b] text (toldT text (cutD (midD s a) b)) := ⟨fun w b0 b1 b2 b3 kd lo d vs vn h q0 q1 q2 q3 ht hS hN => by
  have e : lookL tZero (tTab b0 b1 b2 b3) ⟨#[77, 73, 68]⟩ = .agg #[.string ⟨#[115, 110, 110]⟩, .int .i64 3, .func (.func 68) #[] #[]] := by kernel_rfl
  have hd := third_of (e.symm.trans h)
  exact ⟨68, #[], hd.symm, fun _ _ => by simp [go_sem], tdo_MID s hs a b hb ha h1 h2 text vs vn w hS hN⟩⟩
/-- an argument of the laws -/
def IsA (x : AL) : Prop := (∃ s, x = txA s) ∨ ∃ n, (-922337203685477 ≤ n ∧ n ≤ 922337203685477) ∧ x = whA n
theorem isa_t (s : ByteArray) : IsA (txA s) := .inl ⟨s, rfl⟩
theorem isa_n (n : Int) (h : -922337203685477 ≤ n ∧ n ≤ 922337203685477) : IsA (whA n) := .inr ⟨n, h, rfl⟩
theorem isa_ok {x : AL} (h : IsA x) : x.v.ok := by
  rcases h with ⟨s, rfl⟩ | ⟨n, h, rfl⟩
  · exact ⟨by show (_ : Int) ≤ 0; omega, by show (0 : Int) ≤ _; omega⟩
  · exact ⟨by show (_ : Int) ≤ n * 10000; omega, by show n * 10000 ≤ (_ : Int); omega⟩
theorem isa_vmay {x : AL} (h : IsA x) : x.v.may = true := by
  rcases h with ⟨s, rfl⟩ | ⟨n, h, rfl⟩
  · show vMay 2 0 s false 0 = true
    rw [vMay_iff]; exact ⟨by omega, by omega, .inr rfl, .inl rfl, .inr rfl, .inr rfl, fun h => by omega, fun h => by omega⟩
  · show vMay 1 (n * 10000) ⟨#[]⟩ false 0 = true
    rw [vMay_iff]; exact ⟨by omega, by omega, .inl rfl, .inr rfl, .inr rfl, .inr rfl, fun _ => by omega, fun h => by omega⟩
theorem isa_one {x : AL} (h : IsA x) : x.many = false ∧ x.es = [] ∧ rZero x = true ∧ ¬ x.v.t = 4 := by
  rcases h with ⟨s, rfl⟩ | ⟨n, h, rfl⟩
  · exact ⟨rfl, rfl, rfl, by show ¬ (2 : Int) = 4; omega⟩
  · exact ⟨rfl, rfl, rfl, by show ¬ (1 : Int) = 4; omega⟩
theorem isa_in {x : AL} (h : IsA x) (w : World) (B : Nat) : x.In w B := by
  have h1 := isa_ok h
  have h2 := (isa_one h).2.1
  refine ⟨h1, ?_, ?_, ?_⟩
  · rw [h2]; intro i c hi; simp at hi
  · rw [h2]; intro e he; cases he
  · rw [h2]; simp
theorem isa_may {x : AL} (h : IsA x) : argMay x = true := by
  obtain ⟨h1, h2, h3, _⟩ := isa_one h
  unfold argMay
  rw [h1, h2, h3, isa_vmay h]
  rfl
theorem isa_mays {l : List AL} (h : ∀ x ∈ l, IsA x) : MaysT l := ⟨fun x hx w _ => by
  have hm := isa_may (h x hx)
  rcases h x hx with ⟨s, rfl⟩ | ⟨n, hn, rfl⟩
  · have := tmay_single 2 0 s false 0 ⟨by omega, by omega⟩ 0 0 0 0 none 0 0 w
    rw [hm]
    refine this.mono ?_
    rintro e w1 ⟨rfl, hb⟩
    exact ⟨by rw [show vMay 2 0 s false 0 = true from isa_vmay (isa_t s)]; rfl, hb⟩
  · have := tmay_single 1 (n * 10000) ⟨#[]⟩ false 0 ⟨by omega, by omega⟩ 0 0 0 0 none 0 0 w
    rw [hm]
    refine this.mono ?_
    rintro e w1 ⟨rfl, hb⟩
    exact ⟨by rw [show vMay 1 (n * 10000) ⟨#[]⟩ false 0 = true from isa_vmay (isa_n n hn)]; rfl, hb⟩⟩
theorem tx_asT (s : ByteArray) : (txA s).v.asT = s := rfl
theorem wh_asN (n : Int) (h : -922337203685477 ≤ n ∧ n ≤ 922337203685477) : (whA n).v.asN = n * 10000 := by
  unfold VL.asN
  rw [if_pos (isa_vmay (isa_n n h))]
  rfl
theorem wh_whole (n : Int) (h : -922337203685477 ≤ n ∧ n ≤ 922337203685477) : wholeV (whA n).v.asN = n := by
  rw [wh_asN n h]
  unfold wholeV
  rw [if_pos ⟨by omega, Int.mul_tmod_left n 10000⟩]
  exact Int.mul_tdiv_cancel n (by omega)
theorem wh_e (n : Int) (h : -922337203685477 ≤ n ∧ n ≤ 922337203685477) : eOf (whA n) = none := by
  unfold eOf
  have : (whA n).v.asC = 0 := by
    unfold VL.asC
    rw [if_pos (isa_vmay (isa_n n h))]
    rfl
  rw [this, if_neg (by simp), wh_asN n h]
  unfold wholeB
  rw [if_pos (by
    have h1 : n * 10000 ≠ -9223372036854775808 := by omega
    have h2 : (n * 10000).tmod 10000 = 0 := Int.mul_tmod_left n 10000
    simp [h1, h2])]
theorem callT_of {name : ByteArray} {l : List AL} {text : Int} {r : VL} (h0 : 0 ≤ text ∧ text ≤ 1024) (h : ∀ x ∈ l, IsA x) (ht : takesT name l.length false = true) (hE : gE (tPairs name l) = none) : callT name l text r = r := by
  unfold callT
  rw [if_neg (by omega), if_neg (by
    simp only [Bool.not_eq_false, List.all_eq_true]
    exact fun x hx => isa_may (h x hx))]
  have hany : (l.any fun x => (true == x.many)) = false := by
    rw [List.any_eq_false]
    intro x hx
    rw [(isa_one (h x hx)).1]
    simp
  rw [hany, ht, if_neg (by simp)]
  unfold callTS
  rw [List.find?_eq_none.2 (by
    intro x hx
    simp [(isa_one (h x hx)).2.2.2])]
  simp only [hE]
/-- a call of the laws -/
theorem lcall_any {name : ByteArray} {l : List AL} {S : List ByteArray} {L : List Int} {text : Int} {r : VL} (hs : name.size ≤ 16) (hlen : l.length ≤ 3) (h0 : 0 ≤ text ∧ text ≤ 1024) (h : ∀ x ∈ l, IsA x) (ht : takesT name l.length false = true) (hE : gE (tPairs name l) = none) (hS : gS (tPairs name l) = S) (hL : gN (tPairs name l) = L) (hD : DoT name S L text r) {w : World} (hTab : Tab w) {v : Value} (hv : ArgsAt w v l) : Calls Tryz.prog 5 #[.string name, v, .int .i64 text] w fun e w' => e = .returned (.agg #[.int .i64 (r).t, .int .i64 (r).n, .string (r).s, .bool (r).b, .int .i64 (r).c]) ∧ Below w.heap.size w w' := by
  obtain ⟨A, cap, rfl, hR⟩ := hv
  have := tcall_any name (by omega) l (by omega) text h0 r (isa_mays h) (fun _ _ _ => by rw [hS, hL]; exact hD) w hTab A cap hR (fun x hx => isa_in (h x hx) w _)
  rwa [callT_of h0 h ht hE] at this
theorem kd_MID : tKd ⟨#[77, 73, 68]⟩ = ⟨#[115, 110, 110]⟩ := by kernel_rfl
theorem kd_LEN : tKd ⟨#[76, 69, 78]⟩ = ⟨#[115]⟩ := by kernel_rfl
set_option maxRecDepth 100000 in
theorem lcall_MID (s : ByteArray) (hs : s.size ≤ 1048576) (a b : Int) (ha : -922337203685477 ≤ a ∧ a ≤ 922337203685477) (hb : -922337203685477 ≤ b ∧ b ≤ 922337203685477) (h1 : 1 ≤ a) (h2 : 0 ≤ b) (text : Int) (h0 : 0 ≤ text ∧ text ≤ 1024) {w : World} (hTab : Tab w) {v : Value} (hv : ArgsAt w v [txA s, whA a, whA b]) : Calls Tryz.prog 5 #[.string ⟨#[77, 73, 68]⟩, v, .int .i64 text] w fun e w' => e = .returned (.agg #[.int .i64 (toldT text (cutD (midD s a) b)).t, .int .i64 (toldT text (cutD (midD s a) b)).n, .string (toldT text (cutD (midD s a) b)).s, .bool (toldT text (cutD (midD s a) b)).b, .int .i64 (toldT text (cutD (midD s a) b)).c]) ∧ Below w.heap.size w w' :=
  lcall_any (by decide) (by simp) h0 (by
    intro x hx
    simp only [List.mem_cons, List.not_mem_nil, or_false] at hx
    rcases hx with rfl | rfl | rfl
    · exact isa_t s
    · exact isa_n a ha
    · exact isa_n b hb) (by kernel_rfl) (by
    unfold tPairs gE; rw [kd_MID]
    simp [wh_e a ha, wh_e b hb]) (by
    unfold tPairs gS; rw [kd_MID]
    simp [tx_asT]) (by
    unfold tPairs gN; rw [kd_MID]
    simp [wh_whole a ha, wh_whole b hb]) (at_MID s hs a b hb ha h1 h2 text) hTab hv
set_option maxRecDepth 100000 in
theorem lcall_LEN (s : ByteArray) (hs : s.size ≤ 1048576) (text : Int) (h0 : 0 ≤ text ∧ text ≤ 1024) {w : World} (hTab : Tab w) {v : Value} (hv : ArgsAt w v [txA s]) : Calls Tryz.prog 5 #[.string ⟨#[76, 69, 78]⟩, v, .int .i64 text] w fun e w' => e = .returned (.agg #[.int .i64 (numL ((s.size : Int) * 10000)).t, .int .i64 (numL ((s.size : Int) * 10000)).n, .string (numL ((s.size : Int) * 10000)).s, .bool (numL ((s.size : Int) * 10000)).b, .int .i64 (numL ((s.size : Int) * 10000)).c]) ∧ Below w.heap.size w w' :=
  lcall_any (by decide) (by simp) h0 (by
    intro x hx
    simp only [List.mem_cons, List.not_mem_nil, or_false] at hx
    subst hx
    exact isa_t s) (by kernel_rfl) (by
    unfold tPairs gE; rw [kd_LEN]
    simp) (by
    unfold tPairs gS; rw [kd_LEN]
    simp [tx_asT]) (by
    unfold tPairs gN; rw [kd_LEN]
    simp) (at_LEN s hs text) hTab hv
end Go.Proofs.YtgmhifafbebjfaaGreatDoor
namespace Go.Proofs.YtgmhifafbebjfaaGreatDoor
open Go.RowKit

theorem repS_none (m : Nat) : repS ⟨#[]⟩ m = ⟨#[]⟩ := by
  have h := repS_size ⟨#[]⟩ m
  have h2 : (repS ⟨#[]⟩ m).size = 0 := by rw [h]; exact Nat.mul_zero m
  exact ByteArray.size_eq_zero_iff.1 h2
theorem repS_zero (s : ByteArray) : repS s 0 = ⟨#[]⟩ := rfl
theorem do_REPT (s : ByteArray) (m : Nat) (hm : m ≤ 922337203685477) (text : Int) (ht : 0 ≤ text ∧ text ≤ 1024) (vs vn : Value) (w : World) (hS : RdStr w vs [s]) (hN : RdInt w vn [(m : Int)]) : Calls Tryz.prog 74 #[.agg #[vs, vn, .int .i64 text]] w fun e w' => e = .returned (.agg #[.int .i64 (toldT text (repS s m)).t, .int .i64 (toldT text (repS s m)).n, .string (toldT text (repS s m)).s, .bool (toldT text (repS s m)).b, .int .i64 (toldT text (repS s m)).c]) ∧ Below w.heap.size w w' := by
  by_cases h0 : s = ⟨#[]⟩
  · subst h0
    rw [repS_none]
    exact tdo_REPT0s (m : Int) (by omega) (by omega) text vs vn w hS hN
  · by_cases h1 : m = 0
    · subst h1
      rw [repS_zero]
      exact tdo_REPT0n s h0 text vs vn w hS hN
    · have hp : 0 < s.size := by
        rcases Nat.eq_zero_or_pos s.size with h | h
        · exact absurd (ByteArray.size_eq_zero_iff.1 h) h0
        · exact h
      by_cases hq : text / (s.size : Int) < (m : Int)
      · have hr : toldT text (repS s m) = errL 7 := by
          unfold toldT
          rw [if_pos]
          rw [repS_size, Int.natCast_mul]
          have := (Int.ediv_lt_iff_lt_mul (a := text) (b := (m : Int)) (c := (s.size : Int)) (by omega)).1 hq
          exact this
        rw [hr]
        exact tdo_REPTl s (m : Int) (by omega) (by omega) hp text ht hq vs vn w hS hN
      · exact tdo_REPT1 s m (by omega) hp text ht (by omega) vs vn w hS hN
end Go.Proofs.YtgmhifafbebjfaaGreatDoor
namespace Go.Proofs.YtgmhifafbebjfaaGreatDoor
open Go.RowKit

set_option maxRecDepth 100000 in
theorem at_CONCAT (l : List ByteArray) (L : List Int) (hl : 0 < l.length) (hll : l.length ≤ 1649267441664) (text : Int) (h9 : 0 ≤ text ∧ text ≤ 1024) : DoT ⟨#[67, 79, 78, 67, 65, 84]⟩ l L text (toldT text (joinS l)) := ⟨fun w b0 b1 b2 b3 kd lo d vs vn h q0 q1 q2 q3 ht hS hN => by
  have e : lookL tZero (tTab b0 b1 b2 b3) ⟨#[67, 79, 78, 67, 65, 84]⟩ = .agg #[.string ⟨#[115, 115, 115, 115, 115, 115, 115, 115, 115, 115, 115, 115, 115, 115, 115, 115]⟩, .int .i64 1, .func (.func 78) #[] #[]] := by kernel_rfl
  have hd := third_of (e.symm.trans h)
  exact ⟨78, #[], hd.symm, fun _ _ => by simp [go_sem], tdo_CONCAT l L hl hll text h9 vs vn w hS hN⟩⟩
end Go.Proofs.YtgmhifafbebjfaaGreatDoor
namespace Go.Proofs.YtgmhifafbebjfaaGreatDoor
open Go.RowKit

set_option maxHeartbeats 1000000 in
theorem upper_any (s : ByteArray) (hs : s.size ≤ 1048576) (w : World) : Calls Tryz.prog 70 #[.string s] w fun e w' => e = .returned (.string (caseS 97 65 s)) ∧ Below w.heap.size w w' := by
  go_enter Tryz.func70, Tryz.ntmps70
  go_wp2_with fail
  refine (each_any s hs 97 65 ⟨by omega, by omega⟩ _).mono ?_
  rintro e w1 ⟨rfl, hb⟩
  go_wp2
  go_ret
  exact ⟨rfl, hb⟩
set_option maxHeartbeats 1000000 in
theorem lower_any (s : ByteArray) (hs : s.size ≤ 1048576) (w : World) : Calls Tryz.prog 72 #[.string s] w fun e w' => e = .returned (.string (caseS 65 97 s)) ∧ Below w.heap.size w w' := by
  go_enter Tryz.func72, Tryz.ntmps72
  go_wp2_with fail
  refine (each_any s hs 65 97 ⟨by omega, by omega⟩ _).mono ?_
  rintro e w1 ⟨rfl, hb⟩
  go_wp2
  go_ret
  exact ⟨rfl, hb⟩
theorem caseS_size (a b : Nat) (s : ByteArray) : (caseS a b s).size = s.size := by
  show (List.map _ _).toArray.size = s.data.size
  simp
theorem revS_size (s : ByteArray) : (revS s).size = s.size := by
  show (List.reverse _).toArray.size = s.data.size
  simp
end Go.Proofs.YtgmhifafbebjfaaGreatDoor
namespace Go.Proofs.YtgmhifafbebjfaaGreatDoor
open Go.RowKit

def ordT (s : ByteArray) : VL := if s.size = 0 then errL 8 else numL (((headU s).toNat : Int) * 10000)
def numTx (s : ByteArray) : VL := if numOk s.data.toList = true then numL (numV s.data.toList) else errL 4
set_option maxRecDepth 100000 in
theorem at_EXACT (s t : ByteArray) (text : Int) : DoT ⟨#[69, 88, 65, 67, 84]⟩ [s, t] [] text (boolL (decide (s = t))) := ⟨fun w b0 b1 b2 b3 kd lo d vs vn h q0 q1 q2 q3 ht hS hN => by
  have e : lookL tZero (tTab b0 b1 b2 b3) ⟨#[69, 88, 65, 67, 84]⟩ = .agg #[.string ⟨#[115, 115]⟩, .int .i64 2, .func (.func 81) #[] #[]] := by kernel_rfl
  have hd := third_of (e.symm.trans h)
  exact ⟨81, #[], hd.symm, fun _ _ => by simp [go_sem], tdo_EXACT s t text vs vn w hS hN⟩⟩
set_option maxRecDepth 100000 in
theorem at_ORD (s : ByteArray) (text : Int) : DoT ⟨#[79, 82, 68]⟩ [s] [] text (ordT s) := ⟨fun w b0 b1 b2 b3 kd lo d vs vn h q0 q1 q2 q3 ht hS hN => by
  have e : lookL tZero (tTab b0 b1 b2 b3) ⟨#[79, 82, 68]⟩ = .agg #[.string ⟨#[115]⟩, .int .i64 1, .func (.func 79) #[] #[]] := by kernel_rfl
  have hd := third_of (e.symm.trans h)
  exact ⟨79, #[], hd.symm, fun _ _ => by simp [go_sem], by
    unfold ordT
    by_cases h : s.size = 0
    · rw [if_pos h]
      exact tdo_ORDx s (ByteArray.size_eq_zero_iff.1 h) text vs vn w hS hN
    · rw [if_neg h]
      exact tdo_ORD1 s (Nat.pos_of_ne_zero h) text vs vn w hS hN⟩⟩
set_option maxRecDepth 100000 in
theorem at_NUM (s : ByteArray) (hm : s.size ≤ maxLen) (hr : -9223372036854775808 ≤ numV s.data.toList ∧ numV s.data.toList ≤ 9223372036854775807) (text : Int) : DoT ⟨#[78, 85, 77]⟩ [s] [] text (numTx s) := ⟨fun w b0 b1 b2 b3 kd lo d vs vn h q0 q1 q2 q3 ht hS hN => by
  have e : lookL tZero (tTab b0 b1 b2 b3) ⟨#[78, 85, 77]⟩ = .agg #[.string ⟨#[115]⟩, .int .i64 1, .func (.func 84) #[] #[]] := by kernel_rfl
  have hd := third_of (e.symm.trans h)
  exact ⟨84, #[], hd.symm, fun _ _ => by simp [go_sem], by
    unfold numTx
    cases h : numOk s.data.toList
    · rw [if_neg (by simp)]
      exact tdo_NUMx s hm h text vs vn w hS hN
    · rw [if_pos rfl]
      exact tdo_NUM1 s hm h hr text vs vn w hS hN⟩⟩
end Go.Proofs.YtgmhifafbebjfaaGreatDoor
