/-
  texts: Call, what its parts answer.
-/
import Derived.Test.YtgmhifafbebjfaaGreatDoorTCall
namespace Go.Proofs.YtgmhifafbebjfaaGreatDoor
open Go.RowKit

theorem str_info : (Tryz.prog.info? 9).map (fun i => (i.zero, i.size, i.bytes)) = some (some (.string ⟨#[]⟩), 1, 16) := by kernel_rfl
theorem tint_info : (Tryz.prog.info? 3).map (fun i => (i.zero, i.size, i.bytes)) = some (some (.int .i64 0), 1, 8) := by kernel_rfl
/-- a value's text -/
def VL.asT (v : VL) : ByteArray := if v.t = 1 then ⟨(printL v.n).toArray⟩ else if v.t = 2 then v.s else if v.t = 3 then (if v.b = true then ⟨#[84, 82, 85, 69]⟩ else ⟨#[70, 65, 76, 83, 69]⟩) else ⟨#[]⟩
theorem astext_any (v : VL) (hv : v.ok) (hm : v.may = true) (h4 : ¬ v.t = 4) (w : World) (ht : Tab w) : Calls Tryz.prog 15 #[.agg #[.int .i64 v.t, .int .i64 v.n, .string v.s, .bool v.b, .int .i64 v.c]] w fun e w' => e = .returned (.tuple #[.string v.asT, .int .i64 0]) ∧ Below w.heap.size w w' := by
  obtain ⟨t, n, s, b, c⟩ := v
  have hn : -9223372036854775808 ≤ n ∧ n ≤ 9223372036854775807 := hv
  have m : vMay t n s b c = true := hm
  unfold VL.asT
  obtain ⟨h1, h2, h3, h4', h5, h6, h7, h8⟩ := (vMay_iff t n s b c).1 m
  simp only at h4 ⊢
  have hh : t = 0 ∨ t = 1 ∨ t = 2 ∨ t = 3 := by omega
  rcases hh with rfl | rfl | rfl | rfl
  · obtain rfl : n = 0 := by omega
    obtain rfl : s = ⟨#[]⟩ := by rcases h4' with h | h; omega; exact h
    obtain rfl : b = false := by rcases h5 with h | h; omega; exact h
    obtain rfl : c = 0 := by omega
    exact astxt_0 w
  · obtain rfl : s = ⟨#[]⟩ := by rcases h4' with h | h; omega; exact h
    obtain rfl : b = false := by rcases h5 with h | h; omega; exact h
    obtain rfl : c = 0 := by omega
    exact astxt_1 n hn (h7 rfl) w ht
  · obtain rfl : n = 0 := by omega
    obtain rfl : b = false := by rcases h5 with h | h; omega; exact h
    obtain rfl : c = 0 := by omega
    exact astxt_2 s w
  · obtain rfl : n = 0 := by omega
    obtain rfl : s = ⟨#[]⟩ := by rcases h4' with h | h; omega; exact h
    obtain rfl : c = 0 := by omega
    cases b
    · exact astxt_f w
    · exact astxt_t w
/-- what is given: texts, whole numbers, what is wrong first -/
def gS (ps : List (UInt8 × AL)) : List ByteArray := ps.filterMap fun p => if p.1 = 115 then some p.2.v.asT else none
def gN (ps : List (UInt8 × AL)) : List Int := ps.filterMap fun p => if p.1 = 115 then none else some (wholeV p.2.v.asN)
def eOf (x : AL) : Option Int := if x.v.asC ≠ 0 then some x.v.asC else if wholeB x.v.asN = true then none else some 8
def gE (ps : List (UInt8 × AL)) : Option Int := ps.findSome? fun p => if p.1 = 115 then none else eOf p.2
theorem gS_snoc (ps : List (UInt8 × AL)) (p : UInt8 × AL) : gS (ps ++ [p]) = gS ps ++ if p.1 = 115 then [p.2.v.asT] else [] := by
  unfold gS; rw [List.filterMap_append]; congr 1
  by_cases h : p.1 = 115 <;> simp [h]
theorem gN_snoc (ps : List (UInt8 × AL)) (p : UInt8 × AL) : gN (ps ++ [p]) = gN ps ++ if p.1 = 115 then [] else [wholeV p.2.v.asN] := by
  unfold gN; rw [List.filterMap_append]; congr 1
  by_cases h : p.1 = 115 <;> simp [h]
theorem gE_snoc (ps : List (UInt8 × AL)) (p : UInt8 × AL) (h : gE ps = none) : gE (ps ++ [p]) = if p.1 = 115 then none else eOf p.2 := by
  unfold gE at h ⊢; rw [List.findSome?_append, h]
  by_cases h2 : p.1 = 115 <;> simp [h2]
theorem gE_some (ps qs : List (UInt8 × AL)) (c : Int) (h : gE ps = some c) : gE (ps ++ qs) = some c := by
  unfold gE at h ⊢; rw [List.findSome?_append, h]; rfl
theorem gS_len (ps : List (UInt8 × AL)) : (gS ps).length ≤ ps.length := List.length_filterMap_le _ _
theorem gN_len (ps : List (UInt8 × AL)) : (gN ps).length ≤ ps.length := List.length_filterMap_le _ _
def tPairs (name : ByteArray) (l : List AL) : List (UInt8 × AL) := (tKd name).data.toList.zip l
/-- a slice of texts, of whole numbers -/
def RdStr (w : World) (v : Value) (l : List ByteArray) : Prop := ∃ A cap, v = .slice A l.length cap ∧ RdB w w.heap.size A 1 (l.map fun s => [Value.string s])
def RdInt (w : World) (v : Value) (l : List Int) : Prop := ∃ A cap, v = .slice A l.length cap ∧ RdB w w.heap.size A 1 (l.map fun s => [Value.int .i64 s])
theorem RdStr.below {w w' : World} {v : Value} {l : List ByteArray} (h : RdStr w v l) (hb : Below w.heap.size w w') : RdStr w' v l := let ⟨A, cap, e, h1⟩ := h; ⟨A, cap, e, (h1.below hb).mono hb.size⟩
theorem RdInt.below {w w' : World} {v : Value} {l : List Int} (h : RdInt w v l) (hb : Below w.heap.size w w') : RdInt w' v l := let ⟨A, cap, e, h1⟩ := h; ⟨A, cap, e, (h1.below hb).mono hb.size⟩
/-- what the called function answers, wherever things lie -/
structure DoT (name : ByteArray) (S : List ByteArray) (L : List Int) (text : Int) (r : VL) : Prop where
  out : ∀ (w : World) (b0 b1 b2 b3 : Nat) (kd : ByteArray) (lo : Int) (d vs vn : Value), lookL tZero (tTab b0 b1 b2 b3) name = .agg #[.string kd, .int .i64 lo, d] → w.cell? ⟨b0, 0, none⟩ = some (.func (.func 70) #[] #[]) → w.cell? ⟨b1, 0, none⟩ = some (.func (.func 72) #[] #[]) → w.cell? ⟨b2, 0, none⟩ = some (.func (.func 73) #[] #[]) → w.cell? ⟨b3, 0, none⟩ = some (.func (.func 83) #[] #[]) →
    Tab w → RdStr w vs S → RdInt w vn L →
    ∃ g c, d = .func (.func g) #[] c ∧ (∀ args w, Sem.run Tryz.prog (callFunc g args) w = .ok (.enter g args) w) ∧ Calls Tryz.prog g (#[.agg #[vs, vn, .int .i64 text]] ++ c) w fun e w' => e = .returned (.agg #[.int .i64 (r).t, .int .i64 (r).n, .string (r).s, .bool (r).b, .int .i64 (r).c]) ∧ Below w.heap.size w w'
/-- 'may' of each argument by its contract -/
structure MaysT (l : List AL) : Prop where
  out : ∀ x ∈ l, ∀ w : World, x.In w w.heap.size → Calls Tryz.prog 12 #[.agg #[.bool x.many, .int .i64 x.v.t, .int .i64 x.v.n, .string x.v.s, .bool x.v.b, .int .i64 x.v.c, .int .i64 x.t, .int .i64 x.l, .int .i64 x.b, .int .i64 x.r, .slice x.A x.es.length x.cap]] w fun e w' => e = .returned (.bool (argMay x)) ∧ Below w.heap.size w w'
/-- the first Fault; else what is wrong with what is given; else r -/
def callTS (name : ByteArray) (l : List AL) (r : VL) : VL :=
  match l.find? (fun x => decide (x.v.t = 4)) with
    | some x => x.v
    | none => match gE (tPairs name l) with
      | some c => errL c
      | none => r
/-- what Call answers: r where the function is called -/
def callT (name : ByteArray) (l : List AL) (text : Int) (r : VL) : VL :=
  if text < 0 ∨ 1024 < text then errL 8
  else if l.all argMay = false then errL 8
  else if takesT name l.length (l.any fun x => (true == x.many)) = false then errL 8
  else callTS name l r
set_option maxHeartbeats 1000000 in
theorem tcall_bad (name : ByteArray) (_hs : name.size ≤ 9223372036854775807) (l : List AL) (_hlen : l.length ≤ 1649267441664) (text : Int) (ht : text < 0 ∨ 1024 < text) (r : VL) (w : World) (A : Option Addr) (cap : Nat) : Calls Tryz.prog 5 #[.string name, .slice A l.length cap, .int .i64 text] w fun e w' => e = .returned (.agg #[.int .i64 (callT name l text r).t, .int .i64 (callT name l text r).n, .string (callT name l text r).s, .bool (callT name l text r).b, .int .i64 (callT name l text r).c]) ∧ Below w.heap.size w w' := by
  have hcr : callT name l text r = errL 8 := by unfold callT; rw [if_pos ht]
  have hcr' := Lib.hid hcr
  clear hcr _hs _hlen
  have e0 : Below w.heap.size w (w.alloc (.cells #[.int .i64 0, .int .i64 0, .string ⟨#[]⟩, .bool false, .int .i64 0] 26)) := (Below.refl _ _).alloc (Nat.le_refl _) _
  by_cases h0 : text < 0
  · clear ht
    go_enter Tryz.func5, Tryz.ntmps5
    go_wp2_with (go_at_call 11; refine (verr_any 8 _).mono ?_; rintro e w1 ⟨rfl, hb⟩; obtain ⟨hc, hf, hz⟩ := bkeep hb (w.heap.size + 1) (by first | omega | (simp <;> omega)))
    refine bodyPost_ret (v := .agg #[.int .i64 4, .int .i64 0, .string ⟨#[]⟩, .bool false, .int .i64 (errC 8)]) ?_ rfl ⟨by rw [hcr'.out]; rfl, by (repeat (first | (with_reducible exact Below.refl _ _) | (with_reducible refine Below.alloc ?_ (by first | omega | (dsimp only; omega) | (simp <;> omega)) _) | (with_reducible refine Below.setCell ?_ (by first | omega | (dsimp only; omega) | (simp <;> omega)) _) | (with_reducible refine Below.drew ?_) | (with_reducible refine below_drewN ?_ _) | (with_reducible refine Below.trans ?_ (Below.mono (by assumption) (by first | omega | (dsimp only; omega) | (simp <;> omega))))))⟩
    simp [results, Tryz.results5, go_sem, *]
  · have h1 : 1024 < text := by omega
    clear ht
    go_enter Tryz.func5, Tryz.ntmps5
    go_wp2_with (go_at_call 11; refine (verr_any 8 _).mono ?_; rintro e w1 ⟨rfl, hb⟩; obtain ⟨hc, hf, hz⟩ := bkeep hb (w.heap.size + 1) (by first | omega | (simp <;> omega)))
    refine bodyPost_ret (v := .agg #[.int .i64 4, .int .i64 0, .string ⟨#[]⟩, .bool false, .int .i64 (errC 8)]) ?_ rfl ⟨by rw [hcr'.out]; rfl, by (repeat (first | (with_reducible exact Below.refl _ _) | (with_reducible refine Below.alloc ?_ (by first | omega | (dsimp only; omega) | (simp <;> omega)) _) | (with_reducible refine Below.setCell ?_ (by first | omega | (dsimp only; omega) | (simp <;> omega)) _) | (with_reducible refine Below.drew ?_) | (with_reducible refine below_drewN ?_ _) | (with_reducible refine Below.trans ?_ (Below.mono (by assumption) (by first | omega | (dsimp only; omega) | (simp <;> omega))))))⟩
    simp [results, Tryz.results5, go_sem, *]
end Go.Proofs.YtgmhifafbebjfaaGreatDoor
