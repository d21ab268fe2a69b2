/-
  Neg, Add, Sub of package dec, and the document's own; Package value: the document's May; Txt, Truth, Num, Err of both; Rows of cells in memory; Arguments of functions: how they lie in memory; Package value: cmp.Compare, truth; Package value: Compare; Package value: the document's Same, Compare; Slices of things of several cells that came in: their lists.
-/
import Derived.Test.YtfbkoieodflcpaaGreatDoorRows
import Derived.Test.YtfbkoieodflcpaaGreatDoorBase
import Derived.Test.YtfbkoieodflcpaaGreatDoorDecA
import Derived.Test.YtfbkoieodflcpaaGreatDoorValA
import Derived.Test.YtfbkoieodflcpaaGreatDoorValB
import Derived.Test.YtfbkoieodflcpaaGreatDoorProg
import Derived.Test.YtfbkoieodflcpaaGreatDoorShelf
import Derived.Test.YtfbkoieodflcpaaGreatDoorAddrC
import Derived.Test.YtfbkoieodflcpaaGreatDoorMapK
import Derived.WalkSpells
import Derived.WalkLawsBesides
import Derived.StillTactics
import Derived.Laws.Pointers
import Derived.Deep.RegionHeld3
import Derived.Deep.QuietTactic
import Derived.BigQuiet
import Derived.RowKit3
import Derived.Lib.Hide
import Derived.Lib.OthersKept
import Derived.OwnWalk
import Derived.Lib.IndexLaws
import Derived.Lib.ItoaMem
import Derived.WalkKit
import Derived.ProofKit
import Derived.OpenShut
import Derived.Carry
import Derived.ChangeSame
import Derived.Deep.Draws
import Derived.Deep.Slices
import Derived.ChangeSlices
import Derived.Shelf.Strings.Builder1
import Derived.Shelf.Strings.Builder2
import Derived.Shelf.Strings.Trim
import Derived.Shelf.Small.Utf8
import Derived.Shelf.Small.Strs
import Derived.Shelf.Small.Wraps
import Derived.Shelf.Strings.BuilderF
import Derived.Shelf.Strings.BuilderK
import Derived.Shelf.Strconv.Itoa0
import Derived.Shelf.Strconv.Itoa1
import Derived.Shelf.LaysM
import Derived.Shelf.Strconv.Itoa2
import Derived.Shelf.Strconv.Itoa3
import Derived.Shelf.Strings.Search1
import Derived.Shelf.Strings.Search2
import Derived.Shelf.Strings.Search3
import Derived.Shelf.Strings.Cut
import Derived.Shelf.Strings.Count
import Derived.Shelf.Strings.Shaped
import Derived.Shelf.Strings.Prefix
import Derived.Shelf.Strings.Split
import Derived.Shelf.Strings.Replace
import Derived.Shelf.Strings.Runes
import Derived.Shelf.Strings.AsciiSet
import Derived.Shelf.Unicode.DecodeSlow
import Derived.Lib.Bytealg
import Derived.Maps.OwnSet
import Derived.Maps.AppendAt
namespace Go.Proofs.YtfbkoieodflcpaaGreatDoor
open Go.RowKit

theorem may_no {x : Int} (h : x = -9223372036854775808) : decMay x = false := by subst h; decide
theorem may_yes {x : Int} (h : x ≠ -9223372036854775808) : decMay x = true := by simp [decMay, h]
end Go.Proofs.YtfbkoieodflcpaaGreatDoor
namespace Go.Proofs.YtfbkoieodflcpaaGreatDoor
open Go.RowKit

set_option maxHeartbeats 400000 in
theorem rvmay_any (t n : Int) (s : ByteArray) (b : Bool) (c : Int) (hn : -9223372036854775808 ≤ n ∧ n ≤ 9223372036854775807) (w : World) :
    Calls Tryz.prog 76 #[.agg #[.int .i64 t, .int .i64 n, .string s, .bool b, .int .i64 c]] w
      fun e w' => e = .returned (.bool (vMay t n s b c)) ∧ Below w.heap.size w w' := by
  go_enter Tryz.func76, Tryz.ntmps76
  go_wp2_with (go_at_call 73; refine (drmay_any _ (by first | assumption | (constructor <;> omega)) _).mono ?_; rintro e w1 ⟨rfl, rfl⟩)
  all_goals go_ret
  all_goals refine ⟨ret_b (Bool.eq_iff_iff.2 ?_), by (repeat (first | (with_reducible exact Below.refl _ _) | (with_reducible refine Below.alloc ?_ (by first | omega | (dsimp only; omega) | (simp <;> omega)) _) | (with_reducible refine Below.setCell ?_ (by first | omega | (dsimp only; omega) | (simp <;> omega)) _) | (with_reducible refine Below.drew ?_) | (with_reducible refine below_drewN ?_ _) | (with_reducible refine Below.trans ?_ (Below.mono (by assumption) (by first | omega | (dsimp only; omega) | (simp <;> omega))))))⟩
  all_goals try simp only [beq_iff_eq, beq_eq_false_iff_ne, ne_eq, decide_eq_true_eq] at *
  all_goals simp [vMay, decMay, *]
  all_goals first | done | omega | grind
end Go.Proofs.YtfbkoieodflcpaaGreatDoor
namespace Go.Proofs.YtfbkoieodflcpaaGreatDoor
open Go.RowKit

/-- rows of cells, k a row -/
def RdS (w : World) (A : Option Addr) (k : Nat) (l : List (List Value)) : Prop :=
  ∀ i c, l[i]? = some c → ∃ b o, A = some ⟨b, o, none⟩ ∧ b < w.heap.size ∧ ∀ j u, c[j]? = some u → w.cell? ⟨b, o + i * k + j, none⟩ = some u
theorem RdS.below {w w' : World} {A : Option Addr} {k : Nat} {l : List (List Value)} (h : RdS w A k l) {B : Nat} (hb : Below B w w') (hB : w.heap.size ≤ B) : RdS w' A k l := fun i c hi => by
  obtain ⟨b, o, e, hlt, hc⟩ := h i c hi
  exact ⟨b, o, e, Nat.lt_of_lt_of_le hlt hb.size, fun j u hu => (hb.cell (p := ⟨b, _, none⟩) (Nat.lt_of_lt_of_le hlt hB)).trans (hc j u hu)⟩
/-- rows below a block number: kept while nothing below it is turned -/
def RdB (w : World) (B : Nat) (A : Option Addr) (k : Nat) (l : List (List Value)) : Prop :=
  ∀ i c, l[i]? = some c → ∃ b o, A = some ⟨b, o, none⟩ ∧ b < B ∧ ∀ j u, c[j]? = some u → w.cell? ⟨b, o + i * k + j, none⟩ = some u
theorem RdB.below {w w' : World} {B : Nat} {A : Option Addr} {k : Nat} {l : List (List Value)} (h : RdB w B A k l) (hb : Below B w w') : RdB w' B A k l := fun i c hi => by
  obtain ⟨b, o, e, hlt, hc⟩ := h i c hi
  exact ⟨b, o, e, hlt, fun j u hu => (hb.cell (p := ⟨b, _, none⟩) hlt).trans (hc j u hu)⟩
theorem RdB.mono {w : World} {B B' : Nat} {A : Option Addr} {k : Nat} {l : List (List Value)} (h : RdB w B A k l) (hB : B ≤ B') : RdB w B' A k l := fun i c hi => by
  obtain ⟨b, o, e, hlt, hc⟩ := h i c hi
  exact ⟨b, o, e, by omega, hc⟩
theorem ownsRow_below {w w' : World} {B size n : Nat} {e : TypeId} {v : Value} {xs : List Value} (h : w.ownsRow B e size v n xs) (hb : Below w.heap.size w w') : w'.ownsRow B e size v n xs := by
  obtain ⟨h1, h2⟩ := h
  rcases h2 with ⟨h2, h3⟩ | ⟨g, cap, cur, hv, hB, hh, hr⟩
  · exact ⟨h1, .inl ⟨h2, h3⟩⟩
  · exact ⟨h1, .inr ⟨g, cap, cur, hv, hB, by rw [hb.block g (by exact (Array.getElem?_eq_some_iff.1 hh).1)]; exact hh, hr⟩⟩
theorem flat_at {k : Nat} : ∀ (l : List (List Value)), (∀ c ∈ l, c.length = k) → ∀ (i : Nat) (c : List Value), l[i]? = some c → ∀ (j : Nat) (u : Value), c[j]? = some u → l.flatten[i * k + j]? = some u
  | [], _, i, c, h, _, _, _ => by simp at h
  | d :: l, hl, i, c, h, j, u, hu => by
    have hd := hl d (by simp)
    rw [List.flatten_cons]
    cases i with
    | zero =>
      simp at h; subst h
      have : j < d.length := (List.getElem?_eq_some_iff.1 hu).1
      rw [Nat.zero_mul, Nat.zero_add, List.getElem?_append_left this]; exact hu
    | succ i =>
      have h2 : l[i]? = some c := by simpa using h
      have := flat_at l (fun c hc => hl c (by simp [hc])) i c h2 j u hu
      rw [List.getElem?_append_right (by rw [hd, Nat.succ_mul]; omega), hd]
      rw [show (i + 1) * k + j - k = i * k + j by rw [Nat.succ_mul]; omega]
      exact this
end Go.Proofs.YtfbkoieodflcpaaGreatDoor
namespace Go.Proofs.YtfbkoieodflcpaaGreatDoor
open Go.RowKit

/-- a value's cells by name -/
structure VL where
  t : Int
  n : Int
  s : ByteArray
  b : Bool
  c : Int
def VL.cs (v : VL) : List Value := [.int .i64 v.t, .int .i64 v.n, .string v.s, .bool v.b, .int .i64 v.c]
def VL.ok (v : VL) : Prop := -9223372036854775808 ≤ v.n ∧ v.n ≤ 9223372036854775807
def VL.may (v : VL) : Bool := vMay v.t v.n v.s v.b v.c
/-- a place with its value -/
structure EL where
  r : Int
  c : Int
  v : VL
def EL.cs (e : EL) : List Value := [.int .i64 e.r, .int .i64 e.c, .int .i64 e.v.t, .int .i64 e.v.n, .string e.v.s, .bool e.v.b, .int .i64 e.v.c]
/-- an argument -/
structure AL where
  many : Bool
  v : VL
  t : Int
  l : Int
  b : Int
  r : Int
  A : Option Addr
  cap : Nat
  es : List EL
def AL.cs (x : AL) : List Value := [.bool x.many, .int .i64 x.v.t, .int .i64 x.v.n, .string x.v.s, .bool x.v.b, .int .i64 x.v.c, .int .i64 x.t, .int .i64 x.l, .int .i64 x.b, .int .i64 x.r, .slice x.A x.es.length x.cap]
def AL.In (w : World) (B : Nat) (x : AL) : Prop := x.v.ok ∧ RdB w B x.A 7 (x.es.map EL.cs) ∧ (∀ e ∈ x.es, e.v.ok) ∧ x.es.length ≤ 9223372036854775807
theorem AL.In.below {w w' : World} {B : Nat} {x : AL} (h : x.In w B) (hb : Below B w w') : x.In w' B := ⟨h.1, h.2.1.below hb, h.2.2⟩
theorem AL.In.mono {w : World} {B B' : Nat} {x : AL} (h : x.In w B) (hB : B ≤ B') : x.In w B' := ⟨h.1, h.2.1.mono hB, h.2.2⟩
def v0 : VL := ⟨0, 0, ⟨#[]⟩, false, 0⟩
theorem vmay_is (t n : Int) (s : ByteArray) (b : Bool) (c : Int) (hn : -9223372036854775808 ≤ n ∧ n ≤ 9223372036854775807) (z : Bool) (h : vMay t n s b c = z) (w : World) : Calls Tryz.prog 66 #[.agg #[.int .i64 t, .int .i64 n, .string s, .bool b, .int .i64 c]] w
      fun e w' => e = .returned (.bool z) ∧ Below w.heap.size w w' := by
  subst h; exact vmay_any t n s b c hn w
end Go.Proofs.YtfbkoieodflcpaaGreatDoor
namespace Go.Proofs.YtfbkoieodflcpaaGreatDoor
open Go.RowKit

def b2i (b : Bool) : Int := if b then 1 else 0
set_option maxHeartbeats 400000 in
theorem truth_int (b : Bool) (w : World) : Calls Tryz.prog 107 #[.bool b] w fun e w' => e = .returned (.int .i64 (b2i b)) ∧ w = w' := by
  cases b
  all_goals
    go_enter Tryz.func107, Tryz.ntmps107
    go_wp2
    go_ret
    exact ⟨rfl, rfl⟩
end Go.Proofs.YtfbkoieodflcpaaGreatDoor
namespace Go.Proofs.YtfbkoieodflcpaaGreatDoor
open Go.RowKit

theorem vmay_yes (t n : Int) (s : ByteArray) (b : Bool) (c : Int) (hn : -9223372036854775808 ≤ n ∧ n ≤ 9223372036854775807) (h : vMay t n s b c = true) (w : World) : Calls Tryz.prog 66 #[.agg #[.int .i64 t, .int .i64 n, .string s, .bool b, .int .i64 c]] w fun e w' => e = .returned (.bool true) ∧ Below w.heap.size w w' := by
  have := vmay_any t n s b c hn w
  rw [h] at this
  exact this
end Go.Proofs.YtfbkoieodflcpaaGreatDoor
namespace Go.Proofs.YtfbkoieodflcpaaGreatDoor
open Go.RowKit

theorem rvmay_yes (t n : Int) (s : ByteArray) (b : Bool) (c : Int) (hn : -9223372036854775808 ≤ n ∧ n ≤ 9223372036854775807) (h : vMay t n s b c = true) (w : World) : Calls Tryz.prog 76 #[.agg #[.int .i64 t, .int .i64 n, .string s, .bool b, .int .i64 c]] w fun e w' => e = .returned (.bool true) ∧ Below w.heap.size w w' := by
  have := rvmay_any t n s b c hn w
  rw [h] at this
  exact this
end Go.Proofs.YtfbkoieodflcpaaGreatDoor
namespace Go.Proofs.YtfbkoieodflcpaaGreatDoor
open Go.RowKit Go.ChangeShapes Go.WideShapes Go.Deep

theorem cellLt {w : World} {b j : Nat} {v : Value} (h : w.cell? ⟨b, j, none⟩ = some v) : b < w.heap.size := by
  rcases Nat.lt_or_ge b w.heap.size with h1 | h1
  · exact h1
  · unfold World.cell? at h
    rw [Array.getElem?_eq_none h1] at h
    cases h
section
variable {H : Type} {enc : TypeId × Value → H} {P : Program} {w : World}
end
end Go.Proofs.YtfbkoieodflcpaaGreatDoor
