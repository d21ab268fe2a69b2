/-
  orielref05: Check; orielref07: Print.
-/
import Derived.Test.YtfbkoieodflcpaaGreatDoorMg3
import Derived.Test.YtfbkoieodflcpaaGreatDoorRows
import Derived.Test.YtfbkoieodflcpaaGreatDoorBase
import Derived.Test.YtfbkoieodflcpaaGreatDoorProg
import Derived.Test.YtfbkoieodflcpaaGreatDoorShelf
import Derived.Test.YtfbkoieodflcpaaGreatDoorAddrC
import Derived.Test.YtfbkoieodflcpaaGreatDoorMg5
import Derived.Test.YtfbkoieodflcpaaGreatDoorDecA
import Derived.Test.YtfbkoieodflcpaaGreatDoorValA
import Derived.Test.YtfbkoieodflcpaaGreatDoorValB
import Derived.Test.YtfbkoieodflcpaaGreatDoorMg9
import Derived.Test.YtfbkoieodflcpaaGreatDoorMapK
import Derived.Test.YtfbkoieodflcpaaGreatDoorRefP
import Derived.Test.YtfbkoieodflcpaaGreatDoorRefQ
import Derived.Test.YtfbkoieodflcpaaGreatDoorRefName
import Derived.Test.YtfbkoieodflcpaaGreatDoorShelfC
import Derived.Test.YtfbkoieodflcpaaGreatDoorMg2
import Derived.Test.YtfbkoieodflcpaaGreatDoorNameX
import Derived.Test.YtfbkoieodflcpaaGreatDoorNameY
import Derived.Test.YtfbkoieodflcpaaGreatDoorDPrint
import Derived.Test.YtfbkoieodflcpaaGreatDoorValK
import Derived.Test.YtfbkoieodflcpaaGreatDoorRPr
import Derived.Test.YtfbkoieodflcpaaGreatDoorValL
import Derived.Test.YtfbkoieodflcpaaGreatDoorPrP
import Derived.Test.YtfbkoieodflcpaaGreatDoorPrA
import Derived.Test.YtfbkoieodflcpaaGreatDoorT07
import Derived.Test.YtfbkoieodflcpaaGreatDoorRefN
import Derived.Test.YtfbkoieodflcpaaGreatDoorRefM
import Derived.Test.YtfbkoieodflcpaaGreatDoorRefY
import Derived.Test.YtfbkoieodflcpaaGreatDoorRefZ
import Derived.Test.YtfbkoieodflcpaaGreatDoorRLev
import Derived.Test.YtfbkoieodflcpaaGreatDoorT07B
import Derived.Test.YtfbkoieodflcpaaGreatDoorT07C
import Derived.Test.YtfbkoieodflcpaaGreatDoorT07D
import Derived.Test.YtfbkoieodflcpaaGreatDoorPrS
import Derived.Test.YtfbkoieodflcpaaGreatDoorPrT
import Derived.Test.YtfbkoieodflcpaaGreatDoorT07E
import Derived.Test.YtfbkoieodflcpaaGreatDoorRNam
import Derived.Test.YtfbkoieodflcpaaGreatDoorRNod
import Derived.Test.YtfbkoieodflcpaaGreatDoorRNodB
import Derived.Test.YtfbkoieodflcpaaGreatDoorRPt
import Derived.Test.YtfbkoieodflcpaaGreatDoorRPtB
import Derived.Test.YtfbkoieodflcpaaGreatDoorRPut
import Derived.WalkSpells
import Derived.WalkLawsBesides
import Derived.StillTactics
import Derived.Laws.Pointers
import Derived.Deep.RegionHeld3
import Derived.Deep.QuietTactic
import Derived.BigQuiet
import Derived.RowKit3
import Derived.Lib.Hide
import Derived.Lib.OthersKept
import Derived.OwnWalk
import Derived.Lib.IndexLaws
import Derived.Lib.ItoaMem
import Derived.Lib.TrimByte
import Derived.Lib.SlTrimSet
import Derived.Lib.ParseIntB
import Derived.WalkKit
import Derived.ProofKit
import Derived.OpenShut
import Derived.Carry
import Derived.ChangeSame
import Derived.Deep.Draws
import Derived.Shelf.Strings.Builder1
import Derived.Shelf.Strings.Builder2
import Derived.Shelf.Strings.Trim
import Derived.Shelf.Small.Utf8
import Derived.Shelf.Small.Strs
import Derived.Shelf.Small.Wraps
import Derived.Shelf.Strings.BuilderF
import Derived.Shelf.Strings.BuilderK
import Derived.Shelf.Strconv.Itoa0
import Derived.Shelf.Strconv.Itoa1
import Derived.Shelf.LaysM
import Derived.Shelf.Strconv.Itoa2
import Derived.Shelf.Strconv.Itoa3
import Derived.Shelf.Strings.Search1
import Derived.Shelf.Strings.Search2
import Derived.Shelf.Strings.Search3
import Derived.Shelf.Strings.Cut
import Derived.Shelf.Strings.Count
import Derived.Shelf.Strings.Shaped
import Derived.Shelf.Strings.Prefix
import Derived.Shelf.Strings.Split
import Derived.Shelf.Strings.Replace
import Derived.Shelf.Strings.Runes
import Derived.Shelf.Strings.AsciiSet
import Derived.Shelf.Unicode.DecodeSlow
import Derived.Lib.ItoaNum
import Derived.Maps.OwnSet
import Derived.Maps.AppendAt
import Derived.Ground.MpProg
import Derived.Shelf.Pu.ParseUintPublic10
import Derived.Lib.Bytealg
import Derived.Lib.Replace
import Derived.Outline
import Derived.Deep.CutRange
import Derived.Deep.AppendLies
namespace Go.Proofs.YtfbkoieodflcpaaGreatDoor
open Go.RowKit

set_option maxRecDepth 100000 in
set_option maxHeartbeats 4000000 in
theorem rcheck_few (ns : List NL) (h : ns.length < 1) (w : World) (A : Option Addr) (cap : Nat) : Calls Tryz.prog 19 #[.agg #[.slice A ns.length cap]] w fun e w' => e = .returned (.int .i64 20) ∧ Below w.heap.size w w' := by
  have h2 : (ns.length : Int) < 1 := by omega
  go_enter Tryz.func19, Tryz.ntmps19
  go_wp2
  go_ret
  exact ⟨rfl, by (repeat (first | (with_reducible exact Below.refl _ _) | (with_reducible refine Below.alloc ?_ (by first | omega | (dsimp only; omega) | (simp <;> omega)) _) | (with_reducible refine Below.setCell ?_ (by first | omega | (dsimp only; omega) | (simp <;> omega)) _) | (with_reducible refine Below.drew ?_) | (with_reducible refine below_drewN ?_ _) | (with_reducible refine Below.trans ?_ (Below.mono (by assumption) (by first | omega | (dsimp only; omega) | (simp <;> omega))))))⟩
set_option maxRecDepth 100000 in
set_option maxHeartbeats 4000000 in
theorem rcheck_many (ns : List NL) (h : 1024 < ns.length) (w : World) (A : Option Addr) (cap : Nat) : Calls Tryz.prog 19 #[.agg #[.slice A ns.length cap]] w fun e w' => e = .returned (.int .i64 20) ∧ Below w.heap.size w w' := by
  have h3 : ¬ (ns.length : Int) < 1 := by omega
  have h4 : (ns.length : Int) > 1024 := by omega
  go_enter Tryz.func19, Tryz.ntmps19
  go_wp2
  go_ret
  exact ⟨rfl, by (repeat (first | (with_reducible exact Below.refl _ _) | (with_reducible refine Below.alloc ?_ (by first | omega | (dsimp only; omega) | (simp <;> omega)) _) | (with_reducible refine Below.setCell ?_ (by first | omega | (dsimp only; omega) | (simp <;> omega)) _) | (with_reducible refine Below.drew ?_) | (with_reducible refine below_drewN ?_ _) | (with_reducible refine Below.trans ?_ (Below.mono (by assumption) (by first | omega | (dsimp only; omega) | (simp <;> omega))))))⟩
set_option maxRecDepth 100000 in
set_option maxHeartbeats 4000000 in
theorem rcheck_none (ns : List NL) (h1 : 1 ≤ ns.length) (h2 : ns.length ≤ 1024) (w : World) (A : Option Addr) (cap : Nat) (C : ∀ w0 : World, Below w.heap.size w w0 → Calls Tryz.prog 38 #[.slice A ns.length cap] w0 fun e w' => (e = .returned (.tuple #[.slice none 0 0, .bool false])) ∧ Below w0.heap.size w0 w') : Calls Tryz.prog 19 #[.agg #[.slice A ns.length cap]] w fun e w' => e = .returned (.int .i64 20) ∧ Below w.heap.size w w' := by
  have h3 : ¬ (ns.length : Int) < 1 := by omega
  have h4 : ¬ (ns.length : Int) > 1024 := by omega
  have CH := Lib.hid C
  clear C
  go_enter Tryz.func19, Tryz.ntmps19
  go_wp2_with fail
  go_at_call 38
  refine (CH.out _ ((Below.refl _ _).alloc (Nat.le_refl _) _)).mono ?_
  rintro e w1 ⟨rfl, hb⟩
  have hbr : Below w.heap.size w w1 := ((Below.refl _ _).alloc (Nat.le_refl _) (.cells #[.slice A ns.length cap] 24)).trans (hb.mono (by simp))
  clear hb
  go_wp2
  go_ret
  exact ⟨rfl, hbr⟩
set_option maxRecDepth 100000 in
set_option maxHeartbeats 4000000 in
theorem rcheck_empty (ns : List NL) (h1 : 1 ≤ ns.length) (h2 : ns.length ≤ 1024) (w : World) (A : Option Addr) (cap : Nat) (C : ∀ w0 : World, Below w.heap.size w w0 → Calls Tryz.prog 38 #[.slice A ns.length cap] w0 fun e w' => (∃ v, e = .returned (.tuple #[v, .bool true]) ∧ OwnR w' w0.heap.size v []) ∧ Below w0.heap.size w0 w') : Calls Tryz.prog 19 #[.agg #[.slice A ns.length cap]] w fun e w' => e = .returned (.int .i64 20) ∧ Below w.heap.size w w' := by
  have h3 : ¬ (ns.length : Int) < 1 := by omega
  have h4 : ¬ (ns.length : Int) > 1024 := by omega
  have CH := Lib.hid C
  clear C
  go_enter Tryz.func19, Tryz.ntmps19
  go_wp2_with fail
  go_at_call 38
  refine (CH.out _ ((Below.refl _ _).alloc (Nat.le_refl _) _)).mono ?_
  rintro e w1 ⟨⟨v, rfl, hown⟩, hb⟩
  have hbr : Below w.heap.size w w1 := ((Below.refl _ _).alloc (Nat.le_refl _) (.cells #[.slice A ns.length cap] 24)).trans (hb.mono (by simp))
  rcases hown.form (n := 0) rfl with ⟨_, rfl⟩ | ⟨g, cap', rfl, hBg, hgw, hle, hrow⟩
  · clear hb hown
    go_wp2
    go_ret
    exact ⟨rfl, hbr⟩
  · clear hb hown hrow
    go_wp2
    go_ret
    exact ⟨rfl, hbr⟩
set_option maxRecDepth 100000 in
set_option maxHeartbeats 4000000 in
theorem rcheck_more (ns : List NL) (h1 : 1 ≤ ns.length) (h2 : ns.length ≤ 1024) (st : List PL) (k : Nat) (hk : st.length = k + 2) (w : World) (A : Option Addr) (cap : Nat) (C : ∀ w0 : World, Below w.heap.size w w0 → Calls Tryz.prog 38 #[.slice A ns.length cap] w0 fun e w' => (∃ v, e = .returned (.tuple #[v, .bool true]) ∧ OwnR w' w0.heap.size v st) ∧ Below w0.heap.size w0 w') : Calls Tryz.prog 19 #[.agg #[.slice A ns.length cap]] w fun e w' => e = .returned (.int .i64 20) ∧ Below w.heap.size w w' := by
  have h3 : ¬ (ns.length : Int) < 1 := by omega
  have h4 : ¬ (ns.length : Int) > 1024 := by omega
  have CH := Lib.hid C
  clear C
  go_enter Tryz.func19, Tryz.ntmps19
  go_wp2_with fail
  go_at_call 38
  refine (CH.out _ ((Below.refl _ _).alloc (Nat.le_refl _) _)).mono ?_
  rintro e w1 ⟨⟨v, rfl, hown⟩, hb⟩
  have hbr : Below w.heap.size w w1 := ((Below.refl _ _).alloc (Nat.le_refl _) (.cells #[.slice A ns.length cap] 24)).trans (hb.mono (by simp))
  have hk1 : ¬ ((k : Int) + 2 = 1) := by omega
  have hk2 : ¬ (k + 2 = 1) := by omega
  rcases hown.form hk with ⟨h0, _⟩ | ⟨g, cap', rfl, hBg, hgw, hle, hrow⟩
  · omega
  clear hb hown hrow hk
  go_wp2
  go_ret
  exact ⟨rfl, hbr⟩
set_option maxRecDepth 100000 in
set_option maxHeartbeats 4000000 in
theorem rcheck_rect (ns : List NL) (h1 : 1 ≤ ns.length) (h2 : ns.length ≤ 1024) (p : PL) (hpm : p.many = true) (w : World) (A : Option Addr) (cap : Nat) (C : ∀ w0 : World, Below w.heap.size w w0 → Calls Tryz.prog 38 #[.slice A ns.length cap] w0 fun e w' => (∃ v, e = .returned (.tuple #[v, .bool true]) ∧ OwnR w' w0.heap.size v [p]) ∧ Below w0.heap.size w0 w') : Calls Tryz.prog 19 #[.agg #[.slice A ns.length cap]] w fun e w' => e = .returned (.int .i64 20) ∧ Below w.heap.size w w' := by
  have h3 : ¬ (ns.length : Int) < 1 := by omega
  have h4 : ¬ (ns.length : Int) > 1024 := by omega
  have CH := Lib.hid C
  clear C
  go_enter Tryz.func19, Tryz.ntmps19
  go_wp2_with fail
  go_at_call 38
  refine (CH.out _ ((Below.refl _ _).alloc (Nat.le_refl _) _)).mono ?_
  rintro e w1 ⟨⟨v, rfl, hown⟩, hb⟩
  have hbr : Below w.heap.size w w1 := ((Below.refl _ _).alloc (Nat.le_refl _) (.cells #[.slice A ns.length cap] 24)).trans (hb.mono (by simp))
  rcases hown.form (n := 1) rfl with ⟨h0, _⟩ | ⟨g, cap', rfl, hBg, hgw, hle, hrow⟩
  · omega
  have hq0 : w1.cell? ⟨g, 0, none⟩ = some (.int .i64 p.depth) := (hrow 0 (by omega)).trans rfl
  have hq2 : w1.cell? ⟨g, 2, none⟩ = some (.bool true) := (hrow 2 (by omega)).trans (by rw [← hpm]; rfl)
  clear hb hown hrow hpm
  go_wp2
  go_ret
  exact ⟨rfl, hbr⟩
set_option maxRecDepth 100000 in
set_option maxHeartbeats 4000000 in
theorem rcheck_deep (ns : List NL) (h1 : 1 ≤ ns.length) (h2 : ns.length ≤ 1024) (p : PL) (hpm : p.many = false) (hd : 32 < p.depth) (w : World) (A : Option Addr) (cap : Nat) (C : ∀ w0 : World, Below w.heap.size w w0 → Calls Tryz.prog 38 #[.slice A ns.length cap] w0 fun e w' => (∃ v, e = .returned (.tuple #[v, .bool true]) ∧ OwnR w' w0.heap.size v [p]) ∧ Below w0.heap.size w0 w') : Calls Tryz.prog 19 #[.agg #[.slice A ns.length cap]] w fun e w' => e = .returned (.int .i64 20) ∧ Below w.heap.size w w' := by
  have h3 : ¬ (ns.length : Int) < 1 := by omega
  have h4 : ¬ (ns.length : Int) > 1024 := by omega
  have CH := Lib.hid C
  clear C
  go_enter Tryz.func19, Tryz.ntmps19
  go_wp2_with fail
  go_at_call 38
  refine (CH.out _ ((Below.refl _ _).alloc (Nat.le_refl _) _)).mono ?_
  rintro e w1 ⟨⟨v, rfl, hown⟩, hb⟩
  have hbr : Below w.heap.size w w1 := ((Below.refl _ _).alloc (Nat.le_refl _) (.cells #[.slice A ns.length cap] 24)).trans (hb.mono (by simp))
  rcases hown.form (n := 1) rfl with ⟨h0, _⟩ | ⟨g, cap', rfl, hBg, hgw, hle, hrow⟩
  · omega
  have hq0 : w1.cell? ⟨g, 0, none⟩ = some (.int .i64 p.depth) := (hrow 0 (by omega)).trans rfl
  have hq2 : w1.cell? ⟨g, 2, none⟩ = some (.bool false) := (hrow 2 (by omega)).trans (by rw [← hpm]; rfl)
  have hd2 : p.depth > 32 := by omega
  clear hb hown hrow hpm
  go_wp2
  go_ret
  exact ⟨rfl, hbr⟩
set_option maxRecDepth 100000 in
set_option maxHeartbeats 4000000 in
theorem rcheck_yes (ns : List NL) (h1 : 1 ≤ ns.length) (h2 : ns.length ≤ 1024) (p : PL) (hpm : p.many = false) (hd : p.depth ≤ 32) (w : World) (A : Option Addr) (cap : Nat) (C : ∀ w0 : World, Below w.heap.size w w0 → Calls Tryz.prog 38 #[.slice A ns.length cap] w0 fun e w' => (∃ v, e = .returned (.tuple #[v, .bool true]) ∧ OwnR w' w0.heap.size v [p]) ∧ Below w0.heap.size w0 w') : Calls Tryz.prog 19 #[.agg #[.slice A ns.length cap]] w fun e w' => e = .returned (.int .i64 0) ∧ Below w.heap.size w w' := by
  have h3 : ¬ (ns.length : Int) < 1 := by omega
  have h4 : ¬ (ns.length : Int) > 1024 := by omega
  have CH := Lib.hid C
  clear C
  go_enter Tryz.func19, Tryz.ntmps19
  go_wp2_with fail
  go_at_call 38
  refine (CH.out _ ((Below.refl _ _).alloc (Nat.le_refl _) _)).mono ?_
  rintro e w1 ⟨⟨v, rfl, hown⟩, hb⟩
  have hbr : Below w.heap.size w w1 := ((Below.refl _ _).alloc (Nat.le_refl _) (.cells #[.slice A ns.length cap] 24)).trans (hb.mono (by simp))
  rcases hown.form (n := 1) rfl with ⟨h0, _⟩ | ⟨g, cap', rfl, hBg, hgw, hle, hrow⟩
  · omega
  have hq0 : w1.cell? ⟨g, 0, none⟩ = some (.int .i64 p.depth) := (hrow 0 (by omega)).trans rfl
  have hq2 : w1.cell? ⟨g, 2, none⟩ = some (.bool false) := (hrow 2 (by omega)).trans (by rw [← hpm]; rfl)
  have hd2 : ¬ p.depth > 32 := by omega
  clear hb hown hrow hpm
  go_wp2
  go_ret
  exact ⟨rfl, hbr⟩
theorem rcheck (ns : List NL) (hok : ∀ n ∈ ns, n.ok) (w : World) (A : Option Addr) (cap : Nat) (hR : RdB w w.heap.size A 15 (ns.map NL.cs)) (r : Bool) (h : checkP ns = r) : Calls Tryz.prog 19 #[.agg #[.slice A ns.length cap]] w fun e w' => e = .returned (.int .i64 (if r then 0 else 20)) ∧ Below w.heap.size w w' := by
  subst h
  by_cases h1 : ns.length < 1
  · rw [show checkP ns = false by unfold checkP depthP; rw [if_pos (Or.inl h1)]]
    exact rcheck_few ns h1 w A cap
  by_cases h2 : 1024 < ns.length
  · rw [show checkP ns = false by unfold checkP depthP; rw [if_pos (Or.inr h2)]]
    exact rcheck_many ns h2 w A cap
  have h12 : ¬ (ns.length < 1 ∨ 1024 < ns.length) := by omega
  have CP : ∀ w0 : World, Below w.heap.size w w0 → _ := fun w0 hb0 => rput ns (by omega) hok w0 A cap ((hR.below hb0).mono hb0.size)
  cases hp : putP ns with
  | none =>
    rw [show checkP ns = false by unfold checkP depthP; rw [if_neg h12, hp]]
    refine rcheck_none ns (by omega) (by omega) w A cap fun w0 hb0 => (CP w0 hb0).mono fun e w' hq => ?_
    obtain ⟨hq | hq, hb⟩ := hq
    · obtain ⟨v, st, e1, _⟩ := hq
      rw [hp] at e1; cases e1
    · exact ⟨hq.2, hb⟩
  | some st =>
    have CS : ∀ w0 : World, Below w.heap.size w w0 → Calls Tryz.prog 38 #[.slice A ns.length cap] w0 fun e w' => (∃ v, e = .returned (.tuple #[v, .bool true]) ∧ OwnR w' w0.heap.size v st) ∧ Below w0.heap.size w0 w' := fun w0 hb0 => (CP w0 hb0).mono fun e w' hq => by
      obtain ⟨hq | hq, hb⟩ := hq
      · obtain ⟨v, st', e1, e2, e3⟩ := hq
        rw [hp] at e1; cases e1
        exact ⟨⟨v, e2, e3⟩, hb⟩
      · rw [hp] at hq; cases hq.1
    rcases st with _ | ⟨p, _ | ⟨p2, st⟩⟩
    · rw [show checkP ns = false by unfold checkP depthP; rw [if_neg h12, hp]]
      exact rcheck_empty ns (by omega) (by omega) w A cap CS
    · cases hm : p.many
      · by_cases hd : p.depth ≤ 32
        · rw [show checkP ns = true by unfold checkP depthP; rw [if_neg h12, hp]; simp [hm, hd]]
          exact rcheck_yes ns (by omega) (by omega) p hm hd w A cap CS
        · rw [show checkP ns = false by unfold checkP depthP; rw [if_neg h12, hp]; simp [hm]; omega]
          exact rcheck_deep ns (by omega) (by omega) p hm (by omega) w A cap CS
      · rw [show checkP ns = false by unfold checkP depthP; rw [if_neg h12, hp]; simp [hm]]
        exact rcheck_rect ns (by omega) (by omega) p hm w A cap CS
    · rw [show checkP ns = false by unfold checkP depthP; rw [if_neg h12, hp]]
      exact rcheck_more ns (by omega) (by omega) (p :: p2 :: st) st.length (by simp) w A cap CS
set_option maxRecDepth 100000 in
set_option maxHeartbeats 4000000 in
theorem r7print_no (ns : List NL) (hok : ∀ n ∈ ns, n.ok) (w : World) (A : Option Addr) (cap : Nat) (hR : RdB w w.heap.size A 15 (ns.map NL.cs)) (hc : checkP ns = false) : Calls Tryz.prog 6 #[.agg #[.slice A ns.length cap]] w fun e w' => e = .returned (.tuple #[.string ⟨#[]⟩, .int .i64 20]) ∧ Below w.heap.size w w' := by
  have C : ∀ w0 : World, Below w.heap.size w w0 → Calls Tryz.prog 19 #[.agg #[.slice A ns.length cap]] w0 fun e w' => e = .returned (.int .i64 20) ∧ Below w0.heap.size w0 w' := fun w0 hb0 => rcheck ns hok w0 A cap ((hR.below hb0).mono hb0.size) false hc
  have CH := Lib.hid C
  clear C hR hc hok
  go_enter Tryz.func6, Tryz.ntmps6
  go_wp2_with fail
  go_at_call 19
  refine (CH.out _ ((Below.refl _ _).alloc (Nat.le_refl _) _)).mono ?_
  rintro e w1 ⟨rfl, hb⟩
  have hbr : Below w.heap.size w w1 := ((Below.refl _ _).alloc (Nat.le_refl _) (.cells #[.slice A ns.length cap] 24)).trans (hb.mono (by simp))
  go_wp2
  go_ret2
  exact ⟨rfl, hbr⟩
set_option maxRecDepth 100000 in
set_option maxHeartbeats 4000000 in
theorem r7print_yes (ns : List NL) (hok : ∀ n ∈ ns, n.ok) (hsz : ∀ n ∈ ns, n.v.s.size ≤ 1048576) (w : World) (ht : Tab w) (A : Option Addr) (cap : Nat) (hcap : ns.length ≤ cap) (hR : RdB w w.heap.size A 15 (ns.map NL.cs)) (hc : checkP ns = true) : Calls Tryz.prog 6 #[.agg #[.slice A ns.length cap]] w fun e w' => e = .returned (.tuple #[.string ⟨(formT ns).toArray⟩, .int .i64 0]) ∧ Below w.heap.size w w' := by
  have C : ∀ w0 : World, Below w.heap.size w w0 → Calls Tryz.prog 19 #[.agg #[.slice A ns.length cap]] w0 fun e w' => e = .returned (.int .i64 0) ∧ Below w0.heap.size w0 w' := fun w0 hb0 => rcheck ns hok w0 A cap ((hR.below hb0).mono hb0.size) true hc
  have CH := Lib.hid C
  obtain ⟨x, used, hf, hxl, hx⟩ := text_form ns hc hok hsz
  have CX : ∀ w0 : World, Below w.heap.size w w0 → Calls Tryz.prog 20 #[.slice A ns.length cap] w0 fun e w' => e = .returned (.tuple #[.string ⟨x.text.toArray⟩, .int .i64 x.binds, .int .i64 (used : Int)]) ∧ Below w0.heap.size w0 w' := fun w0 hb0 => hx w0 A cap (Tab.below ht hb0) hcap ((hR.below hb0).mono hb0.size)
  have CXH := Lib.hid CX
  have hfH := Lib.hid hf
  clear C CX hR hc hok hsz hx hf ht
  go_enter Tryz.func6, Tryz.ntmps6
  go_wp2_with fail
  go_at_call 19
  refine (CH.out _ ((Below.refl _ _).alloc (Nat.le_refl _) _)).mono ?_
  rintro e w1 ⟨rfl, hb⟩
  have hbr : Below w.heap.size w w1 := ((Below.refl _ _).alloc (Nat.le_refl _) (.cells #[.slice A ns.length cap] 24)).trans (hb.mono (by simp))
  have hf1 : w1.cell? ⟨w.heap.size, 0, none⟩ = some (.slice A ns.length cap) := (hb.cell (p := ⟨w.heap.size, 0, none⟩) (by show _ < (World.alloc _ _).heap.size; simp)).trans (by simp [go_sem])
  clear hb
  go_wp2_with fail
  go_at_call 20
  refine (CXH.out _ hbr).mono ?_
  rintro e w2 ⟨rfl, hb⟩
  have hbr2 : Below w.heap.size w w2 := hbr.trans (hb.mono hbr.size)
  clear hb
  go_wp2
  go_ret2
  exact ⟨by rw [hfH.out, show (⟨(61 :: x.text).toArray⟩ : ByteArray) = ⟨#[61]⟩ ++ ⟨x.text.toArray⟩ by apply ByteArray.ext; simp]; rfl, hbr2⟩
end Go.Proofs.YtfbkoieodflcpaaGreatDoor
