/-
  ParseRect of package addr: what it tells of any text; The document's own names of cells: column, digits, Name; The document's own Parse; The document's own ParseRect.
-/
import Derived.Test.YtiekhbagpmnboaaGreatDoorRows
import Derived.Test.YtiekhbagpmnboaaGreatDoorMg0
import Derived.Test.YtiekhbagpmnboaaGreatDoorAddrC
import Derived.Test.YtiekhbagpmnboaaGreatDoorMg2
import Derived.Test.YtiekhbagpmnboaaGreatDoorProg
import Derived.WalkSpells
import Derived.WalkLawsBesides
import Derived.StillTactics
import Derived.Laws.Pointers
import Derived.Deep.RegionHeld3
import Derived.Deep.QuietTactic
import Derived.BigQuiet
import Derived.RowKit3
import Derived.Lib.Hide
import Derived.Lib.OthersKept
import Derived.WalkKit
import Derived.ProofKit
import Derived.OpenShut
import Derived.Carry
import Derived.ChangeSame
import Derived.Deep.Draws
import Derived.OwnWalk
import Derived.Lib.IndexLaws
import Derived.Lib.ItoaNum
import Derived.Lib.ItoaMem
import Derived.Shelf.Strings.Builder1
import Derived.Shelf.Strings.Trim
import Derived.Shelf.Small.Utf8
import Derived.Shelf.Small.Strs
import Derived.Shelf.Small.Wraps
import Derived.Shelf.Strings.BuilderF
import Derived.Shelf.Strings.BuilderK
import Derived.Shelf.Strconv.Itoa0
import Derived.Shelf.Strconv.Itoa1
import Derived.Shelf.LaysM
import Derived.Shelf.Strconv.Itoa2
import Derived.Shelf.Strconv.Itoa3
import Derived.Ground.MpProg
import Derived.Shelf.Pu.ParseUintPublic10
import Derived.Shelf.Strings.Search1
import Derived.Shelf.Strings.Search2
import Derived.Shelf.Strings.Cut
import Derived.Shelf.Strings.Shaped
import Derived.Shelf.Strings.Prefix
import Derived.Shelf.Strings.Runes
import Derived.Shelf.Strings.AsciiSet
import Derived.Shelf.Unicode.DecodeSlow
namespace Go.Proofs.YtiekhbagpmnboaaGreatDoor
open Go.RowKit

/-- what ParseRect tells of a text -/
def parseRect (l : List UInt8) : Option (Int × Int × Int × Int) :=
  if Lib.indexByte l 58 = -1 then .none
  else
    let a := l.take (Lib.indexByte l 58).toNat
    let b := l.drop ((Lib.indexByte l 58).toNat + 1)
    if pOk a && pOk b && mayRectB (pRow a) (pCol a) (pRow b) (pCol b) then some (pRow a, pCol a, pRow b, pCol b) else .none
def qT (l : List UInt8) : Int := match parseRect l with | some x => x.1 | .none => 0
def qL (l : List UInt8) : Int := match parseRect l with | some x => x.2.1 | .none => 0
def qB (l : List UInt8) : Int := match parseRect l with | some x => x.2.2.1 | .none => 0
def qR (l : List UInt8) : Int := match parseRect l with | some x => x.2.2.2 | .none => 0
def qOk (l : List UInt8) : Bool := (parseRect l).isSome
theorem prect_no {l : List UInt8} (h : Lib.indexByte l 58 = -1) : parseRect l = .none := by unfold parseRect; rw [if_pos h]
theorem prect_at {l a b : List UInt8} {o : Nat} (h : Lib.indexByte l 58 = o) (ha : a = l.take o) (hb : b = l.drop (o + 1)) :
    parseRect l = if pOk a && pOk b && mayRectB (pRow a) (pCol a) (pRow b) (pCol b) then some (pRow a, pCol a, pRow b, pCol b) else .none := by
  subst ha hb
  unfold parseRect
  rw [if_neg (by omega), h]
  simp
theorem idx_of {l : List UInt8} {c : UInt8} {i : Nat} (h : l[i]? = some c) (hb : ∀ k, k < i → l[k]? ≠ some c) : Lib.indexByte l c = i := by
  rcases idx_cases l c with h0 | ⟨o, ho, _⟩
  · exact absurd h (Lib.indexByte_none h0 i)
  · obtain ⟨h1, h2⟩ := Lib.indexByte_some ho
    rcases Nat.lt_trichotomy o i with hlt | heq | hgt
    · exact absurd h1 (hb o hlt)
    · rw [ho, heq]
    · exact absurd h (h2 i hgt)
theorem idx_no {l : List UInt8} {c : UInt8} (hb : ∀ k, k < l.length → l[k]? ≠ some c) : Lib.indexByte l c = -1 := by
  rcases idx_cases l c with h0 | ⟨o, ho, hlt⟩
  · exact h0
  · exact absurd (Lib.indexByte_some ho).1 (hb o hlt)

theorem pcall (l : List UInt8) (hm : l.length ≤ 9223372036854775807) (w : World) :
    Calls Tryz.prog 84 #[.string ⟨l.toArray⟩] w fun e w' => e = .returned (.tuple #[.agg #[.int .i64 (pRow l), .int .i64 (pCol l)], .bool (pOk l)]) ∧ Below w.heap.size w w' := by
  by_cases h : l.length ≤ 6
  · simpa using parse_short ⟨l.toArray⟩ (by show l.toArray.size ≤ 6; simpa using h) w
  · simpa using parse_long ⟨l.toArray⟩ (by show 6 < l.toArray.size; simpa using Nat.not_le.1 h) (by show l.toArray.size ≤ maxLen; simpa [maxLen] using hm) w

set_option maxHeartbeats 400000 in
theorem prect_none (l : List UInt8) (h : Lib.indexByte l 58 = -1) (w : World) : Calls Tryz.prog 83 #[.string ⟨l.toArray⟩] w fun e w' => e = .returned (.tuple #[.agg #[.int .i64 (qT l), .int .i64 (qL l), .int .i64 (qB l), .int .i64 (qR l)], .bool (qOk l)]) ∧ Below w.heap.size w w' := by
  have hp := Lib.hid (prect_no h)
  have h' := Lib.hid h
  clear h
  go_enter Tryz.func83, Tryz.ntmps83
  go_wp2_with fail
  refine (scut0 l 58 h'.out _).mono ?_
  rintro e w1 ⟨rfl, hb1⟩
  obtain ⟨hc, hf, hz⟩ := bkeep hb1 (w.heap.size + 1) (by simp)
  go_wp2
  all_goals refine bodyPost_ret (v := .tuple #[.agg #[.int .i64 (qT l), .int .i64 (qL l), .int .i64 (qB l), .int .i64 (qR l)], .bool (qOk l)]) ?_ rfl ⟨rfl, by (repeat (first | (with_reducible exact Below.refl _ _) | (with_reducible refine Below.alloc ?_ (by first | omega | (dsimp only; omega) | (simp <;> omega)) _) | (with_reducible refine Below.setCell ?_ (by first | omega | (dsimp only; omega) | (simp <;> omega)) _) | (with_reducible refine Below.drew ?_) | (with_reducible refine below_drewN ?_ _) | (with_reducible refine Below.trans ?_ (Below.mono (by assumption) (by first | omega | (dsimp only; omega) | (simp <;> omega))))))⟩
  all_goals simp [results, Tryz.results83, go_sem, qT, qL, qB, qR, qOk, hp.out, *]

set_option maxHeartbeats 1000000 in
theorem prect_some0 (l : List UInt8) (o : Nat) (h : Lib.indexByte l 58 = o) (ho : o < l.length) (hm : l.length ≤ 9223372036854775807) (a b : List UInt8) (ha : a = l.take o) (hb : b = l.drop (o + 1))
    (g1 : pOk a = true) (g2 : pOk b = true) (g3 : mayRectB (pRow a) (pCol a) (pRow b) (pCol b) = true) (w : World) : Calls Tryz.prog 83 #[.string ⟨l.toArray⟩] w fun e w' => e = .returned (.tuple #[.agg #[.int .i64 (qT l), .int .i64 (qL l), .int .i64 (qB l), .int .i64 (qR l)], .bool (qOk l)]) ∧ Below w.heap.size w w' := by
  have hla : a.length ≤ 9223372036854775807 := by rw [ha]; simp; omega
  have hlb : b.length ≤ 9223372036854775807 := by rw [hb]; simp; omega
  have hp := prect_at h ha hb
  rw [g1, g2, g3] at hp
  have hp' := Lib.hid (show parseRect l = some (pRow a, pCol a, pRow b, pCol b) from hp)
  have H := Lib.hid (And.intro h (And.intro ha hb))
  clear hp h ha hb
  go_enter Tryz.func83, Tryz.ntmps83
  go_wp2_with fail
  refine (scut1 l 58 o H.out.1 ho hm _).mono ?_
  rintro e w1 ⟨rfl, hb1⟩
  rw [← H.out.2.1, ← H.out.2.2]
  obtain ⟨hc1, hf1, hz1⟩ := bkeep hb1 (w.heap.size + 1) (by simp)
  go_wp2_with fail
  refine (pcall a hla _).mono ?_
  rintro e w2 ⟨rfl, hb2⟩
  obtain ⟨hc2, hf2, hz2⟩ := bkeep hb2 (w.heap.size + 1) hz1
  have y1 : w.heap.size < w2.heap.size := by omega
  have y2 : w.heap.size < w2.heap.size + 1 := by omega
  go_wp2_with fail
  refine (pcall b hlb _).mono ?_
  rintro e w3 ⟨rfl, hb3⟩
  obtain ⟨hc3, hf3, hz3⟩ := bkeep hb3 (w2.heap.size + 1) (by simp)
  have y3 : w.heap.size < w3.heap.size := by omega
  have y4 : w.heap.size < w3.heap.size + 1 := by omega
  have y5 : w.heap.size < w3.heap.size + 2 := by omega
  have y6 : w2.heap.size < w3.heap.size := by omega
  have y7 : w2.heap.size < w3.heap.size + 1 := by omega
  have y8 : w2.heap.size < w3.heap.size + 2 := by omega
  go_wp2_with (go_at_call 93; refine (mayRect_any _ _ _ _ _).mono ?_; rintro e w4 ⟨rfl, hb4⟩; obtain ⟨hc4, hf4, hz4⟩ := bkeep hb4 (w3.heap.size + 2) (by simp))
  all_goals refine bodyPost_ret (v := .tuple #[.agg #[.int .i64 (qT l), .int .i64 (qL l), .int .i64 (qB l), .int .i64 (qR l)], .bool (qOk l)]) ?_ rfl ⟨rfl, by (repeat (first | (with_reducible exact Below.refl _ _) | (with_reducible refine Below.alloc ?_ (by first | omega | (dsimp only; omega) | (simp <;> omega)) _) | (with_reducible refine Below.setCell ?_ (by first | omega | (dsimp only; omega) | (simp <;> omega)) _) | (with_reducible refine Below.drew ?_) | (with_reducible refine below_drewN ?_ _) | (with_reducible refine Below.trans ?_ (Below.mono (by assumption) (by first | omega | (dsimp only; omega) | (simp <;> omega))))))⟩
  all_goals simp [results, Tryz.results83, go_sem, qT, qL, qB, qR, qOk, hp'.out, *]

set_option maxHeartbeats 1000000 in
theorem prect_some1 (l : List UInt8) (o : Nat) (h : Lib.indexByte l 58 = o) (ho : o < l.length) (hm : l.length ≤ 9223372036854775807) (a b : List UInt8) (ha : a = l.take o) (hb : b = l.drop (o + 1))
    (g1 : pOk a = true) (g2 : pOk b = true) (g3 : mayRectB (pRow a) (pCol a) (pRow b) (pCol b) = false) (w : World) : Calls Tryz.prog 83 #[.string ⟨l.toArray⟩] w fun e w' => e = .returned (.tuple #[.agg #[.int .i64 (qT l), .int .i64 (qL l), .int .i64 (qB l), .int .i64 (qR l)], .bool (qOk l)]) ∧ Below w.heap.size w w' := by
  have hla : a.length ≤ 9223372036854775807 := by rw [ha]; simp; omega
  have hlb : b.length ≤ 9223372036854775807 := by rw [hb]; simp; omega
  have hp := prect_at h ha hb
  rw [g1, g2, g3] at hp
  have hp' := Lib.hid (show parseRect l = .none from hp)
  have H := Lib.hid (And.intro h (And.intro ha hb))
  clear hp h ha hb
  go_enter Tryz.func83, Tryz.ntmps83
  go_wp2_with fail
  refine (scut1 l 58 o H.out.1 ho hm _).mono ?_
  rintro e w1 ⟨rfl, hb1⟩
  rw [← H.out.2.1, ← H.out.2.2]
  obtain ⟨hc1, hf1, hz1⟩ := bkeep hb1 (w.heap.size + 1) (by simp)
  go_wp2_with fail
  refine (pcall a hla _).mono ?_
  rintro e w2 ⟨rfl, hb2⟩
  obtain ⟨hc2, hf2, hz2⟩ := bkeep hb2 (w.heap.size + 1) hz1
  have y1 : w.heap.size < w2.heap.size := by omega
  have y2 : w.heap.size < w2.heap.size + 1 := by omega
  go_wp2_with fail
  refine (pcall b hlb _).mono ?_
  rintro e w3 ⟨rfl, hb3⟩
  obtain ⟨hc3, hf3, hz3⟩ := bkeep hb3 (w2.heap.size + 1) (by simp)
  have y3 : w.heap.size < w3.heap.size := by omega
  have y4 : w.heap.size < w3.heap.size + 1 := by omega
  have y5 : w.heap.size < w3.heap.size + 2 := by omega
  have y6 : w2.heap.size < w3.heap.size := by omega
  have y7 : w2.heap.size < w3.heap.size + 1 := by omega
  have y8 : w2.heap.size < w3.heap.size + 2 := by omega
  go_wp2_with (go_at_call 93; refine (mayRect_any _ _ _ _ _).mono ?_; rintro e w4 ⟨rfl, hb4⟩; obtain ⟨hc4, hf4, hz4⟩ := bkeep hb4 (w3.heap.size + 2) (by simp))
  all_goals refine bodyPost_ret (v := .tuple #[.agg #[.int .i64 (qT l), .int .i64 (qL l), .int .i64 (qB l), .int .i64 (qR l)], .bool (qOk l)]) ?_ rfl ⟨rfl, by (repeat (first | (with_reducible exact Below.refl _ _) | (with_reducible refine Below.alloc ?_ (by first | omega | (dsimp only; omega) | (simp <;> omega)) _) | (with_reducible refine Below.setCell ?_ (by first | omega | (dsimp only; omega) | (simp <;> omega)) _) | (with_reducible refine Below.drew ?_) | (with_reducible refine below_drewN ?_ _) | (with_reducible refine Below.trans ?_ (Below.mono (by assumption) (by first | omega | (dsimp only; omega) | (simp <;> omega))))))⟩
  all_goals simp [results, Tryz.results83, go_sem, qT, qL, qB, qR, qOk, hp'.out, *]

set_option maxHeartbeats 1000000 in
theorem prect_some2 (l : List UInt8) (o : Nat) (h : Lib.indexByte l 58 = o) (ho : o < l.length) (hm : l.length ≤ 9223372036854775807) (a b : List UInt8) (ha : a = l.take o) (hb : b = l.drop (o + 1))
    (g1 : pOk a = true) (g2 : pOk b = false) (w : World) : Calls Tryz.prog 83 #[.string ⟨l.toArray⟩] w fun e w' => e = .returned (.tuple #[.agg #[.int .i64 (qT l), .int .i64 (qL l), .int .i64 (qB l), .int .i64 (qR l)], .bool (qOk l)]) ∧ Below w.heap.size w w' := by
  have hla : a.length ≤ 9223372036854775807 := by rw [ha]; simp; omega
  have hlb : b.length ≤ 9223372036854775807 := by rw [hb]; simp; omega
  have hp := prect_at h ha hb
  rw [g1, g2] at hp
  have hp' := Lib.hid (show parseRect l = .none from hp)
  have H := Lib.hid (And.intro h (And.intro ha hb))
  clear hp h ha hb
  go_enter Tryz.func83, Tryz.ntmps83
  go_wp2_with fail
  refine (scut1 l 58 o H.out.1 ho hm _).mono ?_
  rintro e w1 ⟨rfl, hb1⟩
  rw [← H.out.2.1, ← H.out.2.2]
  obtain ⟨hc1, hf1, hz1⟩ := bkeep hb1 (w.heap.size + 1) (by simp)
  go_wp2_with fail
  refine (pcall a hla _).mono ?_
  rintro e w2 ⟨rfl, hb2⟩
  obtain ⟨hc2, hf2, hz2⟩ := bkeep hb2 (w.heap.size + 1) hz1
  have y1 : w.heap.size < w2.heap.size := by omega
  have y2 : w.heap.size < w2.heap.size + 1 := by omega
  go_wp2_with fail
  refine (pcall b hlb _).mono ?_
  rintro e w3 ⟨rfl, hb3⟩
  obtain ⟨hc3, hf3, hz3⟩ := bkeep hb3 (w2.heap.size + 1) (by simp)
  have y3 : w.heap.size < w3.heap.size := by omega
  have y4 : w.heap.size < w3.heap.size + 1 := by omega
  have y5 : w.heap.size < w3.heap.size + 2 := by omega
  have y6 : w2.heap.size < w3.heap.size := by omega
  have y7 : w2.heap.size < w3.heap.size + 1 := by omega
  have y8 : w2.heap.size < w3.heap.size + 2 := by omega
  go_wp2_with (go_at_call 93; refine (mayRect_any _ _ _ _ _).mono ?_; rintro e w4 ⟨rfl, hb4⟩; obtain ⟨hc4, hf4, hz4⟩ := bkeep hb4 (w3.heap.size + 2) (by simp))
  all_goals refine bodyPost_ret (v := .tuple #[.agg #[.int .i64 (qT l), .int .i64 (qL l), .int .i64 (qB l), .int .i64 (qR l)], .bool (qOk l)]) ?_ rfl ⟨rfl, by (repeat (first | (with_reducible exact Below.refl _ _) | (with_reducible refine Below.alloc ?_ (by first | omega | (dsimp only; omega) | (simp <;> omega)) _) | (with_reducible refine Below.setCell ?_ (by first | omega | (dsimp only; omega) | (simp <;> omega)) _) | (with_reducible refine Below.drew ?_) | (with_reducible refine below_drewN ?_ _) | (with_reducible refine Below.trans ?_ (Below.mono (by assumption) (by first | omega | (dsimp only; omega) | (simp <;> omega))))))⟩
  all_goals simp [results, Tryz.results83, go_sem, qT, qL, qB, qR, qOk, hp'.out, *]

set_option maxHeartbeats 1000000 in
theorem prect_some3 (l : List UInt8) (o : Nat) (h : Lib.indexByte l 58 = o) (ho : o < l.length) (hm : l.length ≤ 9223372036854775807) (a b : List UInt8) (ha : a = l.take o) (hb : b = l.drop (o + 1))
    (g1 : pOk a = false) (w : World) : Calls Tryz.prog 83 #[.string ⟨l.toArray⟩] w fun e w' => e = .returned (.tuple #[.agg #[.int .i64 (qT l), .int .i64 (qL l), .int .i64 (qB l), .int .i64 (qR l)], .bool (qOk l)]) ∧ Below w.heap.size w w' := by
  have hla : a.length ≤ 9223372036854775807 := by rw [ha]; simp; omega
  have hlb : b.length ≤ 9223372036854775807 := by rw [hb]; simp; omega
  have hp := prect_at h ha hb
  rw [g1] at hp
  have hp' := Lib.hid (show parseRect l = .none from hp)
  have H := Lib.hid (And.intro h (And.intro ha hb))
  clear hp h ha hb
  go_enter Tryz.func83, Tryz.ntmps83
  go_wp2_with fail
  refine (scut1 l 58 o H.out.1 ho hm _).mono ?_
  rintro e w1 ⟨rfl, hb1⟩
  rw [← H.out.2.1, ← H.out.2.2]
  obtain ⟨hc1, hf1, hz1⟩ := bkeep hb1 (w.heap.size + 1) (by simp)
  go_wp2_with fail
  refine (pcall a hla _).mono ?_
  rintro e w2 ⟨rfl, hb2⟩
  obtain ⟨hc2, hf2, hz2⟩ := bkeep hb2 (w.heap.size + 1) hz1
  have y1 : w.heap.size < w2.heap.size := by omega
  have y2 : w.heap.size < w2.heap.size + 1 := by omega
  go_wp2_with fail
  refine (pcall b hlb _).mono ?_
  rintro e w3 ⟨rfl, hb3⟩
  obtain ⟨hc3, hf3, hz3⟩ := bkeep hb3 (w2.heap.size + 1) (by simp)
  have y3 : w.heap.size < w3.heap.size := by omega
  have y4 : w.heap.size < w3.heap.size + 1 := by omega
  have y5 : w.heap.size < w3.heap.size + 2 := by omega
  have y6 : w2.heap.size < w3.heap.size := by omega
  have y7 : w2.heap.size < w3.heap.size + 1 := by omega
  have y8 : w2.heap.size < w3.heap.size + 2 := by omega
  go_wp2_with (go_at_call 93; refine (mayRect_any _ _ _ _ _).mono ?_; rintro e w4 ⟨rfl, hb4⟩; obtain ⟨hc4, hf4, hz4⟩ := bkeep hb4 (w3.heap.size + 2) (by simp))
  all_goals refine bodyPost_ret (v := .tuple #[.agg #[.int .i64 (qT l), .int .i64 (qL l), .int .i64 (qB l), .int .i64 (qR l)], .bool (qOk l)]) ?_ rfl ⟨rfl, by (repeat (first | (with_reducible exact Below.refl _ _) | (with_reducible refine Below.alloc ?_ (by first | omega | (dsimp only; omega) | (simp <;> omega)) _) | (with_reducible refine Below.setCell ?_ (by first | omega | (dsimp only; omega) | (simp <;> omega)) _) | (with_reducible refine Below.drew ?_) | (with_reducible refine below_drewN ?_ _) | (with_reducible refine Below.trans ?_ (Below.mono (by assumption) (by first | omega | (dsimp only; omega) | (simp <;> omega))))))⟩
  all_goals simp [results, Tryz.results83, go_sem, qT, qL, qB, qR, qOk, hp'.out, *]

theorem prect_any (l : List UInt8) (hm : l.length ≤ 9223372036854775807) (w : World) : Calls Tryz.prog 83 #[.string ⟨l.toArray⟩] w fun e w' => e = .returned (.tuple #[.agg #[.int .i64 (qT l), .int .i64 (qL l), .int .i64 (qB l), .int .i64 (qR l)], .bool (qOk l)]) ∧ Below w.heap.size w w' := by
  rcases idx_cases l 58 with h | ⟨o, h, ho⟩
  · exact prect_none l h w
  · cases g1 : pOk (l.take o)
    · exact prect_some3 l o h ho hm _ _ rfl rfl g1 w
    · cases g2 : pOk (l.drop (o + 1))
      · exact prect_some2 l o h ho hm _ _ rfl rfl g1 g2 w
      · cases g3 : mayRectB (pRow (l.take o)) (pCol (l.take o)) (pRow (l.drop (o + 1))) (pCol (l.drop (o + 1)))
        · exact prect_some1 l o h ho hm _ _ rfl rfl g1 g2 g3 w
        · exact prect_some0 l o h ho hm _ _ rfl rfl g1 g2 g3 w
end Go.Proofs.YtiekhbagpmnboaaGreatDoor
namespace Go.Proofs.YtiekhbagpmnboaaGreatDoor
open Go.RowKit

theorem abc_one : ∀ n : Fin 26, (⟨#[65, 66, 67, 68, 69, 70, 71, 72, 73, 74, 75, 76, 77, 78, 79, 80, 81, 82, 83, 84, 85, 86, 87, 88, 89, 90]⟩ : ByteArray).extract n.val (n.val + 1) = ⟨#[UInt8.ofNat (65 + n.val)]⟩ := by decide +kernel
theorem dig_one : ∀ n : Fin 10, (⟨#[48, 49, 50, 51, 52, 53, 54, 55, 56, 57]⟩ : ByteArray).extract n.val (n.val + 1) = ⟨#[UInt8.ofNat (48 + n.val)]⟩ := by decide +kernel
theorem abc_at {n m : Nat} (h : n < 26) (hm : m = n + 1) : (⟨#[65, 66, 67, 68, 69, 70, 71, 72, 73, 74, 75, 76, 77, 78, 79, 80, 81, 82, 83, 84, 85, 86, 87, 88, 89, 90]⟩ : ByteArray).extract n m = ⟨#[UInt8.ofNat (65 + n)]⟩ := by subst hm; exact abc_one ⟨n, h⟩
theorem dig_at {n m : Nat} (h : n < 10) (hm : m = n + 1) : (⟨#[48, 49, 50, 51, 52, 53, 54, 55, 56, 57]⟩ : ByteArray).extract n m = ⟨#[UInt8.ofNat (48 + n)]⟩ := by subst hm; exact dig_one ⟨n, h⟩
theorem bytes_append (a b : List UInt8) : (⟨a.toArray⟩ : ByteArray) ++ ⟨b.toArray⟩ = ⟨(a ++ b).toArray⟩ := by
  apply ByteArray.ext
  simp

set_option maxHeartbeats 400000 in
theorem column_one (n : Nat) (h1 : 1 ≤ n) (h2 : n ≤ 26) (w : World) : Calls Tryz.prog 100 #[.int .i64 n] w fun e w' => e = .returned (.string ⟨(colL n).toArray⟩) ∧ Below w.heap.size w w' := by
  have hc : (⟨(colL n).toArray⟩ : ByteArray) = (⟨#[65, 66, 67, 68, 69, 70, 71, 72, 73, 74, 75, 76, 77, 78, 79, 80, 81, 82, 83, 84, 85, 86, 87, 88, 89, 90]⟩ : ByteArray).extract (n - 1) n := by
    rw [abc_at (by omega) (by omega)]
    unfold colL
    rw [if_pos h2, show 65 + (n - 1) = 64 + n from by omega]
  have hc' := Lib.hid hc
  clear hc
  go_enter Tryz.func100, Tryz.ntmps100
  go_wp2
  go_ret
  exact ⟨by rw [hc'.out]; rfl, Below.refl _ _⟩
set_option maxHeartbeats 400000 in
theorem column_two (n : Nat) (h1 : 27 ≤ n) (h2 : n ≤ 256) (w : World) : Calls Tryz.prog 100 #[.int .i64 n] w fun e w' => e = .returned (.string ⟨(colL n).toArray⟩) ∧ Below w.heap.size w w' := by
  have hc : (⟨(colL n).toArray⟩ : ByteArray) = (⟨#[65, 66, 67, 68, 69, 70, 71, 72, 73, 74, 75, 76, 77, 78, 79, 80, 81, 82, 83, 84, 85, 86, 87, 88, 89, 90]⟩ : ByteArray).extract ((n - 27) / 26) ((n - 27) / 26 + 1) ++ (⟨#[65, 66, 67, 68, 69, 70, 71, 72, 73, 74, 75, 76, 77, 78, 79, 80, 81, 82, 83, 84, 85, 86, 87, 88, 89, 90]⟩ : ByteArray).extract ((n - 27) % 26) ((n - 27) % 26 + 1) := by
    rw [abc_at (by omega) rfl, abc_at (by omega) rfl]
    unfold colL
    rw [if_neg (by omega)]
    exact (bytes_append [_] [_]).symm
  have hc' := Lib.hid hc
  clear hc
  go_enter Tryz.func100, Tryz.ntmps100
  go_wp2
  go_quiet (fail)
  go_wp2
  go_ret
  exact ⟨by rw [hc'.out]; rfl, below_drewN (Below.refl _ _) _⟩
theorem column_any (n : Nat) (h1 : 1 ≤ n) (h2 : n ≤ 256) (w : World) : Calls Tryz.prog 100 #[.int .i64 n] w fun e w' => e = .returned (.string ⟨(colL n).toArray⟩) ∧ Below w.heap.size w w' := by
  by_cases h : n ≤ 26
  · exact column_one n h1 h w
  · exact column_two n (by omega) h2 w
/-- what is left to write, and what is written -/
def digTo (m : Nat) : List UInt8 := if m = 0 then [] else Lib.decDigits m
theorem digTo_step {m : Nat} (h : 0 < m) (l : List UInt8) : digTo (m / 10) ++ ([UInt8.ofNat (48 + m % 10)] ++ l) = digTo m ++ l := by
  unfold digTo
  by_cases h10 : m < 10
  · rw [if_pos (by omega), if_neg (by omega), Lib.decDigits_one h10, show m % 10 = m from by omega]
    simp
  · rw [if_neg (by omega), if_neg (by omega), dec_snoc (r := m) (by omega)]
    simp
theorem digTo_len {n : Nat} (h : n ≤ 4096) : (digTo n).length ≤ 4 := by
  unfold digTo
  split
  · simp
  · exact dec_len (by omega)
set_option maxHeartbeats 400000 in
theorem rf_digits (n : Nat) (h2 : n ≤ 4096) (w : World) : Calls Tryz.prog 122 #[.int .i64 n] w fun e w' => e = .returned (.string ⟨(digTo n).toArray⟩) ∧ Below w.heap.size w w' := by
  go_enter Tryz.func122, Tryz.ntmps122
  go_wp2
  go_loopw [0, 3] (fun m t wr => ∃ (k : Nat) (l : List UInt8), k ≤ n ∧ m = .int .i64 k ∧ t = .string ⟨l.toArray⟩ ∧ digTo k ++ l = digTo n ∧ Below w.heap.size w wr) (fun m _ _ => (intOf m).toNat)
  case atStart => exact ⟨n, [], Nat.le_refl _, rfl, rfl, by simp, Below.refl _ _⟩
  case round =>
    obtain ⟨k, l, hk, rfl, rfl, hl, hb⟩ := hrel
    by_cases h0 : 0 < k
    · have hd := Lib.hid (dig_at (n := k % 10) (by omega) rfl)
      have hst := Lib.hid (digTo_step h0 l)
      have hlen : l.length ≤ 4 := by
        have h4 := digTo_len h2
        rw [← hl] at h4
        simp at h4
        omega
      have hl' := Lib.hid hl
      clear hl
      go_wp2
      go_roundw
      case rel =>
        refine ⟨k / 10, [UInt8.ofNat (48 + k % 10)] ++ l, by omega, by go_num, ?_, by rw [hst.out, hl'.out], hb⟩
        rw [hd.out]
        exact congrArg Value.string (bytes_append [_] l)
      case measure => simp [intOf]; omega
    · have hl' := Lib.hid hl
      clear hl
      go_wp2
      go_ret
      refine ⟨?_, hb⟩
      rw [← hl'.out]
      obtain rfl : k = 0 := by omega
      simp [digTo]
/-- a cell's name, the empty text of one that may not be -/
def nameZ (r c : Int) : List UInt8 := if mayB r c then colL c.toNat ++ Lib.decDigits r.toNat else []
theorem digTo_pos {m : Nat} (h : 0 < m) : digTo m = Lib.decDigits m := by unfold digTo; rw [if_neg (by omega)]
theorem nameZ_nat {r c : Nat} (h : mayN r c = true) : nameZ r c = nameL r c := by
  unfold nameZ
  rw [mayB_nat, h, if_pos rfl]
  simp [nameL]
theorem nameZ_no {r c : Int} (h : mayB r c = false) : nameZ r c = [] := by simp [nameZ, h]
theorem mayB_ints {r c : Int} (h : mayB r c = true) : ∃ r' c' : Nat, r = r' ∧ c = c' ∧ mayN r' c' = true := by
  obtain ⟨h1, h2, h3, h4⟩ : 1 ≤ r ∧ r ≤ 4096 ∧ 1 ≤ c ∧ c ≤ 256 := by simpa [mayB, and_assoc] using h
  obtain ⟨r, rfl⟩ := Int.eq_ofNat_of_zero_le (show 0 ≤ r by omega)
  obtain ⟨c, rfl⟩ := Int.eq_ofNat_of_zero_le (show 0 ≤ c by omega)
  exact ⟨r, c, rfl, rfl, by rw [← mayB_nat]; exact h⟩
set_option maxHeartbeats 400000 in
theorem rname_no (r c : Int) (h : mayB r c = false) (w : World) : Calls Tryz.prog 101 #[.agg #[.int .i64 r, .int .i64 c]] w fun e w' => e = .returned (.string ⟨(nameZ r c).toArray⟩) ∧ Below w.heap.size w w' := by
  have hn := Lib.hid (nameZ_no h)
  go_enter Tryz.func101, Tryz.ntmps101
  go_wp2_with (go_at_call 121; refine (rmay_any _ _ _).mono ?_; rintro e w1 ⟨rfl, hb⟩; obtain ⟨hc, hf, hz⟩ := bkeep hb (w.heap.size + 1) (by first | omega | (simp <;> omega)))
  go_ret
  exact ⟨by rw [hn.out]; rfl, by (repeat (first | (with_reducible exact Below.refl _ _) | (with_reducible refine Below.alloc ?_ (by first | omega | (dsimp only; omega) | (simp <;> omega)) _) | (with_reducible refine Below.setCell ?_ (by first | omega | (dsimp only; omega) | (simp <;> omega)) _) | (with_reducible refine Below.drew ?_) | (with_reducible refine below_drewN ?_ _) | (with_reducible refine Below.trans ?_ (Below.mono (by assumption) (by first | omega | (dsimp only; omega) | (simp <;> omega))))))⟩
set_option maxHeartbeats 400000 in
theorem rname_yes (r c : Nat) (h : mayN r c = true) (w : World) : Calls Tryz.prog 101 #[.agg #[.int .i64 r, .int .i64 c]] w fun e w' => e = .returned (.string ⟨(nameZ r c).toArray⟩) ∧ Below w.heap.size w w' := by
  have hn := Lib.hid (nameZ_nat h)
  obtain ⟨m1, m2, m3, m4⟩ := mayN_of h
  have hm : mayB r c = true := (mayB_nat r c).trans h
  clear h
  have hl1 := (col_len c).2
  have hl2 := digTo_len (n := r) (by omega)
  have hadd := fun w' => run_string_add_lists (P := Tryz.prog) w' (colL c) (digTo r) (by omega) (by omega)
  go_enter Tryz.func101, Tryz.ntmps101
  go_wp2_with (go_at_call 121; refine (rmay_any _ _ _).mono ?_; rintro e w1 ⟨rfl, hb⟩; obtain ⟨hc, hf, hz⟩ := bkeep hb (w.heap.size + 1) (by first | omega | (simp <;> omega)))
  go_region_held3 (fun w' => w'.cell? ⟨w.heap.size, 0, none⟩ = some (.int .i64 r) ∧ w'.cell? ⟨w.heap.size, 1, none⟩ = some (.int .i64 c) ∧ Below w.heap.size w w' ∧ w.heap.size + 1 ≤ w'.heap.size)
    (first | ((go_split_ands; refine ⟨?_, ?_, ?_, ?_⟩ <;> first | (rw [hb.cell (by dsimp only; omega)]; assumption) | exact Below.trans (by assumption) (hb.mono (by omega)) | (have := hb.size; omega))) | ((refine ⟨?_, ?_, ?_, ?_⟩ <;> first | (simp [go_sem, *]; done) | ((repeat (first | (with_reducible exact Below.refl _ _) | (with_reducible refine Below.alloc ?_ (by first | omega | (dsimp only; omega) | (simp <;> omega)) _) | (with_reducible refine Below.setCell ?_ (by first | omega | (dsimp only; omega) | (simp <;> omega)) _) | (with_reducible refine Below.drew ?_) | (with_reducible refine below_drewN ?_ _) | (with_reducible refine Below.trans ?_ (Below.mono (by assumption) (by first | omega | (dsimp only; omega) | (simp <;> omega)))))); done) | (simp; omega))))
    (first | (go_at_call 100; refine (column_any _ (by omega) (by omega) _).mono ?_; rintro e w1 ⟨rfl, hb⟩) | (go_at_call 122; refine (rf_digits _ (by omega) _).mono ?_; rintro e w1 ⟨rfl, hb⟩))
  go_split_ands
  go_wp2
  go_ret
  go_split_ands
  refine ⟨?_, by assumption⟩
  rw [hn.out, nameL, ← digTo_pos (by omega)]
  rfl
theorem rname_any (r c : Int) (w : World) : Calls Tryz.prog 101 #[.agg #[.int .i64 r, .int .i64 c]] w fun e w' => e = .returned (.string ⟨(nameZ r c).toArray⟩) ∧ Below w.heap.size w w' := by
  cases h : mayB r c
  · exact rname_no r c h w
  · obtain ⟨r', c', rfl, rfl, hm⟩ := mayB_ints h
    exact rname_yes r' c' hm w
end Go.Proofs.YtiekhbagpmnboaaGreatDoor
namespace Go.Proofs.YtiekhbagpmnboaaGreatDoor
open Go.RowKit

/-- the document's own Parse: one letter of the row -/
def rst (row : Int) (b : UInt8) : Int := 10 * (if b.toNat < 48 ∨ 57 < b.toNat then -100000 else row) + b.toNat - 48
/-- is this column passed by? -/
def skips (l : List UInt8) (c : Nat) : Prop := l.length ≤ (colL c).length ∨ (colL c).length + 4 < l.length ∨ l.take (colL c).length ≠ colL c
theorem skip_no {l : List UInt8} {c r c' : Nat} (h : skips l c) (hp : parse l = some (r, c')) : c' ≠ c := by
  rintro rfl
  obtain ⟨hm, rfl⟩ := name_of_parse hp
  obtain ⟨h1, h2, h3, h4⟩ := mayN_of hm
  have a := dec_pos r
  have b := dec_len (r := r) (by omega)
  rcases h with h | h | h
  · simp [nameL] at h; omega
  · simp [nameL] at h; omega
  · exact h (by simp [nameL])
theorem rst_dec : ∀ (n r : Nat), r ≤ n → (Lib.decDigits r).foldl rst 0 = r
  | 0, r, h => by
    obtain rfl : r = 0 := by omega
    rw [Lib.decDigits_one (by omega)]
    simp [rst]
  | n + 1, r, h => by
    by_cases hr : r < 10
    · rw [Lib.decDigits_one hr]
      have e : (UInt8.ofNat (48 + r)).toNat = 48 + r := ofNat_toNat (by omega)
      simp only [List.foldl_cons, List.foldl_nil, rst, e]
      rw [if_neg (by omega)]
      omega
    · rw [dec_snoc (by omega), List.foldl_append, rst_dec n (r / 10) (by omega)]
      have e : (UInt8.ofNat (48 + r % 10)).toNat = 48 + r % 10 := ofNat_toNat (by omega)
      simp only [List.foldl_cons, List.foldl_nil, rst, e]
      rw [if_neg (by omega)]
      omega
theorem row_of {l : List UInt8} {r c : Nat} (hp : parse l = some (r, c)) : (l.drop (colL c).length).foldl rst 0 = r := by
  obtain ⟨hm, rfl⟩ := name_of_parse hp
  simp only [nameL, List.drop_left]
  exact rst_dec r r (Nat.le_refl _)
theorem skip_next {l : List UInt8} {k : Nat} (hp : ∀ r c, parse l = some (r, c) → k ≤ c) (h : skips l k) {r c : Nat} (h2 : parse l = some (r, c)) : k + 1 ≤ c := by
  have := hp r c h2
  have := skip_no h h2
  omega
theorem ext_take (l : List UInt8) (n : Nat) : ((⟨l.toArray⟩ : ByteArray).extract 0 n).toList = l.take n := by
  rw [ByteArray.toList_eq]
  simp
theorem ext_drop (l : List UInt8) (n : Nat) : (⟨l.toArray⟩ : ByteArray).extract n l.length = ⟨(l.drop n).toArray⟩ := by
  apply ByteArray.ext
  simp
  exact List.take_of_length_le (by simp)
theorem rst_snoc (m : List UInt8) (j : Nat) (h : j < m.length) : (m.take (j + 1)).foldl rst 0 = rst ((m.take j).foldl rst 0) m[j] := by
  rw [List.take_succ_eq_append_getElem h, List.foldl_append]; rfl
theorem rst_in (row : Int) (b : UInt8) (h1 : 48 ≤ b.toNat) (h2 : b.toNat ≤ 57) : rst row b = 10 * row + b.toNat - 48 := by
  unfold rst; rw [if_neg (by omega)]
theorem rst_out (row : Int) (b : UInt8) (h : b.toNat < 48 ∨ 57 < b.toNat) : rst row b = -1000000 + b.toNat - 48 := by
  unfold rst; rw [if_pos h]; rfl
theorem name_yes {l : List UInt8} {row : Int} {c : Nat} (h : nameZ row c = l) (hl : 0 < l.length) : ∃ r : Nat, row = r ∧ parse l = some (r, c) := by
  cases hm : mayB row c
  · rw [nameZ_no hm] at h; subst h; simp at hl
  · obtain ⟨r', c', rfl, e, hn⟩ := mayB_ints hm
    obtain rfl : c = c' := by omega
    rw [nameZ_nat hn] at h
    exact ⟨r', rfl, by rw [← h]; exact parse_name hn⟩
theorem name_not {l : List UInt8} {c : Nat} (h : nameZ ((l.drop (colL c).length).foldl rst 0) c ≠ l) {r c' : Nat} (hp : parse l = some (r, c')) : c' ≠ c := by
  rintro rfl
  have hr := row_of hp
  rw [hr] at h
  obtain ⟨hm, e⟩ := name_of_parse hp
  rw [nameZ_nat hm] at h
  exact h e
theorem name_next {l : List UInt8} {k : Nat} (hp : ∀ r c, parse l = some (r, c) → k ≤ c) (h : nameZ ((l.drop (colL k).length).foldl rst 0) k ≠ l) {r c : Nat} (h2 : parse l = some (r, c)) : k + 1 ≤ c := by
  have := hp r c h2
  have := name_not h h2
  omega
theorem rst_bound {row : Int} {b : UInt8} {B : Int} (h : -B ≤ row ∧ row ≤ B) (h1 : 100000 ≤ B) : -(B * 11) ≤ rst row b ∧ rst row b ≤ B * 11 := by
  have := b.toNat_lt
  unfold rst
  split <;> omega
theorem rst_bound_all : ∀ (l : List UInt8) (row B : Int), -B ≤ row ∧ row ≤ B → 100000 ≤ B → -(B * 11 ^ l.length) ≤ l.foldl rst row ∧ l.foldl rst row ≤ B * 11 ^ l.length
  | [], row, B, h, _ => by simpa using h
  | b :: l, row, B, h, h1 => by
    have := rst_bound_all l (rst row b) (B * 11) (rst_bound h h1) (by omega)
    rw [List.length_cons, Int.pow_succ, Int.mul_comm (11 ^ l.length) 11, ← Int.mul_assoc]
    exact this
theorem rst_small {l : List UInt8} (h : l.length ≤ 4) : -1464100000 ≤ l.foldl rst 0 ∧ l.foldl rst 0 ≤ 1464100000 := by
  have := rst_bound_all l 0 100000 (by omega) (by omega)
  have h2 : (11 : Int) ^ l.length ≤ 11 ^ 4 := by
    rcases l with _ | ⟨_, _ | ⟨_, _ | ⟨_, _ | ⟨_, _ | ⟨_, _⟩⟩⟩⟩⟩ <;> simp at h ⊢
  omega

set_option maxHeartbeats 1000000 in
theorem rparse_t (l : List UInt8) (hm : l.length ≤ 9223372036854775807) (w : World) :
    Calls Tryz.prog 71 #[.string ⟨l.toArray⟩] w fun e w' => e = .returned (.tuple #[.agg #[.int .i64 (pRow l), .int .i64 (pCol l)], .bool (pOk l)]) ∧ Below w.heap.size w w' := by
  go_enter Tryz.func71, Tryz.ntmps71
  go_wp2
  go_loopw [4] (fun c wr => ∃ k : Nat, 1 ≤ k ∧ k ≤ 257 ∧ c = .int .i64 k ∧ (∀ r c, parse l = some (r, c) → k ≤ c) ∧ Below w.heap.size w wr ∧ wr.heap[w.heap.size]? = some (.cells #[.int .i64 0, .int .i64 0] 28 (0, 0)) ∧ w.heap.size + 1 ≤ wr.heap.size) (fun c _ => (257 - intOf c).toNat)
  case atStart =>
    refine ⟨1, ?_, ?_, rfl, ?_, ?_, ?_, ?_⟩
    · exact Nat.le_refl _
    · exact by decide
    · exact fun r c h => (mayN_of (name_of_parse h).1).2.2.1
    · exact (Below.refl _ _).alloc (Nat.le_refl _) _
    · exact heap_alloc_new w _
    · simp
  case round =>
    obtain ⟨k, hk1, hk2, rfl, hp, hb0, hrs, hz0⟩ := hrel
    have hp' := Lib.hid hp
    clear hp
    have hc0 : wr.cell? ⟨w.heap.size, 0, .none⟩ = some (.int .i64 0) := by simp [World.cell?, hrs]
    have hc1 : wr.cell? ⟨w.heap.size, 1, .none⟩ = some (.int .i64 0) := by simp [World.cell?, hrs]
    have hfr : ∀ j, wr.frozen? ⟨w.heap.size, j, .none⟩ = false := fun j => by simp [World.frozen?, hrs]
    obtain ⟨cl1, cl2⟩ := col_len k
    have hrs' := Lib.hid hrs
    clear hrs
    by_cases hlt : k ≤ 256
    · by_cases hA : l.length ≤ (colL k).length
      · have hk' := Lib.hid (fun r c h => skip_next hp'.out (.inl hA) (r := r) (c := c) h)
        go_wp2_with (go_at_call 100; refine (column_any _ hk1 hlt _).mono ?_; rintro e w1 ⟨rfl, hb⟩; obtain ⟨hc, hf, hz⟩ := bkeep hb (w.heap.size + 1) (by first | omega | (simp <;> omega)))
        go_roundw
        case rel => exact ⟨k + 1, by omega, by omega, by go_num, hk'.out, hb0.trans (hb.mono (by omega)), (hb.block _ (by omega)).trans hrs'.out, by omega⟩
        case measure => simp [intOf]; omega
      · by_cases hB : (colL k).length + 4 < l.length
        · have hk' := Lib.hid (fun r c h => skip_next hp'.out (.inr (.inl hB)) (r := r) (c := c) h)
          go_wp2_with (go_at_call 100; refine (column_any _ hk1 hlt _).mono ?_; rintro e w1 ⟨rfl, hb⟩; obtain ⟨hc, hf, hz⟩ := bkeep hb (w.heap.size + 1) (by first | omega | (simp <;> omega)))
          go_roundw
          case rel => exact ⟨k + 1, by omega, by omega, by go_num, hk'.out, hb0.trans (hb.mono (by omega)), (hb.block _ (by omega)).trans hrs'.out, by omega⟩
          case measure => simp [intOf]; omega
        · cases hC : (((⟨l.toArray⟩ : ByteArray).extract 0 (colL k).length).toList == colL k)
          · have hk' := Lib.hid (fun r c h => skip_next hp'.out (.inr (.inr (by rw [ext_take] at hC; simpa using hC))) (r := r) (c := c) h)
            go_wp2_with (go_at_call 100; refine (column_any _ hk1 hlt _).mono ?_; rintro e w1 ⟨rfl, hb⟩; obtain ⟨hc, hf, hz⟩ := bkeep hb (w.heap.size + 1) (by first | omega | (simp <;> omega)))
            go_roundw
            case rel => exact ⟨k + 1, by omega, by omega, by go_num, hk'.out, hb0.trans (hb.mono (by omega)), (hb.block _ (by omega)).trans hrs'.out, by omega⟩
            case measure => simp [intOf]; omega
          · obtain ⟨m, hm'⟩ : ∃ m, m = l.drop (colL k).length := ⟨_, rfl⟩
            have hx : (⟨l.toArray⟩ : ByteArray).extract (colL k).length l.length = ⟨m.toArray⟩ := by rw [hm', ext_drop]
            have hml : m.length ≤ 4 := by rw [hm']; simp; omega
            have hm2 := Lib.hid hm'
            clear hm'
            go_wp2_with (go_at_call 100; refine (column_any _ hk1 hlt _).mono ?_; rintro e w1 ⟨rfl, hb⟩; obtain ⟨hc, hf, hz⟩ := bkeep hb (w.heap.size + 1) (by first | omega | (simp <;> omega)))
            have hb1 := hb
            go_loop [6, 8] (fun row i => ∃ j : Nat, j ≤ m.length ∧ i = .int .i64 j ∧ row = .int .i64 ((m.take j).foldl rst 0)) (fun _ i => m.length - (intOf i).toNat)
            case atStart => exact ⟨0, by omega, rfl, rfl⟩
            case round =>
              obtain ⟨j, hj, rfl, rfl⟩ := hrel
              by_cases hjl : j < m.length
              · have hjb : j < (⟨m.toArray⟩ : ByteArray).size := by show j < m.toArray.size; simpa using hjl
                have hb256 : ((⟨m.toArray⟩ : ByteArray)[j]'hjb).toNat < 256 := UInt8.toNat_lt _
                obtain ⟨e1, e2⟩ := rst_small (l := m.take j) (by simp; omega)
                have hsn := Lib.hid (rst_snoc m j hjl)
                by_cases b1 : ((⟨m.toArray⟩ : ByteArray)[j]'hjb).toNat < 48
                · have hst := Lib.hid (rst_out ((m.take j).foldl rst 0) m[j] (.inl b1))
                  go_wp2
                  go_round
                  case rel => exact ⟨j + 1, by omega, by go_num, by rw [hsn.out, hst.out]; rfl⟩
                  case measure => simp [intOf]; omega
                · by_cases b2 : ((⟨m.toArray⟩ : ByteArray)[j]'hjb).toNat ≤ 57
                  · have hst := Lib.hid (rst_in ((m.take j).foldl rst 0) m[j] (Nat.not_lt.1 b1) b2)
                    go_wp2
                    go_round
                    case rel => exact ⟨j + 1, by omega, by go_num, by rw [hsn.out, hst.out]; rfl⟩
                    case measure => simp [intOf]; omega
                  · have hst := Lib.hid (rst_out ((m.take j).foldl rst 0) m[j] (.inr (Nat.not_le.1 b2)))
                    go_wp2
                    go_round
                    case rel => exact ⟨j + 1, by omega, by go_num, by rw [hsn.out, hst.out]; rfl⟩
                    case measure => simp [intOf]; omega
              · have hjm : m.take j = m := List.take_of_length_le (by omega)
                rw [hjm]
                have hf := Lib.hid (show m.foldl rst 0 = (l.drop (colL k).length).foldl rst 0 by rw [← hm2.out])
                generalize hrow : m.foldl rst 0 = row at *
                have hrow' := Lib.hid hrow
                clear hrow hjm
                have hy : w.heap.size < w1.heap.size := by omega
                have hy2 : w.heap.size < w1.heap.size + 1 := by omega
                cases hE : (nameZ row k == l)
                · have hk' := Lib.hid (fun r c h => name_next hp'.out (show nameZ ((l.drop (colL k).length).foldl rst 0) k ≠ l by rw [← hf.out]; simpa using hE) (r := r) (c := c) h)
                  go_wp2_with (go_at_call 101; refine (rname_any _ _ _).mono ?_; rintro e w2 ⟨rfl, hb⟩; obtain ⟨hc, hf, hz⟩ := bkeep hb (w1.heap.size + 1) (by first | omega | (simp <;> omega)))
                  go_roundw
                  case rel => exact ⟨k + 1, by omega, by omega, by go_num, hk'.out, by (repeat (first | (with_reducible exact Below.refl _ _) | (with_reducible refine Below.alloc ?_ (by first | omega | (dsimp only; omega) | (simp <;> omega)) _) | (with_reducible refine Below.setCell ?_ (by first | omega | (dsimp only; omega) | (simp <;> omega)) _) | (with_reducible refine Below.drew ?_) | (with_reducible refine below_drewN ?_ _) | (with_reducible refine Below.trans ?_ (Below.mono (by assumption) (by first | omega | (dsimp only; omega) | (simp <;> omega)))))), by rw [hb.block _ (by first | omega | (simp <;> omega))]; exact (Below.heap_alloc _ _ _ (by omega)).trans ((hb1.block _ (by omega)).trans hrs'.out), by omega⟩
                  case measure => simp [intOf]; omega
                · obtain ⟨r, hr, hpar⟩ := name_yes (show nameZ row k = l by simpa using hE) (by omega)
                  subst hr
                  have hpar' := Lib.hid hpar
                  clear hpar
                  go_wp2_with (go_at_call 101; refine (rname_any _ _ _).mono ?_; rintro e w2 ⟨rfl, hb⟩; obtain ⟨hc, hf, hz⟩ := bkeep hb (w1.heap.size + 1) (by first | omega | (simp <;> omega)))
                  all_goals refine bodyPost_ret (v := .tuple #[.agg #[.int .i64 (pRow l), .int .i64 (pCol l)], .bool (pOk l)]) ?_ rfl ⟨rfl, by (repeat (first | (with_reducible exact Below.refl _ _) | (with_reducible refine Below.alloc ?_ (by first | omega | (dsimp only; omega) | (simp <;> omega)) _) | (with_reducible refine Below.setCell ?_ (by first | omega | (dsimp only; omega) | (simp <;> omega)) _) | (with_reducible refine Below.drew ?_) | (with_reducible refine below_drewN ?_ _) | (with_reducible refine Below.trans ?_ (Below.mono (by assumption) (by first | omega | (dsimp only; omega) | (simp <;> omega))))))⟩
                  all_goals simp [results, Tryz.results71, go_sem, pRow, pCol, pOk, hpar'.out, *]
    · have hpn := Lib.hid (show parse l = .none by
        cases hq : parse l with
        | none => rfl
        | some x =>
          have h1 := hp'.out x.1 x.2 hq
          have h2 := (mayN_of (name_of_parse (r := x.1) (c := x.2) hq).1).2.2.2
          omega)
      go_wp2
      all_goals refine bodyPost_ret (v := .tuple #[.agg #[.int .i64 (pRow l), .int .i64 (pCol l)], .bool (pOk l)]) ?_ rfl ⟨rfl, by (repeat (first | (with_reducible exact Below.refl _ _) | (with_reducible refine Below.alloc ?_ (by first | omega | (dsimp only; omega) | (simp <;> omega)) _) | (with_reducible refine Below.setCell ?_ (by first | omega | (dsimp only; omega) | (simp <;> omega)) _) | (with_reducible refine Below.drew ?_) | (with_reducible refine below_drewN ?_ _) | (with_reducible refine Below.trans ?_ (Below.mono (by assumption) (by first | omega | (dsimp only; omega) | (simp <;> omega))))))⟩
      all_goals simp [results, Tryz.results71, go_sem, pRow, pCol, pOk, hpn.out, *]
theorem rparse_any (s : ByteArray) (hm : s.size ≤ 9223372036854775807) (w : World) :
    Calls Tryz.prog 71 #[.string s] w fun e w' => e = .returned (.tuple #[.agg #[.int .i64 (pRow s.data.toList), .int .i64 (pCol s.data.toList)], .bool (pOk s.data.toList)]) ∧ Below w.heap.size w w' := by
  have h := rparse_t s.data.toList (by simpa using hm) w
  simpa using h
end Go.Proofs.YtiekhbagpmnboaaGreatDoor
namespace Go.Proofs.YtiekhbagpmnboaaGreatDoor
open Go.RowKit

set_option maxHeartbeats 4000000 in
theorem rprect_any (l : List UInt8) (hm : l.length ≤ 9223372036854775807) (w : World) : Calls Tryz.prog 70 #[.string ⟨l.toArray⟩] w fun e w' => e = .returned (.tuple #[.agg #[.int .i64 (qT l), .int .i64 (qL l), .int .i64 (qB l), .int .i64 (qR l)], .bool (qOk l)]) ∧ Below w.heap.size w w' := by
  go_enter Tryz.func70, Tryz.ntmps70
  go_wp2
  go_loop [4] (fun i => ∃ k : Nat, k ≤ l.length ∧ i = .int .i64 k ∧ ∀ j, j < k → l[j]? ≠ some 58) (fun i => l.length - (intOf i).toNat)
  case atStart => exact ⟨0, Nat.zero_le _, rfl, fun j hj => absurd hj (Nat.not_lt_zero _)⟩
  case round =>
    obtain ⟨k, hk, rfl, hno⟩ := hrel
    have hno' := Lib.hid hno
    clear hno
    by_cases hlt : k < l.length
    · have hb : k < (⟨l.toArray⟩ : ByteArray).size := by show k < l.toArray.size; simpa using hlt
      by_cases hc : l[k] = 58
      · have e0 : ((((⟨l.toArray⟩ : ByteArray)[k]'hb).toNat : Int) != 58) = false := by
          have : ((⟨l.toArray⟩ : ByteArray)[k]'hb) = 58 := hc
          rw [this]; rfl
        have hi := idx_of (l := l) (c := 58) (i := k) (by rw [List.getElem?_eq_getElem hlt, hc]) hno'.out
        obtain ⟨a, ha⟩ : ∃ a, a = l.take k := ⟨_, rfl⟩
        obtain ⟨b, hbb⟩ : ∃ b, b = l.drop (k + 1) := ⟨_, rfl⟩
        have hx1 : (⟨l.toArray⟩ : ByteArray).extract 0 k = ⟨a.toArray⟩ := by rw [ha, ext_take']
        have hx2 : (⟨l.toArray⟩ : ByteArray).extract (k + 1) l.length = ⟨b.toArray⟩ := by rw [hbb, ext_drop' _ _ _ (Nat.le_refl _)]
        have hla : a.length ≤ 9223372036854775807 := by rw [ha]; simp; omega
        have hlb : b.length ≤ 9223372036854775807 := by rw [hbb]; simp; omega
        have H := Lib.hid (And.intro hi (And.intro ha hbb))
        clear hi ha hbb hc
        cases g1 : pOk a
        · have hp' := Lib.hid (show parseRect l = .none from by rw [prect_at H.out.1 H.out.2.1 H.out.2.2, g1]; rfl)
          go_wp2_with fail
          refine (rparse_t a hla _).mono ?_
          rintro e w2 ⟨rfl, hb2⟩
          obtain ⟨hc2, hf2, hz2⟩ := bkeep hb2 (w.heap.size + 1) (by simp)
          have y1 : w.heap.size < w2.heap.size := by omega
          have y2 : w.heap.size < w2.heap.size + 1 := by omega
          go_wp2_with fail
          refine (rparse_t b hlb _).mono ?_
          rintro e w3 ⟨rfl, hb3⟩
          obtain ⟨hc3, hf3, hz3⟩ := bkeep hb3 (w2.heap.size + 1) (by simp)
          have y3 : w.heap.size < w3.heap.size := by omega
          have y4 : w.heap.size < w3.heap.size + 1 := by omega
          have y5 : w.heap.size < w3.heap.size + 2 := by omega
          have y6 : w2.heap.size < w3.heap.size := by omega
          have y7 : w2.heap.size < w3.heap.size + 1 := by omega
          have y8 : w2.heap.size < w3.heap.size + 2 := by omega
          go_wp2_with (go_at_call 99; refine (rmayRect_any _ _ _ _ _).mono ?_; rintro e w4 ⟨rfl, hb4⟩; obtain ⟨hc4, hf4, hz4⟩ := bkeep hb4 (w3.heap.size + 2) (by simp))
          all_goals refine bodyPost_ret (v := .tuple #[.agg #[.int .i64 (qT l), .int .i64 (qL l), .int .i64 (qB l), .int .i64 (qR l)], .bool (qOk l)]) ?_ rfl ⟨rfl, by (repeat (first | (with_reducible exact Below.refl _ _) | (with_reducible refine Below.alloc ?_ (by first | omega | (dsimp only; omega) | (simp <;> omega)) _) | (with_reducible refine Below.setCell ?_ (by first | omega | (dsimp only; omega) | (simp <;> omega)) _) | (with_reducible refine Below.drew ?_) | (with_reducible refine below_drewN ?_ _) | (with_reducible refine Below.trans ?_ (Below.mono (by assumption) (by first | omega | (dsimp only; omega) | (simp <;> omega))))))⟩
          all_goals simp [results, Tryz.results70, go_sem, qT, qL, qB, qR, qOk, hp'.out, *]
        · cases g2 : pOk b
          · have hp' := Lib.hid (show parseRect l = .none from by rw [prect_at H.out.1 H.out.2.1 H.out.2.2, g1, g2]; rfl)
            go_wp2_with fail
            refine (rparse_t a hla _).mono ?_
            rintro e w2 ⟨rfl, hb2⟩
            obtain ⟨hc2, hf2, hz2⟩ := bkeep hb2 (w.heap.size + 1) (by simp)
            have y1 : w.heap.size < w2.heap.size := by omega
            have y2 : w.heap.size < w2.heap.size + 1 := by omega
            go_wp2_with fail
            refine (rparse_t b hlb _).mono ?_
            rintro e w3 ⟨rfl, hb3⟩
            obtain ⟨hc3, hf3, hz3⟩ := bkeep hb3 (w2.heap.size + 1) (by simp)
            have y3 : w.heap.size < w3.heap.size := by omega
            have y4 : w.heap.size < w3.heap.size + 1 := by omega
            have y5 : w.heap.size < w3.heap.size + 2 := by omega
            have y6 : w2.heap.size < w3.heap.size := by omega
            have y7 : w2.heap.size < w3.heap.size + 1 := by omega
            have y8 : w2.heap.size < w3.heap.size + 2 := by omega
            go_wp2_with (go_at_call 99; refine (rmayRect_any _ _ _ _ _).mono ?_; rintro e w4 ⟨rfl, hb4⟩; obtain ⟨hc4, hf4, hz4⟩ := bkeep hb4 (w3.heap.size + 2) (by simp))
            all_goals refine bodyPost_ret (v := .tuple #[.agg #[.int .i64 (qT l), .int .i64 (qL l), .int .i64 (qB l), .int .i64 (qR l)], .bool (qOk l)]) ?_ rfl ⟨rfl, by (repeat (first | (with_reducible exact Below.refl _ _) | (with_reducible refine Below.alloc ?_ (by first | omega | (dsimp only; omega) | (simp <;> omega)) _) | (with_reducible refine Below.setCell ?_ (by first | omega | (dsimp only; omega) | (simp <;> omega)) _) | (with_reducible refine Below.drew ?_) | (with_reducible refine below_drewN ?_ _) | (with_reducible refine Below.trans ?_ (Below.mono (by assumption) (by first | omega | (dsimp only; omega) | (simp <;> omega))))))⟩
            all_goals simp [results, Tryz.results70, go_sem, qT, qL, qB, qR, qOk, hp'.out, *]
          · cases g3 : mayRectB (pRow a) (pCol a) (pRow b) (pCol b)
            · have hp' := Lib.hid (show parseRect l = .none from by rw [prect_at H.out.1 H.out.2.1 H.out.2.2, g1, g2, g3]; rfl)
              go_wp2_with fail
              refine (rparse_t a hla _).mono ?_
              rintro e w2 ⟨rfl, hb2⟩
              obtain ⟨hc2, hf2, hz2⟩ := bkeep hb2 (w.heap.size + 1) (by simp)
              have y1 : w.heap.size < w2.heap.size := by omega
              have y2 : w.heap.size < w2.heap.size + 1 := by omega
              go_wp2_with fail
              refine (rparse_t b hlb _).mono ?_
              rintro e w3 ⟨rfl, hb3⟩
              obtain ⟨hc3, hf3, hz3⟩ := bkeep hb3 (w2.heap.size + 1) (by simp)
              have y3 : w.heap.size < w3.heap.size := by omega
              have y4 : w.heap.size < w3.heap.size + 1 := by omega
              have y5 : w.heap.size < w3.heap.size + 2 := by omega
              have y6 : w2.heap.size < w3.heap.size := by omega
              have y7 : w2.heap.size < w3.heap.size + 1 := by omega
              have y8 : w2.heap.size < w3.heap.size + 2 := by omega
              go_wp2_with (go_at_call 99; refine (rmayRect_any _ _ _ _ _).mono ?_; rintro e w4 ⟨rfl, hb4⟩; obtain ⟨hc4, hf4, hz4⟩ := bkeep hb4 (w3.heap.size + 2) (by simp))
              all_goals refine bodyPost_ret (v := .tuple #[.agg #[.int .i64 (qT l), .int .i64 (qL l), .int .i64 (qB l), .int .i64 (qR l)], .bool (qOk l)]) ?_ rfl ⟨rfl, by (repeat (first | (with_reducible exact Below.refl _ _) | (with_reducible refine Below.alloc ?_ (by first | omega | (dsimp only; omega) | (simp <;> omega)) _) | (with_reducible refine Below.setCell ?_ (by first | omega | (dsimp only; omega) | (simp <;> omega)) _) | (with_reducible refine Below.drew ?_) | (with_reducible refine below_drewN ?_ _) | (with_reducible refine Below.trans ?_ (Below.mono (by assumption) (by first | omega | (dsimp only; omega) | (simp <;> omega))))))⟩
              all_goals simp [results, Tryz.results70, go_sem, qT, qL, qB, qR, qOk, hp'.out, *]
            · have hp' := Lib.hid (show parseRect l = some (pRow a, pCol a, pRow b, pCol b) from by rw [prect_at H.out.1 H.out.2.1 H.out.2.2, g1, g2, g3]; rfl)
              go_wp2_with fail
              refine (rparse_t a hla _).mono ?_
              rintro e w2 ⟨rfl, hb2⟩
              obtain ⟨hc2, hf2, hz2⟩ := bkeep hb2 (w.heap.size + 1) (by simp)
              have y1 : w.heap.size < w2.heap.size := by omega
              have y2 : w.heap.size < w2.heap.size + 1 := by omega
              go_wp2_with fail
              refine (rparse_t b hlb _).mono ?_
              rintro e w3 ⟨rfl, hb3⟩
              obtain ⟨hc3, hf3, hz3⟩ := bkeep hb3 (w2.heap.size + 1) (by simp)
              have y3 : w.heap.size < w3.heap.size := by omega
              have y4 : w.heap.size < w3.heap.size + 1 := by omega
              have y5 : w.heap.size < w3.heap.size + 2 := by omega
              have y6 : w2.heap.size < w3.heap.size := by omega
              have y7 : w2.heap.size < w3.heap.size + 1 := by omega
              have y8 : w2.heap.size < w3.heap.size + 2 := by omega
              go_wp2_with (go_at_call 99; refine (rmayRect_any _ _ _ _ _).mono ?_; rintro e w4 ⟨rfl, hb4⟩; obtain ⟨hc4, hf4, hz4⟩ := bkeep hb4 (w3.heap.size + 2) (by simp))
              all_goals refine bodyPost_ret (v := .tuple #[.agg #[.int .i64 (qT l), .int .i64 (qL l), .int .i64 (qB l), .int .i64 (qR l)], .bool (qOk l)]) ?_ rfl ⟨rfl, by (repeat (first | (with_reducible exact Below.refl _ _) | (with_reducible refine Below.alloc ?_ (by first | omega | (dsimp only; omega) | (simp <;> omega)) _) | (with_reducible refine Below.setCell ?_ (by first | omega | (dsimp only; omega) | (simp <;> omega)) _) | (with_reducible refine Below.drew ?_) | (with_reducible refine below_drewN ?_ _) | (with_reducible refine Below.trans ?_ (Below.mono (by assumption) (by first | omega | (dsimp only; omega) | (simp <;> omega))))))⟩
              all_goals simp [results, Tryz.results70, go_sem, qT, qL, qB, qR, qOk, hp'.out, *]
      · have e0 : ((((⟨l.toArray⟩ : ByteArray)[k]'hb).toNat : Int) != 58) = true := by
          have h1 : ((⟨l.toArray⟩ : ByteArray)[k]'hb) ≠ 58 := hc
          have h2 : ((⟨l.toArray⟩ : ByteArray)[k]'hb).toNat ≠ 58 := fun h => h1 (UInt8.toNat_inj.1 h)
          simp
          omega
        have hc' := Lib.hid hc
        clear hc
        go_wp2
        go_round
        case rel =>
          refine ⟨k + 1, by omega, by go_num, fun j hj => ?_⟩
          by_cases hjk : j < k
          · exact hno'.out j hjk
          · obtain rfl : j = k := by omega
            rw [List.getElem?_eq_getElem hlt]
            simpa using hc'.out
        case measure => simp [intOf]; omega
    · have hp := Lib.hid (prect_no (idx_no (l := l) (c := 58) (fun j hj => hno'.out j (by omega))))
      go_wp2
      all_goals refine bodyPost_ret (v := .tuple #[.agg #[.int .i64 (qT l), .int .i64 (qL l), .int .i64 (qB l), .int .i64 (qR l)], .bool (qOk l)]) ?_ rfl ⟨rfl, by (repeat (first | (with_reducible exact Below.refl _ _) | (with_reducible refine Below.alloc ?_ (by first | omega | (dsimp only; omega) | (simp <;> omega)) _) | (with_reducible refine Below.setCell ?_ (by first | omega | (dsimp only; omega) | (simp <;> omega)) _) | (with_reducible refine Below.drew ?_) | (with_reducible refine below_drewN ?_ _) | (with_reducible refine Below.trans ?_ (Below.mono (by assumption) (by first | omega | (dsimp only; omega) | (simp <;> omega))))))⟩
      all_goals simp [results, Tryz.results70, go_sem, qT, qL, qB, qR, qOk, hp.out, *]
end Go.Proofs.YtiekhbagpmnboaaGreatDoor
