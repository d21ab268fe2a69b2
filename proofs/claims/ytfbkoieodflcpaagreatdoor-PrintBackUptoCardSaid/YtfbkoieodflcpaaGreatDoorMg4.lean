/-
  strings.Cut at a separator of one byte, any text; ParseRect of package addr: what it tells of any text.
-/
import Derived.Test.YtfbkoieodflcpaaGreatDoorRows
import Derived.Test.YtfbkoieodflcpaaGreatDoorMg0
import Derived.Test.YtfbkoieodflcpaaGreatDoorProg
import Derived.Test.YtfbkoieodflcpaaGreatDoorShelf
import Derived.Test.YtfbkoieodflcpaaGreatDoorAddrC
import Derived.Test.YtfbkoieodflcpaaGreatDoorMg6
import Derived.WalkSpells
import Derived.WalkLawsBesides
import Derived.StillTactics
import Derived.Laws.Pointers
import Derived.Deep.RegionHeld3
import Derived.Deep.QuietTactic
import Derived.BigQuiet
import Derived.RowKit3
import Derived.Lib.Hide
import Derived.Lib.OthersKept
import Derived.OwnWalk
import Derived.Lib.IndexLaws
import Derived.WalkKit
import Derived.ProofKit
import Derived.OpenShut
import Derived.Carry
import Derived.ChangeSame
import Derived.Deep.Draws
import Derived.Shelf.Strings.Builder1
import Derived.Shelf.Strings.Builder2
import Derived.Shelf.Strings.Trim
import Derived.Shelf.Small.Utf8
import Derived.Shelf.Small.Strs
import Derived.Shelf.Small.Wraps
import Derived.Shelf.Strings.BuilderF
import Derived.Shelf.Strings.BuilderK
import Derived.Shelf.Utf8.RuneCount
import Derived.Shelf.Strconv.Itoa0
import Derived.Shelf.Strconv.Itoa1
import Derived.Shelf.LaysM
import Derived.Shelf.Strconv.Itoa2
import Derived.Shelf.Strconv.Itoa3
import Derived.Ground.MpProg
import Derived.Shelf.Pu.ParseUintPublic10
import Derived.Shelf.Strings.Search1
import Derived.Shelf.Strings.Search2
import Derived.Shelf.Strings.Search3
import Derived.Shelf.Strings.Cut
import Derived.Shelf.Strings.Count
import Derived.Shelf.Strings.Shaped
import Derived.Shelf.Strings.Prefix
import Derived.Shelf.Strings.Split
import Derived.Shelf.Strings.Replace
import Derived.Shelf.Strings.SplitShaped
import Derived.Shelf.Unicode.Decode
import Derived.Shelf.Strings.Runes
import Derived.Shelf.Strings.RuneCount
import Derived.Shelf.Strings.AsciiSet
import Derived.Shelf.Unicode.DecodeSlow
import Derived.Shelf.Unicode.DecodeAny
import Derived.Shelf.Unicode.DecodeLast
import Derived.Lib.ItoaNum
import Derived.Lib.ItoaMem
namespace Go.Proofs.YtfbkoieodflcpaaGreatDoor
open Go.RowKit

theorem idx_cases (l : List UInt8) (c : UInt8) : Lib.indexByte l c = -1 ∨ ∃ o : Nat, Lib.indexByte l c = o ∧ o < l.length := by
  have h := Lib.indexByte_ge l c
  by_cases h0 : Lib.indexByte l c = -1
  · exact .inl h0
  · obtain ⟨o, ho⟩ := Int.eq_ofNat_of_zero_le (show 0 ≤ Lib.indexByte l c by omega)
    refine .inr ⟨o, ho, ?_⟩
    have := (Lib.indexByte_some ho).1
    exact (List.getElem?_eq_some_iff.1 this).1
theorem ext_take' (l : List UInt8) (n : Nat) : (⟨l.toArray⟩ : ByteArray).extract 0 n = ⟨(l.take n).toArray⟩ := by
  apply ByteArray.ext
  simp
theorem ext_drop' (l : List UInt8) (n m : Nat) (h : l.length ≤ m) : (⟨l.toArray⟩ : ByteArray).extract n m = ⟨(l.drop n).toArray⟩ := by
  apply ByteArray.ext
  simp
  exact List.take_of_length_le (by simp; omega)

set_option maxHeartbeats 400000 in
theorem lcut0 (l : List UInt8) (c : UInt8) (h : Lib.indexByte l c = -1) (w : World) : Calls Tryz.prog 122 #[.string ⟨l.toArray⟩, .string ⟨#[c]⟩] w fun e w' => e = .returned (.tuple #[.string ⟨l.toArray⟩, .string ⟨#[]⟩, .bool false]) ∧ Below w.heap.size w w' := by
  have hi := Lib.hid h
  clear h
  go_enter Tryz.func122, Tryz.ntmps122
  go_wp2_with fail
  refine (Tryz.stringslite_Index_one _ c _).mono ?_
  rintro e w1 ⟨rfl, rfl⟩
  rw [show (⟨l.toArray⟩ : ByteArray).data.toList = l from by simp, hi.out]
  go_wp2
  go_ret3
  exact ⟨rfl, by (repeat (first | (with_reducible exact Below.refl _ _) | (with_reducible refine Below.alloc ?_ (by first | omega | (dsimp only; omega) | (simp <;> omega)) _) | (with_reducible refine Below.setCell ?_ (by first | omega | (dsimp only; omega) | (simp <;> omega)) _) | (with_reducible refine Below.drew ?_) | (with_reducible refine below_drewN ?_ _) | (with_reducible refine Below.trans ?_ (Below.mono (by assumption) (by first | omega | (dsimp only; omega) | (simp <;> omega))))))⟩
set_option maxHeartbeats 400000 in
theorem lcut1 (l : List UInt8) (c : UInt8) (o : Nat) (h : Lib.indexByte l c = o) (ho : o < l.length) (hm : l.length ≤ 9223372036854775807) (w : World) : Calls Tryz.prog 122 #[.string ⟨l.toArray⟩, .string ⟨#[c]⟩] w fun e w' => e = .returned (.tuple #[.string ⟨(l.take o).toArray⟩, .string ⟨(l.drop (o + 1)).toArray⟩, .bool true]) ∧ Below w.heap.size w w' := by
  have hi := Lib.hid h
  clear h
  have hx1 := ext_take' l o
  have hx2 := ext_drop' l (o + 1) l.length (Nat.le_refl _)
  go_enter Tryz.func122, Tryz.ntmps122
  go_wp2_with fail
  refine (Tryz.stringslite_Index_one _ c _).mono ?_
  rintro e w1 ⟨rfl, rfl⟩
  rw [show (⟨l.toArray⟩ : ByteArray).data.toList = l from by simp, hi.out]
  go_wp2
  go_quiet (fail)
  go_wp2
  go_ret3
  exact ⟨rfl, by (repeat (first | (with_reducible exact Below.refl _ _) | (with_reducible refine Below.alloc ?_ (by first | omega | (dsimp only; omega) | (simp <;> omega)) _) | (with_reducible refine Below.setCell ?_ (by first | omega | (dsimp only; omega) | (simp <;> omega)) _) | (with_reducible refine Below.drew ?_) | (with_reducible refine below_drewN ?_ _) | (with_reducible refine Below.trans ?_ (Below.mono (by assumption) (by first | omega | (dsimp only; omega) | (simp <;> omega))))))⟩
set_option maxHeartbeats 400000 in
theorem scut0 (l : List UInt8) (c : UInt8) (h : Lib.indexByte l c = -1) (w : World) : Calls Tryz.prog 91 #[.string ⟨l.toArray⟩, .string ⟨#[c]⟩] w fun e w' => e = .returned (.tuple #[.string ⟨l.toArray⟩, .string ⟨#[]⟩, .bool false]) ∧ Below w.heap.size w w' := by
  go_enter Tryz.func91, Tryz.ntmps91
  go_wp2_with fail
  refine (lcut0 l c h _).mono ?_
  rintro e w1 ⟨rfl, hb⟩
  go_wp2
  go_ret3
  exact ⟨rfl, by assumption⟩
set_option maxHeartbeats 400000 in
theorem scut1 (l : List UInt8) (c : UInt8) (o : Nat) (h : Lib.indexByte l c = o) (ho : o < l.length) (hm : l.length ≤ 9223372036854775807) (w : World) : Calls Tryz.prog 91 #[.string ⟨l.toArray⟩, .string ⟨#[c]⟩] w fun e w' => e = .returned (.tuple #[.string ⟨(l.take o).toArray⟩, .string ⟨(l.drop (o + 1)).toArray⟩, .bool true]) ∧ Below w.heap.size w w' := by
  go_enter Tryz.func91, Tryz.ntmps91
  go_wp2_with fail
  refine (lcut1 l c o h ho hm _).mono ?_
  rintro e w1 ⟨rfl, hb⟩
  go_wp2
  go_ret3
  exact ⟨rfl, by assumption⟩
end Go.Proofs.YtfbkoieodflcpaaGreatDoor
namespace Go.Proofs.YtfbkoieodflcpaaGreatDoor
open Go.RowKit

/-- what ParseRect tells of a text -/
def parseRect (l : List UInt8) : Option (Int × Int × Int × Int) :=
  if Lib.indexByte l 58 = -1 then .none
  else
    let a := l.take (Lib.indexByte l 58).toNat
    let b := l.drop ((Lib.indexByte l 58).toNat + 1)
    if pOk a && pOk b && mayRectB (pRow a) (pCol a) (pRow b) (pCol b) then some (pRow a, pCol a, pRow b, pCol b) else .none
def qT (l : List UInt8) : Int := match parseRect l with | some x => x.1 | .none => 0
def qL (l : List UInt8) : Int := match parseRect l with | some x => x.2.1 | .none => 0
def qB (l : List UInt8) : Int := match parseRect l with | some x => x.2.2.1 | .none => 0
def qR (l : List UInt8) : Int := match parseRect l with | some x => x.2.2.2 | .none => 0
def qOk (l : List UInt8) : Bool := (parseRect l).isSome
theorem prect_no {l : List UInt8} (h : Lib.indexByte l 58 = -1) : parseRect l = .none := by unfold parseRect; rw [if_pos h]
theorem prect_at {l a b : List UInt8} {o : Nat} (h : Lib.indexByte l 58 = o) (ha : a = l.take o) (hb : b = l.drop (o + 1)) :
    parseRect l = if pOk a && pOk b && mayRectB (pRow a) (pCol a) (pRow b) (pCol b) then some (pRow a, pCol a, pRow b, pCol b) else .none := by
  subst ha hb
  unfold parseRect
  rw [if_neg (by omega), h]
  simp
theorem idx_of {l : List UInt8} {c : UInt8} {i : Nat} (h : l[i]? = some c) (hb : ∀ k, k < i → l[k]? ≠ some c) : Lib.indexByte l c = i := by
  rcases idx_cases l c with h0 | ⟨o, ho, _⟩
  · exact absurd h (Lib.indexByte_none h0 i)
  · obtain ⟨h1, h2⟩ := Lib.indexByte_some ho
    rcases Nat.lt_trichotomy o i with hlt | heq | hgt
    · exact absurd h1 (hb o hlt)
    · rw [ho, heq]
    · exact absurd h (h2 i hgt)
theorem pcall (l : List UInt8) (hm : l.length ≤ 9223372036854775807) (w : World) :
    Calls Tryz.prog 124 #[.string ⟨l.toArray⟩] w fun e w' => e = .returned (.tuple #[.agg #[.int .i64 (pRow l), .int .i64 (pCol l)], .bool (pOk l)]) ∧ Below w.heap.size w w' := by
  by_cases h : l.length ≤ 6
  · simpa using parse_short ⟨l.toArray⟩ (by show l.toArray.size ≤ 6; simpa using h) w
  · simpa using parse_long ⟨l.toArray⟩ (by show 6 < l.toArray.size; simpa using Nat.not_le.1 h) (by show l.toArray.size ≤ maxLen; simpa [maxLen] using hm) w

set_option maxHeartbeats 400000 in
theorem prect_none (l : List UInt8) (h : Lib.indexByte l 58 = -1) (w : World) : Calls Tryz.prog 123 #[.string ⟨l.toArray⟩] w fun e w' => e = .returned (.tuple #[.agg #[.int .i64 (qT l), .int .i64 (qL l), .int .i64 (qB l), .int .i64 (qR l)], .bool (qOk l)]) ∧ Below w.heap.size w w' := by
  have hp := Lib.hid (prect_no h)
  have h' := Lib.hid h
  clear h
  go_enter Tryz.func123, Tryz.ntmps123
  go_wp2_with fail
  refine (scut0 l 58 h'.out _).mono ?_
  rintro e w1 ⟨rfl, hb1⟩
  obtain ⟨hc, hf, hz⟩ := bkeep hb1 (w.heap.size + 1) (by simp)
  go_wp2
  all_goals refine bodyPost_ret (v := .tuple #[.agg #[.int .i64 (qT l), .int .i64 (qL l), .int .i64 (qB l), .int .i64 (qR l)], .bool (qOk l)]) ?_ rfl ⟨rfl, by (repeat (first | (with_reducible exact Below.refl _ _) | (with_reducible refine Below.alloc ?_ (by first | omega | (dsimp only; omega) | (simp <;> omega)) _) | (with_reducible refine Below.setCell ?_ (by first | omega | (dsimp only; omega) | (simp <;> omega)) _) | (with_reducible refine Below.drew ?_) | (with_reducible refine below_drewN ?_ _) | (with_reducible refine Below.trans ?_ (Below.mono (by assumption) (by first | omega | (dsimp only; omega) | (simp <;> omega))))))⟩
  all_goals simp [results, Tryz.results123, go_sem, qT, qL, qB, qR, qOk, hp.out, *]

set_option maxHeartbeats 1000000 in
theorem prect_some0 (l : List UInt8) (o : Nat) (h : Lib.indexByte l 58 = o) (ho : o < l.length) (hm : l.length ≤ 9223372036854775807) (a b : List UInt8) (ha : a = l.take o) (hb : b = l.drop (o + 1))
    (g1 : pOk a = true) (g2 : pOk b = true) (g3 : mayRectB (pRow a) (pCol a) (pRow b) (pCol b) = true) (w : World) : Calls Tryz.prog 123 #[.string ⟨l.toArray⟩] w fun e w' => e = .returned (.tuple #[.agg #[.int .i64 (qT l), .int .i64 (qL l), .int .i64 (qB l), .int .i64 (qR l)], .bool (qOk l)]) ∧ Below w.heap.size w w' := by
  have hla : a.length ≤ 9223372036854775807 := by rw [ha]; simp; omega
  have hlb : b.length ≤ 9223372036854775807 := by rw [hb]; simp; omega
  have hp := prect_at h ha hb
  rw [g1, g2, g3] at hp
  have hp' := Lib.hid (show parseRect l = some (pRow a, pCol a, pRow b, pCol b) from hp)
  have H := Lib.hid (And.intro h (And.intro ha hb))
  clear hp h ha hb
  go_enter Tryz.func123, Tryz.ntmps123
  go_wp2_with fail
  refine (scut1 l 58 o H.out.1 ho hm _).mono ?_
  rintro e w1 ⟨rfl, hb1⟩
  rw [← H.out.2.1, ← H.out.2.2]
  obtain ⟨hc1, hf1, hz1⟩ := bkeep hb1 (w.heap.size + 1) (by simp)
  go_wp2_with fail
  refine (pcall a hla _).mono ?_
  rintro e w2 ⟨rfl, hb2⟩
  obtain ⟨hc2, hf2, hz2⟩ := bkeep hb2 (w.heap.size + 1) hz1
  have y1 : w.heap.size < w2.heap.size := by omega
  have y2 : w.heap.size < w2.heap.size + 1 := by omega
  go_wp2_with fail
  refine (pcall b hlb _).mono ?_
  rintro e w3 ⟨rfl, hb3⟩
  obtain ⟨hc3, hf3, hz3⟩ := bkeep hb3 (w2.heap.size + 1) (by simp)
  have y3 : w.heap.size < w3.heap.size := by omega
  have y4 : w.heap.size < w3.heap.size + 1 := by omega
  have y5 : w.heap.size < w3.heap.size + 2 := by omega
  have y6 : w2.heap.size < w3.heap.size := by omega
  have y7 : w2.heap.size < w3.heap.size + 1 := by omega
  have y8 : w2.heap.size < w3.heap.size + 2 := by omega
  go_wp2_with (go_at_call 34; refine (mayRect_any _ _ _ _ _).mono ?_; rintro e w4 ⟨rfl, hb4⟩; obtain ⟨hc4, hf4, hz4⟩ := bkeep hb4 (w3.heap.size + 2) (by simp))
  all_goals refine bodyPost_ret (v := .tuple #[.agg #[.int .i64 (qT l), .int .i64 (qL l), .int .i64 (qB l), .int .i64 (qR l)], .bool (qOk l)]) ?_ rfl ⟨rfl, by (repeat (first | (with_reducible exact Below.refl _ _) | (with_reducible refine Below.alloc ?_ (by first | omega | (dsimp only; omega) | (simp <;> omega)) _) | (with_reducible refine Below.setCell ?_ (by first | omega | (dsimp only; omega) | (simp <;> omega)) _) | (with_reducible refine Below.drew ?_) | (with_reducible refine below_drewN ?_ _) | (with_reducible refine Below.trans ?_ (Below.mono (by assumption) (by first | omega | (dsimp only; omega) | (simp <;> omega))))))⟩
  all_goals simp [results, Tryz.results123, go_sem, qT, qL, qB, qR, qOk, hp'.out, *]

set_option maxHeartbeats 1000000 in
theorem prect_some1 (l : List UInt8) (o : Nat) (h : Lib.indexByte l 58 = o) (ho : o < l.length) (hm : l.length ≤ 9223372036854775807) (a b : List UInt8) (ha : a = l.take o) (hb : b = l.drop (o + 1))
    (g1 : pOk a = true) (g2 : pOk b = true) (g3 : mayRectB (pRow a) (pCol a) (pRow b) (pCol b) = false) (w : World) : Calls Tryz.prog 123 #[.string ⟨l.toArray⟩] w fun e w' => e = .returned (.tuple #[.agg #[.int .i64 (qT l), .int .i64 (qL l), .int .i64 (qB l), .int .i64 (qR l)], .bool (qOk l)]) ∧ Below w.heap.size w w' := by
  have hla : a.length ≤ 9223372036854775807 := by rw [ha]; simp; omega
  have hlb : b.length ≤ 9223372036854775807 := by rw [hb]; simp; omega
  have hp := prect_at h ha hb
  rw [g1, g2, g3] at hp
  have hp' := Lib.hid (show parseRect l = .none from hp)
  have H := Lib.hid (And.intro h (And.intro ha hb))
  clear hp h ha hb
  go_enter Tryz.func123, Tryz.ntmps123
  go_wp2_with fail
  refine (scut1 l 58 o H.out.1 ho hm _).mono ?_
  rintro e w1 ⟨rfl, hb1⟩
  rw [← H.out.2.1, ← H.out.2.2]
  obtain ⟨hc1, hf1, hz1⟩ := bkeep hb1 (w.heap.size + 1) (by simp)
  go_wp2_with fail
  refine (pcall a hla _).mono ?_
  rintro e w2 ⟨rfl, hb2⟩
  obtain ⟨hc2, hf2, hz2⟩ := bkeep hb2 (w.heap.size + 1) hz1
  have y1 : w.heap.size < w2.heap.size := by omega
  have y2 : w.heap.size < w2.heap.size + 1 := by omega
  go_wp2_with fail
  refine (pcall b hlb _).mono ?_
  rintro e w3 ⟨rfl, hb3⟩
  obtain ⟨hc3, hf3, hz3⟩ := bkeep hb3 (w2.heap.size + 1) (by simp)
  have y3 : w.heap.size < w3.heap.size := by omega
  have y4 : w.heap.size < w3.heap.size + 1 := by omega
  have y5 : w.heap.size < w3.heap.size + 2 := by omega
  have y6 : w2.heap.size < w3.heap.size := by omega
  have y7 : w2.heap.size < w3.heap.size + 1 := by omega
  have y8 : w2.heap.size < w3.heap.size + 2 := by omega
  go_wp2_with (go_at_call 34; refine (mayRect_any _ _ _ _ _).mono ?_; rintro e w4 ⟨rfl, hb4⟩; obtain ⟨hc4, hf4, hz4⟩ := bkeep hb4 (w3.heap.size + 2) (by simp))
  all_goals refine bodyPost_ret (v := .tuple #[.agg #[.int .i64 (qT l), .int .i64 (qL l), .int .i64 (qB l), .int .i64 (qR l)], .bool (qOk l)]) ?_ rfl ⟨rfl, by (repeat (first | (with_reducible exact Below.refl _ _) | (with_reducible refine Below.alloc ?_ (by first | omega | (dsimp only; omega) | (simp <;> omega)) _) | (with_reducible refine Below.setCell ?_ (by first | omega | (dsimp only; omega) | (simp <;> omega)) _) | (with_reducible refine Below.drew ?_) | (with_reducible refine below_drewN ?_ _) | (with_reducible refine Below.trans ?_ (Below.mono (by assumption) (by first | omega | (dsimp only; omega) | (simp <;> omega))))))⟩
  all_goals simp [results, Tryz.results123, go_sem, qT, qL, qB, qR, qOk, hp'.out, *]

set_option maxHeartbeats 1000000 in
theorem prect_some2 (l : List UInt8) (o : Nat) (h : Lib.indexByte l 58 = o) (ho : o < l.length) (hm : l.length ≤ 9223372036854775807) (a b : List UInt8) (ha : a = l.take o) (hb : b = l.drop (o + 1))
    (g1 : pOk a = true) (g2 : pOk b = false) (w : World) : Calls Tryz.prog 123 #[.string ⟨l.toArray⟩] w fun e w' => e = .returned (.tuple #[.agg #[.int .i64 (qT l), .int .i64 (qL l), .int .i64 (qB l), .int .i64 (qR l)], .bool (qOk l)]) ∧ Below w.heap.size w w' := by
  have hla : a.length ≤ 9223372036854775807 := by rw [ha]; simp; omega
  have hlb : b.length ≤ 9223372036854775807 := by rw [hb]; simp; omega
  have hp := prect_at h ha hb
  rw [g1, g2] at hp
  have hp' := Lib.hid (show parseRect l = .none from hp)
  have H := Lib.hid (And.intro h (And.intro ha hb))
  clear hp h ha hb
  go_enter Tryz.func123, Tryz.ntmps123
  go_wp2_with fail
  refine (scut1 l 58 o H.out.1 ho hm _).mono ?_
  rintro e w1 ⟨rfl, hb1⟩
  rw [← H.out.2.1, ← H.out.2.2]
  obtain ⟨hc1, hf1, hz1⟩ := bkeep hb1 (w.heap.size + 1) (by simp)
  go_wp2_with fail
  refine (pcall a hla _).mono ?_
  rintro e w2 ⟨rfl, hb2⟩
  obtain ⟨hc2, hf2, hz2⟩ := bkeep hb2 (w.heap.size + 1) hz1
  have y1 : w.heap.size < w2.heap.size := by omega
  have y2 : w.heap.size < w2.heap.size + 1 := by omega
  go_wp2_with fail
  refine (pcall b hlb _).mono ?_
  rintro e w3 ⟨rfl, hb3⟩
  obtain ⟨hc3, hf3, hz3⟩ := bkeep hb3 (w2.heap.size + 1) (by simp)
  have y3 : w.heap.size < w3.heap.size := by omega
  have y4 : w.heap.size < w3.heap.size + 1 := by omega
  have y5 : w.heap.size < w3.heap.size + 2 := by omega
  have y6 : w2.heap.size < w3.heap.size := by omega
  have y7 : w2.heap.size < w3.heap.size + 1 := by omega
  have y8 : w2.heap.size < w3.heap.size + 2 := by omega
  go_wp2_with (go_at_call 34; refine (mayRect_any _ _ _ _ _).mono ?_; rintro e w4 ⟨rfl, hb4⟩; obtain ⟨hc4, hf4, hz4⟩ := bkeep hb4 (w3.heap.size + 2) (by simp))
  all_goals refine bodyPost_ret (v := .tuple #[.agg #[.int .i64 (qT l), .int .i64 (qL l), .int .i64 (qB l), .int .i64 (qR l)], .bool (qOk l)]) ?_ rfl ⟨rfl, by (repeat (first | (with_reducible exact Below.refl _ _) | (with_reducible refine Below.alloc ?_ (by first | omega | (dsimp only; omega) | (simp <;> omega)) _) | (with_reducible refine Below.setCell ?_ (by first | omega | (dsimp only; omega) | (simp <;> omega)) _) | (with_reducible refine Below.drew ?_) | (with_reducible refine below_drewN ?_ _) | (with_reducible refine Below.trans ?_ (Below.mono (by assumption) (by first | omega | (dsimp only; omega) | (simp <;> omega))))))⟩
  all_goals simp [results, Tryz.results123, go_sem, qT, qL, qB, qR, qOk, hp'.out, *]

set_option maxHeartbeats 1000000 in
theorem prect_some3 (l : List UInt8) (o : Nat) (h : Lib.indexByte l 58 = o) (ho : o < l.length) (hm : l.length ≤ 9223372036854775807) (a b : List UInt8) (ha : a = l.take o) (hb : b = l.drop (o + 1))
    (g1 : pOk a = false) (w : World) : Calls Tryz.prog 123 #[.string ⟨l.toArray⟩] w fun e w' => e = .returned (.tuple #[.agg #[.int .i64 (qT l), .int .i64 (qL l), .int .i64 (qB l), .int .i64 (qR l)], .bool (qOk l)]) ∧ Below w.heap.size w w' := by
  have hla : a.length ≤ 9223372036854775807 := by rw [ha]; simp; omega
  have hlb : b.length ≤ 9223372036854775807 := by rw [hb]; simp; omega
  have hp := prect_at h ha hb
  rw [g1] at hp
  have hp' := Lib.hid (show parseRect l = .none from hp)
  have H := Lib.hid (And.intro h (And.intro ha hb))
  clear hp h ha hb
  go_enter Tryz.func123, Tryz.ntmps123
  go_wp2_with fail
  refine (scut1 l 58 o H.out.1 ho hm _).mono ?_
  rintro e w1 ⟨rfl, hb1⟩
  rw [← H.out.2.1, ← H.out.2.2]
  obtain ⟨hc1, hf1, hz1⟩ := bkeep hb1 (w.heap.size + 1) (by simp)
  go_wp2_with fail
  refine (pcall a hla _).mono ?_
  rintro e w2 ⟨rfl, hb2⟩
  obtain ⟨hc2, hf2, hz2⟩ := bkeep hb2 (w.heap.size + 1) hz1
  have y1 : w.heap.size < w2.heap.size := by omega
  have y2 : w.heap.size < w2.heap.size + 1 := by omega
  go_wp2_with fail
  refine (pcall b hlb _).mono ?_
  rintro e w3 ⟨rfl, hb3⟩
  obtain ⟨hc3, hf3, hz3⟩ := bkeep hb3 (w2.heap.size + 1) (by simp)
  have y3 : w.heap.size < w3.heap.size := by omega
  have y4 : w.heap.size < w3.heap.size + 1 := by omega
  have y5 : w.heap.size < w3.heap.size + 2 := by omega
  have y6 : w2.heap.size < w3.heap.size := by omega
  have y7 : w2.heap.size < w3.heap.size + 1 := by omega
  have y8 : w2.heap.size < w3.heap.size + 2 := by omega
  go_wp2_with (go_at_call 34; refine (mayRect_any _ _ _ _ _).mono ?_; rintro e w4 ⟨rfl, hb4⟩; obtain ⟨hc4, hf4, hz4⟩ := bkeep hb4 (w3.heap.size + 2) (by simp))
  all_goals refine bodyPost_ret (v := .tuple #[.agg #[.int .i64 (qT l), .int .i64 (qL l), .int .i64 (qB l), .int .i64 (qR l)], .bool (qOk l)]) ?_ rfl ⟨rfl, by (repeat (first | (with_reducible exact Below.refl _ _) | (with_reducible refine Below.alloc ?_ (by first | omega | (dsimp only; omega) | (simp <;> omega)) _) | (with_reducible refine Below.setCell ?_ (by first | omega | (dsimp only; omega) | (simp <;> omega)) _) | (with_reducible refine Below.drew ?_) | (with_reducible refine below_drewN ?_ _) | (with_reducible refine Below.trans ?_ (Below.mono (by assumption) (by first | omega | (dsimp only; omega) | (simp <;> omega))))))⟩
  all_goals simp [results, Tryz.results123, go_sem, qT, qL, qB, qR, qOk, hp'.out, *]

theorem prect_any (l : List UInt8) (hm : l.length ≤ 9223372036854775807) (w : World) : Calls Tryz.prog 123 #[.string ⟨l.toArray⟩] w fun e w' => e = .returned (.tuple #[.agg #[.int .i64 (qT l), .int .i64 (qL l), .int .i64 (qB l), .int .i64 (qR l)], .bool (qOk l)]) ∧ Below w.heap.size w w' := by
  rcases idx_cases l 58 with h | ⟨o, h, ho⟩
  · exact prect_none l h w
  · cases g1 : pOk (l.take o)
    · exact prect_some3 l o h ho hm _ _ rfl rfl g1 w
    · cases g2 : pOk (l.drop (o + 1))
      · exact prect_some2 l o h ho hm _ _ rfl rfl g1 g2 w
      · cases g3 : mayRectB (pRow (l.take o)) (pCol (l.take o)) (pRow (l.drop (o + 1))) (pCol (l.drop (o + 1)))
        · exact prect_some1 l o h ho hm _ _ rfl rfl g1 g2 g3 w
        · exact prect_some0 l o h ho hm _ _ rfl rfl g1 g2 g3 w
end Go.Proofs.YtfbkoieodflcpaaGreatDoor
