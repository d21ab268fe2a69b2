/-
  Package dec: Parse of any text.
-/
import Derived.Test.YtgmhifafbebjfaaGreatDoorMg11
import Derived.Lib.SmallJoins
namespace Go.Proofs.YtgmhifafbebjfaaGreatDoor
open Go.RowKit

def optV : Option Int → Int
  | some x => x
  | .none => 0
theorem numV_eq {l : List UInt8} {o : Option Int} (h : numP l = o) : numV l = optV o ∧ numOk l = o.isSome := by
  subst h
  constructor
  · unfold numV optV; cases numP l <;> rfl
  · rfl
theorem head_low (l : List UInt8) : Lib.hasPrefix l [45] = lowOf l := by
  cases l with
  | nil => rfl
  | cons b t =>
    show ((45 == b) && List.isPrefixOf [] t) = (some b == some 45)
    rw [show List.isPrefixOf [] t = true from by cases t <;> rfl, Bool.and_true, Bool.eq_iff_iff, beq_iff_eq, beq_iff_eq]
    exact ⟨fun h => by rw [h], fun h => (Option.some.inj h).symm⟩
theorem trim_low (l : List UInt8) : Lib.trimPrefix l [45] = tailOf l := by
  unfold Lib.trimPrefix tailOf
  rw [head_low]
  cases l <;> simp
theorem pad_at {r : List UInt8} (h : r.length ≤ 4) : (⟨#[48, 48, 48, 48]⟩ : ByteArray).extract r.length 4 = ⟨(List.replicate (4 - r.length) 48).toArray⟩ := by
  have : r.length = 0 ∨ r.length = 1 ∨ r.length = 2 ∨ r.length = 3 ∨ r.length = 4 := by omega
  rcases this with h | h | h | h | h <;> rw [h] <;> decide +kernel
theorem dig_all {l : List UInt8} {m : Nat} (h : digOk l m = true) : 0 < l.length ∧ l.length ≤ m ∧ l.all isDig = true := by
  simp only [digOk, Bool.and_eq_true, decide_eq_true_eq] at h
  exact ⟨h.1.1, h.1.2, h.2⟩
theorem pad_all (D r : List UInt8) (h1 : D.all isDig = true) (h2 : r.all isDig = true) : (D ++ (r ++ List.replicate (4 - r.length) 48)).all isDig = true := by
  simp only [List.all_append, h1, h2, Bool.true_and, List.all_eq_true]
  intro b hb
  rw [List.eq_of_mem_replicate hb]
  decide
theorem u64_lt (D r : List UInt8) (hD : D.length ≤ 15) (hr : r.length ≤ 4) (h : (D ++ (r ++ List.replicate (4 - r.length) 48)).all isDig = true) : valL (D ++ (r ++ List.replicate (4 - r.length) 48)) ≤ 18446744073709551615 := by
  have := val_bound h
  have hl : (D ++ (r ++ List.replicate (4 - r.length) 48)).length ≤ 19 := by simp; omega
  have h2 : (10 : Nat) ^ (D ++ (r ++ List.replicate (4 - r.length) 48)).length ≤ 10 ^ 19 := Nat.pow_le_pow_right (by omega) hl
  omega
set_option maxRecDepth 100000 in
set_option maxHeartbeats 1000000 in
theorem dp_n1 (l t : List UInt8) (low : Bool) (htm : t.length ≤ 9223372036854775807) (H1 : Hid (Lib.trimPrefix l [45] = t)) (H2 : Hid (Lib.hasPrefix l [45] = low)) (hi : Hid (Lib.indexByte t 46 = -1)) (Gt : Hid (digOk t 15 = false)) (w : World) : Calls Tryz.prog 156 #[.string ⟨l.toArray⟩] w fun e w' => e = .returned (.tuple #[.int .i64 0, .bool false]) ∧ Below w.heap.size w w' := by
  go_enter Tryz.func156, Tryz.ntmps156
  go_wp2_with fail
  refine (Tryz.strings_CutPrefix ⟨l.toArray⟩ ⟨#[45]⟩ _).mono ?_
  rintro e w1 ⟨rfl, rfl⟩
  rw [show Lib.trimPrefix (⟨l.toArray⟩ : ByteArray).data.toList (⟨#[45]⟩ : ByteArray).data.toList = t from H1.out, show Lib.hasPrefix (⟨l.toArray⟩ : ByteArray).data.toList (⟨#[45]⟩ : ByteArray).data.toList = low from H2.out]
  go_wp2_with fail
  refine (scut0 t 46 hi.out _).mono ?_
  rintro e w2 ⟨rfl, hb2⟩
  go_wp2_with fail
  refine (digits_as t 15 (by omega) (by omega) _ Gt.out _).mono ?_
  rintro e w3 ⟨rfl, hb3⟩
  have q3 := hb2.trans (hb3.mono hb2.size)
  go_wp2
  go_ret2
  exact ⟨rfl, q3⟩
set_option maxRecDepth 100000 in
set_option maxHeartbeats 1000000 in
theorem dp_n2 (l t : List UInt8) (low : Bool) (htm : t.length ≤ 9223372036854775807) (H1 : Hid (Lib.trimPrefix l [45] = t)) (H2 : Hid (Lib.hasPrefix l [45] = low)) (hi : Hid (Lib.indexByte t 46 = -1)) (Gt : Hid (digOk t 15 = true)) (hl : 1 < t.length) (hb1 : 0 < (⟨t.toArray⟩ : ByteArray).size) (a1 : ((⟨t.toArray⟩ : ByteArray)[0]'hb1).toNat = 48) (w : World) : Calls Tryz.prog 156 #[.string ⟨l.toArray⟩] w fun e w' => e = .returned (.tuple #[.int .i64 0, .bool false]) ∧ Below w.heap.size w w' := by
  go_enter Tryz.func156, Tryz.ntmps156
  go_wp2_with fail
  refine (Tryz.strings_CutPrefix ⟨l.toArray⟩ ⟨#[45]⟩ _).mono ?_
  rintro e w1 ⟨rfl, rfl⟩
  rw [show Lib.trimPrefix (⟨l.toArray⟩ : ByteArray).data.toList (⟨#[45]⟩ : ByteArray).data.toList = t from H1.out, show Lib.hasPrefix (⟨l.toArray⟩ : ByteArray).data.toList (⟨#[45]⟩ : ByteArray).data.toList = low from H2.out]
  go_wp2_with fail
  refine (scut0 t 46 hi.out _).mono ?_
  rintro e w2 ⟨rfl, hb2⟩
  go_wp2_with fail
  refine (digits_as t 15 (by omega) (by omega) _ Gt.out _).mono ?_
  rintro e w3 ⟨rfl, hb3⟩
  have q3 := hb2.trans (hb3.mono hb2.size)
  go_wp2
  go_ret2
  exact ⟨rfl, q3⟩
set_option maxRecDepth 100000 in
set_option maxHeartbeats 1000000 in
theorem dp_p1 (l t : List UInt8) (low : Bool) (a b : List UInt8) (o : Nat) (htm : t.length ≤ 9223372036854775807) (H1 : Hid (Lib.trimPrefix l [45] = t)) (H2 : Hid (Lib.hasPrefix l [45] = low)) (hi : Hid (Lib.indexByte t 46 = o)) (ho : o < t.length) (hA : Hid (a = t.take o)) (hB : Hid (b = t.drop (o + 1))) (hal : a.length ≤ 9223372036854775807) (_hbl : b.length ≤ 9223372036854775807) (Ga : Hid (digOk a 15 = false)) (w : World) : Calls Tryz.prog 156 #[.string ⟨l.toArray⟩] w fun e w' => e = .returned (.tuple #[.int .i64 0, .bool false]) ∧ Below w.heap.size w w' := by
  go_enter Tryz.func156, Tryz.ntmps156
  go_wp2_with fail
  refine (Tryz.strings_CutPrefix ⟨l.toArray⟩ ⟨#[45]⟩ _).mono ?_
  rintro e w1 ⟨rfl, rfl⟩
  rw [show Lib.trimPrefix (⟨l.toArray⟩ : ByteArray).data.toList (⟨#[45]⟩ : ByteArray).data.toList = t from H1.out, show Lib.hasPrefix (⟨l.toArray⟩ : ByteArray).data.toList (⟨#[45]⟩ : ByteArray).data.toList = low from H2.out]
  go_wp2_with fail
  refine (scut1 t 46 o hi.out ho (by omega) _).mono ?_
  rintro e w2 ⟨rfl, hb2⟩
  rw [← hA.out, ← hB.out]
  go_wp2_with fail
  refine (digits_as a 15 (by omega) (by omega) _ Ga.out _).mono ?_
  rintro e w3 ⟨rfl, hb3⟩
  have q3 := hb2.trans (hb3.mono hb2.size)
  go_wp2
  go_ret2
  exact ⟨rfl, q3⟩
set_option maxRecDepth 100000 in
set_option maxHeartbeats 1000000 in
theorem dp_p2 (l t : List UInt8) (low : Bool) (a b : List UInt8) (o : Nat) (htm : t.length ≤ 9223372036854775807) (H1 : Hid (Lib.trimPrefix l [45] = t)) (H2 : Hid (Lib.hasPrefix l [45] = low)) (hi : Hid (Lib.indexByte t 46 = o)) (ho : o < t.length) (hA : Hid (a = t.take o)) (hB : Hid (b = t.drop (o + 1))) (hal : a.length ≤ 9223372036854775807) (_hbl : b.length ≤ 9223372036854775807) (Ga : Hid (digOk a 15 = true)) (hl : 1 < a.length) (hb1 : 0 < (⟨a.toArray⟩ : ByteArray).size) (a1 : ((⟨a.toArray⟩ : ByteArray)[0]'hb1).toNat = 48) (w : World) : Calls Tryz.prog 156 #[.string ⟨l.toArray⟩] w fun e w' => e = .returned (.tuple #[.int .i64 0, .bool false]) ∧ Below w.heap.size w w' := by
  go_enter Tryz.func156, Tryz.ntmps156
  go_wp2_with fail
  refine (Tryz.strings_CutPrefix ⟨l.toArray⟩ ⟨#[45]⟩ _).mono ?_
  rintro e w1 ⟨rfl, rfl⟩
  rw [show Lib.trimPrefix (⟨l.toArray⟩ : ByteArray).data.toList (⟨#[45]⟩ : ByteArray).data.toList = t from H1.out, show Lib.hasPrefix (⟨l.toArray⟩ : ByteArray).data.toList (⟨#[45]⟩ : ByteArray).data.toList = low from H2.out]
  go_wp2_with fail
  refine (scut1 t 46 o hi.out ho (by omega) _).mono ?_
  rintro e w2 ⟨rfl, hb2⟩
  rw [← hA.out, ← hB.out]
  go_wp2_with fail
  refine (digits_as a 15 (by omega) (by omega) _ Ga.out _).mono ?_
  rintro e w3 ⟨rfl, hb3⟩
  have q3 := hb2.trans (hb3.mono hb2.size)
  go_wp2
  go_ret2
  exact ⟨rfl, q3⟩
set_option maxRecDepth 100000 in
set_option maxHeartbeats 1000000 in
theorem dp_p3_0 (l t : List UInt8) (low : Bool) (a b : List UInt8) (o : Nat) (htm : t.length ≤ 9223372036854775807) (H1 : Hid (Lib.trimPrefix l [45] = t)) (H2 : Hid (Lib.hasPrefix l [45] = low)) (hi : Hid (Lib.indexByte t 46 = o)) (ho : o < t.length) (hA : Hid (a = t.take o)) (hB : Hid (b = t.drop (o + 1))) (hal : a.length ≤ 9223372036854775807) (hbl : b.length ≤ 9223372036854775807) (Ga : Hid (digOk a 15 = true)) (hl : ¬ 1 < a.length) (Gb : Hid (digOk b 4 = false)) (w : World) : Calls Tryz.prog 156 #[.string ⟨l.toArray⟩] w fun e w' => e = .returned (.tuple #[.int .i64 0, .bool false]) ∧ Below w.heap.size w w' := by
  go_enter Tryz.func156, Tryz.ntmps156
  go_wp2_with fail
  refine (Tryz.strings_CutPrefix ⟨l.toArray⟩ ⟨#[45]⟩ _).mono ?_
  rintro e w1 ⟨rfl, rfl⟩
  rw [show Lib.trimPrefix (⟨l.toArray⟩ : ByteArray).data.toList (⟨#[45]⟩ : ByteArray).data.toList = t from H1.out, show Lib.hasPrefix (⟨l.toArray⟩ : ByteArray).data.toList (⟨#[45]⟩ : ByteArray).data.toList = low from H2.out]
  go_wp2_with fail
  refine (scut1 t 46 o hi.out ho (by omega) _).mono ?_
  rintro e w2 ⟨rfl, hb2⟩
  rw [← hA.out, ← hB.out]
  go_wp2_with fail
  refine (digits_as a 15 (by omega) (by omega) _ Ga.out _).mono ?_
  rintro e w3 ⟨rfl, hb3⟩
  have q3 := hb2.trans (hb3.mono hb2.size)
  have hDl := dig_all Ga.out
  go_wp2_with fail
  refine (digits_as b 4 (by omega) (by omega) _ Gb.out _).mono ?_
  rintro e w4 ⟨rfl, hb4⟩
  have q4 := q3.trans (hb4.mono q3.size)
  go_wp2
  go_ret2
  exact ⟨rfl, q4⟩
set_option maxRecDepth 100000 in
set_option maxHeartbeats 1000000 in
theorem dp_n4_00 (l t : List UInt8) (htm : t.length ≤ 9223372036854775807) (H1 : Hid (Lib.trimPrefix l [45] = t)) (H2 : Hid (Lib.hasPrefix l [45] = false)) (hi : Hid (Lib.indexByte t 46 = -1)) (Gt : Hid (digOk t 15 = true)) (hl : ¬ 1 < t.length) (u : Nat) (hu : Hid (valL (t ++ (([] : List UInt8) ++ List.replicate (4 - ([] : List UInt8).length) 48)) = u)) (hu2 : u ≤ 18446744073709551615) (w : World) : Calls Tryz.prog 156 #[.string ⟨l.toArray⟩] w fun e w' => e = .returned (.tuple #[.int .i64 (exV ((u : Int))), .bool (decide (exC ((u : Int)) = 0))]) ∧ Below w.heap.size w w' := by
  have hDl := dig_all Gt.out
  obtain ⟨hd1, hd2, hd3⟩ := hDl
  have he2' : (⟨t.toArray⟩ : ByteArray) ++ ⟨#[48, 48, 48, 48]⟩ = ⟨(t ++ [48, 48, 48, 48]).toArray⟩ := by apply ByteArray.ext; simp
  have he2 := Lib.hid he2'
  have hS : Hid ((t ++ [48, 48, 48, 48]) = t ++ (([] : List UInt8) ++ List.replicate (4 - ([] : List UInt8).length) 48)) := Lib.hid (by simp [List.replicate])
  have hal2 := Lib.hid (pad_all t [] hd3 rfl)
  have hpu : Hid (Lib.parseUintB 64 (⟨(t ++ [48, 48, 48, 48]).toArray⟩ : ByteArray).data.toList = .ok u) := Lib.hid (by
    show Lib.parseUintB 64 (t ++ [48, 48, 48, 48]) = .ok u
    rw [hS.out, parse_ok64 hal2.out (by simp <;> omega) (by simp; omega), hu.out])
  have hmx : Hid ((⟨(t ++ [48, 48, 48, 48]).toArray⟩ : ByteArray).size ≤ 9223372036854775806) := Lib.hid (by simp only [ByteArray.size, List.size_toArray, List.length_append, List.length_cons, List.length_nil]; omega)
  clear hd3 he2'
  go_enter Tryz.func156, Tryz.ntmps156
  go_wp2_with fail
  refine (Tryz.strings_CutPrefix ⟨l.toArray⟩ ⟨#[45]⟩ _).mono ?_
  rintro e w1 ⟨rfl, rfl⟩
  rw [show Lib.trimPrefix (⟨l.toArray⟩ : ByteArray).data.toList (⟨#[45]⟩ : ByteArray).data.toList = t from H1.out, show Lib.hasPrefix (⟨l.toArray⟩ : ByteArray).data.toList (⟨#[45]⟩ : ByteArray).data.toList = false from H2.out]
  go_wp2_with fail
  refine (scut0 t 46 hi.out _).mono ?_
  rintro e w2 ⟨rfl, hb2⟩
  go_wp2_with fail
  refine (digits_as t 15 (by omega) (by omega) _ Gt.out _).mono ?_
  rintro e w3 ⟨rfl, hb3⟩
  have q3 := hb2.trans (hb3.mono hb2.size)
  go_wp2_with fail
  rw [show (⟨t.toArray⟩ : ByteArray) ++ ⟨#[]⟩ ++ (⟨#[48, 48, 48, 48]⟩ : ByteArray).extract 0 4 = ⟨(t ++ [48, 48, 48, 48]).toArray⟩ from by apply ByteArray.ext; simp]
  have C := Tryz.strconv_ParseUint_10_at64_ok ⟨(t ++ [48, 48, 48, 48]).toArray⟩ hmx.out u hpu.out w3
  with_reducible refine C.mono ?_
  clear C
  rintro e w5 ⟨rfl, hw5⟩
  have q5 : Below w1.heap.size w1 w5 := by
    rcases hw5 with rfl | rfl
    · exact q3
    · exact q3.trans (Go.Joins.below_bytesWorld _ _ _ _ q3.size)
  clear hw5
  go_wp2_with fail
  refine (signed_any (u : Int) (by omega) false _).mono ?_
  rintro e w6 ⟨rfl, rfl⟩
  go_wp2
  go_ret2
  exact ⟨ret_ib rfl rfl, q5⟩
set_option maxRecDepth 100000 in
set_option maxHeartbeats 1000000 in
theorem dp_p4_00 (l t : List UInt8) (a b : List UInt8) (o : Nat) (htm : t.length ≤ 9223372036854775807) (H1 : Hid (Lib.trimPrefix l [45] = t)) (H2 : Hid (Lib.hasPrefix l [45] = false)) (hi : Hid (Lib.indexByte t 46 = o)) (ho : o < t.length) (hA : Hid (a = t.take o)) (hB : Hid (b = t.drop (o + 1))) (hal : a.length ≤ 9223372036854775807) (hbl : b.length ≤ 9223372036854775807) (Ga : Hid (digOk a 15 = true)) (hl : ¬ 1 < a.length) (Gb : Hid (digOk b 4 = true)) (u : Nat) (hu : Hid (valL (a ++ (b ++ List.replicate (4 - b.length) 48)) = u)) (hu2 : u ≤ 18446744073709551615) (w : World) : Calls Tryz.prog 156 #[.string ⟨l.toArray⟩] w fun e w' => e = .returned (.tuple #[.int .i64 (exV ((u : Int))), .bool (decide (exC ((u : Int)) = 0))]) ∧ Below w.heap.size w w' := by
  have hDl := dig_all Ga.out
  obtain ⟨hd1, hd2, hd3⟩ := hDl
  obtain ⟨hr1, hr2, hr3⟩ := dig_all Gb.out
  have he1' : (⟨a.toArray⟩ : ByteArray) ++ ⟨b.toArray⟩ = ⟨(a ++ b).toArray⟩ := by apply ByteArray.ext; simp
  have he1 := Lib.hid he1'
  have hx1 := Lib.hid (pad_at hr2)
  have he2' : (⟨(a ++ b).toArray⟩ : ByteArray) ++ ⟨(List.replicate (4 - b.length) 48).toArray⟩ = ⟨((a ++ b) ++ List.replicate (4 - b.length) 48).toArray⟩ := by apply ByteArray.ext; simp
  have he2 := Lib.hid he2'
  have hS : Hid (((a ++ b) ++ List.replicate (4 - b.length) 48) = a ++ (b ++ List.replicate (4 - b.length) 48)) := Lib.hid (by simp)
  have hal2 := Lib.hid (pad_all a b hd3 hr3)
  have hl4 : 4 - b.length ≤ 4 := by omega
  have hpu : Hid (Lib.parseUintB 64 (⟨((a ++ b) ++ List.replicate (4 - b.length) 48).toArray⟩ : ByteArray).data.toList = .ok u) := Lib.hid (by
    show Lib.parseUintB 64 ((a ++ b) ++ List.replicate (4 - b.length) 48) = .ok u
    rw [hS.out, parse_ok64 hal2.out (by simp <;> omega) (by simp; omega), hu.out])
  have hmx : Hid ((⟨((a ++ b) ++ List.replicate (4 - b.length) 48).toArray⟩ : ByteArray).size ≤ 9223372036854775806) := Lib.hid (by simp only [ByteArray.size, List.size_toArray, List.length_append, List.length_replicate]; omega)
  clear hd3 he2' hr3 he1'
  go_enter Tryz.func156, Tryz.ntmps156
  go_wp2_with fail
  refine (Tryz.strings_CutPrefix ⟨l.toArray⟩ ⟨#[45]⟩ _).mono ?_
  rintro e w1 ⟨rfl, rfl⟩
  rw [show Lib.trimPrefix (⟨l.toArray⟩ : ByteArray).data.toList (⟨#[45]⟩ : ByteArray).data.toList = t from H1.out, show Lib.hasPrefix (⟨l.toArray⟩ : ByteArray).data.toList (⟨#[45]⟩ : ByteArray).data.toList = false from H2.out]
  go_wp2_with fail
  refine (scut1 t 46 o hi.out ho (by omega) _).mono ?_
  rintro e w2 ⟨rfl, hb2⟩
  rw [← hA.out, ← hB.out]
  go_wp2_with fail
  refine (digits_as a 15 (by omega) (by omega) _ Ga.out _).mono ?_
  rintro e w3 ⟨rfl, hb3⟩
  have q3 := hb2.trans (hb3.mono hb2.size)
  go_wp2_with fail
  refine (digits_as b 4 (by omega) (by omega) _ Gb.out _).mono ?_
  rintro e w4 ⟨rfl, hb4⟩
  have q4 := q3.trans (hb4.mono q3.size)
  go_wp2_with fail
  rw [he1.out, hx1.out, he2.out]
  have C := Tryz.strconv_ParseUint_10_at64_ok ⟨((a ++ b) ++ List.replicate (4 - b.length) 48).toArray⟩ hmx.out u hpu.out w4
  with_reducible refine C.mono ?_
  clear C
  rintro e w5 ⟨rfl, hw5⟩
  have q5 : Below w1.heap.size w1 w5 := by
    rcases hw5 with rfl | rfl
    · exact q4
    · exact q4.trans (Go.Joins.below_bytesWorld _ _ _ _ q4.size)
  clear hw5
  go_wp2_with fail
  refine (signed_any (u : Int) (by omega) false _).mono ?_
  rintro e w6 ⟨rfl, rfl⟩
  go_wp2
  go_ret2
  exact ⟨ret_ib rfl rfl, q5⟩
set_option maxRecDepth 100000 in
set_option maxHeartbeats 1000000 in
theorem dp_n4_10 (l t : List UInt8) (htm : t.length ≤ 9223372036854775807) (H1 : Hid (Lib.trimPrefix l [45] = t)) (H2 : Hid (Lib.hasPrefix l [45] = true)) (hi : Hid (Lib.indexByte t 46 = -1)) (Gt : Hid (digOk t 15 = true)) (hl : ¬ 1 < t.length) (u : Nat) (hu : Hid (valL (t ++ (([] : List UInt8) ++ List.replicate (4 - ([] : List UInt8).length) 48)) = u)) (hu2 : u ≤ 18446744073709551615) (hu0 : 0 < u) (w : World) : Calls Tryz.prog 156 #[.string ⟨l.toArray⟩] w fun e w' => e = .returned (.tuple #[.int .i64 (exV (-(u : Int))), .bool (decide (exC (-(u : Int)) = 0))]) ∧ Below w.heap.size w w' := by
  have hDl := dig_all Gt.out
  obtain ⟨hd1, hd2, hd3⟩ := hDl
  have he2' : (⟨t.toArray⟩ : ByteArray) ++ ⟨#[48, 48, 48, 48]⟩ = ⟨(t ++ [48, 48, 48, 48]).toArray⟩ := by apply ByteArray.ext; simp
  have he2 := Lib.hid he2'
  have hS : Hid ((t ++ [48, 48, 48, 48]) = t ++ (([] : List UInt8) ++ List.replicate (4 - ([] : List UInt8).length) 48)) := Lib.hid (by simp [List.replicate])
  have hal2 := Lib.hid (pad_all t [] hd3 rfl)
  have hpu : Hid (Lib.parseUintB 64 (⟨(t ++ [48, 48, 48, 48]).toArray⟩ : ByteArray).data.toList = .ok u) := Lib.hid (by
    show Lib.parseUintB 64 (t ++ [48, 48, 48, 48]) = .ok u
    rw [hS.out, parse_ok64 hal2.out (by simp <;> omega) (by simp; omega), hu.out])
  have hmx : Hid ((⟨(t ++ [48, 48, 48, 48]).toArray⟩ : ByteArray).size ≤ 9223372036854775806) := Lib.hid (by simp only [ByteArray.size, List.size_toArray, List.length_append, List.length_cons, List.length_nil]; omega)
  clear hd3 he2'
  go_enter Tryz.func156, Tryz.ntmps156
  go_wp2_with fail
  refine (Tryz.strings_CutPrefix ⟨l.toArray⟩ ⟨#[45]⟩ _).mono ?_
  rintro e w1 ⟨rfl, rfl⟩
  rw [show Lib.trimPrefix (⟨l.toArray⟩ : ByteArray).data.toList (⟨#[45]⟩ : ByteArray).data.toList = t from H1.out, show Lib.hasPrefix (⟨l.toArray⟩ : ByteArray).data.toList (⟨#[45]⟩ : ByteArray).data.toList = true from H2.out]
  go_wp2_with fail
  refine (scut0 t 46 hi.out _).mono ?_
  rintro e w2 ⟨rfl, hb2⟩
  go_wp2_with fail
  refine (digits_as t 15 (by omega) (by omega) _ Gt.out _).mono ?_
  rintro e w3 ⟨rfl, hb3⟩
  have q3 := hb2.trans (hb3.mono hb2.size)
  go_wp2_with fail
  rw [show (⟨t.toArray⟩ : ByteArray) ++ ⟨#[]⟩ ++ (⟨#[48, 48, 48, 48]⟩ : ByteArray).extract 0 4 = ⟨(t ++ [48, 48, 48, 48]).toArray⟩ from by apply ByteArray.ext; simp]
  have C := Tryz.strconv_ParseUint_10_at64_ok ⟨(t ++ [48, 48, 48, 48]).toArray⟩ hmx.out u hpu.out w3
  with_reducible refine C.mono ?_
  clear C
  rintro e w5 ⟨rfl, hw5⟩
  have q5 : Below w1.heap.size w1 w5 := by
    rcases hw5 with rfl | rfl
    · exact q3
    · exact q3.trans (Go.Joins.below_bytesWorld _ _ _ _ q3.size)
  clear hw5
  go_wp2_with fail
  refine (signed_any (u : Int) (by omega) true _).mono ?_
  rintro e w6 ⟨rfl, rfl⟩
  go_wp2
  go_ret2
  exact ⟨ret_ib rfl rfl, q5⟩
set_option maxRecDepth 100000 in
set_option maxHeartbeats 1000000 in
theorem dp_p4_10 (l t : List UInt8) (a b : List UInt8) (o : Nat) (htm : t.length ≤ 9223372036854775807) (H1 : Hid (Lib.trimPrefix l [45] = t)) (H2 : Hid (Lib.hasPrefix l [45] = true)) (hi : Hid (Lib.indexByte t 46 = o)) (ho : o < t.length) (hA : Hid (a = t.take o)) (hB : Hid (b = t.drop (o + 1))) (hal : a.length ≤ 9223372036854775807) (hbl : b.length ≤ 9223372036854775807) (Ga : Hid (digOk a 15 = true)) (hl : ¬ 1 < a.length) (Gb : Hid (digOk b 4 = true)) (u : Nat) (hu : Hid (valL (a ++ (b ++ List.replicate (4 - b.length) 48)) = u)) (hu2 : u ≤ 18446744073709551615) (hu0 : 0 < u) (w : World) : Calls Tryz.prog 156 #[.string ⟨l.toArray⟩] w fun e w' => e = .returned (.tuple #[.int .i64 (exV (-(u : Int))), .bool (decide (exC (-(u : Int)) = 0))]) ∧ Below w.heap.size w w' := by
  have hDl := dig_all Ga.out
  obtain ⟨hd1, hd2, hd3⟩ := hDl
  obtain ⟨hr1, hr2, hr3⟩ := dig_all Gb.out
  have he1' : (⟨a.toArray⟩ : ByteArray) ++ ⟨b.toArray⟩ = ⟨(a ++ b).toArray⟩ := by apply ByteArray.ext; simp
  have he1 := Lib.hid he1'
  have hx1 := Lib.hid (pad_at hr2)
  have he2' : (⟨(a ++ b).toArray⟩ : ByteArray) ++ ⟨(List.replicate (4 - b.length) 48).toArray⟩ = ⟨((a ++ b) ++ List.replicate (4 - b.length) 48).toArray⟩ := by apply ByteArray.ext; simp
  have he2 := Lib.hid he2'
  have hS : Hid (((a ++ b) ++ List.replicate (4 - b.length) 48) = a ++ (b ++ List.replicate (4 - b.length) 48)) := Lib.hid (by simp)
  have hal2 := Lib.hid (pad_all a b hd3 hr3)
  have hl4 : 4 - b.length ≤ 4 := by omega
  have hpu : Hid (Lib.parseUintB 64 (⟨((a ++ b) ++ List.replicate (4 - b.length) 48).toArray⟩ : ByteArray).data.toList = .ok u) := Lib.hid (by
    show Lib.parseUintB 64 ((a ++ b) ++ List.replicate (4 - b.length) 48) = .ok u
    rw [hS.out, parse_ok64 hal2.out (by simp <;> omega) (by simp; omega), hu.out])
  have hmx : Hid ((⟨((a ++ b) ++ List.replicate (4 - b.length) 48).toArray⟩ : ByteArray).size ≤ 9223372036854775806) := Lib.hid (by simp only [ByteArray.size, List.size_toArray, List.length_append, List.length_replicate]; omega)
  clear hd3 he2' hr3 he1'
  go_enter Tryz.func156, Tryz.ntmps156
  go_wp2_with fail
  refine (Tryz.strings_CutPrefix ⟨l.toArray⟩ ⟨#[45]⟩ _).mono ?_
  rintro e w1 ⟨rfl, rfl⟩
  rw [show Lib.trimPrefix (⟨l.toArray⟩ : ByteArray).data.toList (⟨#[45]⟩ : ByteArray).data.toList = t from H1.out, show Lib.hasPrefix (⟨l.toArray⟩ : ByteArray).data.toList (⟨#[45]⟩ : ByteArray).data.toList = true from H2.out]
  go_wp2_with fail
  refine (scut1 t 46 o hi.out ho (by omega) _).mono ?_
  rintro e w2 ⟨rfl, hb2⟩
  rw [← hA.out, ← hB.out]
  go_wp2_with fail
  refine (digits_as a 15 (by omega) (by omega) _ Ga.out _).mono ?_
  rintro e w3 ⟨rfl, hb3⟩
  have q3 := hb2.trans (hb3.mono hb2.size)
  go_wp2_with fail
  refine (digits_as b 4 (by omega) (by omega) _ Gb.out _).mono ?_
  rintro e w4 ⟨rfl, hb4⟩
  have q4 := q3.trans (hb4.mono q3.size)
  go_wp2_with fail
  rw [he1.out, hx1.out, he2.out]
  have C := Tryz.strconv_ParseUint_10_at64_ok ⟨((a ++ b) ++ List.replicate (4 - b.length) 48).toArray⟩ hmx.out u hpu.out w4
  with_reducible refine C.mono ?_
  clear C
  rintro e w5 ⟨rfl, hw5⟩
  have q5 : Below w1.heap.size w1 w5 := by
    rcases hw5 with rfl | rfl
    · exact q4
    · exact q4.trans (Go.Joins.below_bytesWorld _ _ _ _ q4.size)
  clear hw5
  go_wp2_with fail
  refine (signed_any (u : Int) (by omega) true _).mono ?_
  rintro e w6 ⟨rfl, rfl⟩
  go_wp2
  go_ret2
  exact ⟨ret_ib rfl rfl, q5⟩
set_option maxRecDepth 100000 in
set_option maxHeartbeats 1000000 in
theorem dp_n4_20 (l t : List UInt8) (htm : t.length ≤ 9223372036854775807) (H1 : Hid (Lib.trimPrefix l [45] = t)) (H2 : Hid (Lib.hasPrefix l [45] = true)) (hi : Hid (Lib.indexByte t 46 = -1)) (Gt : Hid (digOk t 15 = true)) (hl : ¬ 1 < t.length) (u : Nat) (hu : Hid (valL (t ++ (([] : List UInt8) ++ List.replicate (4 - ([] : List UInt8).length) 48)) = u)) (hu2 : u ≤ 18446744073709551615) (hu0 : u = 0) (w : World) : Calls Tryz.prog 156 #[.string ⟨l.toArray⟩] w fun e w' => e = .returned (.tuple #[.int .i64 0, .bool false]) ∧ Below w.heap.size w w' := by
  subst hu0
  have hDl := dig_all Gt.out
  obtain ⟨hd1, hd2, hd3⟩ := hDl
  have he2' : (⟨t.toArray⟩ : ByteArray) ++ ⟨#[48, 48, 48, 48]⟩ = ⟨(t ++ [48, 48, 48, 48]).toArray⟩ := by apply ByteArray.ext; simp
  have he2 := Lib.hid he2'
  have hS : Hid ((t ++ [48, 48, 48, 48]) = t ++ (([] : List UInt8) ++ List.replicate (4 - ([] : List UInt8).length) 48)) := Lib.hid (by simp [List.replicate])
  have hal2 := Lib.hid (pad_all t [] hd3 rfl)
  have hpu : Hid (Lib.parseUintB 64 (⟨(t ++ [48, 48, 48, 48]).toArray⟩ : ByteArray).data.toList = .ok 0) := Lib.hid (by
    show Lib.parseUintB 64 (t ++ [48, 48, 48, 48]) = .ok 0
    rw [hS.out, parse_ok64 hal2.out (by simp <;> omega) (by simp; omega), hu.out])
  have hmx : Hid ((⟨(t ++ [48, 48, 48, 48]).toArray⟩ : ByteArray).size ≤ 9223372036854775806) := Lib.hid (by simp only [ByteArray.size, List.size_toArray, List.length_append, List.length_cons, List.length_nil]; omega)
  clear hd3 he2'
  go_enter Tryz.func156, Tryz.ntmps156
  go_wp2_with fail
  refine (Tryz.strings_CutPrefix ⟨l.toArray⟩ ⟨#[45]⟩ _).mono ?_
  rintro e w1 ⟨rfl, rfl⟩
  rw [show Lib.trimPrefix (⟨l.toArray⟩ : ByteArray).data.toList (⟨#[45]⟩ : ByteArray).data.toList = t from H1.out, show Lib.hasPrefix (⟨l.toArray⟩ : ByteArray).data.toList (⟨#[45]⟩ : ByteArray).data.toList = true from H2.out]
  go_wp2_with fail
  refine (scut0 t 46 hi.out _).mono ?_
  rintro e w2 ⟨rfl, hb2⟩
  go_wp2_with fail
  refine (digits_as t 15 (by omega) (by omega) _ Gt.out _).mono ?_
  rintro e w3 ⟨rfl, hb3⟩
  have q3 := hb2.trans (hb3.mono hb2.size)
  go_wp2_with fail
  rw [show (⟨t.toArray⟩ : ByteArray) ++ ⟨#[]⟩ ++ (⟨#[48, 48, 48, 48]⟩ : ByteArray).extract 0 4 = ⟨(t ++ [48, 48, 48, 48]).toArray⟩ from by apply ByteArray.ext; simp]
  have C := Tryz.strconv_ParseUint_10_at64_ok ⟨(t ++ [48, 48, 48, 48]).toArray⟩ hmx.out 0 hpu.out w3
  with_reducible refine C.mono ?_
  clear C
  rintro e w5 ⟨rfl, hw5⟩
  have q5 : Below w1.heap.size w1 w5 := by
    rcases hw5 with rfl | rfl
    · exact q3
    · exact q3.trans (Go.Joins.below_bytesWorld _ _ _ _ q3.size)
  clear hw5
  go_wp2
  go_ret2
  exact ⟨rfl, q5⟩
set_option maxRecDepth 100000 in
set_option maxHeartbeats 1000000 in
theorem dp_p4_20 (l t : List UInt8) (a b : List UInt8) (o : Nat) (htm : t.length ≤ 9223372036854775807) (H1 : Hid (Lib.trimPrefix l [45] = t)) (H2 : Hid (Lib.hasPrefix l [45] = true)) (hi : Hid (Lib.indexByte t 46 = o)) (ho : o < t.length) (hA : Hid (a = t.take o)) (hB : Hid (b = t.drop (o + 1))) (hal : a.length ≤ 9223372036854775807) (hbl : b.length ≤ 9223372036854775807) (Ga : Hid (digOk a 15 = true)) (hl : ¬ 1 < a.length) (Gb : Hid (digOk b 4 = true)) (u : Nat) (hu : Hid (valL (a ++ (b ++ List.replicate (4 - b.length) 48)) = u)) (hu2 : u ≤ 18446744073709551615) (hu0 : u = 0) (w : World) : Calls Tryz.prog 156 #[.string ⟨l.toArray⟩] w fun e w' => e = .returned (.tuple #[.int .i64 0, .bool false]) ∧ Below w.heap.size w w' := by
  subst hu0
  have hDl := dig_all Ga.out
  obtain ⟨hd1, hd2, hd3⟩ := hDl
  obtain ⟨hr1, hr2, hr3⟩ := dig_all Gb.out
  have he1' : (⟨a.toArray⟩ : ByteArray) ++ ⟨b.toArray⟩ = ⟨(a ++ b).toArray⟩ := by apply ByteArray.ext; simp
  have he1 := Lib.hid he1'
  have hx1 := Lib.hid (pad_at hr2)
  have he2' : (⟨(a ++ b).toArray⟩ : ByteArray) ++ ⟨(List.replicate (4 - b.length) 48).toArray⟩ = ⟨((a ++ b) ++ List.replicate (4 - b.length) 48).toArray⟩ := by apply ByteArray.ext; simp
  have he2 := Lib.hid he2'
  have hS : Hid (((a ++ b) ++ List.replicate (4 - b.length) 48) = a ++ (b ++ List.replicate (4 - b.length) 48)) := Lib.hid (by simp)
  have hal2 := Lib.hid (pad_all a b hd3 hr3)
  have hl4 : 4 - b.length ≤ 4 := by omega
  have hpu : Hid (Lib.parseUintB 64 (⟨((a ++ b) ++ List.replicate (4 - b.length) 48).toArray⟩ : ByteArray).data.toList = .ok 0) := Lib.hid (by
    show Lib.parseUintB 64 ((a ++ b) ++ List.replicate (4 - b.length) 48) = .ok 0
    rw [hS.out, parse_ok64 hal2.out (by simp <;> omega) (by simp; omega), hu.out])
  have hmx : Hid ((⟨((a ++ b) ++ List.replicate (4 - b.length) 48).toArray⟩ : ByteArray).size ≤ 9223372036854775806) := Lib.hid (by simp only [ByteArray.size, List.size_toArray, List.length_append, List.length_replicate]; omega)
  clear hd3 he2' hr3 he1'
  go_enter Tryz.func156, Tryz.ntmps156
  go_wp2_with fail
  refine (Tryz.strings_CutPrefix ⟨l.toArray⟩ ⟨#[45]⟩ _).mono ?_
  rintro e w1 ⟨rfl, rfl⟩
  rw [show Lib.trimPrefix (⟨l.toArray⟩ : ByteArray).data.toList (⟨#[45]⟩ : ByteArray).data.toList = t from H1.out, show Lib.hasPrefix (⟨l.toArray⟩ : ByteArray).data.toList (⟨#[45]⟩ : ByteArray).data.toList = true from H2.out]
  go_wp2_with fail
  refine (scut1 t 46 o hi.out ho (by omega) _).mono ?_
  rintro e w2 ⟨rfl, hb2⟩
  rw [← hA.out, ← hB.out]
  go_wp2_with fail
  refine (digits_as a 15 (by omega) (by omega) _ Ga.out _).mono ?_
  rintro e w3 ⟨rfl, hb3⟩
  have q3 := hb2.trans (hb3.mono hb2.size)
  go_wp2_with fail
  refine (digits_as b 4 (by omega) (by omega) _ Gb.out _).mono ?_
  rintro e w4 ⟨rfl, hb4⟩
  have q4 := q3.trans (hb4.mono q3.size)
  go_wp2_with fail
  rw [he1.out, hx1.out, he2.out]
  have C := Tryz.strconv_ParseUint_10_at64_ok ⟨((a ++ b) ++ List.replicate (4 - b.length) 48).toArray⟩ hmx.out 0 hpu.out w4
  with_reducible refine C.mono ?_
  clear C
  rintro e w5 ⟨rfl, hw5⟩
  have q5 : Below w1.heap.size w1 w5 := by
    rcases hw5 with rfl | rfl
    · exact q4
    · exact q4.trans (Go.Joins.below_bytesWorld _ _ _ _ q4.size)
  clear hw5
  go_wp2
  go_ret2
  exact ⟨rfl, q5⟩
set_option maxRecDepth 100000 in
set_option maxHeartbeats 1000000 in
theorem dp_p3_1 (l t : List UInt8) (low : Bool) (a b : List UInt8) (o : Nat) (htm : t.length ≤ 9223372036854775807) (H1 : Hid (Lib.trimPrefix l [45] = t)) (H2 : Hid (Lib.hasPrefix l [45] = low)) (hi : Hid (Lib.indexByte t 46 = o)) (ho : o < t.length) (hA : Hid (a = t.take o)) (hB : Hid (b = t.drop (o + 1))) (hal : a.length ≤ 9223372036854775807) (hbl : b.length ≤ 9223372036854775807) (Ga : Hid (digOk a 15 = true)) (hl : 1 < a.length) (hb1 : 0 < (⟨a.toArray⟩ : ByteArray).size) (a1 : ¬ ((⟨a.toArray⟩ : ByteArray)[0]'hb1).toNat = 48) (Gb : Hid (digOk b 4 = false)) (w : World) : Calls Tryz.prog 156 #[.string ⟨l.toArray⟩] w fun e w' => e = .returned (.tuple #[.int .i64 0, .bool false]) ∧ Below w.heap.size w w' := by
  go_enter Tryz.func156, Tryz.ntmps156
  go_wp2_with fail
  refine (Tryz.strings_CutPrefix ⟨l.toArray⟩ ⟨#[45]⟩ _).mono ?_
  rintro e w1 ⟨rfl, rfl⟩
  rw [show Lib.trimPrefix (⟨l.toArray⟩ : ByteArray).data.toList (⟨#[45]⟩ : ByteArray).data.toList = t from H1.out, show Lib.hasPrefix (⟨l.toArray⟩ : ByteArray).data.toList (⟨#[45]⟩ : ByteArray).data.toList = low from H2.out]
  go_wp2_with fail
  refine (scut1 t 46 o hi.out ho (by omega) _).mono ?_
  rintro e w2 ⟨rfl, hb2⟩
  rw [← hA.out, ← hB.out]
  go_wp2_with fail
  refine (digits_as a 15 (by omega) (by omega) _ Ga.out _).mono ?_
  rintro e w3 ⟨rfl, hb3⟩
  have q3 := hb2.trans (hb3.mono hb2.size)
  have hDl := dig_all Ga.out
  go_wp2_with fail
  refine (digits_as b 4 (by omega) (by omega) _ Gb.out _).mono ?_
  rintro e w4 ⟨rfl, hb4⟩
  have q4 := q3.trans (hb4.mono q3.size)
  go_wp2
  go_ret2
  exact ⟨rfl, q4⟩
set_option maxRecDepth 100000 in
set_option maxHeartbeats 1000000 in
theorem dp_n4_01 (l t : List UInt8) (htm : t.length ≤ 9223372036854775807) (H1 : Hid (Lib.trimPrefix l [45] = t)) (H2 : Hid (Lib.hasPrefix l [45] = false)) (hi : Hid (Lib.indexByte t 46 = -1)) (Gt : Hid (digOk t 15 = true)) (hl : 1 < t.length) (hb1 : 0 < (⟨t.toArray⟩ : ByteArray).size) (a1 : ¬ ((⟨t.toArray⟩ : ByteArray)[0]'hb1).toNat = 48) (u : Nat) (hu : Hid (valL (t ++ (([] : List UInt8) ++ List.replicate (4 - ([] : List UInt8).length) 48)) = u)) (hu2 : u ≤ 18446744073709551615) (w : World) : Calls Tryz.prog 156 #[.string ⟨l.toArray⟩] w fun e w' => e = .returned (.tuple #[.int .i64 (exV ((u : Int))), .bool (decide (exC ((u : Int)) = 0))]) ∧ Below w.heap.size w w' := by
  have hDl := dig_all Gt.out
  obtain ⟨hd1, hd2, hd3⟩ := hDl
  have he2' : (⟨t.toArray⟩ : ByteArray) ++ ⟨#[48, 48, 48, 48]⟩ = ⟨(t ++ [48, 48, 48, 48]).toArray⟩ := by apply ByteArray.ext; simp
  have he2 := Lib.hid he2'
  have hS : Hid ((t ++ [48, 48, 48, 48]) = t ++ (([] : List UInt8) ++ List.replicate (4 - ([] : List UInt8).length) 48)) := Lib.hid (by simp [List.replicate])
  have hal2 := Lib.hid (pad_all t [] hd3 rfl)
  have hpu : Hid (Lib.parseUintB 64 (⟨(t ++ [48, 48, 48, 48]).toArray⟩ : ByteArray).data.toList = .ok u) := Lib.hid (by
    show Lib.parseUintB 64 (t ++ [48, 48, 48, 48]) = .ok u
    rw [hS.out, parse_ok64 hal2.out (by simp <;> omega) (by simp; omega), hu.out])
  have hmx : Hid ((⟨(t ++ [48, 48, 48, 48]).toArray⟩ : ByteArray).size ≤ 9223372036854775806) := Lib.hid (by simp only [ByteArray.size, List.size_toArray, List.length_append, List.length_cons, List.length_nil]; omega)
  clear hd3 he2'
  go_enter Tryz.func156, Tryz.ntmps156
  go_wp2_with fail
  refine (Tryz.strings_CutPrefix ⟨l.toArray⟩ ⟨#[45]⟩ _).mono ?_
  rintro e w1 ⟨rfl, rfl⟩
  rw [show Lib.trimPrefix (⟨l.toArray⟩ : ByteArray).data.toList (⟨#[45]⟩ : ByteArray).data.toList = t from H1.out, show Lib.hasPrefix (⟨l.toArray⟩ : ByteArray).data.toList (⟨#[45]⟩ : ByteArray).data.toList = false from H2.out]
  go_wp2_with fail
  refine (scut0 t 46 hi.out _).mono ?_
  rintro e w2 ⟨rfl, hb2⟩
  go_wp2_with fail
  refine (digits_as t 15 (by omega) (by omega) _ Gt.out _).mono ?_
  rintro e w3 ⟨rfl, hb3⟩
  have q3 := hb2.trans (hb3.mono hb2.size)
  go_wp2_with fail
  rw [show (⟨t.toArray⟩ : ByteArray) ++ ⟨#[]⟩ ++ (⟨#[48, 48, 48, 48]⟩ : ByteArray).extract 0 4 = ⟨(t ++ [48, 48, 48, 48]).toArray⟩ from by apply ByteArray.ext; simp]
  have C := Tryz.strconv_ParseUint_10_at64_ok ⟨(t ++ [48, 48, 48, 48]).toArray⟩ hmx.out u hpu.out w3
  with_reducible refine C.mono ?_
  clear C
  rintro e w5 ⟨rfl, hw5⟩
  have q5 : Below w1.heap.size w1 w5 := by
    rcases hw5 with rfl | rfl
    · exact q3
    · exact q3.trans (Go.Joins.below_bytesWorld _ _ _ _ q3.size)
  clear hw5
  go_wp2_with fail
  refine (signed_any (u : Int) (by omega) false _).mono ?_
  rintro e w6 ⟨rfl, rfl⟩
  go_wp2
  go_ret2
  exact ⟨ret_ib rfl rfl, q5⟩
set_option maxRecDepth 100000 in
set_option maxHeartbeats 1000000 in
theorem dp_p4_01 (l t : List UInt8) (a b : List UInt8) (o : Nat) (htm : t.length ≤ 9223372036854775807) (H1 : Hid (Lib.trimPrefix l [45] = t)) (H2 : Hid (Lib.hasPrefix l [45] = false)) (hi : Hid (Lib.indexByte t 46 = o)) (ho : o < t.length) (hA : Hid (a = t.take o)) (hB : Hid (b = t.drop (o + 1))) (hal : a.length ≤ 9223372036854775807) (hbl : b.length ≤ 9223372036854775807) (Ga : Hid (digOk a 15 = true)) (hl : 1 < a.length) (hb1 : 0 < (⟨a.toArray⟩ : ByteArray).size) (a1 : ¬ ((⟨a.toArray⟩ : ByteArray)[0]'hb1).toNat = 48) (Gb : Hid (digOk b 4 = true)) (u : Nat) (hu : Hid (valL (a ++ (b ++ List.replicate (4 - b.length) 48)) = u)) (hu2 : u ≤ 18446744073709551615) (w : World) : Calls Tryz.prog 156 #[.string ⟨l.toArray⟩] w fun e w' => e = .returned (.tuple #[.int .i64 (exV ((u : Int))), .bool (decide (exC ((u : Int)) = 0))]) ∧ Below w.heap.size w w' := by
  have hDl := dig_all Ga.out
  obtain ⟨hd1, hd2, hd3⟩ := hDl
  obtain ⟨hr1, hr2, hr3⟩ := dig_all Gb.out
  have he1' : (⟨a.toArray⟩ : ByteArray) ++ ⟨b.toArray⟩ = ⟨(a ++ b).toArray⟩ := by apply ByteArray.ext; simp
  have he1 := Lib.hid he1'
  have hx1 := Lib.hid (pad_at hr2)
  have he2' : (⟨(a ++ b).toArray⟩ : ByteArray) ++ ⟨(List.replicate (4 - b.length) 48).toArray⟩ = ⟨((a ++ b) ++ List.replicate (4 - b.length) 48).toArray⟩ := by apply ByteArray.ext; simp
  have he2 := Lib.hid he2'
  have hS : Hid (((a ++ b) ++ List.replicate (4 - b.length) 48) = a ++ (b ++ List.replicate (4 - b.length) 48)) := Lib.hid (by simp)
  have hal2 := Lib.hid (pad_all a b hd3 hr3)
  have hl4 : 4 - b.length ≤ 4 := by omega
  have hpu : Hid (Lib.parseUintB 64 (⟨((a ++ b) ++ List.replicate (4 - b.length) 48).toArray⟩ : ByteArray).data.toList = .ok u) := Lib.hid (by
    show Lib.parseUintB 64 ((a ++ b) ++ List.replicate (4 - b.length) 48) = .ok u
    rw [hS.out, parse_ok64 hal2.out (by simp <;> omega) (by simp; omega), hu.out])
  have hmx : Hid ((⟨((a ++ b) ++ List.replicate (4 - b.length) 48).toArray⟩ : ByteArray).size ≤ 9223372036854775806) := Lib.hid (by simp only [ByteArray.size, List.size_toArray, List.length_append, List.length_replicate]; omega)
  clear hd3 he2' hr3 he1'
  go_enter Tryz.func156, Tryz.ntmps156
  go_wp2_with fail
  refine (Tryz.strings_CutPrefix ⟨l.toArray⟩ ⟨#[45]⟩ _).mono ?_
  rintro e w1 ⟨rfl, rfl⟩
  rw [show Lib.trimPrefix (⟨l.toArray⟩ : ByteArray).data.toList (⟨#[45]⟩ : ByteArray).data.toList = t from H1.out, show Lib.hasPrefix (⟨l.toArray⟩ : ByteArray).data.toList (⟨#[45]⟩ : ByteArray).data.toList = false from H2.out]
  go_wp2_with fail
  refine (scut1 t 46 o hi.out ho (by omega) _).mono ?_
  rintro e w2 ⟨rfl, hb2⟩
  rw [← hA.out, ← hB.out]
  go_wp2_with fail
  refine (digits_as a 15 (by omega) (by omega) _ Ga.out _).mono ?_
  rintro e w3 ⟨rfl, hb3⟩
  have q3 := hb2.trans (hb3.mono hb2.size)
  go_wp2_with fail
  refine (digits_as b 4 (by omega) (by omega) _ Gb.out _).mono ?_
  rintro e w4 ⟨rfl, hb4⟩
  have q4 := q3.trans (hb4.mono q3.size)
  go_wp2_with fail
  rw [he1.out, hx1.out, he2.out]
  have C := Tryz.strconv_ParseUint_10_at64_ok ⟨((a ++ b) ++ List.replicate (4 - b.length) 48).toArray⟩ hmx.out u hpu.out w4
  with_reducible refine C.mono ?_
  clear C
  rintro e w5 ⟨rfl, hw5⟩
  have q5 : Below w1.heap.size w1 w5 := by
    rcases hw5 with rfl | rfl
    · exact q4
    · exact q4.trans (Go.Joins.below_bytesWorld _ _ _ _ q4.size)
  clear hw5
  go_wp2_with fail
  refine (signed_any (u : Int) (by omega) false _).mono ?_
  rintro e w6 ⟨rfl, rfl⟩
  go_wp2
  go_ret2
  exact ⟨ret_ib rfl rfl, q5⟩
set_option maxRecDepth 100000 in
set_option maxHeartbeats 1000000 in
theorem dp_n4_11 (l t : List UInt8) (htm : t.length ≤ 9223372036854775807) (H1 : Hid (Lib.trimPrefix l [45] = t)) (H2 : Hid (Lib.hasPrefix l [45] = true)) (hi : Hid (Lib.indexByte t 46 = -1)) (Gt : Hid (digOk t 15 = true)) (hl : 1 < t.length) (hb1 : 0 < (⟨t.toArray⟩ : ByteArray).size) (a1 : ¬ ((⟨t.toArray⟩ : ByteArray)[0]'hb1).toNat = 48) (u : Nat) (hu : Hid (valL (t ++ (([] : List UInt8) ++ List.replicate (4 - ([] : List UInt8).length) 48)) = u)) (hu2 : u ≤ 18446744073709551615) (hu0 : 0 < u) (w : World) : Calls Tryz.prog 156 #[.string ⟨l.toArray⟩] w fun e w' => e = .returned (.tuple #[.int .i64 (exV (-(u : Int))), .bool (decide (exC (-(u : Int)) = 0))]) ∧ Below w.heap.size w w' := by
  have hDl := dig_all Gt.out
  obtain ⟨hd1, hd2, hd3⟩ := hDl
  have he2' : (⟨t.toArray⟩ : ByteArray) ++ ⟨#[48, 48, 48, 48]⟩ = ⟨(t ++ [48, 48, 48, 48]).toArray⟩ := by apply ByteArray.ext; simp
  have he2 := Lib.hid he2'
  have hS : Hid ((t ++ [48, 48, 48, 48]) = t ++ (([] : List UInt8) ++ List.replicate (4 - ([] : List UInt8).length) 48)) := Lib.hid (by simp [List.replicate])
  have hal2 := Lib.hid (pad_all t [] hd3 rfl)
  have hpu : Hid (Lib.parseUintB 64 (⟨(t ++ [48, 48, 48, 48]).toArray⟩ : ByteArray).data.toList = .ok u) := Lib.hid (by
    show Lib.parseUintB 64 (t ++ [48, 48, 48, 48]) = .ok u
    rw [hS.out, parse_ok64 hal2.out (by simp <;> omega) (by simp; omega), hu.out])
  have hmx : Hid ((⟨(t ++ [48, 48, 48, 48]).toArray⟩ : ByteArray).size ≤ 9223372036854775806) := Lib.hid (by simp only [ByteArray.size, List.size_toArray, List.length_append, List.length_cons, List.length_nil]; omega)
  clear hd3 he2'
  go_enter Tryz.func156, Tryz.ntmps156
  go_wp2_with fail
  refine (Tryz.strings_CutPrefix ⟨l.toArray⟩ ⟨#[45]⟩ _).mono ?_
  rintro e w1 ⟨rfl, rfl⟩
  rw [show Lib.trimPrefix (⟨l.toArray⟩ : ByteArray).data.toList (⟨#[45]⟩ : ByteArray).data.toList = t from H1.out, show Lib.hasPrefix (⟨l.toArray⟩ : ByteArray).data.toList (⟨#[45]⟩ : ByteArray).data.toList = true from H2.out]
  go_wp2_with fail
  refine (scut0 t 46 hi.out _).mono ?_
  rintro e w2 ⟨rfl, hb2⟩
  go_wp2_with fail
  refine (digits_as t 15 (by omega) (by omega) _ Gt.out _).mono ?_
  rintro e w3 ⟨rfl, hb3⟩
  have q3 := hb2.trans (hb3.mono hb2.size)
  go_wp2_with fail
  rw [show (⟨t.toArray⟩ : ByteArray) ++ ⟨#[]⟩ ++ (⟨#[48, 48, 48, 48]⟩ : ByteArray).extract 0 4 = ⟨(t ++ [48, 48, 48, 48]).toArray⟩ from by apply ByteArray.ext; simp]
  have C := Tryz.strconv_ParseUint_10_at64_ok ⟨(t ++ [48, 48, 48, 48]).toArray⟩ hmx.out u hpu.out w3
  with_reducible refine C.mono ?_
  clear C
  rintro e w5 ⟨rfl, hw5⟩
  have q5 : Below w1.heap.size w1 w5 := by
    rcases hw5 with rfl | rfl
    · exact q3
    · exact q3.trans (Go.Joins.below_bytesWorld _ _ _ _ q3.size)
  clear hw5
  go_wp2_with fail
  refine (signed_any (u : Int) (by omega) true _).mono ?_
  rintro e w6 ⟨rfl, rfl⟩
  go_wp2
  go_ret2
  exact ⟨ret_ib rfl rfl, q5⟩
set_option maxRecDepth 100000 in
set_option maxHeartbeats 1000000 in
theorem dp_p4_11 (l t : List UInt8) (a b : List UInt8) (o : Nat) (htm : t.length ≤ 9223372036854775807) (H1 : Hid (Lib.trimPrefix l [45] = t)) (H2 : Hid (Lib.hasPrefix l [45] = true)) (hi : Hid (Lib.indexByte t 46 = o)) (ho : o < t.length) (hA : Hid (a = t.take o)) (hB : Hid (b = t.drop (o + 1))) (hal : a.length ≤ 9223372036854775807) (hbl : b.length ≤ 9223372036854775807) (Ga : Hid (digOk a 15 = true)) (hl : 1 < a.length) (hb1 : 0 < (⟨a.toArray⟩ : ByteArray).size) (a1 : ¬ ((⟨a.toArray⟩ : ByteArray)[0]'hb1).toNat = 48) (Gb : Hid (digOk b 4 = true)) (u : Nat) (hu : Hid (valL (a ++ (b ++ List.replicate (4 - b.length) 48)) = u)) (hu2 : u ≤ 18446744073709551615) (hu0 : 0 < u) (w : World) : Calls Tryz.prog 156 #[.string ⟨l.toArray⟩] w fun e w' => e = .returned (.tuple #[.int .i64 (exV (-(u : Int))), .bool (decide (exC (-(u : Int)) = 0))]) ∧ Below w.heap.size w w' := by
  have hDl := dig_all Ga.out
  obtain ⟨hd1, hd2, hd3⟩ := hDl
  obtain ⟨hr1, hr2, hr3⟩ := dig_all Gb.out
  have he1' : (⟨a.toArray⟩ : ByteArray) ++ ⟨b.toArray⟩ = ⟨(a ++ b).toArray⟩ := by apply ByteArray.ext; simp
  have he1 := Lib.hid he1'
  have hx1 := Lib.hid (pad_at hr2)
  have he2' : (⟨(a ++ b).toArray⟩ : ByteArray) ++ ⟨(List.replicate (4 - b.length) 48).toArray⟩ = ⟨((a ++ b) ++ List.replicate (4 - b.length) 48).toArray⟩ := by apply ByteArray.ext; simp
  have he2 := Lib.hid he2'
  have hS : Hid (((a ++ b) ++ List.replicate (4 - b.length) 48) = a ++ (b ++ List.replicate (4 - b.length) 48)) := Lib.hid (by simp)
  have hal2 := Lib.hid (pad_all a b hd3 hr3)
  have hl4 : 4 - b.length ≤ 4 := by omega
  have hpu : Hid (Lib.parseUintB 64 (⟨((a ++ b) ++ List.replicate (4 - b.length) 48).toArray⟩ : ByteArray).data.toList = .ok u) := Lib.hid (by
    show Lib.parseUintB 64 ((a ++ b) ++ List.replicate (4 - b.length) 48) = .ok u
    rw [hS.out, parse_ok64 hal2.out (by simp <;> omega) (by simp; omega), hu.out])
  have hmx : Hid ((⟨((a ++ b) ++ List.replicate (4 - b.length) 48).toArray⟩ : ByteArray).size ≤ 9223372036854775806) := Lib.hid (by simp only [ByteArray.size, List.size_toArray, List.length_append, List.length_replicate]; omega)
  clear hd3 he2' hr3 he1'
  go_enter Tryz.func156, Tryz.ntmps156
  go_wp2_with fail
  refine (Tryz.strings_CutPrefix ⟨l.toArray⟩ ⟨#[45]⟩ _).mono ?_
  rintro e w1 ⟨rfl, rfl⟩
  rw [show Lib.trimPrefix (⟨l.toArray⟩ : ByteArray).data.toList (⟨#[45]⟩ : ByteArray).data.toList = t from H1.out, show Lib.hasPrefix (⟨l.toArray⟩ : ByteArray).data.toList (⟨#[45]⟩ : ByteArray).data.toList = true from H2.out]
  go_wp2_with fail
  refine (scut1 t 46 o hi.out ho (by omega) _).mono ?_
  rintro e w2 ⟨rfl, hb2⟩
  rw [← hA.out, ← hB.out]
  go_wp2_with fail
  refine (digits_as a 15 (by omega) (by omega) _ Ga.out _).mono ?_
  rintro e w3 ⟨rfl, hb3⟩
  have q3 := hb2.trans (hb3.mono hb2.size)
  go_wp2_with fail
  refine (digits_as b 4 (by omega) (by omega) _ Gb.out _).mono ?_
  rintro e w4 ⟨rfl, hb4⟩
  have q4 := q3.trans (hb4.mono q3.size)
  go_wp2_with fail
  rw [he1.out, hx1.out, he2.out]
  have C := Tryz.strconv_ParseUint_10_at64_ok ⟨((a ++ b) ++ List.replicate (4 - b.length) 48).toArray⟩ hmx.out u hpu.out w4
  with_reducible refine C.mono ?_
  clear C
  rintro e w5 ⟨rfl, hw5⟩
  have q5 : Below w1.heap.size w1 w5 := by
    rcases hw5 with rfl | rfl
    · exact q4
    · exact q4.trans (Go.Joins.below_bytesWorld _ _ _ _ q4.size)
  clear hw5
  go_wp2_with fail
  refine (signed_any (u : Int) (by omega) true _).mono ?_
  rintro e w6 ⟨rfl, rfl⟩
  go_wp2
  go_ret2
  exact ⟨ret_ib rfl rfl, q5⟩
set_option maxRecDepth 100000 in
set_option maxHeartbeats 1000000 in
theorem dp_n4_21 (l t : List UInt8) (htm : t.length ≤ 9223372036854775807) (H1 : Hid (Lib.trimPrefix l [45] = t)) (H2 : Hid (Lib.hasPrefix l [45] = true)) (hi : Hid (Lib.indexByte t 46 = -1)) (Gt : Hid (digOk t 15 = true)) (hl : 1 < t.length) (hb1 : 0 < (⟨t.toArray⟩ : ByteArray).size) (a1 : ¬ ((⟨t.toArray⟩ : ByteArray)[0]'hb1).toNat = 48) (u : Nat) (hu : Hid (valL (t ++ (([] : List UInt8) ++ List.replicate (4 - ([] : List UInt8).length) 48)) = u)) (hu2 : u ≤ 18446744073709551615) (hu0 : u = 0) (w : World) : Calls Tryz.prog 156 #[.string ⟨l.toArray⟩] w fun e w' => e = .returned (.tuple #[.int .i64 0, .bool false]) ∧ Below w.heap.size w w' := by
  subst hu0
  have hDl := dig_all Gt.out
  obtain ⟨hd1, hd2, hd3⟩ := hDl
  have he2' : (⟨t.toArray⟩ : ByteArray) ++ ⟨#[48, 48, 48, 48]⟩ = ⟨(t ++ [48, 48, 48, 48]).toArray⟩ := by apply ByteArray.ext; simp
  have he2 := Lib.hid he2'
  have hS : Hid ((t ++ [48, 48, 48, 48]) = t ++ (([] : List UInt8) ++ List.replicate (4 - ([] : List UInt8).length) 48)) := Lib.hid (by simp [List.replicate])
  have hal2 := Lib.hid (pad_all t [] hd3 rfl)
  have hpu : Hid (Lib.parseUintB 64 (⟨(t ++ [48, 48, 48, 48]).toArray⟩ : ByteArray).data.toList = .ok 0) := Lib.hid (by
    show Lib.parseUintB 64 (t ++ [48, 48, 48, 48]) = .ok 0
    rw [hS.out, parse_ok64 hal2.out (by simp <;> omega) (by simp; omega), hu.out])
  have hmx : Hid ((⟨(t ++ [48, 48, 48, 48]).toArray⟩ : ByteArray).size ≤ 9223372036854775806) := Lib.hid (by simp only [ByteArray.size, List.size_toArray, List.length_append, List.length_cons, List.length_nil]; omega)
  clear hd3 he2'
  go_enter Tryz.func156, Tryz.ntmps156
  go_wp2_with fail
  refine (Tryz.strings_CutPrefix ⟨l.toArray⟩ ⟨#[45]⟩ _).mono ?_
  rintro e w1 ⟨rfl, rfl⟩
  rw [show Lib.trimPrefix (⟨l.toArray⟩ : ByteArray).data.toList (⟨#[45]⟩ : ByteArray).data.toList = t from H1.out, show Lib.hasPrefix (⟨l.toArray⟩ : ByteArray).data.toList (⟨#[45]⟩ : ByteArray).data.toList = true from H2.out]
  go_wp2_with fail
  refine (scut0 t 46 hi.out _).mono ?_
  rintro e w2 ⟨rfl, hb2⟩
  go_wp2_with fail
  refine (digits_as t 15 (by omega) (by omega) _ Gt.out _).mono ?_
  rintro e w3 ⟨rfl, hb3⟩
  have q3 := hb2.trans (hb3.mono hb2.size)
  go_wp2_with fail
  rw [show (⟨t.toArray⟩ : ByteArray) ++ ⟨#[]⟩ ++ (⟨#[48, 48, 48, 48]⟩ : ByteArray).extract 0 4 = ⟨(t ++ [48, 48, 48, 48]).toArray⟩ from by apply ByteArray.ext; simp]
  have C := Tryz.strconv_ParseUint_10_at64_ok ⟨(t ++ [48, 48, 48, 48]).toArray⟩ hmx.out 0 hpu.out w3
  with_reducible refine C.mono ?_
  clear C
  rintro e w5 ⟨rfl, hw5⟩
  have q5 : Below w1.heap.size w1 w5 := by
    rcases hw5 with rfl | rfl
    · exact q3
    · exact q3.trans (Go.Joins.below_bytesWorld _ _ _ _ q3.size)
  clear hw5
  go_wp2
  go_ret2
  exact ⟨rfl, q5⟩
set_option maxRecDepth 100000 in
set_option maxHeartbeats 1000000 in
theorem dp_p4_21 (l t : List UInt8) (a b : List UInt8) (o : Nat) (htm : t.length ≤ 9223372036854775807) (H1 : Hid (Lib.trimPrefix l [45] = t)) (H2 : Hid (Lib.hasPrefix l [45] = true)) (hi : Hid (Lib.indexByte t 46 = o)) (ho : o < t.length) (hA : Hid (a = t.take o)) (hB : Hid (b = t.drop (o + 1))) (hal : a.length ≤ 9223372036854775807) (hbl : b.length ≤ 9223372036854775807) (Ga : Hid (digOk a 15 = true)) (hl : 1 < a.length) (hb1 : 0 < (⟨a.toArray⟩ : ByteArray).size) (a1 : ¬ ((⟨a.toArray⟩ : ByteArray)[0]'hb1).toNat = 48) (Gb : Hid (digOk b 4 = true)) (u : Nat) (hu : Hid (valL (a ++ (b ++ List.replicate (4 - b.length) 48)) = u)) (hu2 : u ≤ 18446744073709551615) (hu0 : u = 0) (w : World) : Calls Tryz.prog 156 #[.string ⟨l.toArray⟩] w fun e w' => e = .returned (.tuple #[.int .i64 0, .bool false]) ∧ Below w.heap.size w w' := by
  subst hu0
  have hDl := dig_all Ga.out
  obtain ⟨hd1, hd2, hd3⟩ := hDl
  obtain ⟨hr1, hr2, hr3⟩ := dig_all Gb.out
  have he1' : (⟨a.toArray⟩ : ByteArray) ++ ⟨b.toArray⟩ = ⟨(a ++ b).toArray⟩ := by apply ByteArray.ext; simp
  have he1 := Lib.hid he1'
  have hx1 := Lib.hid (pad_at hr2)
  have he2' : (⟨(a ++ b).toArray⟩ : ByteArray) ++ ⟨(List.replicate (4 - b.length) 48).toArray⟩ = ⟨((a ++ b) ++ List.replicate (4 - b.length) 48).toArray⟩ := by apply ByteArray.ext; simp
  have he2 := Lib.hid he2'
  have hS : Hid (((a ++ b) ++ List.replicate (4 - b.length) 48) = a ++ (b ++ List.replicate (4 - b.length) 48)) := Lib.hid (by simp)
  have hal2 := Lib.hid (pad_all a b hd3 hr3)
  have hl4 : 4 - b.length ≤ 4 := by omega
  have hpu : Hid (Lib.parseUintB 64 (⟨((a ++ b) ++ List.replicate (4 - b.length) 48).toArray⟩ : ByteArray).data.toList = .ok 0) := Lib.hid (by
    show Lib.parseUintB 64 ((a ++ b) ++ List.replicate (4 - b.length) 48) = .ok 0
    rw [hS.out, parse_ok64 hal2.out (by simp <;> omega) (by simp; omega), hu.out])
  have hmx : Hid ((⟨((a ++ b) ++ List.replicate (4 - b.length) 48).toArray⟩ : ByteArray).size ≤ 9223372036854775806) := Lib.hid (by simp only [ByteArray.size, List.size_toArray, List.length_append, List.length_replicate]; omega)
  clear hd3 he2' hr3 he1'
  go_enter Tryz.func156, Tryz.ntmps156
  go_wp2_with fail
  refine (Tryz.strings_CutPrefix ⟨l.toArray⟩ ⟨#[45]⟩ _).mono ?_
  rintro e w1 ⟨rfl, rfl⟩
  rw [show Lib.trimPrefix (⟨l.toArray⟩ : ByteArray).data.toList (⟨#[45]⟩ : ByteArray).data.toList = t from H1.out, show Lib.hasPrefix (⟨l.toArray⟩ : ByteArray).data.toList (⟨#[45]⟩ : ByteArray).data.toList = true from H2.out]
  go_wp2_with fail
  refine (scut1 t 46 o hi.out ho (by omega) _).mono ?_
  rintro e w2 ⟨rfl, hb2⟩
  rw [← hA.out, ← hB.out]
  go_wp2_with fail
  refine (digits_as a 15 (by omega) (by omega) _ Ga.out _).mono ?_
  rintro e w3 ⟨rfl, hb3⟩
  have q3 := hb2.trans (hb3.mono hb2.size)
  go_wp2_with fail
  refine (digits_as b 4 (by omega) (by omega) _ Gb.out _).mono ?_
  rintro e w4 ⟨rfl, hb4⟩
  have q4 := q3.trans (hb4.mono q3.size)
  go_wp2_with fail
  rw [he1.out, hx1.out, he2.out]
  have C := Tryz.strconv_ParseUint_10_at64_ok ⟨((a ++ b) ++ List.replicate (4 - b.length) 48).toArray⟩ hmx.out 0 hpu.out w4
  with_reducible refine C.mono ?_
  clear C
  rintro e w5 ⟨rfl, hw5⟩
  have q5 : Below w1.heap.size w1 w5 := by
    rcases hw5 with rfl | rfl
    · exact q4
    · exact q4.trans (Go.Joins.below_bytesWorld _ _ _ _ q4.size)
  clear hw5
  go_wp2
  go_ret2
  exact ⟨rfl, q5⟩
theorem numFin0 (D r : List UInt8) (u : Nat) (hu : valL (D ++ (r ++ List.replicate (4 - r.length) 48)) = u) : optV (numOf false D r) = exV (u : Int) ∧ (numOf false D r).isSome = decide (exC (u : Int) = 0) := by
  unfold numOf
  rw [hu, if_neg (by simp)]
  unfold exV exC
  by_cases h : u ≤ 9223372036854775807
  · rw [if_pos h, if_pos (show -9223372036854775807 ≤ (u : Int) ∧ (u : Int) ≤ 9223372036854775807 by omega), if_pos (show -9223372036854775807 ≤ (u : Int) ∧ (u : Int) ≤ 9223372036854775807 by omega)]; simp [optV]
  · rw [if_neg h, if_neg (show ¬ (-9223372036854775807 ≤ (u : Int) ∧ (u : Int) ≤ 9223372036854775807) by omega), if_neg (show ¬ (-9223372036854775807 ≤ (u : Int) ∧ (u : Int) ≤ 9223372036854775807) by omega)]; simp [optV]
theorem numFin1 (D r : List UInt8) (u : Nat) (hu : valL (D ++ (r ++ List.replicate (4 - r.length) 48)) = u) (h0 : 0 < u) : optV (numOf true D r) = exV (-(u : Int)) ∧ (numOf true D r).isSome = decide (exC (-(u : Int)) = 0) := by
  unfold numOf
  rw [hu, if_neg (by omega)]
  unfold exV exC
  by_cases h : u ≤ 9223372036854775807
  · rw [if_pos h, if_pos (show -9223372036854775807 ≤ -(u : Int) ∧ -(u : Int) ≤ 9223372036854775807 by omega), if_pos (show -9223372036854775807 ≤ -(u : Int) ∧ -(u : Int) ≤ 9223372036854775807 by omega)]; simp [optV]
  · rw [if_neg h, if_neg (show ¬ (-9223372036854775807 ≤ -(u : Int) ∧ -(u : Int) ≤ 9223372036854775807) by omega), if_neg (show ¬ (-9223372036854775807 ≤ -(u : Int) ∧ -(u : Int) ≤ 9223372036854775807) by omega)]; simp [optV]
theorem numFin2 (D r : List UInt8) (hu : valL (D ++ (r ++ List.replicate (4 - r.length) 48)) = 0) : optV (numOf true D r) = 0 ∧ (numOf true D r).isSome = false := by
  unfold numOf
  rw [hu, if_pos (by simp)]
  simp [optV]
theorem whole_dig {D : List UInt8} (h : digOk D 15 = false) : wholeOk D = false := by simp [wholeOk, h]
theorem whole_one {D : List UInt8} (h : digOk D 15 = true) (h1 : ¬ 1 < D.length) : wholeOk D = true := by simp [wholeOk, h]; left; omega
theorem whole_lead {D : List UInt8} (h1 : 1 < D.length) (hb : 0 < (⟨D.toArray⟩ : ByteArray).size) (a : ((⟨D.toArray⟩ : ByteArray)[0]'hb).toNat = 48) : wholeOk D = false := by
  cases D with
  | nil => simp at h1
  | cons x q =>
    have a' : x.toNat = 48 := a
    obtain rfl : x = 48 := UInt8.toNat_inj.1 a'
    simp at h1
    simp [wholeOk, h1]
theorem whole_more {D : List UInt8} (h : digOk D 15 = true) (h1 : 1 < D.length) (hb : 0 < (⟨D.toArray⟩ : ByteArray).size) (a : ¬ ((⟨D.toArray⟩ : ByteArray)[0]'hb).toNat = 48) : wholeOk D = true := by
  cases D with
  | nil => simp at h1
  | cons x q =>
    have a' : ¬ x.toNat = 48 := a
    have : x ≠ 48 := fun e => a' (by rw [e]; rfl)
    simp [wholeOk, h, this]
theorem dparse_l (l : List UInt8) (hm : l.length ≤ 9223372036854775807) (w : World) : Calls Tryz.prog 156 #[.string ⟨l.toArray⟩] w fun e w' => e = .returned (.tuple #[.int .i64 (numV l), .bool (numOk l)]) ∧ Below w.heap.size w w' := by
  obtain ⟨t, ht⟩ : ∃ t, tailOf l = t := ⟨_, rfl⟩
  obtain ⟨low, hlow⟩ : ∃ b, lowOf l = b := ⟨_, rfl⟩
  have htm : t.length ≤ 9223372036854775807 := by
    rw [← ht]; unfold tailOf; split
    · simp; omega
    · exact hm
  have hP : numP l = bodyOf low t := by unfold numP; rw [ht, hlow]
  have H1 := Lib.hid (show Lib.trimPrefix l [45] = t by rw [trim_low, ht])
  have H2 := Lib.hid (show Lib.hasPrefix l [45] = low by rw [head_low, hlow])
  clear ht hlow
  rcases idx_cases t 46 with hi | ⟨o, hi, ho⟩
  · have hB := body_plain (low := low) hi
    rw [hB] at hP
    cases hG : digOk t 15
    · have hN : numP l = .none := by rw [hP, whole_dig hG]; rfl
      rw [(numV_eq hN).1, (numV_eq hN).2]
      exact dp_n1 l t low htm H1 H2 (Lib.hid hi) (Lib.hid hG) w
    · by_cases hl1 : 1 < t.length
      · have hb1 : 0 < (⟨t.toArray⟩ : ByteArray).size := by show 0 < t.toArray.size; simp; omega
        by_cases a1 : ((⟨t.toArray⟩ : ByteArray)[0]'hb1).toNat = 48
        · have hN : numP l = .none := by rw [hP, whole_lead hl1 hb1 a1]; rfl
          rw [(numV_eq hN).1, (numV_eq hN).2]
          exact dp_n2 l t low htm H1 H2 (Lib.hid hi) (Lib.hid hG) hl1 hb1 a1 w
        · have hN : numP l = numOf low t [] := by rw [hP, whole_more hG hl1 hb1 a1]; rfl
          clear hP hB
          obtain ⟨u, hu⟩ : ∃ u, valL (t ++ (([] : List UInt8) ++ List.replicate (4 - ([] : List UInt8).length) 48)) = u := ⟨_, rfl⟩
          have hu2 : u ≤ 18446744073709551615 := by rw [← hu]; exact u64_lt t [] (dig_all hG).2.1 (by simp) (pad_all t [] (dig_all hG).2.2 (rfl))
          cases low
          · obtain ⟨e1, e2⟩ := numFin0 t [] u hu
            rw [(numV_eq hN).1, (numV_eq hN).2, e1, e2]
            exact dp_n4_01 l t htm H1 H2 (Lib.hid hi) (Lib.hid hG) hl1 hb1 a1 u (Lib.hid hu) hu2 w
          · by_cases hu0 : u = 0
            · obtain ⟨e1, e2⟩ := numFin2 t [] (by rw [hu, hu0])
              rw [(numV_eq hN).1, (numV_eq hN).2, e1, e2]
              exact dp_n4_21 l t htm H1 H2 (Lib.hid hi) (Lib.hid hG) hl1 hb1 a1 u (Lib.hid hu) hu2 hu0 w
            · obtain ⟨e1, e2⟩ := numFin1 t [] u hu (by omega)
              rw [(numV_eq hN).1, (numV_eq hN).2, e1, e2]
              exact dp_n4_11 l t htm H1 H2 (Lib.hid hi) (Lib.hid hG) hl1 hb1 a1 u (Lib.hid hu) hu2 (by omega) w
      · have hN : numP l = numOf low t [] := by rw [hP, whole_one hG hl1]; rfl
        clear hP hB
        obtain ⟨u, hu⟩ : ∃ u, valL (t ++ (([] : List UInt8) ++ List.replicate (4 - ([] : List UInt8).length) 48)) = u := ⟨_, rfl⟩
        have hu2 : u ≤ 18446744073709551615 := by rw [← hu]; exact u64_lt t [] (dig_all hG).2.1 (by simp) (pad_all t [] (dig_all hG).2.2 (rfl))
        cases low
        · obtain ⟨e1, e2⟩ := numFin0 t [] u hu
          rw [(numV_eq hN).1, (numV_eq hN).2, e1, e2]
          exact dp_n4_00 l t htm H1 H2 (Lib.hid hi) (Lib.hid hG) hl1 u (Lib.hid hu) hu2 w
        · by_cases hu0 : u = 0
          · obtain ⟨e1, e2⟩ := numFin2 t [] (by rw [hu, hu0])
            rw [(numV_eq hN).1, (numV_eq hN).2, e1, e2]
            exact dp_n4_20 l t htm H1 H2 (Lib.hid hi) (Lib.hid hG) hl1 u (Lib.hid hu) hu2 hu0 w
          · obtain ⟨e1, e2⟩ := numFin1 t [] u hu (by omega)
            rw [(numV_eq hN).1, (numV_eq hN).2, e1, e2]
            exact dp_n4_10 l t htm H1 H2 (Lib.hid hi) (Lib.hid hG) hl1 u (Lib.hid hu) hu2 (by omega) w
  · obtain ⟨a, hA⟩ : ∃ a, a = t.take o := ⟨_, rfl⟩
    obtain ⟨b, hB⟩ : ∃ b, b = t.drop (o + 1) := ⟨_, rfl⟩
    have hal : a.length ≤ 9223372036854775807 := by rw [hA]; simp; omega
    have hbl : b.length ≤ 9223372036854775807 := by rw [hB]; simp; omega
    have hC := body_point (low := low) hi ho hA hB
    rw [hC] at hP
    cases hG : digOk a 15
    · have hN : numP l = .none := by rw [hP, whole_dig hG]; rfl
      rw [(numV_eq hN).1, (numV_eq hN).2]
      exact dp_p1 l t low a b o htm H1 H2 (Lib.hid hi) ho (Lib.hid hA) (Lib.hid hB) hal hbl (Lib.hid hG) w
    · by_cases hl1 : 1 < a.length
      · have hb1 : 0 < (⟨a.toArray⟩ : ByteArray).size := by show 0 < a.toArray.size; simp; omega
        by_cases a1 : ((⟨a.toArray⟩ : ByteArray)[0]'hb1).toNat = 48
        · have hN : numP l = .none := by rw [hP, whole_lead hl1 hb1 a1]; rfl
          rw [(numV_eq hN).1, (numV_eq hN).2]
          exact dp_p2 l t low a b o htm H1 H2 (Lib.hid hi) ho (Lib.hid hA) (Lib.hid hB) hal hbl (Lib.hid hG) hl1 hb1 a1 w
        · cases hGb : digOk b 4
          · have hN : numP l = .none := by rw [hP, hGb]; simp
            rw [(numV_eq hN).1, (numV_eq hN).2]
            exact dp_p3_1 l t low a b o htm H1 H2 (Lib.hid hi) ho (Lib.hid hA) (Lib.hid hB) hal hbl (Lib.hid hG) hl1 hb1 a1 (Lib.hid hGb) w
          · have hN : numP l = numOf low a b := by rw [hP, whole_more hG hl1 hb1 a1, hGb]; rfl
            clear hP hC
            obtain ⟨u, hu⟩ : ∃ u, valL (a ++ (b ++ List.replicate (4 - b.length) 48)) = u := ⟨_, rfl⟩
            have hu2 : u ≤ 18446744073709551615 := by rw [← hu]; exact u64_lt a b (dig_all hG).2.1 ((dig_all hGb).2.1) (pad_all a b (dig_all hG).2.2 ((dig_all hGb).2.2))
            cases low
            · obtain ⟨e1, e2⟩ := numFin0 a b u hu
              rw [(numV_eq hN).1, (numV_eq hN).2, e1, e2]
              exact dp_p4_01 l t a b o htm H1 H2 (Lib.hid hi) ho (Lib.hid hA) (Lib.hid hB) hal hbl (Lib.hid hG) hl1 hb1 a1 (Lib.hid hGb) u (Lib.hid hu) hu2 w
            · by_cases hu0 : u = 0
              · obtain ⟨e1, e2⟩ := numFin2 a b (by rw [hu, hu0])
                rw [(numV_eq hN).1, (numV_eq hN).2, e1, e2]
                exact dp_p4_21 l t a b o htm H1 H2 (Lib.hid hi) ho (Lib.hid hA) (Lib.hid hB) hal hbl (Lib.hid hG) hl1 hb1 a1 (Lib.hid hGb) u (Lib.hid hu) hu2 hu0 w
              · obtain ⟨e1, e2⟩ := numFin1 a b u hu (by omega)
                rw [(numV_eq hN).1, (numV_eq hN).2, e1, e2]
                exact dp_p4_11 l t a b o htm H1 H2 (Lib.hid hi) ho (Lib.hid hA) (Lib.hid hB) hal hbl (Lib.hid hG) hl1 hb1 a1 (Lib.hid hGb) u (Lib.hid hu) hu2 (by omega) w
      · cases hGb : digOk b 4
        · have hN : numP l = .none := by rw [hP, hGb]; simp
          rw [(numV_eq hN).1, (numV_eq hN).2]
          exact dp_p3_0 l t low a b o htm H1 H2 (Lib.hid hi) ho (Lib.hid hA) (Lib.hid hB) hal hbl (Lib.hid hG) hl1 (Lib.hid hGb) w
        · have hN : numP l = numOf low a b := by rw [hP, whole_one hG hl1, hGb]; rfl
          clear hP hC
          obtain ⟨u, hu⟩ : ∃ u, valL (a ++ (b ++ List.replicate (4 - b.length) 48)) = u := ⟨_, rfl⟩
          have hu2 : u ≤ 18446744073709551615 := by rw [← hu]; exact u64_lt a b (dig_all hG).2.1 ((dig_all hGb).2.1) (pad_all a b (dig_all hG).2.2 ((dig_all hGb).2.2))
          cases low
          · obtain ⟨e1, e2⟩ := numFin0 a b u hu
            rw [(numV_eq hN).1, (numV_eq hN).2, e1, e2]
            exact dp_p4_00 l t a b o htm H1 H2 (Lib.hid hi) ho (Lib.hid hA) (Lib.hid hB) hal hbl (Lib.hid hG) hl1 (Lib.hid hGb) u (Lib.hid hu) hu2 w
          · by_cases hu0 : u = 0
            · obtain ⟨e1, e2⟩ := numFin2 a b (by rw [hu, hu0])
              rw [(numV_eq hN).1, (numV_eq hN).2, e1, e2]
              exact dp_p4_20 l t a b o htm H1 H2 (Lib.hid hi) ho (Lib.hid hA) (Lib.hid hB) hal hbl (Lib.hid hG) hl1 (Lib.hid hGb) u (Lib.hid hu) hu2 hu0 w
            · obtain ⟨e1, e2⟩ := numFin1 a b u hu (by omega)
              rw [(numV_eq hN).1, (numV_eq hN).2, e1, e2]
              exact dp_p4_10 l t a b o htm H1 H2 (Lib.hid hi) ho (Lib.hid hA) (Lib.hid hB) hal hbl (Lib.hid hG) hl1 (Lib.hid hGb) u (Lib.hid hu) hu2 (by omega) w
theorem dparse_any (s : ByteArray) (hs : s.size ≤ maxLen) (w : World) : Calls Tryz.prog 156 #[.string s] w fun e w' => e = .returned (.tuple #[.int .i64 (numV s.data.toList), .bool (numOk s.data.toList)]) ∧ Below w.heap.size w w' :=
  dparse_l s.data.toList (by unfold maxLen at hs; exact hs) w
end Go.Proofs.YtgmhifafbebjfaaGreatDoor
