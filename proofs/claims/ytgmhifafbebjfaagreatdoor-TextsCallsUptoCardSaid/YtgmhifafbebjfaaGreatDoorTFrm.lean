/-
  texts: what each function answers.
-/
import Derived.Test.YtgmhifafbebjfaaGreatDoorMg28
import Derived.Test.YtgmhifafbebjfaaGreatDoorTDoJ
import Derived.Test.YtgmhifafbebjfaaGreatDoorTDoK
namespace Go.Proofs.YtgmhifafbebjfaaGreatDoor
open Go.RowKit

/-- what a function answers, by its name and what it is given -/
inductive FormA (text : Int) : ByteArray → List ByteArray → List Int → VL → Prop
  | len (s : ByteArray) : FormA text ⟨#[76, 69, 78]⟩ [s] [] (numL ((s.size : Int) * 10000))
  | upper (s : ByteArray) : FormA text ⟨#[85, 80, 80, 69, 82]⟩ [s] [] (toldT text (caseS 97 65 s))
  | lower (s : ByteArray) : FormA text ⟨#[76, 79, 87, 69, 82]⟩ [s] [] (toldT text (caseS 65 97 s))
  | trim (s : ByteArray) : FormA text ⟨#[84, 82, 73, 77]⟩ [s] [] (toldT text (trimS s))
  | ord (s : ByteArray) : FormA text ⟨#[79, 82, 68]⟩ [s] [] (ordT s)
  | rev (s : ByteArray) : FormA text ⟨#[82, 69, 86]⟩ [s] [] (toldT text (revS s))
  | num (s : ByteArray) : FormA text ⟨#[78, 85, 77]⟩ [s] [] (numTx s)
  | left0 (s : ByteArray) : FormA text ⟨#[76, 69, 70, 84]⟩ [s] [] (toldT text (cutD s 1))
  | left1 (s : ByteArray) (n : Int) : FormA text ⟨#[76, 69, 70, 84]⟩ [s] [n] (if n < 0 then errL 8 else toldT text (cutD s n))
  | right0 (s : ByteArray) : FormA text ⟨#[82, 73, 71, 72, 84]⟩ [s] [] (toldT text (rightD s 1))
  | right1 (s : ByteArray) (n : Int) : FormA text ⟨#[82, 73, 71, 72, 84]⟩ [s] [n] (if n < 0 then errL 8 else toldT text (rightD s n))
  | mid (s : ByteArray) (a : Int) (b : Int) : FormA text ⟨#[77, 73, 68]⟩ [s] [a, b] (if a < 1 ∨ b < 0 then errL 8 else toldT text (cutD (midD s a) b))
  | rept (s : ByteArray) (n : Int) : FormA text ⟨#[82, 69, 80, 84]⟩ [s] [n] (if n < 0 then errL 8 else toldT text (repS s n.toNat))
  | find0 (t : ByteArray) (s : ByteArray) : FormA text ⟨#[70, 73, 78, 68]⟩ [t, s] [] (findL t s 1)
  | find1 (t : ByteArray) (s : ByteArray) (n : Int) : FormA text ⟨#[70, 73, 78, 68]⟩ [t, s] [n] (findL t s n)
  | subst (s : ByteArray) (t : ByteArray) (u : ByteArray) : FormA text ⟨#[83, 85, 66, 83, 84]⟩ [s, t, u] [] (if t = ⟨#[]⟩ then errL 8 else toldT text (substS s t u))
  | exact (s : ByteArray) (t : ByteArray) : FormA text ⟨#[69, 88, 65, 67, 84]⟩ [s, t] [] (boolL (decide (s = t)))
  | char (n : Int) : FormA text ⟨#[67, 72, 65, 82]⟩ [] [n] (if n < 0 ∨ 255 < n then errL 8 else toldT text ⟨#[UInt8.ofNat n.toNat]⟩)
  | concat (l : List ByteArray) (h : 0 < l.length) : FormA text ⟨#[67, 79, 78, 67, 65, 84]⟩ l [] (toldT text (joinS l))
theorem trimS_size (s : ByteArray) : (trimS s).size ≤ s.size := by
  have := trimW_len s.data.toList
  show (trimW s.data.toList).toArray.size ≤ _
  rw [List.size_toArray]
  exact this
theorem do_FIND0 (t s : ByteArray) (hs : s.size ≤ 1048576) (mx text : Int) (vs vn : Value) (w : World) (hS : RdStr w vs [t, s]) (hN : RdInt w vn []) (hmx : w.cell? ⟨2, 0, none⟩ = some (.int .i64 mx)) : Calls Tryz.prog 75 #[.agg #[vs, vn, .int .i64 text]] w fun e w' => e = .returned (.agg #[.int .i64 (findL t s 1).t, .int .i64 (findL t s 1).n, .string (findL t s 1).s, .bool (findL t s 1).b, .int .i64 (findL t s 1).c]) ∧ Below w.heap.size w w' := by
  have hx : (s.extract 0 s.size).data.toList = s.data.toList := by
    rw [ByteArray.data_extract, Array.toList_extract]
    exact List.take_of_length_le (Nat.le_refl _)
  unfold findL
  rw [if_neg (by omega), if_neg (by omega), show (1 : Int).toNat - 1 = 0 from rfl, hx]
  by_cases h0 : Lib.index s.data.toList t.data.toList < 0
  · rw [if_pos h0]
    exact tdo_FINDn0 t s hs _ rfl h0 mx text vs vn w hS hN hmx
  · rw [if_neg h0]
    exact tdo_FINDy0 t s hs _ rfl (by omega) (Lib.index_le _ _) mx text vs vn w hS hN hmx
theorem numV_range9 {l : List UInt8} : -9223372036854775808 ≤ numV l ∧ numV l ≤ 9223372036854775807 := by
  unfold numV
  cases h : numP l with
  | none => simp
  | some x =>
    unfold numP bodyOf at h
    split at h
    · split at h
      · unfold numOf at h
        split at h
        · cases h
        · split at h
          · injection h with h; subst h
            rename_i hle
            dsimp only
            split
            · exact ⟨by refine Int.le_trans ?_ (Int.neg_le_neg (Int.ofNat_le.2 hle)); decide, by refine Int.le_trans (Int.neg_nonpos_of_nonneg (Int.natCast_nonneg _)) (by decide)⟩
            · exact ⟨Int.le_trans (by decide) (Int.natCast_nonneg _), Int.ofNat_le.2 hle⟩
          · cases h
      · cases h
    · cases h
set_option maxRecDepth 100000 in
theorem at_F_len  (s : ByteArray) (h1 : s.size ≤ 1048576) (text : Int) : DoT ⟨#[76, 69, 78]⟩ [s] [] text (numL ((s.size : Int) * 10000)) := ⟨fun w b0 b1 b2 b3 kd lo d vs vn h q0 q1 q2 q3 ht hS hN => by
  have e : lookL tZero (tTab b0 b1 b2 b3) ⟨#[76, 69, 78]⟩ = .agg #[.string ⟨#[115]⟩, .int .i64 1, .func (.func 64) #[] #[]] := by kernel_rfl
  have hd := third_of (e.symm.trans h)
  exact ⟨64, #[], hd.symm, fun _ _ => by simp [go_sem], tdo_LEN s h1 text vs vn w hS hN⟩⟩
set_option maxRecDepth 100000 in
theorem at_F_upper  (s : ByteArray) (h1 : s.size ≤ 1048576) (text : Int) : DoT ⟨#[85, 80, 80, 69, 82]⟩ [s] [] text (toldT text (caseS 97 65 s)) := ⟨fun w b0 b1 b2 b3 kd lo d vs vn h q0 q1 q2 q3 ht hS hN => by
  have e : lookL tZero (tTab b0 b1 b2 b3) ⟨#[85, 80, 80, 69, 82]⟩ = .agg #[.string ⟨#[115]⟩, .int .i64 1, .func (.func 144) #[] #[.pointer (some ⟨b0, 0, none⟩)]] := by kernel_rfl
  have hd := third_of (e.symm.trans h)
  exact ⟨144, #[.pointer (some ⟨b0, 0, none⟩)], hd.symm, fun _ _ => by simp [go_sem], tdo_TEXT 70 s (caseS 97 65 s) (by rw [caseS_size]; omega) (fun w => upper_any s h1 w) (fun _ _ => by simp [go_sem]) text vs vn w hS hN b0 (cell_lt q0) q0⟩⟩
set_option maxRecDepth 100000 in
theorem at_F_lower  (s : ByteArray) (h1 : s.size ≤ 1048576) (text : Int) : DoT ⟨#[76, 79, 87, 69, 82]⟩ [s] [] text (toldT text (caseS 65 97 s)) := ⟨fun w b0 b1 b2 b3 kd lo d vs vn h q0 q1 q2 q3 ht hS hN => by
  have e : lookL tZero (tTab b0 b1 b2 b3) ⟨#[76, 79, 87, 69, 82]⟩ = .agg #[.string ⟨#[115]⟩, .int .i64 1, .func (.func 144) #[] #[.pointer (some ⟨b1, 0, none⟩)]] := by kernel_rfl
  have hd := third_of (e.symm.trans h)
  exact ⟨144, #[.pointer (some ⟨b1, 0, none⟩)], hd.symm, fun _ _ => by simp [go_sem], tdo_TEXT 72 s (caseS 65 97 s) (by rw [caseS_size]; omega) (fun w => lower_any s h1 w) (fun _ _ => by simp [go_sem]) text vs vn w hS hN b1 (cell_lt q1) q1⟩⟩
set_option maxRecDepth 100000 in
theorem at_F_trim  (s : ByteArray) (h1 : s.size ≤ 1048576) (text : Int) : DoT ⟨#[84, 82, 73, 77]⟩ [s] [] text (toldT text (trimS s)) := ⟨fun w b0 b1 b2 b3 kd lo d vs vn h q0 q1 q2 q3 ht hS hN => by
  have e : lookL tZero (tTab b0 b1 b2 b3) ⟨#[84, 82, 73, 77]⟩ = .agg #[.string ⟨#[115]⟩, .int .i64 1, .func (.func 144) #[] #[.pointer (some ⟨b2, 0, none⟩)]] := by kernel_rfl
  have hd := third_of (e.symm.trans h)
  exact ⟨144, #[.pointer (some ⟨b2, 0, none⟩)], hd.symm, fun _ _ => by simp [go_sem], tdo_TEXT 73 s (trimS s) (by have := trimS_size s; omega) (fun w => ttrim_any s h1 w) (fun _ _ => by simp [go_sem]) text vs vn w hS hN b2 (cell_lt q2) q2⟩⟩
set_option maxRecDepth 100000 in
theorem at_F_rev  (s : ByteArray) (h1 : s.size ≤ 1048576) (text : Int) : DoT ⟨#[82, 69, 86]⟩ [s] [] text (toldT text (revS s)) := ⟨fun w b0 b1 b2 b3 kd lo d vs vn h q0 q1 q2 q3 ht hS hN => by
  have e : lookL tZero (tTab b0 b1 b2 b3) ⟨#[82, 69, 86]⟩ = .agg #[.string ⟨#[115]⟩, .int .i64 1, .func (.func 144) #[] #[.pointer (some ⟨b3, 0, none⟩)]] := by kernel_rfl
  have hd := third_of (e.symm.trans h)
  exact ⟨144, #[.pointer (some ⟨b3, 0, none⟩)], hd.symm, fun _ _ => by simp [go_sem], tdo_TEXT 83 s (revS s) (by rw [revS_size]; omega) (fun w => rev_any s h1 w) (fun _ _ => by simp [go_sem]) text vs vn w hS hN b3 (cell_lt q3) q3⟩⟩
set_option maxRecDepth 100000 in
theorem at_F_left0  (s : ByteArray) (h1 : s.size ≤ 1048576) (text : Int) : DoT ⟨#[76, 69, 70, 84]⟩ [s] [] text (toldT text (cutD s 1)) := ⟨fun w b0 b1 b2 b3 kd lo d vs vn h q0 q1 q2 q3 ht hS hN => by
  have e : lookL tZero (tTab b0 b1 b2 b3) ⟨#[76, 69, 70, 84]⟩ = .agg #[.string ⟨#[115, 110]⟩, .int .i64 1, .func (.func 66) #[] #[]] := by kernel_rfl
  have hd := third_of (e.symm.trans h)
  exact ⟨66, #[], hd.symm, fun _ _ => by simp [go_sem], tdo_LEFT0 s h1 text vs vn w hS hN⟩⟩
set_option maxRecDepth 100000 in
theorem at_F_left1  (s : ByteArray) (n : Int) (h1 : s.size ≤ 1048576) (h2 : -922337203685477 ≤ n ∧ n ≤ 922337203685477) (text : Int) : DoT ⟨#[76, 69, 70, 84]⟩ [s] [n] text (if n < 0 then errL 8 else toldT text (cutD s n)) := ⟨fun w b0 b1 b2 b3 kd lo d vs vn h q0 q1 q2 q3 ht hS hN => by
  have e : lookL tZero (tTab b0 b1 b2 b3) ⟨#[76, 69, 70, 84]⟩ = .agg #[.string ⟨#[115, 110]⟩, .int .i64 1, .func (.func 66) #[] #[]] := by kernel_rfl
  have hd := third_of (e.symm.trans h)
  refine ⟨66, #[], hd.symm, fun _ _ => by simp [go_sem], ?_⟩
  by_cases hz : n < 0
  · rw [if_pos hz]; exact tdo_LEFTx s h1 n h2 hz text vs vn w hS hN
  · rw [if_neg hz]; exact tdo_LEFT1 s h1 n h2 (by omega) text vs vn w hS hN⟩
set_option maxRecDepth 100000 in
theorem at_F_right0  (s : ByteArray) (h1 : s.size ≤ 1048576) (text : Int) : DoT ⟨#[82, 73, 71, 72, 84]⟩ [s] [] text (toldT text (rightD s 1)) := ⟨fun w b0 b1 b2 b3 kd lo d vs vn h q0 q1 q2 q3 ht hS hN => by
  have e : lookL tZero (tTab b0 b1 b2 b3) ⟨#[82, 73, 71, 72, 84]⟩ = .agg #[.string ⟨#[115, 110]⟩, .int .i64 1, .func (.func 67) #[] #[]] := by kernel_rfl
  have hd := third_of (e.symm.trans h)
  exact ⟨67, #[], hd.symm, fun _ _ => by simp [go_sem], tdo_RIGHT0 s h1 text vs vn w hS hN⟩⟩
set_option maxRecDepth 100000 in
theorem at_F_right1  (s : ByteArray) (n : Int) (h1 : s.size ≤ 1048576) (h2 : -922337203685477 ≤ n ∧ n ≤ 922337203685477) (text : Int) : DoT ⟨#[82, 73, 71, 72, 84]⟩ [s] [n] text (if n < 0 then errL 8 else toldT text (rightD s n)) := ⟨fun w b0 b1 b2 b3 kd lo d vs vn h q0 q1 q2 q3 ht hS hN => by
  have e : lookL tZero (tTab b0 b1 b2 b3) ⟨#[82, 73, 71, 72, 84]⟩ = .agg #[.string ⟨#[115, 110]⟩, .int .i64 1, .func (.func 67) #[] #[]] := by kernel_rfl
  have hd := third_of (e.symm.trans h)
  refine ⟨67, #[], hd.symm, fun _ _ => by simp [go_sem], ?_⟩
  by_cases hz : n < 0
  · rw [if_pos hz]; exact tdo_RIGHTx s h1 n h2 hz text vs vn w hS hN
  · rw [if_neg hz]; exact tdo_RIGHT1 s h1 n h2 (by omega) text vs vn w hS hN⟩
set_option maxRecDepth 100000 in
theorem at_F_mid  (s : ByteArray) (a : Int) (b : Int) (h1 : s.size ≤ 1048576) (h2 : -922337203685477 ≤ a ∧ a ≤ 922337203685477) (h3 : -922337203685477 ≤ b ∧ b ≤ 922337203685477) (text : Int) : DoT ⟨#[77, 73, 68]⟩ [s] [a, b] text (if a < 1 ∨ b < 0 then errL 8 else toldT text (cutD (midD s a) b)) := ⟨fun w b0 b1 b2 b3 kd lo d vs vn h q0 q1 q2 q3 ht hS hN => by
  have e : lookL tZero (tTab b0 b1 b2 b3) ⟨#[77, 73, 68]⟩ = .agg #[.string ⟨#[115, 110, 110]⟩, .int .i64 3, .func (.func 68) #[] #[]] := by kernel_rfl
  have hd := third_of (e.symm.trans h)
  refine ⟨68, #[], hd.symm, fun _ _ => by simp [go_sem], ?_⟩
  by_cases hz : a < 1 ∨ b < 0
  · rw [if_pos hz]; exact tdo_MIDx s h1 a b h3 h2 hz text vs vn w hS hN
  · rw [if_neg hz]; exact tdo_MID s h1 a b h3 h2 (by omega) (by omega) text vs vn w hS hN⟩
set_option maxRecDepth 100000 in
theorem at_F_rept  (s : ByteArray) (n : Int) (_h1 : s.size ≤ 1048576) (h2 : -922337203685477 ≤ n ∧ n ≤ 922337203685477) (text : Int) (h9 : 0 ≤ text ∧ text ≤ 1024) : DoT ⟨#[82, 69, 80, 84]⟩ [s] [n] text (if n < 0 then errL 8 else toldT text (repS s n.toNat)) := ⟨fun w b0 b1 b2 b3 kd lo d vs vn h q0 q1 q2 q3 ht hS hN => by
  have e : lookL tZero (tTab b0 b1 b2 b3) ⟨#[82, 69, 80, 84]⟩ = .agg #[.string ⟨#[115, 110]⟩, .int .i64 2, .func (.func 74) #[] #[]] := by kernel_rfl
  have hd := third_of (e.symm.trans h)
  refine ⟨74, #[], hd.symm, fun _ _ => by simp [go_sem], ?_⟩
  by_cases hz : n < 0
  · rw [if_pos hz]; exact tdo_REPTx s n h2 hz text vs vn w hS hN
  · rw [if_neg hz]
    obtain ⟨m, rfl⟩ := Int.eq_ofNat_of_zero_le (show 0 ≤ n by omega)
    exact do_REPT s m (by omega) text h9 vs vn w hS hN⟩
set_option maxRecDepth 100000 in
theorem at_F_find0  (t : ByteArray) (s : ByteArray) (_h1 : t.size ≤ 1048576) (h2 : s.size ≤ 1048576) (text : Int) : DoT ⟨#[70, 73, 78, 68]⟩ [t, s] [] text (findL t s 1) := ⟨fun w b0 b1 b2 b3 kd lo d vs vn h q0 q1 q2 q3 ht hS hN => by
  have e : lookL tZero (tTab b0 b1 b2 b3) ⟨#[70, 73, 78, 68]⟩ = .agg #[.string ⟨#[115, 115, 110]⟩, .int .i64 2, .func (.func 75) #[] #[]] := by kernel_rfl
  have hd := third_of (e.symm.trans h)
  refine ⟨75, #[], hd.symm, fun _ _ => by simp [go_sem], ?_⟩
  obtain ⟨mx, hmx⟩ := ht.2
  exact do_FIND0 t s h2 mx text vs vn w hS hN hmx⟩
set_option maxRecDepth 100000 in
theorem at_F_subst  (s : ByteArray) (t : ByteArray) (u : ByteArray) (h1 : s.size ≤ 1048576) (h2 : t.size ≤ 1048576) (h3 : u.size ≤ 1048576) (text : Int) (h9 : 0 ≤ text ∧ text ≤ 1024) : DoT ⟨#[83, 85, 66, 83, 84]⟩ [s, t, u] [] text (if t = ⟨#[]⟩ then errL 8 else toldT text (substS s t u)) := ⟨fun w b0 b1 b2 b3 kd lo d vs vn h q0 q1 q2 q3 ht hS hN => by
  have e : lookL tZero (tTab b0 b1 b2 b3) ⟨#[83, 85, 66, 83, 84]⟩ = .agg #[.string ⟨#[115, 115, 115]⟩, .int .i64 3, .func (.func 76) #[] #[]] := by kernel_rfl
  have hd := third_of (e.symm.trans h)
  refine ⟨76, #[], hd.symm, fun _ _ => by simp [go_sem], ?_⟩
  by_cases hz : t = ⟨#[]⟩
  · rw [if_pos hz]; subst hz; exact tdo_SUBSTx s u text vs vn w hS hN
  · rw [if_neg hz]; obtain ⟨mx, hmx⟩ := ht.2; exact tdo_SUBST1 s t u (by omega) (fun _ => by omega) hz mx text h9 vs vn w hS hN hmx⟩
set_option maxRecDepth 100000 in
theorem at_F_char  (n : Int) (h1 : -922337203685477 ≤ n ∧ n ≤ 922337203685477) (text : Int) : DoT ⟨#[67, 72, 65, 82]⟩ [] [n] text (if n < 0 ∨ 255 < n then errL 8 else toldT text ⟨#[UInt8.ofNat n.toNat]⟩) := ⟨fun w b0 b1 b2 b3 kd lo d vs vn h q0 q1 q2 q3 ht hS hN => by
  have e : lookL tZero (tTab b0 b1 b2 b3) ⟨#[67, 72, 65, 82]⟩ = .agg #[.string ⟨#[110]⟩, .int .i64 1, .func (.func 80) #[] #[]] := by kernel_rfl
  have hd := third_of (e.symm.trans h)
  refine ⟨80, #[], hd.symm, fun _ _ => by simp [go_sem], ?_⟩
  by_cases hz : n < 0 ∨ 255 < n
  · rw [if_pos hz]; exact tdo_CHARx n h1 hz text vs vn w hS hN
  · rw [if_neg hz]
    obtain ⟨m, rfl⟩ := Int.eq_ofNat_of_zero_le (show 0 ≤ n by omega)
    exact tdo_CHAR1 m (by omega) text vs vn w hS hN⟩
theorem dot_all {text : Int} (h9 : 0 ≤ text ∧ text ≤ 1024) {name : ByteArray} {S : List ByteArray} {L : List Int} {r : VL} (h : FormA text name S L r) (hS : ∀ s ∈ S, s.size ≤ 1048576) (hL : ∀ n ∈ L, -922337203685477 ≤ n ∧ n ≤ 922337203685477) (hll : S.length ≤ 16) : DoT name S L text r := by
  cases h with
  | len s => exact at_F_len s (hS s (by simp))  text
  | upper s => exact at_F_upper s (hS s (by simp))  text
  | lower s => exact at_F_lower s (hS s (by simp))  text
  | trim s => exact at_F_trim s (hS s (by simp))  text
  | ord s => exact at_ORD s text
  | rev s => exact at_F_rev s (hS s (by simp))  text
  | num s => exact at_NUM s (by have := hS s (by simp); unfold maxLen; omega) numV_range9 text
  | left0 s => exact at_F_left0 s (hS s (by simp))  text
  | left1 s n => exact at_F_left1 s n (hS s (by simp)) (hL n (by simp)) text
  | right0 s => exact at_F_right0 s (hS s (by simp))  text
  | right1 s n => exact at_F_right1 s n (hS s (by simp)) (hL n (by simp)) text
  | mid s a b => exact at_F_mid s a b (hS s (by simp)) (hL a (by simp)) (hL b (by simp)) text
  | rept s n => exact at_F_rept s n (hS s (by simp)) (hL n (by simp)) text h9
  | find0 t s => exact at_F_find0 t s (hS t (by simp)) (hS s (by simp))  text
  | find1 t s n => exact at_FIND t s (hS s (by simp)) n (hL n (by simp)) text
  | subst s t u => exact at_F_subst s t u (hS s (by simp)) (hS t (by simp)) (hS u (by simp))  text h9
  | exact s t => exact at_EXACT s t text
  | char n => exact at_F_char n  (hL n (by simp)) text
  | concat l h => exact at_CONCAT S [] h (by omega) text h9
end Go.Proofs.YtgmhifafbebjfaaGreatDoor
