/-
  texts: SUBST, FIND behind their names; the document's texts: turned, find.
-/
import Derived.Test.YtgmhifafbebjfaaGreatDoorMg24
import Derived.Test.YtgmhifafbebjfaaGreatDoorTDoH
import Derived.Test.YtgmhifafbebjfaaGreatDoorTDoI
namespace Go.Proofs.YtgmhifafbebjfaaGreatDoor
open Go.RowKit

/-- what FIND answers -/
def findL (t s : ByteArray) (n : Int) : VL :=
  if n < 1 then errL 8
  else if (s.size : Int) + 1 < n then errL 6
  else if Lib.index (s.extract (n.toNat - 1) s.size).data.toList t.data.toList < 0 then errL 6
  else numL ((n + Lib.index (s.extract (n.toNat - 1) s.size).data.toList t.data.toList) * 10000)
theorem do_FIND (t s : ByteArray) (hs : s.size ≤ 1048576) (n : Int) (hn : -922337203685477 ≤ n ∧ n ≤ 922337203685477) (mx text : Int) (vs vn : Value) (w : World) (hS : RdStr w vs [t, s]) (hN : RdInt w vn [n]) (hmx : w.cell? ⟨2, 0, none⟩ = some (.int .i64 mx)) : Calls Tryz.prog 75 #[.agg #[vs, vn, .int .i64 text]] w fun e w' => e = .returned (.agg #[.int .i64 (findL t s n).t, .int .i64 (findL t s n).n, .string (findL t s n).s, .bool (findL t s n).b, .int .i64 (findL t s n).c]) ∧ Below w.heap.size w w' := by
  unfold findL
  by_cases h1 : n < 1
  · rw [if_pos h1]; exact tdo_FINDx t s hs n hn h1 text vs vn w hS hN
  · rw [if_neg h1]
    by_cases h2 : (s.size : Int) + 1 < n
    · rw [if_pos h2]; exact tdo_FINDm t s hs n hn (by omega) h2 text vs vn w hS hN
    · rw [if_neg h2]
      by_cases h3 : Lib.index (s.extract (n.toNat - 1) s.size).data.toList t.data.toList < 0
      · rw [if_pos h3]; exact tdo_FINDn1 t s hs n hn (by omega) (by omega) _ rfl h3 mx text vs vn w hS hN hmx
      · rw [if_neg h3]
        obtain ⟨i, hi, hl, _⟩ := index_occ _ t.data.toList (Int.not_lt.1 h3)
        have hl2 : i ≤ s.size := Nat.le_trans hl (ext_size_le s (n.toNat - 1) s.size)
        exact tdo_FINDy1 t s hs n hn (by omega) (by omega) _ rfl (Int.not_lt.1 h3) (by rw [hi]; omega) mx text vs vn w hS hN hmx
set_option maxRecDepth 100000 in
theorem at_FIND (t s : ByteArray) (hs : s.size ≤ 1048576) (n : Int) (hn : -922337203685477 ≤ n ∧ n ≤ 922337203685477) (text : Int) : DoT ⟨#[70, 73, 78, 68]⟩ [t, s] [n] text (findL t s n) := ⟨fun w b0 b1 b2 b3 kd lo d vs vn h q0 q1 q2 q3 ht hS hN => by
  have e : lookL tZero (tTab b0 b1 b2 b3) ⟨#[70, 73, 78, 68]⟩ = .agg #[.string ⟨#[115, 115, 110]⟩, .int .i64 2, .func (.func 75) #[] #[]] := by kernel_rfl
  have hd := third_of (e.symm.trans h)
  exact ⟨75, #[], hd.symm, fun _ _ => by simp [go_sem], (Exists.elim ht.2 fun mx hmx => do_FIND t s hs n hn mx text vs vn w hS hN hmx)⟩⟩
end Go.Proofs.YtgmhifafbebjfaaGreatDoor
namespace Go.Proofs.YtgmhifafbebjfaaGreatDoor
open Go.RowKit

theorem ext_one9 (s : ByteArray) (j : Nat) (h : j < s.size) : s.extract j (j + 1) = ⟨#[s[j]]⟩ := by
  apply ByteArray.ext
  apply Array.ext'
  have h2 : j < s.data.toList.length := h
  rw [ByteArray.data_extract, Array.toList_extract, List.extract, List.drop_eq_getElem_cons h2]
  simp
  rfl
theorem list_at9 (s : ByteArray) (j : Nat) (h : j < s.size) : s.data.toList[j]'h = s[j] := by simp; rfl
set_option maxHeartbeats 1000000 in
theorem r9turned (s : ByteArray) (hs : s.size ≤ 4000000000000) (w : World) : Calls Tryz.prog 97 #[.string s] w fun e w' => e = .returned (.string (revS s)) ∧ w = w' := by
  have hln : s.data.toList.length = s.size := rfl
  go_enter Tryz.func97, Tryz.ntmps97
  go_wp2
  go_loop [3, 4] (fun a i => ∃ (j : Nat) (u : ByteArray), j ≤ s.size ∧ a = .string u ∧ i = .int .i64 (j : Int) ∧ Hid (u = ⟨(s.data.toList.take j).reverse.toArray⟩) ∧ u.size = j) (fun _ i => s.size - (intOf i).toNat)
  case atStart => exact ⟨0, _, by omega, rfl, rfl, Lib.hid rfl, rfl⟩
  case round =>
    obtain ⟨j, u, hj, rfl, rfl, hu, hus⟩ := hrel
    by_cases hlt : j < s.size
    · have hjl : (j : Int) < (s.size : Int) := by omega
      have hj0 : (0 : Int) ≤ (j : Int) := by omega
      have hj1 : (j : Int) ≤ (j : Int) + 1 := by omega
      have hjl2 : (j : Int) + 1 ≤ (s.size : Int) := by omega
      have hwj : IntKind.i64.wrap ((j : Int) + 1) = (j : Int) + 1 := IntWalk.i64_in _ (by omega)
      have hx := Lib.hid (ext_one9 s j hlt)
      have hxs : (s.extract j (j + 1)).size = 1 := by rw [hx.out]; rfl
      have hq := Lib.hid (show (s.data.toList.take (j + 1)).reverse = s[j] :: (s.data.toList.take j).reverse by rw [List.take_add_one, List.getElem?_eq_getElem (by rw [hln]; exact hlt), list_at9 s j hlt]; simp)
      go_wp2
      go_round
      case rel => exact ⟨j + 1, _, by omega, rfl, by go_num, Lib.hid (by rw [hx.out, hu.out, hq.out]; apply ByteArray.ext; simp), by rw [ByteArray.size_append, hxs]; omega⟩
      case measure => simp [intOf]; omega
    · obtain rfl : j = s.size := by omega
      have hnn : ¬ ((s.size : Int) < (s.size : Int)) := by omega
      have e9 := Lib.hid (show u = revS s by rw [hu.out, List.take_of_length_le (by rw [hln]; exact Nat.le_refl _)]; rfl)
      go_wp2
      go_ret
      exact ⟨by rw [← e9.out]; rfl, rfl⟩
theorem occ_drop9 (s t : List UInt8) (a i : Nat) : Lib.occAt (s.drop a) t i = Lib.occAt s t (a + i) := by
  unfold Lib.occAt; rw [List.drop_drop]
theorem ext_drop9 (s : ByteArray) (a : Nat) : (s.extract a s.size).data.toList = s.data.toList.drop a := by
  rw [ByteArray.data_extract, Array.toList_extract]
  exact List.take_of_length_le (by rw [List.length_drop]; exact Nat.le_refl _)
theorem find_at9 (t s : ByteArray) (a k : Nat) (h1 : a ≤ k) (h2 : k ≤ s.size) (ho : Lib.occAt s.data.toList t.data.toList k = true) (hn : ∀ j, a ≤ j → j < k → Lib.occAt s.data.toList t.data.toList j = false) : findL t s ((a : Int) + 1) = numL (((k : Int) + 1) * 10000) := by
  have hln : s.data.toList.length = s.size := rfl
  have hi : Lib.index (s.data.toList.drop a) t.data.toList = ((k - a : Nat) : Int) := Lib.index_first (by rw [List.length_drop, hln]; omega) (by rw [occ_drop9, show a + (k - a) = k by omega]; exact ho) (fun j hj => by rw [occ_drop9]; exact hn _ (by omega) (by omega))
  unfold findL
  rw [if_neg (by omega), if_neg (by omega), show ((a : Int) + 1).toNat - 1 = a by omega, ext_drop9, hi, if_neg (by omega)]
  congr 2
  omega
theorem find_none9 (t s : ByteArray) (a : Nat) (hn : ∀ j, a ≤ j → j ≤ s.size → Lib.occAt s.data.toList t.data.toList j = false) : findL t s ((a : Int) + 1) = errL 6 := by
  have hln : s.data.toList.length = s.size := rfl
  unfold findL
  rw [if_neg (by omega)]
  by_cases h : (s.size : Int) + 1 < (a : Int) + 1
  · rw [if_pos h]
  · have hi : Lib.index (s.data.toList.drop a) t.data.toList = -1 := Lib.index_none (fun j hj => by
      rw [List.length_drop, hln] at hj
      rw [occ_drop9]; exact hn _ (by omega) (by omega))
    rw [if_neg h, show ((a : Int) + 1).toNat - 1 = a by omega, ext_drop9, hi, if_pos (by omega)]
set_option maxHeartbeats 2000000 in
theorem r9find (t s : ByteArray) (hs : s.size ≤ 4000000000000) (ht : t.size ≤ 4000000000000) (n : Int) (hn : -922337203685477 ≤ n ∧ n ≤ 922337203685477) (w : World) : Calls Tryz.prog 27 #[.string t, .string s, .int .i64 n] w fun e w' => e = .returned (.agg #[.int .i64 (findL t s n).t, .int .i64 (findL t s n).n, .string (findL t s n).s, .bool (findL t s n).b, .int .i64 (findL t s n).c]) ∧ Below w.heap.size w w' := by
  by_cases h1 : n < 1
  · have hr := Lib.hid (show findL t s n = errL 8 by unfold findL; rw [if_pos h1])
    go_enter Tryz.func27, Tryz.ntmps27
    go_wp2_with (go_at_call 20; refine (rverr9 8 _).mono ?_; rintro e w1 ⟨rfl, hb⟩; obtain ⟨hc, hf, hz⟩ := bkeep hb (w.heap.size + 1) (by first | omega | (simp <;> omega)))
    refine bodyPost_ret (v := .agg #[.int .i64 4, .int .i64 0, .string ⟨#[]⟩, .bool false, .int .i64 (errC 8)]) ?_ rfl ⟨by rw [hr.out]; rfl, by (repeat (first | (with_reducible exact Below.refl _ _) | (with_reducible refine Below.alloc ?_ (by first | omega | (dsimp only; omega) | (simp <;> omega)) _) | (with_reducible refine Below.setCell ?_ (by first | omega | (dsimp only; omega) | (simp <;> omega)) _) | (with_reducible refine Below.drew ?_) | (with_reducible refine below_drewN ?_ _) | (with_reducible refine Below.trans ?_ (Below.mono (by assumption) (by first | omega | (dsimp only; omega) | (simp <;> omega))))))⟩
    simp [results, Tryz.results27, go_sem, *]
  · obtain ⟨a, ha⟩ : ∃ a : Nat, n = (a : Int) + 1 := ⟨(n - 1).toNat, by omega⟩
    subst ha
    have hw1 : IntKind.i64.wrap ((a : Int) + 1 - 1) = (a : Int) := by rw [show (a : Int) + 1 - 1 = (a : Int) by omega]; exact IntWalk.i64_in _ (by omega)
    go_enter Tryz.func27, Tryz.ntmps27
    go_wp2
    go_loop [7] (fun i => ∃ k : Nat, i = .int .i64 (k : Int) ∧ a ≤ k ∧ (k ≤ a ∨ k ≤ s.size + 1) ∧ Hid (∀ j, a ≤ j → j < k → Lib.occAt s.data.toList t.data.toList j = false)) (fun i => s.size + 1 - (intOf i).toNat)
    case atStart => exact ⟨a, by first | rfl | go_num, by omega, by omega, Lib.hid fun j h2 h3 => by omega⟩
    case round =>
      obtain ⟨k, rfl, hk1, hk2, hno⟩ := hrel
      by_cases hle : k ≤ s.size
      · have hkl : (k : Int) ≤ (s.size : Int) := by omega
        cases ho : Lib.occAt s.data.toList t.data.toList k with
        | true =>
          have hr := Lib.hid (find_at9 t s a k hk1 hle ho hno.out)
          go_wp2_with fail
          go_at_call 93
          refine (r9stands s t k hs ht hle true ho _).mono ?_
          rintro e w1 ⟨rfl, rfl⟩
          have hwk : IntKind.i64.wrap ((k : Int) + 1) = (k : Int) + 1 := IntWalk.i64_in _ (by omega)
          clear ho
          go_wp2_with (go_at_call 94; refine (r9whole ((k : Int) + 1) (by omega) _).mono ?_; rintro e w1 ⟨rfl, hb⟩; obtain ⟨hc, hf, hz⟩ := bkeep hb (w.heap.size + 1) (by first | omega | (simp <;> omega)))
          refine bodyPost_ret (v := .agg #[.int .i64 (numL (((k : Int) + 1) * 10000)).t, .int .i64 (numL (((k : Int) + 1) * 10000)).n, .string (numL (((k : Int) + 1) * 10000)).s, .bool (numL (((k : Int) + 1) * 10000)).b, .int .i64 (numL (((k : Int) + 1) * 10000)).c]) ?_ rfl ⟨by rw [hr.out], by (repeat (first | (with_reducible exact Below.refl _ _) | (with_reducible refine Below.alloc ?_ (by first | omega | (dsimp only; omega) | (simp <;> omega)) _) | (with_reducible refine Below.setCell ?_ (by first | omega | (dsimp only; omega) | (simp <;> omega)) _) | (with_reducible refine Below.drew ?_) | (with_reducible refine below_drewN ?_ _) | (with_reducible refine Below.trans ?_ (Below.mono (by assumption) (by first | omega | (dsimp only; omega) | (simp <;> omega))))))⟩
          simp [results, Tryz.results27, go_sem, *]
        | false =>
          have hno2 : Hid (∀ j, a ≤ j → j < k + 1 → Lib.occAt s.data.toList t.data.toList j = false) := Lib.hid fun j h2 h3 => by
            by_cases e : j = k
            · rw [e]; exact ho
            · exact hno.out j h2 (by omega)
          go_wp2_with fail
          go_at_call 93
          refine (r9stands s t k hs ht hle false ho _).mono ?_
          rintro e w1 ⟨rfl, rfl⟩
          have hwk : IntKind.i64.wrap ((k : Int) + 1) = (k : Int) + 1 := IntWalk.i64_in _ (by omega)
          clear ho
          go_wp2
          go_round
          case rel => exact ⟨k + 1, by go_num, by omega, by omega, hno2⟩
          case measure => simp [intOf]; omega
      · have hkl : ¬ (k : Int) ≤ (s.size : Int) := by omega
        have hr := Lib.hid (find_none9 t s a (fun j h2 h3 => hno.out j h2 (by omega)))
        go_wp2_with (go_at_call 20; refine (rverr9 6 _).mono ?_; rintro e w1 ⟨rfl, hb⟩; obtain ⟨hc, hf, hz⟩ := bkeep hb (w.heap.size + 1) (by first | omega | (simp <;> omega)))
        refine bodyPost_ret (v := .agg #[.int .i64 4, .int .i64 0, .string ⟨#[]⟩, .bool false, .int .i64 (errC 6)]) ?_ rfl ⟨by rw [hr.out]; rfl, by (repeat (first | (with_reducible exact Below.refl _ _) | (with_reducible refine Below.alloc ?_ (by first | omega | (dsimp only; omega) | (simp <;> omega)) _) | (with_reducible refine Below.setCell ?_ (by first | omega | (dsimp only; omega) | (simp <;> omega)) _) | (with_reducible refine Below.drew ?_) | (with_reducible refine below_drewN ?_ _) | (with_reducible refine Below.trans ?_ (Below.mono (by assumption) (by first | omega | (dsimp only; omega) | (simp <;> omega))))))⟩
        simp [results, Tryz.results27, go_sem, *]
end Go.Proofs.YtgmhifafbebjfaaGreatDoor
