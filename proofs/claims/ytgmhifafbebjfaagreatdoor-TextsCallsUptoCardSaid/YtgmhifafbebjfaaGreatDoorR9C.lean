/-
  the document's texts: subst, rept, concat.
-/
import Derived.Test.YtgmhifafbebjfaaGreatDoorMg28
namespace Go.Proofs.YtgmhifafbebjfaaGreatDoor
open Go.RowKit

theorem sub_here9 {t : List UInt8} (ht : t ≠ []) (u : List UInt8) (N : Nat) (s : List UInt8) (hs : s.length ≤ N) (hp : t.isPrefixOf s = true) : substL t u (N + 1) s = u ++ substL t u (N + 1) (s.drop t.length) := by
  rw [subst_scan ht u (N + 1) s (by omega) (N + 1) (by omega), subst_scan ht u (N + 1) _ (by rw [List.length_drop]; omega) (N + 1) (by rw [List.length_drop]; omega)]
  cases s with
  | nil =>
    exfalso
    cases t with
    | nil => exact ht rfl
    | cons a b => simp at hp
  | cons c r =>
    rw [scanR, if_pos hp]
    have htl : 0 < t.length := List.length_pos_iff.2 ht
    simp only [List.length_cons] at hs
    rw [← subst_scan ht u N _ (by rw [List.length_drop, List.length_cons]; omega) (N + 1) (by rw [List.length_drop, List.length_cons]; omega), ← subst_scan ht u (N + 1) _ (by rw [List.length_drop, List.length_cons]; omega) (N + 1) (by rw [List.length_drop, List.length_cons]; omega)]
theorem sub_later9 {t : List UInt8} (ht : t ≠ []) (u : List UInt8) (N : Nat) (c : UInt8) (r : List UInt8) (hs : r.length < N) (hp : ¬ t.isPrefixOf (c :: r) = true) : substL t u (N + 1) (c :: r) = c :: substL t u (N + 1) r := by
  rw [subst_scan ht u (N + 1) (c :: r) (by simp; omega) (N + 1) (by simp; omega), scanR, if_neg hp, ← subst_scan ht u N r hs (N + 1) (by omega)]
theorem sub_end9 {t : List UInt8} (ht : t ≠ []) (u : List UInt8) (N : Nat) : substL t u (N + 1) [] = [] := by
  rw [subst_scan ht u (N + 1) [] (by simp) (N + 1) (by simp), scanR]
set_option maxRecDepth 100000 in
set_option maxHeartbeats 4000000 in
theorem r9subst (s t u : ByteArray) (hs : s.size ≤ 4000000000) (ht : t.size ≤ 4000000000) (hu : u.size ≤ 4000000000) (text : Int) (h9 : 0 ≤ text ∧ text ≤ 1024) (w : World) : Calls Tryz.prog 28 #[.string s, .string t, .string u, .int .i64 text] w fun e w' => e = .returned (.agg #[.int .i64 ((if t = ⟨#[]⟩ then errL 8 else toldT text (substS s t u))).t, .int .i64 ((if t = ⟨#[]⟩ then errL 8 else toldT text (substS s t u))).n, .string ((if t = ⟨#[]⟩ then errL 8 else toldT text (substS s t u))).s, .bool ((if t = ⟨#[]⟩ then errL 8 else toldT text (substS s t u))).b, .int .i64 ((if t = ⟨#[]⟩ then errL 8 else toldT text (substS s t u))).c]) ∧ Below w.heap.size w w' := by
  by_cases hne : t = ⟨#[]⟩
  · rw [if_pos hne]
    subst hne
    go_enter Tryz.func28, Tryz.ntmps28
    go_wp2_with (go_at_call 20; refine (rverr9 8 _).mono ?_; rintro e w1 ⟨rfl, hb⟩; obtain ⟨hc, hf, hz⟩ := bkeep hb (w.heap.size + 1) (by first | omega | (simp <;> omega)))
    refine bodyPost_ret (v := .agg #[.int .i64 4, .int .i64 0, .string ⟨#[]⟩, .bool false, .int .i64 (errC 8)]) ?_ rfl ⟨by rfl, by (repeat (first | (with_reducible exact Below.refl _ _) | (with_reducible refine Below.alloc ?_ (by first | omega | (dsimp only; omega) | (simp <;> omega)) _) | (with_reducible refine Below.setCell ?_ (by first | omega | (dsimp only; omega) | (simp <;> omega)) _) | (with_reducible refine Below.drew ?_) | (with_reducible refine below_drewN ?_ _) | (with_reducible refine Below.trans ?_ (Below.mono (by assumption) (by first | omega | (dsimp only; omega) | (simp <;> omega))))))⟩
    simp [results, Tryz.results28, go_sem, *]
  · rw [if_neg hne]
    have hln : s.data.toList.length = s.size := rfl
    have htn : t.data.toList.length = t.size := rfl
    have htl : t.data.toList ≠ [] := fun e => hne (by apply ByteArray.ext; apply Array.ext'; exact e)
    have htp : 0 < t.size := by rw [← htn]; exact List.length_pos_iff.2 htl
    have hnt : (t = ⟨#[]⟩) = False := eq_false hne
    obtain ⟨FL, hFL⟩ : ∃ FL : List UInt8, substL t.data.toList u.data.toList (s.size + 1) s.data.toList = FL := ⟨_, rfl⟩
    have hS : Hid (substS s t u = ⟨FL.toArray⟩) := Lib.hid (by unfold substS; rw [hFL])
    have hF0 := Lib.hid hFL
    have hsub := Lib.hid (fun (N : Nat) (r : List UInt8) (h1 : r.length ≤ N) (h2 : t.data.toList.isPrefixOf r = true) => sub_here9 htl u.data.toList N r h1 h2)
    have hlat := Lib.hid (fun (N : Nat) (c : UInt8) (r : List UInt8) (h1 : r.length < N) (h2 : ¬ t.data.toList.isPrefixOf (c :: r) = true) => sub_later9 htl u.data.toList N c r h1 h2)
    have hend := Lib.hid (fun N : Nat => sub_end9 htl u.data.toList N)
    clear hFL hne htl
    go_enter Tryz.func28, Tryz.ntmps28
    go_wp2
    go_loop [9, 10] (fun o i => ∃ (d : ByteArray) (k : Nat), o = .string d ∧ i = .int .i64 (k : Int) ∧ k ≤ s.size ∧ d.size ≤ 4000001024 ∧ Hid (d.data.toList ++ substL t.data.toList u.data.toList (s.size + 1) (s.data.toList.drop k) = FL)) (fun _ i => s.size - (intOf i).toNat)
    case atStart => exact ⟨_, 0, rfl, rfl, by omega, by decide, Lib.hid hF0.out⟩
    case round =>
      obtain ⟨d, k, rfl, rfl, hk, hd, hrest⟩ := hrel
      by_cases hlt : k < s.size
      · have hkl : (k : Int) < (s.size : Int) := by omega
        have hcons : s.data.toList.drop k = s[k] :: s.data.toList.drop (k + 1) := by rw [List.drop_eq_getElem_cons (by rw [hln]; exact hlt), list_at9 s k hlt]
        by_cases hle : (d.size : Int) ≤ text
        · cases ho : Lib.occAt s.data.toList t.data.toList k with
          | true =>
            have hroom : k + t.size ≤ s.size := by
              rcases Lib.occAt_room ho with h | h
              · rw [hln, htn] at h; exact h
              · rw [h] at htn; simp at htn; omega
            have hst := Lib.hid (show (d ++ u).data.toList ++ substL t.data.toList u.data.toList (s.size + 1) (s.data.toList.drop (k + t.size)) = FL by
              rw [← hrest.out, hsub.out s.size (s.data.toList.drop k) (by rw [List.length_drop, hln]; omega) ho, List.drop_drop, htn]
              simp [ByteArray.data_append])
            have hsz : (d ++ u).size ≤ 4000001024 := by rw [ByteArray.size_append]; omega
            have hov : ¬ (9223372036854775807 < d.size + u.size) := by omega
            go_wp2_with fail
            go_at_call 93
            refine (r9stands s t k (by omega) (by omega) hk true ho _).mono ?_
            rintro e w1 ⟨rfl, rfl⟩
            have hwk : IntKind.i64.wrap ((k : Int) + (t.size : Int)) = (k : Int) + (t.size : Int) := IntWalk.i64_in _ (by omega)
            clear ho
            go_wp2
            go_round
            case rel => exact ⟨d ++ u, k + t.size, rfl, by go_num, hroom, hsz, hst⟩
            case measure => simp [intOf]; omega
          | false =>
            have hx := ext_one9 s k hlt
            have hst := Lib.hid (show (d ++ s.extract k (k + 1)).data.toList ++ substL t.data.toList u.data.toList (s.size + 1) (s.data.toList.drop (k + 1)) = FL by
              rw [← hrest.out, hcons, hlat.out s.size s[k] (s.data.toList.drop (k + 1)) (by rw [List.length_drop, hln]; omega) (by rw [← hcons]; rw [show t.data.toList.isPrefixOf (s.data.toList.drop k) = false from ho]; simp), hx]
              simp [ByteArray.data_append])
            have hxs : (s.extract k (k + 1)).size = 1 := by rw [hx]; rfl
            have hsz : (d ++ s.extract k (k + 1)).size ≤ 4000001024 := by rw [ByteArray.size_append, hxs]; omega
            have hov : ¬ (9223372036854775807 < d.size + (s.extract k (k + 1)).size) := by omega
            have hk0 : (0 : Int) ≤ (k : Int) := by omega
            have hk1 : (k : Int) ≤ (k : Int) + 1 := by omega
            have hk2 : (k : Int) + 1 ≤ (s.size : Int) := by omega
            have hwk : IntKind.i64.wrap ((k : Int) + 1) = (k : Int) + 1 := IntWalk.i64_in _ (by omega)
            clear hx
            go_wp2_with fail
            go_at_call 93
            refine (r9stands s t k (by omega) (by omega) hk false ho _).mono ?_
            rintro e w1 ⟨rfl, rfl⟩
            clear ho
            go_wp2
            go_round
            case rel => exact ⟨_, k + 1, rfl, by go_num, hlt, hsz, hst⟩
            case measure => simp [intOf]; omega
        · have hov := Lib.hid (show toldT text (substS s t u) = toldT text d by
            have h1 : d.size ≤ (substS s t u).size := by
              rw [hS.out, ← hrest.out]
              show d.data.toList.length ≤ (List.toArray _).size
              simp
            unfold toldT
            rw [if_pos (by omega), if_pos (by omega)])
          go_wp2_with (go_at_call 25; refine (r9told text d (by omega) _).mono ?_; rintro e w1 ⟨rfl, hb⟩; obtain ⟨hc, hf, hz⟩ := bkeep hb (w.heap.size + 1) (by first | omega | (simp <;> omega)))
          refine bodyPost_ret (v := .agg #[.int .i64 (toldT text d).t, .int .i64 (toldT text d).n, .string (toldT text d).s, .bool (toldT text d).b, .int .i64 (toldT text d).c]) ?_ rfl ⟨by rw [hov.out], by (repeat (first | (with_reducible exact Below.refl _ _) | (with_reducible refine Below.alloc ?_ (by first | omega | (dsimp only; omega) | (simp <;> omega)) _) | (with_reducible refine Below.setCell ?_ (by first | omega | (dsimp only; omega) | (simp <;> omega)) _) | (with_reducible refine Below.drew ?_) | (with_reducible refine below_drewN ?_ _) | (with_reducible refine Below.trans ?_ (Below.mono (by assumption) (by first | omega | (dsimp only; omega) | (simp <;> omega))))))⟩
          simp [results, Tryz.results28, go_sem, *]
      · obtain rfl : k = s.size := by omega
        have hkl : ¬ (s.size : Int) < (s.size : Int) := by omega
        have hov := Lib.hid (show toldT text (substS s t u) = toldT text d by
          rw [hS.out, ← hrest.out, List.drop_eq_nil_of_le (by rw [hln]; exact Nat.le_refl _), hend.out, List.append_nil])
        go_wp2_with (go_at_call 25; refine (r9told text d (by omega) _).mono ?_; rintro e w1 ⟨rfl, hb⟩; obtain ⟨hc, hf, hz⟩ := bkeep hb (w.heap.size + 1) (by first | omega | (simp <;> omega)))
        refine bodyPost_ret (v := .agg #[.int .i64 (toldT text d).t, .int .i64 (toldT text d).n, .string (toldT text d).s, .bool (toldT text d).b, .int .i64 (toldT text d).c]) ?_ rfl ⟨by rw [hov.out], by (repeat (first | (with_reducible exact Below.refl _ _) | (with_reducible refine Below.alloc ?_ (by first | omega | (dsimp only; omega) | (simp <;> omega)) _) | (with_reducible refine Below.setCell ?_ (by first | omega | (dsimp only; omega) | (simp <;> omega)) _) | (with_reducible refine Below.drew ?_) | (with_reducible refine below_drewN ?_ _) | (with_reducible refine Below.trans ?_ (Below.mono (by assumption) (by first | omega | (dsimp only; omega) | (simp <;> omega))))))⟩
        simp [results, Tryz.results28, go_sem, *]
theorem rep_comm9 (l : List UInt8) : ∀ k : Nat, Lib.repeatL l k ++ l = l ++ Lib.repeatL l k
  | 0 => by simp [Lib.repeatL]
  | k + 1 => by rw [Lib.repeatL, List.append_assoc, rep_comm9 l k]
set_option maxRecDepth 100000 in
set_option maxHeartbeats 4000000 in
theorem r9rept (s : ByteArray) (hs : s.size ≤ 4000000000) (m : Nat) (hm : m ≤ 922337203685477) (text : Int) (h9 : 0 ≤ text ∧ text ≤ 1024) (w : World) : Calls Tryz.prog 92 #[.string s, .int .i64 (m : Int), .int .i64 text] w fun e w' => e = .returned (.agg #[.int .i64 (toldT text (repS s m)).t, .int .i64 (toldT text (repS s m)).n, .string (toldT text (repS s m)).s, .bool (toldT text (repS s m)).b, .int .i64 (toldT text (repS s m)).c]) ∧ Below w.heap.size w w' := by
  by_cases hne : s = ⟨#[]⟩
  · subst hne
    rw [repS_none]
    have hz : (⟨#[]⟩ : ByteArray).size ≤ 9223372036854775807 := by decide
    go_enter Tryz.func92, Tryz.ntmps92
    go_wp2_with (go_at_call 25; refine (r9told text ⟨#[]⟩ hz _).mono ?_; rintro e w1 ⟨rfl, hb⟩; obtain ⟨hc, hf, hz⟩ := bkeep hb (w.heap.size + 1) (by first | omega | (simp <;> omega)))
    refine bodyPost_ret (v := .agg #[.int .i64 (toldT text ⟨#[]⟩).t, .int .i64 (toldT text ⟨#[]⟩).n, .string (toldT text ⟨#[]⟩).s, .bool (toldT text ⟨#[]⟩).b, .int .i64 (toldT text ⟨#[]⟩).c]) ?_ rfl ⟨by rfl, by (repeat (first | (with_reducible exact Below.refl _ _) | (with_reducible refine Below.alloc ?_ (by first | omega | (dsimp only; omega) | (simp <;> omega)) _) | (with_reducible refine Below.setCell ?_ (by first | omega | (dsimp only; omega) | (simp <;> omega)) _) | (with_reducible refine Below.drew ?_) | (with_reducible refine below_drewN ?_ _) | (with_reducible refine Below.trans ?_ (Below.mono (by assumption) (by first | omega | (dsimp only; omega) | (simp <;> omega))))))⟩
    simp [results, Tryz.results92, go_sem, *]
  · have hnt : (s = ⟨#[]⟩) = False := eq_false hne
    have hsz := Lib.hid (fun k : Nat => repS_size s k)
    have hstep := Lib.hid (fun k : Nat => show repS s k ++ s = repS s (k + 1) from by
      unfold repS
      apply ByteArray.ext
      apply Array.ext'
      simp [Lib.repeatL, ByteArray.data_append, rep_comm9])
    clear hne
    go_enter Tryz.func92, Tryz.ntmps92
    go_wp2
    go_loop [7, 8] (fun o i => ∃ (d : ByteArray) (k : Nat), o = .string d ∧ i = .int .i64 (k : Int) ∧ k ≤ m ∧ d.size ≤ 4000001024 ∧ Hid (d = repS s k)) (fun _ i => m - (intOf i).toNat)
    case atStart => exact ⟨_, 0, rfl, rfl, by omega, by decide, Lib.hid rfl⟩
    case round =>
      obtain ⟨d, k, rfl, rfl, hk, hd, hrest⟩ := hrel
      by_cases hlt : k < m
      · have hkl : (k : Int) < (m : Int) := by omega
        by_cases hle : (d.size : Int) ≤ text
        · have hsz2 : (d ++ s).size ≤ 4000001024 := by rw [ByteArray.size_append]; omega
          have hov : ¬ (9223372036854775807 < d.size + s.size) := by omega
          have hwk : IntKind.i64.wrap ((k : Int) + 1) = (k : Int) + 1 := IntWalk.i64_in _ (by omega)
          go_wp2
          go_round
          case rel => exact ⟨d ++ s, k + 1, rfl, by go_num, hlt, hsz2, Lib.hid (by rw [hrest.out]; exact hstep.out k)⟩
          case measure => simp [intOf]; omega
        · have hov := Lib.hid (show toldT text (repS s m) = toldT text d by
            have h1 : d.size ≤ (repS s m).size := by
              rw [hrest.out, hsz.out, hsz.out]
              exact Nat.mul_le_mul_right _ (by omega)
            unfold toldT
            rw [if_pos (by omega), if_pos (by omega)])
          go_wp2_with (go_at_call 25; refine (r9told text d (by omega) _).mono ?_; rintro e w1 ⟨rfl, hb⟩; obtain ⟨hc, hf, hz⟩ := bkeep hb (w.heap.size + 1) (by first | omega | (simp <;> omega)))
          refine bodyPost_ret (v := .agg #[.int .i64 (toldT text d).t, .int .i64 (toldT text d).n, .string (toldT text d).s, .bool (toldT text d).b, .int .i64 (toldT text d).c]) ?_ rfl ⟨by rw [hov.out], by (repeat (first | (with_reducible exact Below.refl _ _) | (with_reducible refine Below.alloc ?_ (by first | omega | (dsimp only; omega) | (simp <;> omega)) _) | (with_reducible refine Below.setCell ?_ (by first | omega | (dsimp only; omega) | (simp <;> omega)) _) | (with_reducible refine Below.drew ?_) | (with_reducible refine below_drewN ?_ _) | (with_reducible refine Below.trans ?_ (Below.mono (by assumption) (by first | omega | (dsimp only; omega) | (simp <;> omega))))))⟩
          simp [results, Tryz.results92, go_sem, *]
      · obtain rfl : k = m := by omega
        have hkl : ¬ (k : Int) < (k : Int) := by omega
        have hov := Lib.hid (show toldT text (repS s k) = toldT text d by rw [hrest.out])
        go_wp2_with (go_at_call 25; refine (r9told text d (by omega) _).mono ?_; rintro e w1 ⟨rfl, hb⟩; obtain ⟨hc, hf, hz⟩ := bkeep hb (w.heap.size + 1) (by first | omega | (simp <;> omega)))
        refine bodyPost_ret (v := .agg #[.int .i64 (toldT text d).t, .int .i64 (toldT text d).n, .string (toldT text d).s, .bool (toldT text d).b, .int .i64 (toldT text d).c]) ?_ rfl ⟨by rw [hov.out], by (repeat (first | (with_reducible exact Below.refl _ _) | (with_reducible refine Below.alloc ?_ (by first | omega | (dsimp only; omega) | (simp <;> omega)) _) | (with_reducible refine Below.setCell ?_ (by first | omega | (dsimp only; omega) | (simp <;> omega)) _) | (with_reducible refine Below.drew ?_) | (with_reducible refine below_drewN ?_ _) | (with_reducible refine Below.trans ?_ (Below.mono (by assumption) (by first | omega | (dsimp only; omega) | (simp <;> omega))))))⟩
        simp [results, Tryz.results92, go_sem, *]
set_option maxRecDepth 100000 in
set_option maxHeartbeats 4000000 in
theorem r9concat (l : List ByteArray) (hl : l.length ≤ 1000000) (hsz : ∀ x ∈ l, x.size ≤ 4000000000) (text : Int) (h9 : 0 ≤ text ∧ text ≤ 1024) (v : Value) (w : World) (hS : RdStr w v l) : Calls Tryz.prog 29 #[v, .int .i64 text] w fun e w' => e = .returned (.agg #[.int .i64 (toldT text (joinS l)).t, .int .i64 (toldT text (joinS l)).n, .string (toldT text (joinS l)).s, .bool (toldT text (joinS l)).b, .int .i64 (toldT text (joinS l)).c]) ∧ Below w.heap.size w w' := by
  obtain ⟨A, cap, rfl, hR⟩ := hS
  have hRH := Lib.hid hR
  have hsH := Lib.hid hsz
  clear hR hsz
  go_enter Tryz.func29, Tryz.ntmps29
  go_wp2
  go_loop [5, 6] (fun o i => ∃ (d : ByteArray) (k : Nat), o = .string d ∧ i = .int .i64 (k : Int) ∧ k ≤ l.length ∧ d.size ≤ 4000001024 ∧ Hid (d = joinS (l.take k))) (fun _ i => l.length - (intOf i).toNat)
  case atStart => exact ⟨_, 0, rfl, rfl, by omega, by decide, Lib.hid rfl⟩
  case round =>
    obtain ⟨d, k, rfl, rfl, hk, hd, hrest⟩ := hrel
    by_cases hlt : k < l.length
    · have hkl : (k : Int) < (l.length : Int) := by omega
      obtain ⟨x, hx⟩ : ∃ x, l[k]? = some x := ⟨_, List.getElem?_eq_getElem hlt⟩
      by_cases hle : (d.size : Int) ≤ text
      · obtain ⟨b, o, hA2, hbl, hc⟩ := hRH.out k [.string x] (by rw [List.getElem?_map, hx]; rfl)
        obtain rfl : A = some ⟨b, o, none⟩ := hA2
        have hxs := hsH.out x (List.mem_of_getElem? hx)
        have hc0 : w.cell? ⟨b, o + k, none⟩ = some (.string x) := by have := hc 0 _ rfl; simpa using this
        have hne : b ≠ w.heap.size := by omega
        have hsz2 : (d ++ x).size ≤ 4000001024 := by rw [ByteArray.size_append]; omega
        have hov : ¬ (9223372036854775807 < d.size + x.size) := by omega
        have hk0 : (0 : Int) ≤ (k : Int) := by omega
        have hwk : IntKind.i64.wrap ((k : Int) + 1) = (k : Int) + 1 := IntWalk.i64_in _ (by omega)
        have hst := Lib.hid (show d ++ x = joinS (l.take (k + 1)) by
          rw [hrest.out, List.take_add_one, hx]
          unfold joinS
          rw [joinL_append]
          apply ByteArray.ext
          apply Array.ext'
          simp [joinL, ByteArray.data_append])
        have hbl2 : b < w.heap.size + 1 := by omega
        clear hc hx
        go_wp2
        go_round
        case rel => exact ⟨d ++ x, k + 1, rfl, by go_num, hlt, hsz2, hst⟩
        case measure => simp [intOf]; omega
      · have hov := Lib.hid (show toldT text (joinS l) = toldT text d by
          have h1 : d.size ≤ (joinS l).size := by
            rw [hrest.out, joinS_size, joinS_size]
            exact joinL_take_le l k
          unfold toldT
          rw [if_pos (by omega), if_pos (by omega)])
        go_wp2_with (go_at_call 25; refine (r9told text d (by omega) _).mono ?_; rintro e w1 ⟨rfl, hb⟩; obtain ⟨hc, hf, hz⟩ := bkeep hb (w.heap.size + 1) (by first | omega | (simp <;> omega)))
        refine bodyPost_ret (v := .agg #[.int .i64 (toldT text d).t, .int .i64 (toldT text d).n, .string (toldT text d).s, .bool (toldT text d).b, .int .i64 (toldT text d).c]) ?_ rfl ⟨by rw [hov.out], by (repeat (first | (with_reducible exact Below.refl _ _) | (with_reducible refine Below.alloc ?_ (by first | omega | (dsimp only; omega) | (simp <;> omega)) _) | (with_reducible refine Below.setCell ?_ (by first | omega | (dsimp only; omega) | (simp <;> omega)) _) | (with_reducible refine Below.drew ?_) | (with_reducible refine below_drewN ?_ _) | (with_reducible refine Below.trans ?_ (Below.mono (by assumption) (by first | omega | (dsimp only; omega) | (simp <;> omega))))))⟩
        simp [results, Tryz.results29, go_sem, *]
    · obtain rfl : k = l.length := by omega
      have hkl : ¬ (l.length : Int) < (l.length : Int) := by omega
      have hov := Lib.hid (show toldT text (joinS l) = toldT text d by rw [hrest.out, List.take_of_length_le (Nat.le_refl _)])
      go_wp2_with (go_at_call 25; refine (r9told text d (by omega) _).mono ?_; rintro e w1 ⟨rfl, hb⟩; obtain ⟨hc, hf, hz⟩ := bkeep hb (w.heap.size + 1) (by first | omega | (simp <;> omega)))
      refine bodyPost_ret (v := .agg #[.int .i64 (toldT text d).t, .int .i64 (toldT text d).n, .string (toldT text d).s, .bool (toldT text d).b, .int .i64 (toldT text d).c]) ?_ rfl ⟨by rw [hov.out], by (repeat (first | (with_reducible exact Below.refl _ _) | (with_reducible refine Below.alloc ?_ (by first | omega | (dsimp only; omega) | (simp <;> omega)) _) | (with_reducible refine Below.setCell ?_ (by first | omega | (dsimp only; omega) | (simp <;> omega)) _) | (with_reducible refine Below.drew ?_) | (with_reducible refine below_drewN ?_ _) | (with_reducible refine Below.trans ?_ (Below.mono (by assumption) (by first | omega | (dsimp only; omega) | (simp <;> omega))))))⟩
      simp [results, Tryz.results29, go_sem, *]
end Go.Proofs.YtgmhifafbebjfaaGreatDoor
