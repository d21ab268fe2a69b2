/-
  the document's texts: cased, trim; the document's texts: trim.
-/
import Derived.Test.YtgmhifafbebjfaaGreatDoorMg28
namespace Go.Proofs.YtgmhifafbebjfaaGreatDoor
open Go.RowKit

theorem u8_info : (Tryz.prog.info? 5).map (fun i => (i.zero, i.size, i.bytes)) = some (some (.int .u8 0), 1, 1) := by kernel_rfl
/-- bytes in a row of one's own -/
def byR (l : List UInt8) : List Value := l.map (fun c : UInt8 => Value.int .u8 (c.toNat : Int))
theorem byR_one (l : List UInt8) (c : UInt8) : byR l ++ [.int .u8 (c.toNat : Int)] = byR (l ++ [c]) := by simp [byR]
theorem conv_none9 (W : World) : (convert 61 9 (.slice none 0 0)).run Tryz.prog W = .ok (.string ⟨#[]⟩) W := by kernel_rfl
/-- a row of bytes as a text -/
theorem row_text (W : World) (B : Nat) (v : Value) (n : Nat) (l : List UInt8) (h : W.ownsRow B 5 1 v n (byR l)) (hn : l.length = n) : (convert 61 9 v).run Tryz.prog W = .ok (.string ⟨l.toArray⟩) W := by
  subst hn
  have h0 := h
  obtain ⟨h1, h2⟩ := h
  rcases h2 with ⟨hv, hn0⟩ | ⟨g, cap, cur, rfl, hg, hh, hle, hmx, hsz, htk⟩
  · obtain rfl : l = [] := List.eq_nil_of_length_eq_zero hn0
    rw [hv]
    exact conv_none9 W
  · refine bytes_back W g cap l ⟨(Array.getElem?_eq_some_iff.1 hh).1, fun j hj => ⟨?_, by simp [World.frozen?, hh]⟩⟩
    refine (World.ownsRow.cellAt h0 j (by omega)).trans ?_
    unfold byR
    rw [List.getElem?_map, List.getElem?_eq_getElem hj]
    rfl
theorem byte_at9 (s : ByteArray) (j : Nat) (h : j < s.size) : s.data.toList[j]? = some s[j] := by
  have hln : s.data.toList.length = s.size := rfl
  rw [List.getElem?_eq_getElem (by rw [hln]; exact h), list_at9 s j h]
set_option maxRecDepth 100000 in
set_option maxHeartbeats 4000000 in
theorem r9upper (s : ByteArray) (hs : s.size ≤ 1048576) (w : World) : Calls Tryz.prog 95 #[.string s, .int .u8 97, .int .u8 224] w fun e w' => e = .returned (.string (caseS 97 65 s)) ∧ Below w.heap.size w w' := by
  obtain ⟨i0, hi, hz0, hz1, hz2⟩ := info_parts u8_info
  have hln : s.data.toList.length = s.size := rfl
  go_enter Tryz.func95, Tryz.ntmps95
  go_wp2
  go_loopw [7, 8] (fun v i wr => ∃ k : Nat, k ≤ s.size ∧ i = .int .i64 (k : Int) ∧ Hid (wr.ownsRow w.heap.size 5 1 v k (byR ((s.data.toList.take k).map (caseU 97 65)))) ∧ Below w.heap.size w wr) (fun _ i _ => s.size - (intOf i).toNat)
  case atStart => exact ⟨0, by omega, rfl, Lib.hid (World.ownsRow_nil _ _ _ _), Below.refl _ _⟩
  case round =>
    obtain ⟨k, hk, rfl, hown, hbr⟩ := hrel
    have hzr := hbr.size
    by_cases hlt : k < s.size
    · have hkl : (k : Int) < (s.size : Int) := by omega
      have hk0 : (0 : Int) ≤ (k : Int) := by omega
      obtain ⟨c, hc⟩ : ∃ c, s[k] = c := ⟨_, rfl⟩
      have hcn : (s[k]'hlt).toNat = c.toNat := by rw [hc]
      have hcl := UInt8.toNat_lt c
      have hwk : IntKind.i64.wrap ((k : Int) + 1) = (k : Int) + 1 := IntWalk.i64_in _ (by omega)
      have htk : Hid ((s.data.toList.take (k + 1)).map (caseU 97 65) = (s.data.toList.take k).map (caseU 97 65) ++ [caseU 97 65 c]) := Lib.hid (by rw [List.take_add_one, byte_at9 s k hlt, hc]; simp)
      have hown3 := hown.out
      by_cases h1 : 97 ≤ c.toNat
      · by_cases h2 : c.toNat ≤ 122
        · have hd : Hid ((caseU 97 65 c).toNat = c.toNat - 97 + 65) := Lib.hid (by unfold caseU; rw [if_pos (by omega)]; rw [UInt8.toNat_ofNat_of_lt' (by show _ < 256; omega)])
          have g1 : (97 : Int) ≤ (c.toNat : Int) := by omega
          have g2 : (c.toNat : Int) ≤ 122 := by omega
          have hw : IntKind.u8.wrap ((c.toNat : Int) + 224) = (((caseU 97 65 c).toNat : Nat) : Int) := by rw [hd.out]; rw [show IntKind.u8.wrap ((c.toNat : Int) + 224) = ((c.toNat : Int) + 224) % 256 from rfl]; omega
          clear hc hd
          go_wp2_with (at_builtin; refine wpList_append_own_at _ rfl _ _ 61 rfl w.heap.size 5 i0 (.int .u8 0) 1 1 Tryz.underlying61 hi hz0 hz1 hz2 rfl (by decide) _ _ _ rfl (hown3.alloc _) ⟨wr.heap.size, 0, none⟩ 1 1 [.int .u8 ((caseU 97 65 c).toNat : Int)] rfl rfl (cell_one_new _ _ _) (by simp [Value.oneCell']) (by unfold maxLen; omega) (by omega) (by have := hbr.size; simp; omega) ?_; intro v' wq hown' hgrow _ _)
          go_roundw
          case rel => exact ⟨k + 1, by omega, by go_num, Lib.hid (by rw [htk.out, ← byR_one]; exact hown'), (hbr.alloc (by omega) _).grown hgrow (by simp; omega) (fun q hq => (hown3.lt q hq).1)⟩
          case measure => simp [intOf]; omega
        · have hd : Hid (caseU 97 65 c = c) := Lib.hid (by unfold caseU; rw [if_neg (by omega)])
          have g1 : (97 : Int) ≤ (c.toNat : Int) := by omega
          have g2 : ¬ (c.toNat : Int) ≤ 122 := by omega
          clear hc
          go_wp2_with (at_builtin; refine wpList_append_own_at _ rfl _ _ 61 rfl w.heap.size 5 i0 (.int .u8 0) 1 1 Tryz.underlying61 hi hz0 hz1 hz2 rfl (by decide) _ _ _ rfl (hown3.alloc _) ⟨wr.heap.size, 0, none⟩ 1 1 [.int .u8 (c.toNat : Int)] rfl rfl (cell_one_new _ _ _) (by simp [Value.oneCell']) (by unfold maxLen; omega) (by omega) (by have := hbr.size; simp; omega) ?_; intro v' wq hown' hgrow _ _)
          go_roundw
          case rel => exact ⟨k + 1, by omega, by go_num, Lib.hid (by rw [htk.out, hd.out, ← byR_one]; exact hown'), (hbr.alloc (by omega) _).grown hgrow (by simp; omega) (fun q hq => (hown3.lt q hq).1)⟩
          case measure => simp [intOf]; omega
      · have hd : Hid (caseU 97 65 c = c) := Lib.hid (by unfold caseU; rw [if_neg (by omega)])
        have g1 : ¬ (97 : Int) ≤ (c.toNat : Int) := by omega
        clear hc
        go_wp2_with (at_builtin; refine wpList_append_own_at _ rfl _ _ 61 rfl w.heap.size 5 i0 (.int .u8 0) 1 1 Tryz.underlying61 hi hz0 hz1 hz2 rfl (by decide) _ _ _ rfl (hown3.alloc _) ⟨wr.heap.size, 0, none⟩ 1 1 [.int .u8 (c.toNat : Int)] rfl rfl (cell_one_new _ _ _) (by simp [Value.oneCell']) (by unfold maxLen; omega) (by omega) (by have := hbr.size; simp; omega) ?_; intro v' wq hown' hgrow _ _)
        go_roundw
        case rel => exact ⟨k + 1, by omega, by go_num, Lib.hid (by rw [htk.out, hd.out, ← byR_one]; exact hown'), (hbr.alloc (by omega) _).grown hgrow (by simp; omega) (fun q hq => (hown3.lt q hq).1)⟩
        case measure => simp [intOf]; omega
    · obtain rfl : k = s.size := by omega
      have hkl : ¬ (s.size : Int) < (s.size : Int) := by omega
      have hcv := row_text wr w.heap.size u7 s.size _ hown.out (by rw [List.length_map, List.length_take, hln]; omega)
      have he : (⟨((s.data.toList.take s.size).map (caseU 97 65)).toArray⟩ : ByteArray) = caseS 97 65 s := by rw [List.take_of_length_le (by rw [hln]; exact Nat.le_refl _)]; rfl
      rw [he] at hcv
      clear he
      go_wp2
      go_ret
      exact ⟨rfl, hbr⟩
set_option maxRecDepth 100000 in
set_option maxHeartbeats 4000000 in
theorem r9lower (s : ByteArray) (hs : s.size ≤ 1048576) (w : World) : Calls Tryz.prog 95 #[.string s, .int .u8 65, .int .u8 32] w fun e w' => e = .returned (.string (caseS 65 97 s)) ∧ Below w.heap.size w w' := by
  obtain ⟨i0, hi, hz0, hz1, hz2⟩ := info_parts u8_info
  have hln : s.data.toList.length = s.size := rfl
  go_enter Tryz.func95, Tryz.ntmps95
  go_wp2
  go_loopw [7, 8] (fun v i wr => ∃ k : Nat, k ≤ s.size ∧ i = .int .i64 (k : Int) ∧ Hid (wr.ownsRow w.heap.size 5 1 v k (byR ((s.data.toList.take k).map (caseU 65 97)))) ∧ Below w.heap.size w wr) (fun _ i _ => s.size - (intOf i).toNat)
  case atStart => exact ⟨0, by omega, rfl, Lib.hid (World.ownsRow_nil _ _ _ _), Below.refl _ _⟩
  case round =>
    obtain ⟨k, hk, rfl, hown, hbr⟩ := hrel
    have hzr := hbr.size
    by_cases hlt : k < s.size
    · have hkl : (k : Int) < (s.size : Int) := by omega
      have hk0 : (0 : Int) ≤ (k : Int) := by omega
      obtain ⟨c, hc⟩ : ∃ c, s[k] = c := ⟨_, rfl⟩
      have hcn : (s[k]'hlt).toNat = c.toNat := by rw [hc]
      have hcl := UInt8.toNat_lt c
      have hwk : IntKind.i64.wrap ((k : Int) + 1) = (k : Int) + 1 := IntWalk.i64_in _ (by omega)
      have htk : Hid ((s.data.toList.take (k + 1)).map (caseU 65 97) = (s.data.toList.take k).map (caseU 65 97) ++ [caseU 65 97 c]) := Lib.hid (by rw [List.take_add_one, byte_at9 s k hlt, hc]; simp)
      have hown3 := hown.out
      by_cases h1 : 65 ≤ c.toNat
      · by_cases h2 : c.toNat ≤ 90
        · have hd : Hid ((caseU 65 97 c).toNat = c.toNat - 65 + 97) := Lib.hid (by unfold caseU; rw [if_pos (by omega)]; rw [UInt8.toNat_ofNat_of_lt' (by show _ < 256; omega)])
          have g1 : (65 : Int) ≤ (c.toNat : Int) := by omega
          have g2 : (c.toNat : Int) ≤ 90 := by omega
          have hw : IntKind.u8.wrap ((c.toNat : Int) + 32) = (((caseU 65 97 c).toNat : Nat) : Int) := by rw [hd.out]; rw [show IntKind.u8.wrap ((c.toNat : Int) + 32) = ((c.toNat : Int) + 32) % 256 from rfl]; omega
          clear hc hd
          go_wp2_with (at_builtin; refine wpList_append_own_at _ rfl _ _ 61 rfl w.heap.size 5 i0 (.int .u8 0) 1 1 Tryz.underlying61 hi hz0 hz1 hz2 rfl (by decide) _ _ _ rfl (hown3.alloc _) ⟨wr.heap.size, 0, none⟩ 1 1 [.int .u8 ((caseU 65 97 c).toNat : Int)] rfl rfl (cell_one_new _ _ _) (by simp [Value.oneCell']) (by unfold maxLen; omega) (by omega) (by have := hbr.size; simp; omega) ?_; intro v' wq hown' hgrow _ _)
          go_roundw
          case rel => exact ⟨k + 1, by omega, by go_num, Lib.hid (by rw [htk.out, ← byR_one]; exact hown'), (hbr.alloc (by omega) _).grown hgrow (by simp; omega) (fun q hq => (hown3.lt q hq).1)⟩
          case measure => simp [intOf]; omega
        · have hd : Hid (caseU 65 97 c = c) := Lib.hid (by unfold caseU; rw [if_neg (by omega)])
          have g1 : (65 : Int) ≤ (c.toNat : Int) := by omega
          have g2 : ¬ (c.toNat : Int) ≤ 90 := by omega
          clear hc
          go_wp2_with (at_builtin; refine wpList_append_own_at _ rfl _ _ 61 rfl w.heap.size 5 i0 (.int .u8 0) 1 1 Tryz.underlying61 hi hz0 hz1 hz2 rfl (by decide) _ _ _ rfl (hown3.alloc _) ⟨wr.heap.size, 0, none⟩ 1 1 [.int .u8 (c.toNat : Int)] rfl rfl (cell_one_new _ _ _) (by simp [Value.oneCell']) (by unfold maxLen; omega) (by omega) (by have := hbr.size; simp; omega) ?_; intro v' wq hown' hgrow _ _)
          go_roundw
          case rel => exact ⟨k + 1, by omega, by go_num, Lib.hid (by rw [htk.out, hd.out, ← byR_one]; exact hown'), (hbr.alloc (by omega) _).grown hgrow (by simp; omega) (fun q hq => (hown3.lt q hq).1)⟩
          case measure => simp [intOf]; omega
      · have hd : Hid (caseU 65 97 c = c) := Lib.hid (by unfold caseU; rw [if_neg (by omega)])
        have g1 : ¬ (65 : Int) ≤ (c.toNat : Int) := by omega
        clear hc
        go_wp2_with (at_builtin; refine wpList_append_own_at _ rfl _ _ 61 rfl w.heap.size 5 i0 (.int .u8 0) 1 1 Tryz.underlying61 hi hz0 hz1 hz2 rfl (by decide) _ _ _ rfl (hown3.alloc _) ⟨wr.heap.size, 0, none⟩ 1 1 [.int .u8 (c.toNat : Int)] rfl rfl (cell_one_new _ _ _) (by simp [Value.oneCell']) (by unfold maxLen; omega) (by omega) (by have := hbr.size; simp; omega) ?_; intro v' wq hown' hgrow _ _)
        go_roundw
        case rel => exact ⟨k + 1, by omega, by go_num, Lib.hid (by rw [htk.out, hd.out, ← byR_one]; exact hown'), (hbr.alloc (by omega) _).grown hgrow (by simp; omega) (fun q hq => (hown3.lt q hq).1)⟩
        case measure => simp [intOf]; omega
    · obtain rfl : k = s.size := by omega
      have hkl : ¬ (s.size : Int) < (s.size : Int) := by omega
      have hcv := row_text wr w.heap.size u7 s.size _ hown.out (by rw [List.length_map, List.length_take, hln]; omega)
      have he : (⟨((s.data.toList.take s.size).map (caseU 65 97)).toArray⟩ : ByteArray) = caseS 65 97 s := by rw [List.take_of_length_le (by rw [hln]; exact Nat.le_refl _)]; rfl
      rw [he] at hcv
      clear he
      go_wp2
      go_ret
      exact ⟨rfl, hbr⟩
end Go.Proofs.YtgmhifafbebjfaaGreatDoor
namespace Go.Proofs.YtgmhifafbebjfaaGreatDoor
open Go.RowKit

set_option maxRecDepth 100000 in
set_option maxHeartbeats 8000000 in
theorem r9trim (s : ByteArray) (hs : s.size ≤ 1048576) (w : World) : Calls Tryz.prog 96 #[.string s] w fun e w' => e = .returned (.string ⟨(trimW s.data.toList).toArray⟩) ∧ Below w.heap.size w w' := by
  obtain ⟨i0, hi, hz0, hz1, hz2⟩ := info_parts u8_info
  have hln : s.data.toList.length = s.size := rfl
  go_enter Tryz.func96, Tryz.ntmps96
  go_wp2
  go_loopw [3, 4] (fun v i wr => ∃ (k : Nat) (o : List UInt8), k ≤ s.size ∧ i = .int .i64 (k : Int) ∧ o.length ≤ k ∧ Hid (wr.ownsRow w.heap.size 5 1 v o.length (byR o)) ∧ Hid (trimF o (s.data.toList.drop k) = trimW s.data.toList) ∧ Below w.heap.size w wr) (fun _ i _ => s.size - (intOf i).toNat)
  case atStart => exact ⟨0, [], by omega, rfl, by simp, Lib.hid (World.ownsRow_nil _ _ _ _), Lib.hid (trim_all _), Below.refl _ _⟩
  case round =>
    obtain ⟨k, o, hk, rfl, hol, hown, hrest, hbr⟩ := hrel
    have hzr := hbr.size
    by_cases hlt : k < s.size
    · have hkl : (k : Int) < (s.size : Int) := by omega
      have hk0 : (0 : Int) ≤ (k : Int) := by omega
      obtain ⟨c, hc⟩ : ∃ c, s[k] = c := ⟨_, rfl⟩
      have hcn : (s[k]'hlt).toNat = c.toNat := by rw [hc]
      have hcl := UInt8.toNat_lt c
      have hwk : IntKind.i64.wrap ((k : Int) + 1) = (k : Int) + 1 := IntWalk.i64_in _ (by omega)
      have hcons : Hid (s.data.toList.drop k = c :: s.data.toList.drop (k + 1)) := Lib.hid (by rw [List.drop_eq_getElem_cons (by rw [hln]; exact hlt), list_at9 s k hlt, hc])
      go_wp2
      go_loop [5, 6] (fun m j => ∃ q : Nat, k ≤ q ∧ q ≤ s.size ∧ j = .int .i64 (q : Int) ∧ m = .bool false ∧ Hid (∀ x, k ≤ x → x < q → s.data.toList[x]? = some 32)) (fun _ j => s.size - (intOf j).toNat)
      case atStart => exact ⟨k, Nat.le_refl _, by omega, rfl, rfl, Lib.hid fun x h1 h2 => by omega⟩
      case round =>
        obtain ⟨q, hkq, hqs, rfl, rfl, hall⟩ := hrel
        by_cases hql : q < s.size
        · have hq1 : (q : Int) < (s.size : Int) := by omega
          have hq0 : (0 : Int) ≤ (q : Int) := by omega
          have hwq : IntKind.i64.wrap ((q : Int) + 1) = (q : Int) + 1 := IntWalk.i64_in _ (by omega)
          by_cases hq32 : (s[q]'hql).toNat = 32
          · have g9 : (((s[q]'hql).toNat : Int) != 32) = false := by simp; omega
            have hall2 : Hid (∀ x, k ≤ x → x < q + 1 → s.data.toList[x]? = some 32) := Lib.hid fun x h1 h2 => by
              by_cases e : x = q
              · rw [e, byte_at9 s q hql]; exact congrArg some (UInt8.toNat_inj.1 hq32)
              · exact hall.out x h1 (by omega)
            clear hq32
            go_wp2
            go_round
            case rel => exact ⟨q + 1, by omega, by omega, by go_num, rfl, hall2⟩
            case measure => simp [intOf]; omega
          · have g9 : (((s[q]'hql).toNat : Int) != 32) = true := by simp; omega
            by_cases hc32 : c.toNat = 32
            · have g1 : ((c.toNat : Int) != 32) = false := by simp; omega
              have hex : ∃ x ∈ s.data.toList.drop (k + 1), x ≠ 32 := by
                refine ⟨s[q], ?_, fun e => hq32 (by rw [e]; rfl)⟩
                have hkq : k + 1 ≤ q := by
                  by_cases e : k = q
                  · subst e; exact absurd (show (s[k]'hql).toNat = 32 by rw [hc]; exact hc32) hq32
                  · omega
                have h9 : (s.data.toList.drop (k + 1))[q - (k + 1)]? = some s[q] := by
                  rw [List.getElem?_drop, show k + 1 + (q - (k + 1)) = q by omega]
                  exact byte_at9 s q hql
                exact List.mem_of_getElem? h9
              rcases o.eq_nil_or_concat with ho | ⟨o2, y, ho⟩
              · rcases hown.out.2 with ⟨hv0, _⟩ | ⟨g0, cap0, cur0, hv0, hg0, hh0, hle0, hmx0, hsz0, htk0⟩
                · subst hv0
                  have hst : Hid (trimF o (s.data.toList.drop (k + 1)) = trimW s.data.toList) := Lib.hid (by
                    rw [← hrest.out, hcons.out, trimF, if_neg (by rintro (h | ⟨_, y, hy, _⟩); exact h (show c = 32 from UInt8.toNat_inj.1 hc32); rw [ho] at hy; cases hy)])
                  clear hrest hcons ho
                  go_wp2
                  go_roundw
                  case rel => exact ⟨k + 1, o, by omega, by go_num, by omega, hown, hst, hbr⟩
                  case measure => simp [intOf]; omega
                · subst hv0
                  have hz9 : ¬ (0 : Int) < (o.length : Int) := by rw [ho]; simp
                  have hst : Hid (trimF o (s.data.toList.drop (k + 1)) = trimW s.data.toList) := Lib.hid (by
                    rw [← hrest.out, hcons.out, trimF, if_neg (by rintro (h | ⟨_, y, hy, _⟩); exact h (show c = 32 from UInt8.toNat_inj.1 hc32); rw [ho] at hy; cases hy)])
                  clear hrest hcons ho
                  go_wp2
                  go_roundw
                  case rel => exact ⟨k + 1, o, by omega, by go_num, by omega, hown, hst, hbr⟩
                  case measure => simp [intOf]; omega
              · have ho2 : o = o2 ++ [y] := by rw [ho, List.concat_eq_append]
                have hp : o.length = o2.length + 1 := by rw [ho2]; simp
                have hlast : o.getLast? = some y := by rw [ho2]; simp
                rcases hown.out.2 with ⟨_, h0⟩ | ⟨g, cap, cur, hv, hg, hh, hle, hmx, hsz, htk⟩
                · omega
                · subst hv
                  have hgl : g < wr.heap.size := (Array.getElem?_eq_some_iff.1 hh).1
                  have hcell : wr.cell? ⟨g, o2.length, none⟩ = some (.int .u8 (y.toNat : Int)) := by
                    refine (World.ownsRow.cellAt hown.out o2.length (by omega)).trans ?_
                    unfold byR
                    rw [List.getElem?_map, ho2, List.getElem?_append_right (Nat.le_refl _)]
                    simp
                  have hwp : IntKind.i64.wrap ((o.length : Int) - 1) = (o2.length : Int) := by rw [hp, show ((o2.length + 1 : Nat) : Int) - 1 = (o2.length : Int) by omega]; exact IntWalk.i64_in _ (by omega)
                  have h0l : (0 : Int) < (o.length : Int) := by omega
                  have hpl : (o2.length : Int) < (o.length : Int) := by omega
                  have hp0 : (0 : Int) ≤ (o2.length : Int) := by omega
                  clear hh htk hle hmx hsz
                  by_cases hy : y.toNat = 32
                  · have g2 : ((y.toNat : Int) != 32) = false := by simp; omega
                    have hst : Hid (trimF o (s.data.toList.drop (k + 1)) = trimW s.data.toList) := Lib.hid (by
                      rw [← hrest.out, hcons.out, trimF, if_neg (by rintro (h | ⟨_, z, hz, hz2⟩); exact h (show c = 32 from UInt8.toNat_inj.1 hc32); rw [hlast] at hz; injection hz with hz; exact hz2 (by rw [← hz]; exact UInt8.toNat_inj.1 hy))])
                    clear hrest hcons hp ho ho2 hlast
                    go_wp2
                    go_roundw
                    case rel => exact ⟨k + 1, o, by omega, by go_num, by omega, hown, hst, hbr⟩
                    case measure => simp [intOf]; omega
                  · have g2 : ((y.toNat : Int) != 32) = true := by simp; omega
                    have hst : Hid (trimF (o ++ [c]) (s.data.toList.drop (k + 1)) = trimW s.data.toList) := Lib.hid (by
                      rw [← hrest.out, hcons.out, trimF, if_pos (Or.inr ⟨hex, y, hlast, fun e => hy (by rw [e]; rfl)⟩)])
                    clear hrest hcons hp ho ho2 hlast hc32
                    have hown3 := hown.out
                    go_wp2_with (at_builtin; refine wpList_append_own_at _ rfl _ _ 61 rfl w.heap.size 5 i0 (.int .u8 0) 1 1 Tryz.underlying61 hi hz0 hz1 hz2 rfl (by decide) _ _ _ rfl (hown3.alloc _) ⟨wr.heap.size, 0, none⟩ 1 1 [.int .u8 (c.toNat : Int)] rfl rfl (cell_one_new _ _ _) (by simp [Value.oneCell']) (by unfold maxLen; omega) (by omega) (by have := hbr.size; simp; omega) ?_; intro v' wq hown' hgrow _ _)
                    go_roundw
                    case rel => exact ⟨k + 1, o ++ [c], by omega, by go_num, by rw [List.length_append]; simp; omega, Lib.hid (by rw [List.length_append, ← byR_one]; exact hown'), hst, (hbr.alloc (by omega) _).grown hgrow (by simp; omega) (fun q hq => (hown3.lt q hq).1)⟩
                    case measure => simp [intOf]; omega
            · have g1 : ((c.toNat : Int) != 32) = true := by simp; omega
              have hst : Hid (trimF (o ++ [c]) (s.data.toList.drop (k + 1)) = trimW s.data.toList) := Lib.hid (by
                rw [← hrest.out, hcons.out, trimF, if_pos (Or.inl (fun e => hc32 (by rw [e]; rfl)))])
              clear hrest hcons
              have hown3 := hown.out
              go_wp2_with (at_builtin; refine wpList_append_own_at _ rfl _ _ 61 rfl w.heap.size 5 i0 (.int .u8 0) 1 1 Tryz.underlying61 hi hz0 hz1 hz2 rfl (by decide) _ _ _ rfl (hown3.alloc _) ⟨wr.heap.size, 0, none⟩ 1 1 [.int .u8 (c.toNat : Int)] rfl rfl (cell_one_new _ _ _) (by simp [Value.oneCell']) (by unfold maxLen; omega) (by omega) (by have := hbr.size; simp; omega) ?_; intro v' wq hown' hgrow _ _)
              go_roundw
              case rel => exact ⟨k + 1, o ++ [c], by omega, by go_num, by rw [List.length_append]; simp; omega, Lib.hid (by rw [List.length_append, ← byR_one]; exact hown'), hst, (hbr.alloc (by omega) _).grown hgrow (by simp; omega) (fun q hq => (hown3.lt q hq).1)⟩
              case measure => simp [intOf]; omega
        · obtain rfl : q = s.size := by omega
          have hq1 : ¬ (s.size : Int) < (s.size : Int) := by omega
          have hc32 : c.toNat = 32 := by
            have h9 := hall.out k (Nat.le_refl _) hlt
            rw [byte_at9 s k hlt, hc] at h9
            injection h9 with h9
            rw [h9]; rfl
          have g1 : ((c.toNat : Int) != 32) = false := by simp; omega
          have hno : ¬ ∃ x ∈ s.data.toList.drop (k + 1), x ≠ 32 := by
            rintro ⟨x, hx, hx2⟩
            obtain ⟨i, hi9⟩ := List.mem_iff_getElem?.1 hx
            rw [List.getElem?_drop] at hi9
            have hl9 := (List.getElem?_eq_some_iff.1 hi9).1
            rw [hall.out (k + 1 + i) (by omega) (by rw [hln] at hl9; exact hl9)] at hi9
            injection hi9 with hi9
            exact hx2 hi9.symm
          have hst : Hid (trimF o (s.data.toList.drop (k + 1)) = trimW s.data.toList) := Lib.hid (by
            rw [← hrest.out, hcons.out, trimF, if_neg (by rintro (h | ⟨h, _⟩); exact h (show c = 32 from UInt8.toNat_inj.1 hc32); exact hno h)])
          clear hrest hcons
          go_wp2
          go_roundw
          case rel => exact ⟨k + 1, o, by omega, by go_num, by omega, hown, hst, hbr⟩
          case measure => simp [intOf]; omega
    · obtain rfl : k = s.size := by omega
      have hkl : ¬ (s.size : Int) < (s.size : Int) := by omega
      have ho : o = trimW s.data.toList := by rw [← hrest.out, List.drop_eq_nil_of_le (by rw [hln]; exact Nat.le_refl _), trimF]
      have hcv := row_text wr w.heap.size u3 o.length o hown.out rfl
      rw [ho] at hcv
      go_wp2
      go_ret
      exact ⟨rfl, hbr⟩
end Go.Proofs.YtgmhifafbebjfaaGreatDoor
