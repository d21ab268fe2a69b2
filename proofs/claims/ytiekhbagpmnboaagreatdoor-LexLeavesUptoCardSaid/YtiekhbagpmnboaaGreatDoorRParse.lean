/-
  The document's own Parse.
-/
import Derived.Test.YtiekhbagpmnboaaGreatDoorRows
import Derived.Test.YtiekhbagpmnboaaGreatDoorBase
import Derived.Test.YtiekhbagpmnboaaGreatDoorAddrC
import Derived.Test.YtiekhbagpmnboaaGreatDoorNames
import Derived.Test.YtiekhbagpmnboaaGreatDoorParseW
import Derived.Test.YtiekhbagpmnboaaGreatDoorRefName
import Derived.WalkSpells
import Derived.WalkLawsBesides
import Derived.StillTactics
import Derived.Laws.Pointers
import Derived.Deep.RegionHeld3
import Derived.Deep.QuietTactic
import Derived.BigQuiet
import Derived.RowKit3
import Derived.Lib.Hide
import Derived.Lib.OthersKept
import Derived.WalkKit
import Derived.ProofKit
import Derived.OpenShut
import Derived.Carry
import Derived.ChangeSame
import Derived.Deep.Draws
import Derived.OwnWalk
import Derived.Lib.IndexLaws
import Derived.Lib.ItoaNum
import Derived.Lib.ItoaMem
namespace Go.Proofs.YtiekhbagpmnboaaGreatDoor
open Go.RowKit

/-- the document's own Parse: one letter of the row -/
def rst (row : Int) (b : UInt8) : Int := 10 * (if b.toNat < 48 ∨ 57 < b.toNat then -100000 else row) + b.toNat - 48
/-- is this column passed by? -/
def skips (l : List UInt8) (c : Nat) : Prop := l.length ≤ (colL c).length ∨ (colL c).length + 4 < l.length ∨ l.take (colL c).length ≠ colL c
theorem skip_no {l : List UInt8} {c r c' : Nat} (h : skips l c) (hp : parse l = some (r, c')) : c' ≠ c := by
  rintro rfl
  obtain ⟨hm, rfl⟩ := name_of_parse hp
  obtain ⟨h1, h2, h3, h4⟩ := mayN_of hm
  have a := dec_pos r
  have b := dec_len (r := r) (by omega)
  rcases h with h | h | h
  · simp [nameL] at h; omega
  · simp [nameL] at h; omega
  · exact h (by simp [nameL])
theorem rst_dec : ∀ (n r : Nat), r ≤ n → (Lib.decDigits r).foldl rst 0 = r
  | 0, r, h => by
    obtain rfl : r = 0 := by omega
    rw [Lib.decDigits_one (by omega)]
    simp [rst]
  | n + 1, r, h => by
    by_cases hr : r < 10
    · rw [Lib.decDigits_one hr]
      have e : (UInt8.ofNat (48 + r)).toNat = 48 + r := ofNat_toNat (by omega)
      simp only [List.foldl_cons, List.foldl_nil, rst, e]
      rw [if_neg (by omega)]
      omega
    · rw [dec_snoc (by omega), List.foldl_append, rst_dec n (r / 10) (by omega)]
      have e : (UInt8.ofNat (48 + r % 10)).toNat = 48 + r % 10 := ofNat_toNat (by omega)
      simp only [List.foldl_cons, List.foldl_nil, rst, e]
      rw [if_neg (by omega)]
      omega
theorem row_of {l : List UInt8} {r c : Nat} (hp : parse l = some (r, c)) : (l.drop (colL c).length).foldl rst 0 = r := by
  obtain ⟨hm, rfl⟩ := name_of_parse hp
  simp only [nameL, List.drop_left]
  exact rst_dec r r (Nat.le_refl _)
theorem skip_next {l : List UInt8} {k : Nat} (hp : ∀ r c, parse l = some (r, c) → k ≤ c) (h : skips l k) {r c : Nat} (h2 : parse l = some (r, c)) : k + 1 ≤ c := by
  have := hp r c h2
  have := skip_no h h2
  omega
theorem ext_take (l : List UInt8) (n : Nat) : ((⟨l.toArray⟩ : ByteArray).extract 0 n).toList = l.take n := by
  rw [ByteArray.toList_eq]
  simp
theorem ext_drop (l : List UInt8) (n : Nat) : (⟨l.toArray⟩ : ByteArray).extract n l.length = ⟨(l.drop n).toArray⟩ := by
  apply ByteArray.ext
  simp
  exact List.take_of_length_le (by simp)
theorem rst_snoc (m : List UInt8) (j : Nat) (h : j < m.length) : (m.take (j + 1)).foldl rst 0 = rst ((m.take j).foldl rst 0) m[j] := by
  rw [List.take_succ_eq_append_getElem h, List.foldl_append]; rfl
theorem rst_in (row : Int) (b : UInt8) (h1 : 48 ≤ b.toNat) (h2 : b.toNat ≤ 57) : rst row b = 10 * row + b.toNat - 48 := by
  unfold rst; rw [if_neg (by omega)]
theorem rst_out (row : Int) (b : UInt8) (h : b.toNat < 48 ∨ 57 < b.toNat) : rst row b = -1000000 + b.toNat - 48 := by
  unfold rst; rw [if_pos h]; rfl
theorem name_yes {l : List UInt8} {row : Int} {c : Nat} (h : nameZ row c = l) (hl : 0 < l.length) : ∃ r : Nat, row = r ∧ parse l = some (r, c) := by
  cases hm : mayB row c
  · rw [nameZ_no hm] at h; subst h; simp at hl
  · obtain ⟨r', c', rfl, e, hn⟩ := mayB_ints hm
    obtain rfl : c = c' := by omega
    rw [nameZ_nat hn] at h
    exact ⟨r', rfl, by rw [← h]; exact parse_name hn⟩
theorem name_not {l : List UInt8} {c : Nat} (h : nameZ ((l.drop (colL c).length).foldl rst 0) c ≠ l) {r c' : Nat} (hp : parse l = some (r, c')) : c' ≠ c := by
  rintro rfl
  have hr := row_of hp
  rw [hr] at h
  obtain ⟨hm, e⟩ := name_of_parse hp
  rw [nameZ_nat hm] at h
  exact h e
theorem name_next {l : List UInt8} {k : Nat} (hp : ∀ r c, parse l = some (r, c) → k ≤ c) (h : nameZ ((l.drop (colL k).length).foldl rst 0) k ≠ l) {r c : Nat} (h2 : parse l = some (r, c)) : k + 1 ≤ c := by
  have := hp r c h2
  have := name_not h h2
  omega
theorem rst_bound {row : Int} {b : UInt8} {B : Int} (h : -B ≤ row ∧ row ≤ B) (h1 : 100000 ≤ B) : -(B * 11) ≤ rst row b ∧ rst row b ≤ B * 11 := by
  have := b.toNat_lt
  unfold rst
  split <;> omega
theorem rst_bound_all : ∀ (l : List UInt8) (row B : Int), -B ≤ row ∧ row ≤ B → 100000 ≤ B → -(B * 11 ^ l.length) ≤ l.foldl rst row ∧ l.foldl rst row ≤ B * 11 ^ l.length
  | [], row, B, h, _ => by simpa using h
  | b :: l, row, B, h, h1 => by
    have := rst_bound_all l (rst row b) (B * 11) (rst_bound h h1) (by omega)
    rw [List.length_cons, Int.pow_succ, Int.mul_comm (11 ^ l.length) 11, ← Int.mul_assoc]
    exact this
theorem rst_small {l : List UInt8} (h : l.length ≤ 4) : -1464100000 ≤ l.foldl rst 0 ∧ l.foldl rst 0 ≤ 1464100000 := by
  have := rst_bound_all l 0 100000 (by omega) (by omega)
  have h2 : (11 : Int) ^ l.length ≤ 11 ^ 4 := by
    rcases l with _ | ⟨_, _ | ⟨_, _ | ⟨_, _ | ⟨_, _ | ⟨_, _⟩⟩⟩⟩⟩ <;> simp at h ⊢
  omega

set_option maxHeartbeats 1000000 in
theorem rparse_t (l : List UInt8) (hm : l.length ≤ 9223372036854775807) (w : World) :
    Calls Tryz.prog 71 #[.string ⟨l.toArray⟩] w fun e w' => e = .returned (.tuple #[.agg #[.int .i64 (pRow l), .int .i64 (pCol l)], .bool (pOk l)]) ∧ Below w.heap.size w w' := by
  go_enter Tryz.func71, Tryz.ntmps71
  go_wp2
  go_loopw [4] (fun c wr => ∃ k : Nat, 1 ≤ k ∧ k ≤ 257 ∧ c = .int .i64 k ∧ (∀ r c, parse l = some (r, c) → k ≤ c) ∧ Below w.heap.size w wr ∧ wr.heap[w.heap.size]? = some (.cells #[.int .i64 0, .int .i64 0] 28 (0, 0)) ∧ w.heap.size + 1 ≤ wr.heap.size) (fun c _ => (257 - intOf c).toNat)
  case atStart =>
    refine ⟨1, ?_, ?_, rfl, ?_, ?_, ?_, ?_⟩
    · exact Nat.le_refl _
    · exact by decide
    · exact fun r c h => (mayN_of (name_of_parse h).1).2.2.1
    · exact (Below.refl _ _).alloc (Nat.le_refl _) _
    · exact heap_alloc_new w _
    · simp
  case round =>
    obtain ⟨k, hk1, hk2, rfl, hp, hb0, hrs, hz0⟩ := hrel
    have hp' := Lib.hid hp
    clear hp
    have hc0 : wr.cell? ⟨w.heap.size, 0, .none⟩ = some (.int .i64 0) := by simp [World.cell?, hrs]
    have hc1 : wr.cell? ⟨w.heap.size, 1, .none⟩ = some (.int .i64 0) := by simp [World.cell?, hrs]
    have hfr : ∀ j, wr.frozen? ⟨w.heap.size, j, .none⟩ = false := fun j => by simp [World.frozen?, hrs]
    obtain ⟨cl1, cl2⟩ := col_len k
    have hrs' := Lib.hid hrs
    clear hrs
    by_cases hlt : k ≤ 256
    · by_cases hA : l.length ≤ (colL k).length
      · have hk' := Lib.hid (fun r c h => skip_next hp'.out (.inl hA) (r := r) (c := c) h)
        go_wp2_with (go_at_call 100; refine (column_any _ hk1 hlt _).mono ?_; rintro e w1 ⟨rfl, hb⟩; obtain ⟨hc, hf, hz⟩ := bkeep hb (w.heap.size + 1) (by first | omega | (simp <;> omega)))
        go_roundw
        case rel => exact ⟨k + 1, by omega, by omega, by go_num, hk'.out, hb0.trans (hb.mono (by omega)), (hb.block _ (by omega)).trans hrs'.out, by omega⟩
        case measure => simp [intOf]; omega
      · by_cases hB : (colL k).length + 4 < l.length
        · have hk' := Lib.hid (fun r c h => skip_next hp'.out (.inr (.inl hB)) (r := r) (c := c) h)
          go_wp2_with (go_at_call 100; refine (column_any _ hk1 hlt _).mono ?_; rintro e w1 ⟨rfl, hb⟩; obtain ⟨hc, hf, hz⟩ := bkeep hb (w.heap.size + 1) (by first | omega | (simp <;> omega)))
          go_roundw
          case rel => exact ⟨k + 1, by omega, by omega, by go_num, hk'.out, hb0.trans (hb.mono (by omega)), (hb.block _ (by omega)).trans hrs'.out, by omega⟩
          case measure => simp [intOf]; omega
        · cases hC : (((⟨l.toArray⟩ : ByteArray).extract 0 (colL k).length).toList == colL k)
          · have hk' := Lib.hid (fun r c h => skip_next hp'.out (.inr (.inr (by rw [ext_take] at hC; simpa using hC))) (r := r) (c := c) h)
            go_wp2_with (go_at_call 100; refine (column_any _ hk1 hlt _).mono ?_; rintro e w1 ⟨rfl, hb⟩; obtain ⟨hc, hf, hz⟩ := bkeep hb (w.heap.size + 1) (by first | omega | (simp <;> omega)))
            go_roundw
            case rel => exact ⟨k + 1, by omega, by omega, by go_num, hk'.out, hb0.trans (hb.mono (by omega)), (hb.block _ (by omega)).trans hrs'.out, by omega⟩
            case measure => simp [intOf]; omega
          · obtain ⟨m, hm'⟩ : ∃ m, m = l.drop (colL k).length := ⟨_, rfl⟩
            have hx : (⟨l.toArray⟩ : ByteArray).extract (colL k).length l.length = ⟨m.toArray⟩ := by rw [hm', ext_drop]
            have hml : m.length ≤ 4 := by rw [hm']; simp; omega
            have hm2 := Lib.hid hm'
            clear hm'
            go_wp2_with (go_at_call 100; refine (column_any _ hk1 hlt _).mono ?_; rintro e w1 ⟨rfl, hb⟩; obtain ⟨hc, hf, hz⟩ := bkeep hb (w.heap.size + 1) (by first | omega | (simp <;> omega)))
            have hb1 := hb
            go_loop [6, 8] (fun row i => ∃ j : Nat, j ≤ m.length ∧ i = .int .i64 j ∧ row = .int .i64 ((m.take j).foldl rst 0)) (fun _ i => m.length - (intOf i).toNat)
            case atStart => exact ⟨0, by omega, rfl, rfl⟩
            case round =>
              obtain ⟨j, hj, rfl, rfl⟩ := hrel
              by_cases hjl : j < m.length
              · have hjb : j < (⟨m.toArray⟩ : ByteArray).size := by show j < m.toArray.size; simpa using hjl
                have hb256 : ((⟨m.toArray⟩ : ByteArray)[j]'hjb).toNat < 256 := UInt8.toNat_lt _
                obtain ⟨e1, e2⟩ := rst_small (l := m.take j) (by simp; omega)
                have hsn := Lib.hid (rst_snoc m j hjl)
                by_cases b1 : ((⟨m.toArray⟩ : ByteArray)[j]'hjb).toNat < 48
                · have hst := Lib.hid (rst_out ((m.take j).foldl rst 0) m[j] (.inl b1))
                  go_wp2
                  go_round
                  case rel => exact ⟨j + 1, by omega, by go_num, by rw [hsn.out, hst.out]; rfl⟩
                  case measure => simp [intOf]; omega
                · by_cases b2 : ((⟨m.toArray⟩ : ByteArray)[j]'hjb).toNat ≤ 57
                  · have hst := Lib.hid (rst_in ((m.take j).foldl rst 0) m[j] (Nat.not_lt.1 b1) b2)
                    go_wp2
                    go_round
                    case rel => exact ⟨j + 1, by omega, by go_num, by rw [hsn.out, hst.out]; rfl⟩
                    case measure => simp [intOf]; omega
                  · have hst := Lib.hid (rst_out ((m.take j).foldl rst 0) m[j] (.inr (Nat.not_le.1 b2)))
                    go_wp2
                    go_round
                    case rel => exact ⟨j + 1, by omega, by go_num, by rw [hsn.out, hst.out]; rfl⟩
                    case measure => simp [intOf]; omega
              · have hjm : m.take j = m := List.take_of_length_le (by omega)
                rw [hjm]
                have hf := Lib.hid (show m.foldl rst 0 = (l.drop (colL k).length).foldl rst 0 by rw [← hm2.out])
                generalize hrow : m.foldl rst 0 = row at *
                have hrow' := Lib.hid hrow
                clear hrow hjm
                have hy : w.heap.size < w1.heap.size := by omega
                have hy2 : w.heap.size < w1.heap.size + 1 := by omega
                cases hE : (nameZ row k == l)
                · have hk' := Lib.hid (fun r c h => name_next hp'.out (show nameZ ((l.drop (colL k).length).foldl rst 0) k ≠ l by rw [← hf.out]; simpa using hE) (r := r) (c := c) h)
                  go_wp2_with (go_at_call 101; refine (rname_any _ _ _).mono ?_; rintro e w2 ⟨rfl, hb⟩; obtain ⟨hc, hf, hz⟩ := bkeep hb (w1.heap.size + 1) (by first | omega | (simp <;> omega)))
                  go_roundw
                  case rel => exact ⟨k + 1, by omega, by omega, by go_num, hk'.out, by (repeat (first | (with_reducible exact Below.refl _ _) | (with_reducible refine Below.alloc ?_ (by first | omega | (dsimp only; omega) | (simp <;> omega)) _) | (with_reducible refine Below.setCell ?_ (by first | omega | (dsimp only; omega) | (simp <;> omega)) _) | (with_reducible refine Below.drew ?_) | (with_reducible refine below_drewN ?_ _) | (with_reducible refine Below.trans ?_ (Below.mono (by assumption) (by first | omega | (dsimp only; omega) | (simp <;> omega)))))), by rw [hb.block _ (by first | omega | (simp <;> omega))]; exact (Below.heap_alloc _ _ _ (by omega)).trans ((hb1.block _ (by omega)).trans hrs'.out), by omega⟩
                  case measure => simp [intOf]; omega
                · obtain ⟨r, hr, hpar⟩ := name_yes (show nameZ row k = l by simpa using hE) (by omega)
                  subst hr
                  have hpar' := Lib.hid hpar
                  clear hpar
                  go_wp2_with (go_at_call 101; refine (rname_any _ _ _).mono ?_; rintro e w2 ⟨rfl, hb⟩; obtain ⟨hc, hf, hz⟩ := bkeep hb (w1.heap.size + 1) (by first | omega | (simp <;> omega)))
                  all_goals refine bodyPost_ret (v := .tuple #[.agg #[.int .i64 (pRow l), .int .i64 (pCol l)], .bool (pOk l)]) ?_ rfl ⟨rfl, by (repeat (first | (with_reducible exact Below.refl _ _) | (with_reducible refine Below.alloc ?_ (by first | omega | (dsimp only; omega) | (simp <;> omega)) _) | (with_reducible refine Below.setCell ?_ (by first | omega | (dsimp only; omega) | (simp <;> omega)) _) | (with_reducible refine Below.drew ?_) | (with_reducible refine below_drewN ?_ _) | (with_reducible refine Below.trans ?_ (Below.mono (by assumption) (by first | omega | (dsimp only; omega) | (simp <;> omega))))))⟩
                  all_goals simp [results, Tryz.results71, go_sem, pRow, pCol, pOk, hpar'.out, *]
    · have hpn := Lib.hid (show parse l = .none by
        cases hq : parse l with
        | none => rfl
        | some x =>
          have h1 := hp'.out x.1 x.2 hq
          have h2 := (mayN_of (name_of_parse (r := x.1) (c := x.2) hq).1).2.2.2
          omega)
      go_wp2
      all_goals refine bodyPost_ret (v := .tuple #[.agg #[.int .i64 (pRow l), .int .i64 (pCol l)], .bool (pOk l)]) ?_ rfl ⟨rfl, by (repeat (first | (with_reducible exact Below.refl _ _) | (with_reducible refine Below.alloc ?_ (by first | omega | (dsimp only; omega) | (simp <;> omega)) _) | (with_reducible refine Below.setCell ?_ (by first | omega | (dsimp only; omega) | (simp <;> omega)) _) | (with_reducible refine Below.drew ?_) | (with_reducible refine below_drewN ?_ _) | (with_reducible refine Below.trans ?_ (Below.mono (by assumption) (by first | omega | (dsimp only; omega) | (simp <;> omega))))))⟩
      all_goals simp [results, Tryz.results71, go_sem, pRow, pCol, pOk, hpn.out, *]
theorem rparse_any (s : ByteArray) (hm : s.size ≤ 9223372036854775807) (w : World) :
    Calls Tryz.prog 71 #[.string s] w fun e w' => e = .returned (.tuple #[.agg #[.int .i64 (pRow s.data.toList), .int .i64 (pCol s.data.toList)], .bool (pOk s.data.toList)]) ∧ Below w.heap.size w w' := by
  have h := rparse_t s.data.toList (by simpa using hm) w
  simpa using h
end Go.Proofs.YtiekhbagpmnboaaGreatDoor
