/-
  The plain law of names, there and back: a cell's name is read as that cell, a rectangle's as that rectangle; what is read as one has that name.
-/
import Derived.Test.YtakgdihocejmiaaDoorNameR
import Derived.Test.YtakgdihocejmiaaDoorPRect
namespace Go.Proofs.YtakgdihocejmiaaDoor
open Go Go.RowKit

theorem dec_range : ∀ (n r : Nat), r ≤ n → ∀ b ∈ Lib.decDigits r, 48 ≤ b.toNat ∧ b.toNat ≤ 57
  | 0, r, h, b, hb => by
    obtain rfl : r = 0 := by omega
    rw [Lib.decDigits_one (by omega)] at hb
    simp at hb
    subst hb
    decide
  | n + 1, r, h, b, hb => by
    by_cases hr : r < 10
    · rw [Lib.decDigits_one hr] at hb
      have e : (UInt8.ofNat (48 + r)).toNat = 48 + r := ofNat_toNat (by omega)
      simp only [List.mem_singleton] at hb
      subst hb
      omega
    · rw [dec_snoc (by omega)] at hb
      rcases List.mem_append.1 hb with hb | hb
      · exact dec_range n (r / 10) (by omega) b hb
      · have e : (UInt8.ofNat (48 + r % 10)).toNat = 48 + r % 10 := ofNat_toNat (by omega)
        simp only [List.mem_singleton] at hb
        subst hb
        omega
theorem col_range {c : Nat} (h1 : 1 ≤ c) (h2 : c ≤ 256) : ∀ b ∈ colL c, 65 ≤ b.toNat ∧ b.toNat ≤ 90 := by
  intro b hb
  unfold colL at hb
  split at hb
  · have e : (UInt8.ofNat (64 + c)).toNat = 64 + c := ofNat_toNat (by omega)
    simp only [List.mem_singleton] at hb
    subst hb
    omega
  · have e1 : (UInt8.ofNat (65 + (c - 27) / 26)).toNat = 65 + (c - 27) / 26 := ofNat_toNat (by omega)
    have e2 : (UInt8.ofNat (65 + (c - 27) % 26)).toNat = 65 + (c - 27) % 26 := ofNat_toNat (by omega)
    simp only [List.mem_cons, List.not_mem_nil, or_false] at hb
    rcases hb with rfl | rfl <;> omega
/-- no name holds a colon -/
theorem name_colon (r c : Int) : ∀ b ∈ nameZ r c, b ≠ 58 := by
  intro b hb
  cases h : mayB r c
  · rw [nameZ_no h] at hb; cases hb
  · obtain ⟨r', c', rfl, rfl, hm⟩ := mayB_ints h
    rw [nameZ_nat hm] at hb
    obtain ⟨m1, m2, m3, m4⟩ := mayN_of hm
    rintro rfl
    rcases List.mem_append.1 hb with hb | hb
    · have := col_range m3 m4 _ hb
      revert this; decide
    · have := dec_range r' r' (Nat.le_refl _) _ hb
      revert this; decide
theorem idx_mid {a b : List UInt8} (h : ∀ x ∈ a, x ≠ 58) : Lib.indexByte (a ++ 58 :: b) 58 = (a.length : Int) := by
  refine idx_of (by simp) (fun k hk => ?_)
  rw [List.getElem?_append_left hk, List.getElem?_eq_getElem hk]
  intro he
  exact h _ (List.getElem_mem hk) (Option.some.inj he)

theorem back_yes {r c : Int} (h : mayB r c = true) : pOk (nameZ r c) = true ∧ pRow (nameZ r c) = r ∧ pCol (nameZ r c) = c := by
  obtain ⟨r', c', rfl, rfl, hm⟩ := mayB_ints h
  rw [nameZ_nat hm]
  simp [pOk, pRow, pCol, parse_name hm]
theorem back_no {r c : Int} (h : mayB r c = false) : pOk (nameZ r c) = false := by rw [nameZ_no h]; decide
theorem may_corners {t l b r : Int} (h : mayRectB t l b r = true) : mayB t l = true ∧ mayB b r = true := by
  simp [mayRectB] at h
  exact ⟨h.1.1.1, h.1.1.2⟩
theorem backR_yes {t l b r : Int} (h : mayRectB t l b r = true) : parseRect (nameRectZ t l b r) = some (t, l, b, r) := by
  obtain ⟨h1, h2⟩ := may_corners h
  obtain ⟨a1, a2, a3⟩ := back_yes h1
  obtain ⟨b1, b2, b3⟩ := back_yes h2
  rw [nameRect_yes h, prect_at (a := nameZ t l) (b := nameZ b r) (idx_mid (name_colon t l)) (by simp) (by simp), a1, a2, a3, b1, b2, b3, h]
  rfl
theorem backR_no {t l b r : Int} (h : mayRectB t l b r = false) : parseRect (nameRectZ t l b r) = .none := by
  rw [nameRect_no h]
  exact prect_no rfl

theorem one_cell {l : List UInt8} (h : pOk l = true) : nameZ (pRow l) (pCol l) = l ∧ mayB (pRow l) (pCol l) = true := by
  unfold pOk at h
  cases hp : parse l with
  | none => rw [hp] at h; cases h
  | some x =>
    obtain ⟨r, c⟩ := x
    obtain ⟨hm, e⟩ := name_of_parse hp
    have e1 : pRow l = r := by simp [pRow, hp]
    have e2 : pCol l = c := by simp [pCol, hp]
    rw [e1, e2, nameZ_nat hm, mayB_nat]
    exact ⟨e, hm⟩
theorem one_rect {l : List UInt8} (h : qOk l = true) : nameRectZ (qT l) (qL l) (qB l) (qR l) = l ∧ mayRectB (qT l) (qL l) (qB l) (qR l) = true := by
  rcases idx_cases l 58 with h0 | ⟨o, ho, hlt⟩
  · simp [qOk, prect_no h0] at h
  · have hp := prect_at (a := l.take o) (b := l.drop (o + 1)) ho rfl rfl
    cases g1 : pOk (l.take o)
    · rw [g1] at hp; simp [qOk, hp] at h
    cases g2 : pOk (l.drop (o + 1))
    · rw [g1, g2] at hp; simp [qOk, hp] at h
    cases g3 : mayRectB (pRow (l.take o)) (pCol (l.take o)) (pRow (l.drop (o + 1))) (pCol (l.drop (o + 1)))
    · rw [g1, g2, g3] at hp; simp [qOk, hp] at h
    rw [g1, g2, g3] at hp
    have hp' : parseRect l = some (pRow (l.take o), pCol (l.take o), pRow (l.drop (o + 1)), pCol (l.drop (o + 1))) := hp
    have e : qT l = pRow (l.take o) ∧ qL l = pCol (l.take o) ∧ qB l = pRow (l.drop (o + 1)) ∧ qR l = pCol (l.drop (o + 1)) := by simp [qT, qL, qB, qR, hp']
    rw [e.1, e.2.1, e.2.2.1, e.2.2.2]
    refine ⟨?_, g3⟩
    rw [nameRect_yes g3, (one_cell g1).1, (one_cell g2).1]
    have hg := (Lib.indexByte_some ho).1
    have h58 : l[o] = 58 := by
      rw [List.getElem?_eq_getElem hlt] at hg
      exact Option.some.inj hg
    rw [← h58, ← List.drop_eq_getElem_cons hlt, List.take_append_drop]
theorem nameRectZ_len (t l b r : Int) : (nameRectZ t l b r).length ≤ 13 := by
  cases h : mayRectB t l b r
  · rw [nameRect_no h]; simp
  · rw [nameRect_yes h]
    have := nameZ_len t l
    have := nameZ_len b r
    simp; omega
theorem name_ab7 : nameZ 7 28 = [65, 66, 55] := by
  show nameZ ((7 : Nat) : Int) ((28 : Nat) : Int) = _
  rw [nameZ_nat (by decide)]
  unfold nameL
  rw [Lib.decDigits_one (by decide)]
  decide
end Go.Proofs.YtakgdihocejmiaaDoor
