/-
  The plain law of names: a text is read as a cell just if it is that cell's name. No program in sight.
-/
import Derived.Lib.ItoaNum
import Derived.Lib.ItoaMem
namespace Go.Proofs.YtiekhbagpmnboaaGreatDoor
open Go

/-- a column's name -/
def colL (c : Nat) : List UInt8 := if c ≤ 26 then [UInt8.ofNat (64 + c)] else [UInt8.ofNat (65 + (c - 27) / 26), UInt8.ofNat (65 + (c - 27) % 26)]
/-- a cell's name -/
def nameL (r c : Nat) : List UInt8 := colL c ++ Lib.decDigits r
def mayN (r c : Nat) : Bool := decide (1 ≤ r) && decide (r ≤ 4096) && decide (1 ≤ c) && decide (c ≤ 256)

/-- one letter read: the column, the row, how many digits -/
def stp : Option (Nat × Nat × Nat) → UInt8 → Option (Nat × Nat × Nat)
  | .none, _ => .none
  | some (c, r, d), b =>
    if 65 ≤ b.toNat ∧ b.toNat ≤ 90 ∧ d = 0 then some (c * 26 + (b.toNat - 65) + 1, r, d)
    else if 48 ≤ b.toNat ∧ b.toNat ≤ 57 then (if d = 0 ∧ b.toNat = 48 then .none else some (c, r * 10 + (b.toNat - 48), d + 1))
    else .none
def runL (l : List UInt8) : Option (Nat × Nat × Nat) := l.foldl stp (some (0, 0, 0))
def fin : Option (Nat × Nat × Nat) → Option (Nat × Nat)
  | .none => .none
  | some (c, r, _) => if mayN r c then some (r, c) else .none
def parse (l : List UInt8) : Option (Nat × Nat) := if 6 < l.length then .none else fin (runL l)

theorem ofNat_toNat {n : Nat} (h : n < 256) : (UInt8.ofNat n).toNat = n := by simp; omega

theorem run_col {c : Nat} (h1 : 1 ≤ c) (h2 : c ≤ 256) : (colL c).foldl stp (some (0, 0, 0)) = some (c, 0, 0) := by
  unfold colL
  split
  · have e : (UInt8.ofNat (64 + c)).toNat = 64 + c := ofNat_toNat (by omega)
    simp only [List.foldl_cons, List.foldl_nil, stp, e]
    rw [if_pos ⟨by omega, by omega, trivial⟩]
    congr 2; omega
  · have e1 : (UInt8.ofNat (65 + (c - 27) / 26)).toNat = 65 + (c - 27) / 26 := ofNat_toNat (by omega)
    have e2 : (UInt8.ofNat (65 + (c - 27) % 26)).toNat = 65 + (c - 27) % 26 := ofNat_toNat (by omega)
    simp only [List.foldl_cons, List.foldl_nil, stp, e1]
    rw [if_pos ⟨by omega, by omega, trivial⟩]
    simp only [e2]
    rw [if_pos ⟨by omega, by omega, trivial⟩]
    congr 2; omega

theorem dec_snoc {r : Nat} (h : 10 ≤ r) : Lib.decDigits r = Lib.decDigits (r / 10) ++ [UInt8.ofNat (48 + r % 10)] := by
  rw [Lib.decDigits, dif_neg (by omega)]
theorem dec_ne (r : Nat) : Lib.decDigits r ≠ [] := by
  rw [Lib.decDigits]; split <;> simp

theorem run_dec (c : Nat) : ∀ (n r : Nat), r ≤ n → 1 ≤ r → (Lib.decDigits r).foldl stp (some (c, 0, 0)) = some (c, r, (Lib.decDigits r).length)
  | 0, r, h, h1 => by omega
  | n + 1, r, h, h1 => by
    by_cases hr : r < 10
    · rw [Lib.decDigits_one hr]
      have e : (UInt8.ofNat (48 + r)).toNat = 48 + r := ofNat_toNat (by omega)
      simp only [List.foldl_cons, List.foldl_nil, stp, e]
      rw [if_neg (by omega), if_pos ⟨by omega, by omega⟩, if_neg (by omega)]
      simp
    · rw [dec_snoc (by omega), List.foldl_append, run_dec c n (r / 10) (by omega) (by omega)]
      have e : (UInt8.ofNat (48 + r % 10)).toNat = 48 + r % 10 := ofNat_toNat (by omega)
      have hl : 1 ≤ (Lib.decDigits (r / 10)).length := by
        have := dec_ne (r / 10)
        cases hd : Lib.decDigits (r / 10) with
        | nil => exact absurd hd this
        | cons a l => simp
      simp only [List.foldl_cons, List.foldl_nil, stp, e]
      rw [if_neg (by omega), if_pos ⟨by omega, by omega⟩, if_neg (by omega)]
      simp
      omega

theorem dec_len {r : Nat} (h2 : r ≤ 9999) : (Lib.decDigits r).length ≤ 4 := by
  by_cases a : r < 10
  · rw [Lib.decDigits_one a]; simp
  rw [dec_snoc (by omega)]
  by_cases b : r / 10 < 10
  · rw [Lib.decDigits_one b]; simp
  rw [dec_snoc (by omega)]
  by_cases c : r / 10 / 10 < 10
  · rw [Lib.decDigits_one c]; simp
  rw [dec_snoc (by omega)]
  rw [Lib.decDigits_one (by omega)]
  simp
theorem col_len (c : Nat) : 1 ≤ (colL c).length ∧ (colL c).length ≤ 2 := by unfold colL; split <;> simp
theorem dec_pos (r : Nat) : 1 ≤ (Lib.decDigits r).length := by
  have := dec_ne r
  cases hd : Lib.decDigits r with
  | nil => exact absurd hd this
  | cons a l => simp

theorem mayN_of {r c : Nat} (h : mayN r c = true) : 1 ≤ r ∧ r ≤ 4096 ∧ 1 ≤ c ∧ c ≤ 256 := by simpa [mayN, and_assoc] using h

/-- BACK: a name is read as its cell. -/
theorem parse_name {r c : Nat} (h : mayN r c = true) : parse (nameL r c) = some (r, c) := by
  obtain ⟨h1, h2, h3, h4⟩ := mayN_of h
  have hl : (nameL r c).length ≤ 6 := by
    have := dec_len (r := r) (by omega)
    have := col_len c
    simp [nameL]; omega
  unfold parse
  rw [if_neg (by omega)]
  unfold runL nameL
  rw [List.foldl_append, run_col h3 h4, run_dec c r r (Nat.le_refl _) h1]
  simp [fin, h]

/-- what is known of the state behind a text -/
def Inv (l : List UInt8) : Option (Nat × Nat × Nat) → Prop
  | .none => True
  | some (c, r, d) => ∃ A D, l = A ++ D ∧ ((A = [] ∧ c = 0) ∨ (1 ≤ c ∧ c ≤ 702 ∧ colL c = A) ∨ 703 ≤ c) ∧ ((D = [] ∧ r = 0 ∧ d = 0) ∨ (1 ≤ r ∧ 1 ≤ d ∧ Lib.decDigits r = D))

theorem ofNat_of {b : UInt8} {n : Nat} (h : b.toNat = n) : UInt8.ofNat n = b := by subst h; simp

theorem inv_step (l : List UInt8) (s : Option (Nat × Nat × Nat)) (b : UInt8) (h : Inv l s) : Inv (l ++ [b]) (stp s b) := by
  match s, h with
  | .none, _ => trivial
  | some (c, r, d), ⟨A, D, hl, hA, hD⟩ =>
    subst hl
    simp only [stp]
    split
    · rename_i hc
      obtain ⟨b1, b2, rfl⟩ := hc
      have hD' : D = [] ∧ r = 0 := by
        rcases hD with ⟨e1, e2, _⟩ | ⟨_, e, _⟩
        · exact ⟨e1, e2⟩
        · omega
      obtain ⟨rfl, rfl⟩ := hD'
      refine ⟨A ++ [b], [], by simp, ?_, .inl ⟨rfl, rfl, rfl⟩⟩
      rcases hA with ⟨rfl, rfl⟩ | ⟨g1, g2, g3⟩ | g
      · refine .inr (.inl ⟨by omega, by omega, ?_⟩)
        unfold colL
        rw [if_pos (by omega)]
        simp only [List.nil_append]
        rw [ofNat_of (b := b) (by omega)]
      · by_cases h26 : c ≤ 26
        · refine .inr (.inl ⟨by omega, by omega, ?_⟩)
          unfold colL at g3 ⊢
          rw [if_pos h26] at g3
          rw [if_neg (by omega), ← g3]
          simp only [List.cons_append, List.nil_append]
          have e1 : 65 + (c * 26 + (b.toNat - 65) + 1 - 27) / 26 = 64 + c := by omega
          have e2 : b.toNat = 65 + (c * 26 + (b.toNat - 65) + 1 - 27) % 26 := by omega
          rw [e1, ofNat_of e2]
        · exact .inr (.inr (by omega))
      · exact .inr (.inr (by omega))
    · split
      · rename_i hn hc
        split
        · trivial
        · rename_i hz
          refine ⟨A, D ++ [b], by simp, hA, .inr ?_⟩
          rcases hD with ⟨rfl, rfl, rfl⟩ | ⟨g1, g2, g3⟩
          · have hb : b.toNat ≠ 48 := fun e => hz ⟨rfl, e⟩
            refine ⟨by omega, by omega, ?_⟩
            rw [Lib.decDigits_one (by omega)]
            simp only [List.nil_append]
            rw [ofNat_of (b := b) (by omega)]
          · refine ⟨by omega, by omega, ?_⟩
            rw [dec_snoc (by omega)]
            have e1 : (r * 10 + (b.toNat - 48)) / 10 = r := by omega
            have e2 : b.toNat = 48 + (r * 10 + (b.toNat - 48)) % 10 := by omega
            rw [e1, ofNat_of e2, g3]
      · trivial
theorem inv_run : ∀ (l p : List UInt8) (s : Option (Nat × Nat × Nat)), Inv p s → Inv (p ++ l) (l.foldl stp s)
  | [], p, s, h => by simpa using h
  | b :: l, p, s, h => by
    have := inv_run l (p ++ [b]) (stp s b) (inv_step p s b h)
    simpa using this

/-- THERE: what is read as a cell is that cell's name. -/
theorem name_of_parse {l : List UInt8} {r c : Nat} (h : parse l = some (r, c)) : mayN r c = true ∧ nameL r c = l := by
  unfold parse at h
  split at h
  · cases h
  · have hi := inv_run l [] (some (0, 0, 0)) ⟨[], [], rfl, .inl ⟨rfl, rfl⟩, .inl ⟨rfl, rfl, rfl⟩⟩
    simp only [List.nil_append] at hi
    unfold runL at h
    generalize hs : l.foldl stp (some (0, 0, 0)) = s at h hi
    match s, h, hi with
    | some (c', r', d), h, ⟨A, D, hl, hA, hD⟩ =>
      simp only [fin] at h
      split at h
      · rename_i hm
        obtain ⟨rfl, rfl⟩ := by simpa using h
        refine ⟨hm, ?_⟩
        obtain ⟨h1, h2, h3, h4⟩ := mayN_of hm
        rw [hl]
        unfold nameL
        rcases hA with ⟨rfl, e⟩ | ⟨_, _, e⟩ | e
        · omega
        · rcases hD with ⟨_, e', _⟩ | ⟨_, _, e'⟩
          · omega
          · rw [e, e']
        · omega
      · cases h
end Go.Proofs.YtiekhbagpmnboaaGreatDoor
