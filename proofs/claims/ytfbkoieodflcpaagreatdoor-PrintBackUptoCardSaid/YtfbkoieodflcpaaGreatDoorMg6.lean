/-
  The plain law of names: a text is read as a cell just if it is that cell's name. No program in sight; Parse of package addr: what it tells of any text.
-/
import Derived.Test.YtfbkoieodflcpaaGreatDoorRows
import Derived.Test.YtfbkoieodflcpaaGreatDoorMg0
import Derived.Test.YtfbkoieodflcpaaGreatDoorAddrC
import Derived.Lib.ItoaNum
import Derived.Lib.ItoaMem
import Derived.WalkSpells
import Derived.WalkLawsBesides
import Derived.StillTactics
import Derived.Laws.Pointers
import Derived.Deep.RegionHeld3
import Derived.Deep.QuietTactic
import Derived.BigQuiet
import Derived.RowKit3
import Derived.Lib.Hide
import Derived.Lib.OthersKept
import Derived.WalkKit
import Derived.ProofKit
import Derived.OpenShut
import Derived.Carry
import Derived.ChangeSame
import Derived.Deep.Draws
import Derived.OwnWalk
import Derived.Lib.IndexLaws
namespace Go.Proofs.YtfbkoieodflcpaaGreatDoor
open Go

/-- a column's name -/
def colL (c : Nat) : List UInt8 := if c ≤ 26 then [UInt8.ofNat (64 + c)] else [UInt8.ofNat (65 + (c - 27) / 26), UInt8.ofNat (65 + (c - 27) % 26)]
/-- a cell's name -/
def nameL (r c : Nat) : List UInt8 := colL c ++ Lib.decDigits r
def mayN (r c : Nat) : Bool := decide (1 ≤ r) && decide (r ≤ 4096) && decide (1 ≤ c) && decide (c ≤ 256)

/-- one letter read: the column, the row, how many digits -/
def stp : Option (Nat × Nat × Nat) → UInt8 → Option (Nat × Nat × Nat)
  | .none, _ => .none
  | some (c, r, d), b =>
    if 65 ≤ b.toNat ∧ b.toNat ≤ 90 ∧ d = 0 then some (c * 26 + (b.toNat - 65) + 1, r, d)
    else if 48 ≤ b.toNat ∧ b.toNat ≤ 57 then (if d = 0 ∧ b.toNat = 48 then .none else some (c, r * 10 + (b.toNat - 48), d + 1))
    else .none
def runL (l : List UInt8) : Option (Nat × Nat × Nat) := l.foldl stp (some (0, 0, 0))
def fin : Option (Nat × Nat × Nat) → Option (Nat × Nat)
  | .none => .none
  | some (c, r, _) => if mayN r c then some (r, c) else .none
def parse (l : List UInt8) : Option (Nat × Nat) := if 6 < l.length then .none else fin (runL l)

theorem ofNat_toNat {n : Nat} (h : n < 256) : (UInt8.ofNat n).toNat = n := by simp; omega

theorem run_col {c : Nat} (h1 : 1 ≤ c) (h2 : c ≤ 256) : (colL c).foldl stp (some (0, 0, 0)) = some (c, 0, 0) := by
  unfold colL
  split
  · have e : (UInt8.ofNat (64 + c)).toNat = 64 + c := ofNat_toNat (by omega)
    simp only [List.foldl_cons, List.foldl_nil, stp, e]
    rw [if_pos ⟨by omega, by omega, trivial⟩]
    congr 2; omega
  · have e1 : (UInt8.ofNat (65 + (c - 27) / 26)).toNat = 65 + (c - 27) / 26 := ofNat_toNat (by omega)
    have e2 : (UInt8.ofNat (65 + (c - 27) % 26)).toNat = 65 + (c - 27) % 26 := ofNat_toNat (by omega)
    simp only [List.foldl_cons, List.foldl_nil, stp, e1]
    rw [if_pos ⟨by omega, by omega, trivial⟩]
    simp only [e2]
    rw [if_pos ⟨by omega, by omega, trivial⟩]
    congr 2; omega

theorem dec_snoc {r : Nat} (h : 10 ≤ r) : Lib.decDigits r = Lib.decDigits (r / 10) ++ [UInt8.ofNat (48 + r % 10)] := by
  rw [Lib.decDigits, dif_neg (by omega)]
theorem dec_ne (r : Nat) : Lib.decDigits r ≠ [] := by
  rw [Lib.decDigits]; split <;> simp

theorem run_dec (c : Nat) : ∀ (n r : Nat), r ≤ n → 1 ≤ r → (Lib.decDigits r).foldl stp (some (c, 0, 0)) = some (c, r, (Lib.decDigits r).length)
  | 0, r, h, h1 => by omega
  | n + 1, r, h, h1 => by
    by_cases hr : r < 10
    · rw [Lib.decDigits_one hr]
      have e : (UInt8.ofNat (48 + r)).toNat = 48 + r := ofNat_toNat (by omega)
      simp only [List.foldl_cons, List.foldl_nil, stp, e]
      rw [if_neg (by omega), if_pos ⟨by omega, by omega⟩, if_neg (by omega)]
      simp
    · rw [dec_snoc (by omega), List.foldl_append, run_dec c n (r / 10) (by omega) (by omega)]
      have e : (UInt8.ofNat (48 + r % 10)).toNat = 48 + r % 10 := ofNat_toNat (by omega)
      have hl : 1 ≤ (Lib.decDigits (r / 10)).length := by
        have := dec_ne (r / 10)
        cases hd : Lib.decDigits (r / 10) with
        | nil => exact absurd hd this
        | cons a l => simp
      simp only [List.foldl_cons, List.foldl_nil, stp, e]
      rw [if_neg (by omega), if_pos ⟨by omega, by omega⟩, if_neg (by omega)]
      simp
      omega

theorem dec_len {r : Nat} (h2 : r ≤ 9999) : (Lib.decDigits r).length ≤ 4 := by
  by_cases a : r < 10
  · rw [Lib.decDigits_one a]; simp
  rw [dec_snoc (by omega)]
  by_cases b : r / 10 < 10
  · rw [Lib.decDigits_one b]; simp
  rw [dec_snoc (by omega)]
  by_cases c : r / 10 / 10 < 10
  · rw [Lib.decDigits_one c]; simp
  rw [dec_snoc (by omega)]
  rw [Lib.decDigits_one (by omega)]
  simp
theorem col_len (c : Nat) : 1 ≤ (colL c).length ∧ (colL c).length ≤ 2 := by unfold colL; split <;> simp
theorem mayN_of {r c : Nat} (h : mayN r c = true) : 1 ≤ r ∧ r ≤ 4096 ∧ 1 ≤ c ∧ c ≤ 256 := by simpa [mayN, and_assoc] using h

/-- BACK: a name is read as its cell. -/
theorem parse_name {r c : Nat} (h : mayN r c = true) : parse (nameL r c) = some (r, c) := by
  obtain ⟨h1, h2, h3, h4⟩ := mayN_of h
  have hl : (nameL r c).length ≤ 6 := by
    have := dec_len (r := r) (by omega)
    have := col_len c
    simp [nameL]; omega
  unfold parse
  rw [if_neg (by omega)]
  unfold runL nameL
  rw [List.foldl_append, run_col h3 h4, run_dec c r r (Nat.le_refl _) h1]
  simp [fin, h]

/-- what is known of the state behind a text -/
def Inv (l : List UInt8) : Option (Nat × Nat × Nat) → Prop
  | .none => True
  | some (c, r, d) => ∃ A D, l = A ++ D ∧ ((A = [] ∧ c = 0) ∨ (1 ≤ c ∧ c ≤ 702 ∧ colL c = A) ∨ 703 ≤ c) ∧ ((D = [] ∧ r = 0 ∧ d = 0) ∨ (1 ≤ r ∧ 1 ≤ d ∧ Lib.decDigits r = D))

theorem ofNat_of {b : UInt8} {n : Nat} (h : b.toNat = n) : UInt8.ofNat n = b := by subst h; simp

theorem inv_step (l : List UInt8) (s : Option (Nat × Nat × Nat)) (b : UInt8) (h : Inv l s) : Inv (l ++ [b]) (stp s b) := by
  match s, h with
  | .none, _ => trivial
  | some (c, r, d), ⟨A, D, hl, hA, hD⟩ =>
    subst hl
    simp only [stp]
    split
    · rename_i hc
      obtain ⟨b1, b2, rfl⟩ := hc
      have hD' : D = [] ∧ r = 0 := by
        rcases hD with ⟨e1, e2, _⟩ | ⟨_, e, _⟩
        · exact ⟨e1, e2⟩
        · omega
      obtain ⟨rfl, rfl⟩ := hD'
      refine ⟨A ++ [b], [], by simp, ?_, .inl ⟨rfl, rfl, rfl⟩⟩
      rcases hA with ⟨rfl, rfl⟩ | ⟨g1, g2, g3⟩ | g
      · refine .inr (.inl ⟨by omega, by omega, ?_⟩)
        unfold colL
        rw [if_pos (by omega)]
        simp only [List.nil_append]
        rw [ofNat_of (b := b) (by omega)]
      · by_cases h26 : c ≤ 26
        · refine .inr (.inl ⟨by omega, by omega, ?_⟩)
          unfold colL at g3 ⊢
          rw [if_pos h26] at g3
          rw [if_neg (by omega), ← g3]
          simp only [List.cons_append, List.nil_append]
          have e1 : 65 + (c * 26 + (b.toNat - 65) + 1 - 27) / 26 = 64 + c := by omega
          have e2 : b.toNat = 65 + (c * 26 + (b.toNat - 65) + 1 - 27) % 26 := by omega
          rw [e1, ofNat_of e2]
        · exact .inr (.inr (by omega))
      · exact .inr (.inr (by omega))
    · split
      · rename_i hn hc
        split
        · trivial
        · rename_i hz
          refine ⟨A, D ++ [b], by simp, hA, .inr ?_⟩
          rcases hD with ⟨rfl, rfl, rfl⟩ | ⟨g1, g2, g3⟩
          · have hb : b.toNat ≠ 48 := fun e => hz ⟨rfl, e⟩
            refine ⟨by omega, by omega, ?_⟩
            rw [Lib.decDigits_one (by omega)]
            simp only [List.nil_append]
            rw [ofNat_of (b := b) (by omega)]
          · refine ⟨by omega, by omega, ?_⟩
            rw [dec_snoc (by omega)]
            have e1 : (r * 10 + (b.toNat - 48)) / 10 = r := by omega
            have e2 : b.toNat = 48 + (r * 10 + (b.toNat - 48)) % 10 := by omega
            rw [e1, ofNat_of e2, g3]
      · trivial
theorem inv_run : ∀ (l p : List UInt8) (s : Option (Nat × Nat × Nat)), Inv p s → Inv (p ++ l) (l.foldl stp s)
  | [], p, s, h => by simpa using h
  | b :: l, p, s, h => by
    have := inv_run l (p ++ [b]) (stp s b) (inv_step p s b h)
    simpa using this

/-- THERE: what is read as a cell is that cell's name. -/
theorem name_of_parse {l : List UInt8} {r c : Nat} (h : parse l = some (r, c)) : mayN r c = true ∧ nameL r c = l := by
  unfold parse at h
  split at h
  · cases h
  · have hi := inv_run l [] (some (0, 0, 0)) ⟨[], [], rfl, .inl ⟨rfl, rfl⟩, .inl ⟨rfl, rfl, rfl⟩⟩
    simp only [List.nil_append] at hi
    unfold runL at h
    generalize hs : l.foldl stp (some (0, 0, 0)) = s at h hi
    match s, h, hi with
    | some (c', r', d), h, ⟨A, D, hl, hA, hD⟩ =>
      simp only [fin] at h
      split at h
      · rename_i hm
        obtain ⟨rfl, rfl⟩ := by simpa using h
        refine ⟨hm, ?_⟩
        obtain ⟨h1, h2, h3, h4⟩ := mayN_of hm
        rw [hl]
        unfold nameL
        rcases hA with ⟨rfl, e⟩ | ⟨_, _, e⟩ | e
        · omega
        · rcases hD with ⟨_, e', _⟩ | ⟨_, _, e'⟩
          · omega
          · rw [e, e']
        · omega
      · cases h
end Go.Proofs.YtfbkoieodflcpaaGreatDoor
namespace Go.Proofs.YtfbkoieodflcpaaGreatDoor
open Go.RowKit

/-- what Parse tells of a text -/
def pRow (l : List UInt8) : Int := match parse l with | some (r, _) => r | .none => 0
def pCol (l : List UInt8) : Int := match parse l with | some (_, c) => c | .none => 0
def pOk (l : List UInt8) : Bool := (parse l).isSome

theorem mayB_nat (r c : Nat) : mayB r c = mayN r c := by
  rw [Bool.eq_iff_iff]
  simp [mayB, mayN]
  omega
theorem stp_bound {c r d c' r' d' B : Nat} {b : UInt8} (h : stp (some (c, r, d)) b = some (c', r', d')) (hc : c ≤ B) (hr : r ≤ B) (hd : d ≤ B) (h1 : 1 ≤ B) : c' ≤ B * 300 ∧ r' ≤ B * 300 ∧ d' ≤ B * 300 := by
  have := b.toNat_lt
  simp only [stp] at h
  split at h
  · simp only [Option.some.injEq, Prod.mk.injEq] at h
    omega
  · split at h
    · split at h
      · cases h
      · simp only [Option.some.injEq, Prod.mk.injEq] at h
        omega
    · cases h
theorem run_bound : ∀ (l : List UInt8) (c r d c' r' d' B : Nat), l.foldl stp (some (c, r, d)) = some (c', r', d') → c ≤ B → r ≤ B → d ≤ B → 1 ≤ B → c' ≤ B * 300 ^ l.length ∧ r' ≤ B * 300 ^ l.length ∧ d' ≤ B * 300 ^ l.length
  | [], c, r, d, c', r', d', B, h, hc, hr, hd, _ => by
    simp only [List.foldl_nil, Option.some.injEq, Prod.mk.injEq] at h
    simp
    omega
  | b :: l, c, r, d, c', r', d', B, h, hc, hr, hd, h1 => by
    simp only [List.foldl_cons] at h
    cases hs : stp (some (c, r, d)) b with
    | none =>
      rw [hs] at h
      have : ∀ l : List UInt8, l.foldl stp .none = .none := by
        intro l
        induction l with
        | nil => rfl
        | cons a l ih => simp [stp, ih]
      rw [this] at h
      cases h
    | some x =>
      obtain ⟨c1, r1, d1⟩ := x
      rw [hs] at h
      obtain ⟨b1, b2, b3⟩ := stp_bound hs hc hr hd h1
      have := run_bound l c1 r1 d1 c' r' d' (B * 300) h b1 b2 b3 (by omega)
      rw [List.length_cons, Nat.pow_succ, Nat.mul_comm (300 ^ l.length) 300, ← Nat.mul_assoc]
      exact this
theorem run_small {l : List UInt8} {c r d : Nat} (h : runL l = some (c, r, d)) (hl : l.length ≤ 6) : c ≤ 729000000000000 ∧ r ≤ 729000000000000 ∧ d ≤ 729000000000000 := by
  have := run_bound l 0 0 0 c r d 1 h (by omega) (by omega) (by omega) (by omega)
  have h2 : 300 ^ l.length ≤ 300 ^ 6 := Nat.pow_le_pow_right (by omega) hl
  omega
theorem run_none : ∀ l : List UInt8, l.foldl stp .none = .none := by
  intro l
  induction l with
  | nil => rfl
  | cons a l ih => simp [stp, ih]
theorem take_snoc (s : ByteArray) (k : Nat) (h : k < s.size) : s.data.toList.take (k + 1) = s.data.toList.take k ++ [s[k]] := by
  rw [List.take_succ_eq_append_getElem (by simpa using h)]; rfl
theorem run_snoc {s : ByteArray} {k : Nat} (h : k < s.size) : runL (s.data.toList.take (k + 1)) = stp (runL (s.data.toList.take k)) s[k] := by
  rw [take_snoc s k h]; simp [runL]
/-- a step that falls: the whole text is no name -/
theorem parse_falls {s : ByteArray} {k : Nat} (h : k < s.size) (hn : stp (runL (s.data.toList.take k)) s[k] = .none) : parse s.data.toList = .none := by
  unfold parse
  split
  · rfl
  · have e : runL s.data.toList = .none := by
      have : s.data.toList = s.data.toList.take (k + 1) ++ s.data.toList.drop (k + 1) := by simp
      rw [this]
      unfold runL
      rw [List.foldl_append]
      have h2 := run_snoc h
      unfold runL at h2 hn
      rw [h2, hn, run_none]
    rw [e]; rfl
theorem parse_runs {s : ByteArray} {k c r d : Nat} (hs : s.size ≤ 6) (hk : s.size ≤ k) (h : runL (s.data.toList.take k) = some (c, r, d)) : parse s.data.toList = if mayN r c then some (r, c) else .none := by
  rw [List.take_of_length_le (by simpa using hk)] at h
  unfold parse
  rw [if_neg (by simp; omega), h]
  rfl

/-- the world in Parse's loop: the iterator, the cell that is read, the result -/
structure PW (w : World) (s : ByteArray) (k : Nat) (r c : Int) (wr : World) : Prop where
  it : wr.heap[w.heap.size + 2]? = some (.stringIter s k)
  cl : wr.heap[w.heap.size + 1]? = some (.cells #[.int .i64 r, .int .i64 c] 43 (0, 0))
  rs : wr.heap[w.heap.size]? = some (.cells #[.int .i64 0, .int .i64 0] 43 (0, 0))
  bl : Below w.heap.size w wr
  sz : wr.heap.size = w.heap.size + 3
theorem iterAt_cell (w : World) (k j o : Nat) (s : ByteArray) (p : Nat) (h : j ≠ k) : (w.iterAt k s p).cell? ⟨j, o, .none⟩ = w.cell? ⟨j, o, .none⟩ := World.cell?_of_block (w := w) (Lib.iterAt_other w k j s p h)
theorem iterAt_frozen (w : World) (k j o : Nat) (s : ByteArray) (p : Nat) (h : j ≠ k) : (w.iterAt k s p).frozen? ⟨j, o, .none⟩ = w.frozen? ⟨j, o, .none⟩ := World.frozen?_of_block (w := w) (Lib.iterAt_other w k j s p h)
theorem PW.next {w : World} {s : ByteArray} {k : Nat} {r c : Int} {wr : World} (h : PW w s k r c wr) (k' : Nat) : PW w s k' r c (wr.iterAt (w.heap.size + 2) s k') :=
  ⟨Lib.iterAt_heap _ _ _ _ _ h.it, by rw [Lib.iterAt_other _ _ _ _ _ (by omega)]; exact h.cl, by rw [Lib.iterAt_other _ _ _ _ _ (by omega)]; exact h.rs, Lib.below_iterAt h.bl (by omega) _ _, by rw [Lib.iterAt_size]; exact h.sz⟩
theorem set_block {w : World} {g i : Nat} {cs : Array Value} {t : TypeId} {fr : Nat × Nat} (h : w.heap[g]? = some (.cells cs t fr)) (v : Value) : (w.setCell ⟨g, i, .none⟩ v).heap[g]? = some (.cells (cs.setIfInBounds i v) t fr) := by
  simp [World.setCell, Array.getElem?_modify, h]
theorem PW.setCol {w : World} {s : ByteArray} {k : Nat} {r c : Int} {wr : World} (h : PW w s k r c wr) (v : Int) : PW w s k r v (wr.setCell ⟨w.heap.size + 1, 1, .none⟩ (.int .i64 v)) :=
  ⟨(Below.heap_setCell _ _ _ _ (by simp)).trans h.it, by simpa using set_block (i := 1) h.cl (.int .i64 v), (Below.heap_setCell _ _ _ _ (by simp)).trans h.rs, h.bl.setCell (by simp) _, by simpa [World.setCell] using h.sz⟩
theorem PW.setRow {w : World} {s : ByteArray} {k : Nat} {r c : Int} {wr : World} (h : PW w s k r c wr) (v : Int) : PW w s k v c (wr.setCell ⟨w.heap.size + 1, 0, .none⟩ (.int .i64 v)) :=
  ⟨(Below.heap_setCell _ _ _ _ (by simp)).trans h.it, by simpa using set_block (i := 0) h.cl (.int .i64 v), (Below.heap_setCell _ _ _ _ (by simp)).trans h.rs, h.bl.setCell (by simp) _, by simpa [World.setCell] using h.sz⟩
theorem PW.start (w : World) (s : ByteArray) : PW w s 0 0 0 (((w.alloc (.cells #[.int .i64 0, .int .i64 0] 43)).alloc (.cells #[.int .i64 0, .int .i64 0] 43)).iter s 0) := by
  have h := World.iter_heap ((w.alloc (.cells #[.int .i64 0, .int .i64 0] 43)).alloc (.cells #[.int .i64 0, .int .i64 0] 43)) s 0
  refine ⟨by simpa using h, ?_, ?_, ?_, by simp [World.iter]⟩
  · exact (Below.heap_alloc _ _ _ (by simp)).trans (by simpa using heap_alloc_new (w.alloc (.cells #[.int .i64 0, .int .i64 0] 43)) _)
  · exact (Below.heap_alloc _ _ _ (by simp; omega)).trans ((Below.heap_alloc _ _ _ (by simp)).trans (by simpa using heap_alloc_new w _))
  · exact (((Below.refl _ _).alloc (Nat.le_refl _) _).alloc (by simp) _).alloc (by simp; omega) _
theorem PW.pos {w : World} {s : ByteArray} {k : Nat} {r c : Int} {wr : World} (h : PW w s k r c wr) : wr.iterPos (w.heap.size + 2) = k := by simp [World.iterPos, h.it]
/-- the cells, as the walk asks for them -/
theorem PW.cells {w : World} {s : ByteArray} {k : Nat} {r c : Int} {wr : World} (h : PW w s k r c wr) :
    wr.cell? ⟨w.heap.size + 1, 0, .none⟩ = some (.int .i64 r) ∧ wr.cell? ⟨w.heap.size + 1, 1, .none⟩ = some (.int .i64 c) ∧ wr.cell? ⟨w.heap.size, 0, .none⟩ = some (.int .i64 0) ∧ wr.cell? ⟨w.heap.size, 1, .none⟩ = some (.int .i64 0) ∧
      (∀ j, wr.frozen? ⟨w.heap.size + 1, j, .none⟩ = false) ∧ (∀ j, wr.frozen? ⟨w.heap.size, j, .none⟩ = false) := by
  have h1 := h.cl
  have h2 := h.rs
  refine ⟨by simp [World.cell?, h1], by simp [World.cell?, h1], by simp [World.cell?, h2], by simp [World.cell?, h2], fun j => by simp [World.frozen?, h1], fun j => by simp [World.frozen?, h2]⟩

set_option maxHeartbeats 400000 in
theorem parse_long (s : ByteArray) (h : 6 < s.size) (hm : s.size ≤ maxLen) (w : World) :
    Calls Tryz.prog 124 #[.string s] w fun e w' => e = .returned (.tuple #[.agg #[.int .i64 (pRow s.data.toList), .int .i64 (pCol s.data.toList)], .bool (pOk s.data.toList)]) ∧ Below w.heap.size w w' := by
  unfold maxLen at hm
  have hp := Lib.hid (show parse s.data.toList = .none by unfold parse; rw [if_pos (by simpa using h)])
  go_enter Tryz.func124, Tryz.ntmps124
  go_wp2
  all_goals refine bodyPost_ret (v := .tuple #[.agg #[.int .i64 (pRow s.data.toList), .int .i64 (pCol s.data.toList)], .bool (pOk s.data.toList)]) ?_ rfl ⟨rfl, by (repeat (first | (with_reducible exact Below.refl _ _) | (with_reducible refine Below.alloc ?_ (by first | omega | (dsimp only; omega) | (simp <;> omega)) _) | (with_reducible refine Below.setCell ?_ (by first | omega | (dsimp only; omega) | (simp <;> omega)) _) | (with_reducible refine Below.drew ?_) | (with_reducible refine below_drewN ?_ _) | (with_reducible refine Below.trans ?_ (Below.mono (by assumption) (by first | omega | (dsimp only; omega) | (simp <;> omega))))))⟩
  all_goals simp [results, Tryz.results124, go_sem, pRow, pCol, pOk, hp.out]

set_option maxHeartbeats 1000000 in
theorem parse_short (s : ByteArray) (h : s.size ≤ 6) (w : World) :
    Calls Tryz.prog 124 #[.string s] w fun e w' => e = .returned (.tuple #[.agg #[.int .i64 (pRow s.data.toList), .int .i64 (pCol s.data.toList)], .bool (pOk s.data.toList)]) ∧ Below w.heap.size w w' := by
  go_enter Tryz.func124, Tryz.ntmps124
  go_wp2
  go_loopw [5] (fun d wr => ∃ k c r dn : Nat, k ≤ s.size ∧ runL (s.data.toList.take k) = some (c, r, dn) ∧ d = .int .i64 dn ∧ PW w s k r c wr) (fun _ wr => s.size - wr.iterPos (w.heap.size + 2))
  case atStart =>
    exact ⟨0, 0, 0, 0, Nat.zero_le _, by simp [runL], rfl, PW.start w s⟩
  case round =>
    obtain ⟨k, c, r, dn, hk, hrun, rfl, hw⟩ := hrel
    obtain ⟨bc, br, bd⟩ := run_small hrun (by simp; omega)
    obtain ⟨g1, g2, g3, g4, g5, g6⟩ := hw.cells
    have hrun' := Lib.hid hrun
    clear hrun
    by_cases hlt : k < s.size
    · have hb := s[k].toNat_lt
      by_cases ha : s[k].toNat < 128
      · have hnx : ∀ ty, (Instr.next (.pointer (some ⟨w.heap.size + 1 + 1, 0, .none⟩)) true ty).run Tryz.prog wr = _ := fun ty => Lib.run_next_ascii_at wr (w.heap.size + 2) s k ty hw.it hlt ha
        have q1 := fun j o (hj : j ≠ w.heap.size + 2) => iterAt_cell wr (w.heap.size + 2) j o s (k + 1) hj
        have q2 := fun j o (hj : j ≠ w.heap.size + 2) => iterAt_frozen wr (w.heap.size + 2) j o s (k + 1) hj
        have hw' := hw.next (k + 1)
        have hs := Lib.hid (run_snoc hlt)
        by_cases b1 : 65 ≤ s[k].toNat
        · by_cases b2 : s[k].toNat ≤ 90
          · by_cases d0 : dn = 0
            · subst d0
              go_wp2
              go_roundw
              case rel =>
                refine ⟨k + 1, c * 26 + (s[k].toNat - 65) + 1, r, 0, by omega, by rw [hs.out, hrun'.out]; simp only [stp]; rw [if_pos ⟨b1, b2, trivial⟩], rfl, ?_⟩
                rw [show ((c * 26 + (s[k].toNat - 65) + 1 : Nat) : Int) = (c : Int) * 26 + ((s[k].toNat : Int) - 65) + 1 from by omega]
                exact hw'.setCol _
              case measure =>
                rw [(hw'.setCol _).pos, hw.pos]
                omega
            · have e0 : ((dn : Int) == 0) = false := by simp; omega
              have hp := Lib.hid (parse_falls hlt (by rw [hrun'.out]; simp only [stp]; rw [if_neg (by omega), if_neg (by omega)]))
              have hbl := hw'.bl
              go_wp2
              all_goals refine bodyPost_ret (v := .tuple #[.agg #[.int .i64 (pRow s.data.toList), .int .i64 (pCol s.data.toList)], .bool (pOk s.data.toList)]) ?_ rfl ⟨rfl, by (repeat (first | (with_reducible exact Below.refl _ _) | (with_reducible refine Below.alloc ?_ (by first | omega | (dsimp only; omega) | (simp <;> omega)) _) | (with_reducible refine Below.setCell ?_ (by first | omega | (dsimp only; omega) | (simp <;> omega)) _) | (with_reducible refine Below.drew ?_) | (with_reducible refine below_drewN ?_ _) | (with_reducible refine Below.trans ?_ (Below.mono (by assumption) (by first | omega | (dsimp only; omega) | (simp <;> omega))))))⟩
              all_goals simp [results, Tryz.results124, go_sem, pRow, pCol, pOk, hp.out, *]
          · have hp := Lib.hid (parse_falls hlt (by rw [hrun'.out]; simp only [stp]; rw [if_neg (by omega), if_neg (by omega)]))
            have hbl := hw'.bl
            go_wp2
            all_goals refine bodyPost_ret (v := .tuple #[.agg #[.int .i64 (pRow s.data.toList), .int .i64 (pCol s.data.toList)], .bool (pOk s.data.toList)]) ?_ rfl ⟨rfl, by (repeat (first | (with_reducible exact Below.refl _ _) | (with_reducible refine Below.alloc ?_ (by first | omega | (dsimp only; omega) | (simp <;> omega)) _) | (with_reducible refine Below.setCell ?_ (by first | omega | (dsimp only; omega) | (simp <;> omega)) _) | (with_reducible refine Below.drew ?_) | (with_reducible refine below_drewN ?_ _) | (with_reducible refine Below.trans ?_ (Below.mono (by assumption) (by first | omega | (dsimp only; omega) | (simp <;> omega))))))⟩
            all_goals simp [results, Tryz.results124, go_sem, pRow, pCol, pOk, hp.out, *]
        · by_cases b3 : 48 ≤ s[k].toNat
          · by_cases b4 : s[k].toNat ≤ 57
            · by_cases d0 : dn = 0
              · subst d0
                by_cases b5 : s[k].toNat = 48
                · have e5 : ((s[k].toNat : Int) == 48) = true := by simp; omega
                  have hp := Lib.hid (parse_falls hlt (by rw [hrun'.out]; simp only [stp]; rw [if_neg (by omega), if_pos ⟨by omega, by omega⟩, if_pos ⟨by first | trivial | omega, by omega⟩]))
                  have hbl := hw'.bl
                  go_wp2
                  all_goals refine bodyPost_ret (v := .tuple #[.agg #[.int .i64 (pRow s.data.toList), .int .i64 (pCol s.data.toList)], .bool (pOk s.data.toList)]) ?_ rfl ⟨rfl, by (repeat (first | (with_reducible exact Below.refl _ _) | (with_reducible refine Below.alloc ?_ (by first | omega | (dsimp only; omega) | (simp <;> omega)) _) | (with_reducible refine Below.setCell ?_ (by first | omega | (dsimp only; omega) | (simp <;> omega)) _) | (with_reducible refine Below.drew ?_) | (with_reducible refine below_drewN ?_ _) | (with_reducible refine Below.trans ?_ (Below.mono (by assumption) (by first | omega | (dsimp only; omega) | (simp <;> omega))))))⟩
                  all_goals simp [results, Tryz.results124, go_sem, pRow, pCol, pOk, hp.out, *]
                · have e5 : ((s[k].toNat : Int) == 48) = false := by simp; omega
                  go_wp2
                  go_roundw
                  case rel =>
                    refine ⟨k + 1, c, r * 10 + (s[k].toNat - 48), 1, by omega, by rw [hs.out, hrun'.out]; simp only [stp]; rw [if_neg (by omega), if_pos ⟨by omega, by omega⟩, if_neg (by omega)], by go_num, ?_⟩
                    rw [show ((r * 10 + (s[k].toNat - 48) : Nat) : Int) = (r : Int) * 10 + ((s[k].toNat : Int) - 48) from by omega]
                    exact hw'.setRow _
                  case measure =>
                    rw [(hw'.setRow _).pos, hw.pos]
                    omega
              · have e0 : ((dn : Int) == 0) = false := by simp; omega
                go_wp2
                go_roundw
                case rel =>
                  refine ⟨k + 1, c, r * 10 + (s[k].toNat - 48), dn + 1, by omega, by rw [hs.out, hrun'.out]; simp only [stp]; rw [if_neg (by omega), if_pos ⟨by omega, by omega⟩, if_neg (by omega)], by go_num, ?_⟩
                  rw [show ((r * 10 + (s[k].toNat - 48) : Nat) : Int) = (r : Int) * 10 + ((s[k].toNat : Int) - 48) from by omega]
                  exact hw'.setRow _
                case measure =>
                  rw [(hw'.setRow _).pos, hw.pos]
                  omega
            · have hp := Lib.hid (parse_falls hlt (by rw [hrun'.out]; simp only [stp]; rw [if_neg (by omega), if_neg (by omega)]))
              have hbl := hw'.bl
              go_wp2
              all_goals refine bodyPost_ret (v := .tuple #[.agg #[.int .i64 (pRow s.data.toList), .int .i64 (pCol s.data.toList)], .bool (pOk s.data.toList)]) ?_ rfl ⟨rfl, by (repeat (first | (with_reducible exact Below.refl _ _) | (with_reducible refine Below.alloc ?_ (by first | omega | (dsimp only; omega) | (simp <;> omega)) _) | (with_reducible refine Below.setCell ?_ (by first | omega | (dsimp only; omega) | (simp <;> omega)) _) | (with_reducible refine Below.drew ?_) | (with_reducible refine below_drewN ?_ _) | (with_reducible refine Below.trans ?_ (Below.mono (by assumption) (by first | omega | (dsimp only; omega) | (simp <;> omega))))))⟩
              all_goals simp [results, Tryz.results124, go_sem, pRow, pCol, pOk, hp.out, *]
          · have hp := Lib.hid (parse_falls hlt (by rw [hrun'.out]; simp only [stp]; rw [if_neg (by omega), if_neg (by omega)]))
            have hbl := hw'.bl
            go_wp2
            all_goals refine bodyPost_ret (v := .tuple #[.agg #[.int .i64 (pRow s.data.toList), .int .i64 (pCol s.data.toList)], .bool (pOk s.data.toList)]) ?_ rfl ⟨rfl, by (repeat (first | (with_reducible exact Below.refl _ _) | (with_reducible refine Below.alloc ?_ (by first | omega | (dsimp only; omega) | (simp <;> omega)) _) | (with_reducible refine Below.setCell ?_ (by first | omega | (dsimp only; omega) | (simp <;> omega)) _) | (with_reducible refine Below.drew ?_) | (with_reducible refine below_drewN ?_ _) | (with_reducible refine Below.trans ?_ (Below.mono (by assumption) (by first | omega | (dsimp only; omega) | (simp <;> omega))))))⟩
            all_goals simp [results, Tryz.results124, go_sem, pRow, pCol, pOk, hp.out, *]
      · have hR := decode_high s k hlt (by omega)
        have hRl := decode_le s k
        have hnx : ∀ ty, (Instr.next (.pointer (some ⟨w.heap.size + 1 + 1, 0, .none⟩)) true ty).run Tryz.prog wr = _ := fun ty => Lib.run_next_any_at wr (w.heap.size + 2) s k ty hw.it hlt
        have q1 := fun j o (hj : j ≠ w.heap.size + 2) => iterAt_cell wr (w.heap.size + 2) j o s (k + (Utf8.decode s k).2) hj
        have q2 := fun j o (hj : j ≠ w.heap.size + 2) => iterAt_frozen wr (w.heap.size + 2) j o s (k + (Utf8.decode s k).2) hj
        have hw' := hw.next (k + (Utf8.decode s k).2)
        obtain ⟨hR, _⟩ := hR
        have hp := Lib.hid (parse_falls hlt (by rw [hrun'.out]; simp only [stp]; rw [if_neg (by omega), if_neg (by omega)]))
        have hbl := hw'.bl
        go_wp2
        all_goals refine bodyPost_ret (v := .tuple #[.agg #[.int .i64 (pRow s.data.toList), .int .i64 (pCol s.data.toList)], .bool (pOk s.data.toList)]) ?_ rfl ⟨rfl, by (repeat (first | (with_reducible exact Below.refl _ _) | (with_reducible refine Below.alloc ?_ (by first | omega | (dsimp only; omega) | (simp <;> omega)) _) | (with_reducible refine Below.setCell ?_ (by first | omega | (dsimp only; omega) | (simp <;> omega)) _) | (with_reducible refine Below.drew ?_) | (with_reducible refine below_drewN ?_ _) | (with_reducible refine Below.trans ?_ (Below.mono (by assumption) (by first | omega | (dsimp only; omega) | (simp <;> omega))))))⟩
        all_goals simp [results, Tryz.results124, go_sem, pRow, pCol, pOk, hp.out, *]
    · have hnx : ∀ ty, (Instr.next (.pointer (some ⟨w.heap.size + 1 + 1, 0, .none⟩)) true ty).run Tryz.prog wr = _ := fun ty => Lib.run_next_end_at wr (w.heap.size + 2) s k ty hw.it hlt
      have hp := Lib.hid (parse_runs h (by omega) hrun'.out)
      have hbl := hw.bl
      have hz0 : w.heap.size + 2 ≤ wr.heap.size := by have := hw.sz; omega
      cases hmb : mayN r c
      · have hm2 : mayB r c = false := (mayB_nat r c).trans hmb
        go_wp2_with (go_at_call 31; refine (may_any _ _ _).mono ?_; rintro e w1 ⟨rfl, hb⟩; obtain ⟨hc, hf, hz⟩ := bkeep hb (w.heap.size + 2) (by first | omega | (simp <;> omega)))
        all_goals refine bodyPost_ret (v := .tuple #[.agg #[.int .i64 (pRow s.data.toList), .int .i64 (pCol s.data.toList)], .bool (pOk s.data.toList)]) ?_ rfl ⟨rfl, by (repeat (first | (with_reducible exact Below.refl _ _) | (with_reducible refine Below.alloc ?_ (by first | omega | (dsimp only; omega) | (simp <;> omega)) _) | (with_reducible refine Below.setCell ?_ (by first | omega | (dsimp only; omega) | (simp <;> omega)) _) | (with_reducible refine Below.drew ?_) | (with_reducible refine below_drewN ?_ _) | (with_reducible refine Below.trans ?_ (Below.mono (by assumption) (by first | omega | (dsimp only; omega) | (simp <;> omega))))))⟩
        all_goals simp [results, Tryz.results124, go_sem, pRow, pCol, pOk, hp.out, *]
      · have hm2 : mayB r c = true := (mayB_nat r c).trans hmb
        go_wp2_with (go_at_call 31; refine (may_any _ _ _).mono ?_; rintro e w1 ⟨rfl, hb⟩; obtain ⟨hc, hf, hz⟩ := bkeep hb (w.heap.size + 2) (by first | omega | (simp <;> omega)))
        all_goals refine bodyPost_ret (v := .tuple #[.agg #[.int .i64 (pRow s.data.toList), .int .i64 (pCol s.data.toList)], .bool (pOk s.data.toList)]) ?_ rfl ⟨rfl, by (repeat (first | (with_reducible exact Below.refl _ _) | (with_reducible refine Below.alloc ?_ (by first | omega | (dsimp only; omega) | (simp <;> omega)) _) | (with_reducible refine Below.setCell ?_ (by first | omega | (dsimp only; omega) | (simp <;> omega)) _) | (with_reducible refine Below.drew ?_) | (with_reducible refine below_drewN ?_ _) | (with_reducible refine Below.trans ?_ (Below.mono (by assumption) (by first | omega | (dsimp only; omega) | (simp <;> omega))))))⟩
        all_goals simp [results, Tryz.results124, go_sem, pRow, pCol, pOk, hp.out, *]
end Go.Proofs.YtfbkoieodflcpaaGreatDoor
