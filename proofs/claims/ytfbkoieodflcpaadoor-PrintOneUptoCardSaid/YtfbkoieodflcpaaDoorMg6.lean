/-
  The plain law of names: a text is read as a cell just if it is that cell's name. No program in sight; Parse of package addr: what it tells of any text; The document's own names of cells: column, digits, Name.
-/
import Derived.Test.YtfbkoieodflcpaaDoorRows
import Derived.Test.YtfbkoieodflcpaaDoorBase
import Derived.Test.YtfbkoieodflcpaaDoorAddrC
import Derived.Lib.ItoaNum
import Derived.Lib.ItoaMem
import Derived.WalkSpells
import Derived.WalkLawsBesides
import Derived.StillTactics
import Derived.Laws.Pointers
import Derived.Deep.RegionHeld3
import Derived.Deep.QuietTactic
import Derived.BigQuiet
import Derived.RowKit3
import Derived.Lib.Hide
import Derived.Lib.OthersKept
import Derived.WalkKit
import Derived.ProofKit
import Derived.OpenShut
import Derived.Carry
import Derived.ChangeSame
import Derived.Deep.Draws
import Derived.OwnWalk
import Derived.Lib.IndexLaws
namespace Go.Proofs.YtfbkoieodflcpaaDoor
open Go

/-- a column's name -/
def colL (c : Nat) : List UInt8 := if c ≤ 26 then [UInt8.ofNat (64 + c)] else [UInt8.ofNat (65 + (c - 27) / 26), UInt8.ofNat (65 + (c - 27) % 26)]
/-- a cell's name -/
def nameL (r c : Nat) : List UInt8 := colL c ++ Lib.decDigits r
def mayN (r c : Nat) : Bool := decide (1 ≤ r) && decide (r ≤ 4096) && decide (1 ≤ c) && decide (c ≤ 256)

/-- one letter read: the column, the row, how many digits -/
def stp : Option (Nat × Nat × Nat) → UInt8 → Option (Nat × Nat × Nat)
  | .none, _ => .none
  | some (c, r, d), b =>
    if 65 ≤ b.toNat ∧ b.toNat ≤ 90 ∧ d = 0 then some (c * 26 + (b.toNat - 65) + 1, r, d)
    else if 48 ≤ b.toNat ∧ b.toNat ≤ 57 then (if d = 0 ∧ b.toNat = 48 then .none else some (c, r * 10 + (b.toNat - 48), d + 1))
    else .none
def runL (l : List UInt8) : Option (Nat × Nat × Nat) := l.foldl stp (some (0, 0, 0))
def fin : Option (Nat × Nat × Nat) → Option (Nat × Nat)
  | .none => .none
  | some (c, r, _) => if mayN r c then some (r, c) else .none
def parse (l : List UInt8) : Option (Nat × Nat) := if 6 < l.length then .none else fin (runL l)

theorem ofNat_toNat {n : Nat} (h : n < 256) : (UInt8.ofNat n).toNat = n := by simp; omega

theorem run_col {c : Nat} (h1 : 1 ≤ c) (h2 : c ≤ 256) : (colL c).foldl stp (some (0, 0, 0)) = some (c, 0, 0) := by
  unfold colL
  split
  · have e : (UInt8.ofNat (64 + c)).toNat = 64 + c := ofNat_toNat (by omega)
    simp only [List.foldl_cons, List.foldl_nil, stp, e]
    rw [if_pos ⟨by omega, by omega, trivial⟩]
    congr 2; omega
  · have e1 : (UInt8.ofNat (65 + (c - 27) / 26)).toNat = 65 + (c - 27) / 26 := ofNat_toNat (by omega)
    have e2 : (UInt8.ofNat (65 + (c - 27) % 26)).toNat = 65 + (c - 27) % 26 := ofNat_toNat (by omega)
    simp only [List.foldl_cons, List.foldl_nil, stp, e1]
    rw [if_pos ⟨by omega, by omega, trivial⟩]
    simp only [e2]
    rw [if_pos ⟨by omega, by omega, trivial⟩]
    congr 2; omega

theorem dec_snoc {r : Nat} (h : 10 ≤ r) : Lib.decDigits r = Lib.decDigits (r / 10) ++ [UInt8.ofNat (48 + r % 10)] := by
  rw [Lib.decDigits, dif_neg (by omega)]
theorem dec_ne (r : Nat) : Lib.decDigits r ≠ [] := by
  rw [Lib.decDigits]; split <;> simp

theorem run_dec (c : Nat) : ∀ (n r : Nat), r ≤ n → 1 ≤ r → (Lib.decDigits r).foldl stp (some (c, 0, 0)) = some (c, r, (Lib.decDigits r).length)
  | 0, r, h, h1 => by omega
  | n + 1, r, h, h1 => by
    by_cases hr : r < 10
    · rw [Lib.decDigits_one hr]
      have e : (UInt8.ofNat (48 + r)).toNat = 48 + r := ofNat_toNat (by omega)
      simp only [List.foldl_cons, List.foldl_nil, stp, e]
      rw [if_neg (by omega), if_pos ⟨by omega, by omega⟩, if_neg (by omega)]
      simp
    · rw [dec_snoc (by omega), List.foldl_append, run_dec c n (r / 10) (by omega) (by omega)]
      have e : (UInt8.ofNat (48 + r % 10)).toNat = 48 + r % 10 := ofNat_toNat (by omega)
      have hl : 1 ≤ (Lib.decDigits (r / 10)).length := by
        have := dec_ne (r / 10)
        cases hd : Lib.decDigits (r / 10) with
        | nil => exact absurd hd this
        | cons a l => simp
      simp only [List.foldl_cons, List.foldl_nil, stp, e]
      rw [if_neg (by omega), if_pos ⟨by omega, by omega⟩, if_neg (by omega)]
      simp
      omega

theorem dec_len {r : Nat} (h2 : r ≤ 9999) : (Lib.decDigits r).length ≤ 4 := by
  by_cases a : r < 10
  · rw [Lib.decDigits_one a]; simp
  rw [dec_snoc (by omega)]
  by_cases b : r / 10 < 10
  · rw [Lib.decDigits_one b]; simp
  rw [dec_snoc (by omega)]
  by_cases c : r / 10 / 10 < 10
  · rw [Lib.decDigits_one c]; simp
  rw [dec_snoc (by omega)]
  rw [Lib.decDigits_one (by omega)]
  simp
theorem col_len (c : Nat) : 1 ≤ (colL c).length ∧ (colL c).length ≤ 2 := by unfold colL; split <;> simp
theorem mayN_of {r c : Nat} (h : mayN r c = true) : 1 ≤ r ∧ r ≤ 4096 ∧ 1 ≤ c ∧ c ≤ 256 := by simpa [mayN, and_assoc] using h

/-- BACK: a name is read as its cell. -/
theorem parse_name {r c : Nat} (h : mayN r c = true) : parse (nameL r c) = some (r, c) := by
  obtain ⟨h1, h2, h3, h4⟩ := mayN_of h
  have hl : (nameL r c).length ≤ 6 := by
    have := dec_len (r := r) (by omega)
    have := col_len c
    simp [nameL]; omega
  unfold parse
  rw [if_neg (by omega)]
  unfold runL nameL
  rw [List.foldl_append, run_col h3 h4, run_dec c r r (Nat.le_refl _) h1]
  simp [fin, h]

end Go.Proofs.YtfbkoieodflcpaaDoor
namespace Go.Proofs.YtfbkoieodflcpaaDoor
open Go.RowKit

theorem mayB_nat (r c : Nat) : mayB r c = mayN r c := by
  rw [Bool.eq_iff_iff]
  simp [mayB, mayN]
  omega
/-- the world in Parse's loop: the iterator, the cell that is read, the result -/
structure PW (w : World) (s : ByteArray) (k : Nat) (r c : Int) (wr : World) : Prop where
  it : wr.heap[w.heap.size + 2]? = some (.stringIter s k)
  cl : wr.heap[w.heap.size + 1]? = some (.cells #[.int .i64 r, .int .i64 c] 37 (0, 0))
  rs : wr.heap[w.heap.size]? = some (.cells #[.int .i64 0, .int .i64 0] 37 (0, 0))
  bl : Below w.heap.size w wr
  sz : wr.heap.size = w.heap.size + 3
theorem PW.next {w : World} {s : ByteArray} {k : Nat} {r c : Int} {wr : World} (h : PW w s k r c wr) (k' : Nat) : PW w s k' r c (wr.iterAt (w.heap.size + 2) s k') :=
  ⟨Lib.iterAt_heap _ _ _ _ _ h.it, by rw [Lib.iterAt_other _ _ _ _ _ (by omega)]; exact h.cl, by rw [Lib.iterAt_other _ _ _ _ _ (by omega)]; exact h.rs, Lib.below_iterAt h.bl (by omega) _ _, by rw [Lib.iterAt_size]; exact h.sz⟩
theorem PW.pos {w : World} {s : ByteArray} {k : Nat} {r c : Int} {wr : World} (h : PW w s k r c wr) : wr.iterPos (w.heap.size + 2) = k := by simp [World.iterPos, h.it]
/-- the cells, as the walk asks for them -/
theorem PW.cells {w : World} {s : ByteArray} {k : Nat} {r c : Int} {wr : World} (h : PW w s k r c wr) :
    wr.cell? ⟨w.heap.size + 1, 0, .none⟩ = some (.int .i64 r) ∧ wr.cell? ⟨w.heap.size + 1, 1, .none⟩ = some (.int .i64 c) ∧ wr.cell? ⟨w.heap.size, 0, .none⟩ = some (.int .i64 0) ∧ wr.cell? ⟨w.heap.size, 1, .none⟩ = some (.int .i64 0) ∧
      (∀ j, wr.frozen? ⟨w.heap.size + 1, j, .none⟩ = false) ∧ (∀ j, wr.frozen? ⟨w.heap.size, j, .none⟩ = false) := by
  have h1 := h.cl
  have h2 := h.rs
  refine ⟨by simp [World.cell?, h1], by simp [World.cell?, h1], by simp [World.cell?, h2], by simp [World.cell?, h2], fun j => by simp [World.frozen?, h1], fun j => by simp [World.frozen?, h2]⟩

end Go.Proofs.YtfbkoieodflcpaaDoor
namespace Go.Proofs.YtfbkoieodflcpaaDoor
open Go.RowKit

/-- a cell's name, the empty text of one that may not be -/
def nameZ (r c : Int) : List UInt8 := if mayB r c then colL c.toNat ++ Lib.decDigits r.toNat else []
theorem nameZ_nat {r c : Nat} (h : mayN r c = true) : nameZ r c = nameL r c := by
  unfold nameZ
  rw [mayB_nat, h, if_pos rfl]
  simp [nameL]
theorem nameZ_no {r c : Int} (h : mayB r c = false) : nameZ r c = [] := by simp [nameZ, h]
theorem mayB_ints {r c : Int} (h : mayB r c = true) : ∃ r' c' : Nat, r = r' ∧ c = c' ∧ mayN r' c' = true := by
  obtain ⟨h1, h2, h3, h4⟩ : 1 ≤ r ∧ r ≤ 4096 ∧ 1 ≤ c ∧ c ≤ 256 := by simpa [mayB, and_assoc] using h
  obtain ⟨r, rfl⟩ := Int.eq_ofNat_of_zero_le (show 0 ≤ r by omega)
  obtain ⟨c, rfl⟩ := Int.eq_ofNat_of_zero_le (show 0 ≤ c by omega)
  exact ⟨r, c, rfl, rfl, by rw [← mayB_nat]; exact h⟩
end Go.Proofs.YtfbkoieodflcpaaDoor
