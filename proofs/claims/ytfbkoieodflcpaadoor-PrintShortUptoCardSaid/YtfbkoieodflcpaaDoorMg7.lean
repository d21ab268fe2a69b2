/-
  Parse of package addr: what it tells of any text; The document's own names of cells: column, digits, Name.
-/
import Derived.Test.YtfbkoieodflcpaaDoorRows
import Derived.Test.YtfbkoieodflcpaaDoorBase
import Derived.Test.YtfbkoieodflcpaaDoorAddrC
import Derived.Test.YtfbkoieodflcpaaDoorNames
import Derived.WalkSpells
import Derived.WalkLawsBesides
import Derived.StillTactics
import Derived.Laws.Pointers
import Derived.Deep.RegionHeld3
import Derived.Deep.QuietTactic
import Derived.BigQuiet
import Derived.RowKit3
import Derived.Lib.Hide
import Derived.Lib.OthersKept
import Derived.WalkKit
import Derived.ProofKit
import Derived.OpenShut
import Derived.Carry
import Derived.ChangeSame
import Derived.Deep.Draws
import Derived.OwnWalk
import Derived.Lib.IndexLaws
import Derived.Lib.ItoaNum
import Derived.Lib.ItoaMem
namespace Go.Proofs.YtfbkoieodflcpaaDoor
open Go.RowKit

theorem mayB_nat (r c : Nat) : mayB r c = mayN r c := by
  rw [Bool.eq_iff_iff]
  simp [mayB, mayN]
  omega
/-- the world in Parse's loop: the iterator, the cell that is read, the result -/
structure PW (w : World) (s : ByteArray) (k : Nat) (r c : Int) (wr : World) : Prop where
  it : wr.heap[w.heap.size + 2]? = some (.stringIter s k)
  cl : wr.heap[w.heap.size + 1]? = some (.cells #[.int .i64 r, .int .i64 c] 37 (0, 0))
  rs : wr.heap[w.heap.size]? = some (.cells #[.int .i64 0, .int .i64 0] 37 (0, 0))
  bl : Below w.heap.size w wr
  sz : wr.heap.size = w.heap.size + 3
theorem PW.next {w : World} {s : ByteArray} {k : Nat} {r c : Int} {wr : World} (h : PW w s k r c wr) (k' : Nat) : PW w s k' r c (wr.iterAt (w.heap.size + 2) s k') :=
  ⟨Lib.iterAt_heap _ _ _ _ _ h.it, by rw [Lib.iterAt_other _ _ _ _ _ (by omega)]; exact h.cl, by rw [Lib.iterAt_other _ _ _ _ _ (by omega)]; exact h.rs, Lib.below_iterAt h.bl (by omega) _ _, by rw [Lib.iterAt_size]; exact h.sz⟩
theorem PW.pos {w : World} {s : ByteArray} {k : Nat} {r c : Int} {wr : World} (h : PW w s k r c wr) : wr.iterPos (w.heap.size + 2) = k := by simp [World.iterPos, h.it]
/-- the cells, as the walk asks for them -/
theorem PW.cells {w : World} {s : ByteArray} {k : Nat} {r c : Int} {wr : World} (h : PW w s k r c wr) :
    wr.cell? ⟨w.heap.size + 1, 0, .none⟩ = some (.int .i64 r) ∧ wr.cell? ⟨w.heap.size + 1, 1, .none⟩ = some (.int .i64 c) ∧ wr.cell? ⟨w.heap.size, 0, .none⟩ = some (.int .i64 0) ∧ wr.cell? ⟨w.heap.size, 1, .none⟩ = some (.int .i64 0) ∧
      (∀ j, wr.frozen? ⟨w.heap.size + 1, j, .none⟩ = false) ∧ (∀ j, wr.frozen? ⟨w.heap.size, j, .none⟩ = false) := by
  have h1 := h.cl
  have h2 := h.rs
  refine ⟨by simp [World.cell?, h1], by simp [World.cell?, h1], by simp [World.cell?, h2], by simp [World.cell?, h2], fun j => by simp [World.frozen?, h1], fun j => by simp [World.frozen?, h2]⟩

end Go.Proofs.YtfbkoieodflcpaaDoor
namespace Go.Proofs.YtfbkoieodflcpaaDoor
open Go.RowKit

/-- a cell's name, the empty text of one that may not be -/
def nameZ (r c : Int) : List UInt8 := if mayB r c then colL c.toNat ++ Lib.decDigits r.toNat else []
theorem nameZ_nat {r c : Nat} (h : mayN r c = true) : nameZ r c = nameL r c := by
  unfold nameZ
  rw [mayB_nat, h, if_pos rfl]
  simp [nameL]
theorem nameZ_no {r c : Int} (h : mayB r c = false) : nameZ r c = [] := by simp [nameZ, h]
theorem mayB_ints {r c : Int} (h : mayB r c = true) : ∃ r' c' : Nat, r = r' ∧ c = c' ∧ mayN r' c' = true := by
  obtain ⟨h1, h2, h3, h4⟩ : 1 ≤ r ∧ r ≤ 4096 ∧ 1 ≤ c ∧ c ≤ 256 := by simpa [mayB, and_assoc] using h
  obtain ⟨r, rfl⟩ := Int.eq_ofNat_of_zero_le (show 0 ≤ r by omega)
  obtain ⟨c, rfl⟩ := Int.eq_ofNat_of_zero_le (show 0 ≤ c by omega)
  exact ⟨r, c, rfl, rfl, by rw [← mayB_nat]; exact h⟩
end Go.Proofs.YtfbkoieodflcpaaDoor
