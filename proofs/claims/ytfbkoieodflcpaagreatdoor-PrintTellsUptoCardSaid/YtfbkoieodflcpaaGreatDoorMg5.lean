/-
  The plain law of names: a text is read as a cell just if it is that cell's name. No program in sight; Parse of package addr: what it tells of any text.
-/
import Derived.Test.YtfbkoieodflcpaaGreatDoorRows
import Derived.Test.YtfbkoieodflcpaaGreatDoorBase
import Derived.Test.YtfbkoieodflcpaaGreatDoorAddrC
import Derived.Lib.ItoaNum
import Derived.Lib.ItoaMem
import Derived.WalkSpells
import Derived.WalkLawsBesides
import Derived.StillTactics
import Derived.Laws.Pointers
import Derived.Deep.RegionHeld3
import Derived.Deep.QuietTactic
import Derived.BigQuiet
import Derived.RowKit3
import Derived.Lib.Hide
import Derived.Lib.OthersKept
import Derived.WalkKit
import Derived.ProofKit
import Derived.OpenShut
import Derived.Carry
import Derived.ChangeSame
import Derived.Deep.Draws
import Derived.OwnWalk
import Derived.Lib.IndexLaws
namespace Go.Proofs.YtfbkoieodflcpaaGreatDoor
open Go

/-- a column's name -/
def colL (c : Nat) : List UInt8 := if c ≤ 26 then [UInt8.ofNat (64 + c)] else [UInt8.ofNat (65 + (c - 27) / 26), UInt8.ofNat (65 + (c - 27) % 26)]
/-- a cell's name -/
def nameL (r c : Nat) : List UInt8 := colL c ++ Lib.decDigits r
def mayN (r c : Nat) : Bool := decide (1 ≤ r) && decide (r ≤ 4096) && decide (1 ≤ c) && decide (c ≤ 256)

theorem dec_snoc {r : Nat} (h : 10 ≤ r) : Lib.decDigits r = Lib.decDigits (r / 10) ++ [UInt8.ofNat (48 + r % 10)] := by
  rw [Lib.decDigits, dif_neg (by omega)]
theorem dec_len {r : Nat} (h2 : r ≤ 9999) : (Lib.decDigits r).length ≤ 4 := by
  by_cases a : r < 10
  · rw [Lib.decDigits_one a]; simp
  rw [dec_snoc (by omega)]
  by_cases b : r / 10 < 10
  · rw [Lib.decDigits_one b]; simp
  rw [dec_snoc (by omega)]
  by_cases c : r / 10 / 10 < 10
  · rw [Lib.decDigits_one c]; simp
  rw [dec_snoc (by omega)]
  rw [Lib.decDigits_one (by omega)]
  simp
theorem col_len (c : Nat) : 1 ≤ (colL c).length ∧ (colL c).length ≤ 2 := by unfold colL; split <;> simp
theorem mayN_of {r c : Nat} (h : mayN r c = true) : 1 ≤ r ∧ r ≤ 4096 ∧ 1 ≤ c ∧ c ≤ 256 := by simpa [mayN, and_assoc] using h

end Go.Proofs.YtfbkoieodflcpaaGreatDoor
namespace Go.Proofs.YtfbkoieodflcpaaGreatDoor
open Go.RowKit

theorem mayB_nat (r c : Nat) : mayB r c = mayN r c := by
  rw [Bool.eq_iff_iff]
  simp [mayB, mayN]
  omega
/-- the world in Parse's loop: the iterator, the cell that is read, the result -/
structure PW (w : World) (s : ByteArray) (k : Nat) (r c : Int) (wr : World) : Prop where
  it : wr.heap[w.heap.size + 2]? = some (.stringIter s k)
  cl : wr.heap[w.heap.size + 1]? = some (.cells #[.int .i64 r, .int .i64 c] 43 (0, 0))
  rs : wr.heap[w.heap.size]? = some (.cells #[.int .i64 0, .int .i64 0] 43 (0, 0))
  bl : Below w.heap.size w wr
  sz : wr.heap.size = w.heap.size + 3
theorem PW.next {w : World} {s : ByteArray} {k : Nat} {r c : Int} {wr : World} (h : PW w s k r c wr) (k' : Nat) : PW w s k' r c (wr.iterAt (w.heap.size + 2) s k') :=
  ⟨Lib.iterAt_heap _ _ _ _ _ h.it, by rw [Lib.iterAt_other _ _ _ _ _ (by omega)]; exact h.cl, by rw [Lib.iterAt_other _ _ _ _ _ (by omega)]; exact h.rs, Lib.below_iterAt h.bl (by omega) _ _, by rw [Lib.iterAt_size]; exact h.sz⟩
theorem PW.pos {w : World} {s : ByteArray} {k : Nat} {r c : Int} {wr : World} (h : PW w s k r c wr) : wr.iterPos (w.heap.size + 2) = k := by simp [World.iterPos, h.it]
/-- the cells, as the walk asks for them -/
theorem PW.cells {w : World} {s : ByteArray} {k : Nat} {r c : Int} {wr : World} (h : PW w s k r c wr) :
    wr.cell? ⟨w.heap.size + 1, 0, .none⟩ = some (.int .i64 r) ∧ wr.cell? ⟨w.heap.size + 1, 1, .none⟩ = some (.int .i64 c) ∧ wr.cell? ⟨w.heap.size, 0, .none⟩ = some (.int .i64 0) ∧ wr.cell? ⟨w.heap.size, 1, .none⟩ = some (.int .i64 0) ∧
      (∀ j, wr.frozen? ⟨w.heap.size + 1, j, .none⟩ = false) ∧ (∀ j, wr.frozen? ⟨w.heap.size, j, .none⟩ = false) := by
  have h1 := h.cl
  have h2 := h.rs
  refine ⟨by simp [World.cell?, h1], by simp [World.cell?, h1], by simp [World.cell?, h2], by simp [World.cell?, h2], fun j => by simp [World.frozen?, h1], fun j => by simp [World.frozen?, h2]⟩

end Go.Proofs.YtfbkoieodflcpaaGreatDoor
