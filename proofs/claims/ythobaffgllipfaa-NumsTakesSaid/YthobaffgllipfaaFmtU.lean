/-
  strconv.FormatUint at base 10: the decimal numeral, for every uint64.
-/
import Derived.Test.YthobaffgllipfaaBase
import Derived.Test.YthobaffgllipfaaShelf
import Derived.WalkSpells
import Derived.WalkLawsBesides
import Derived.StillTactics
import Derived.Laws.Pointers
import Derived.Deep.RegionHeld3
import Derived.Deep.QuietTactic
import Derived.BigQuiet
import Derived.RowKit3
import Derived.Lib.Hide
import Derived.Lib.OthersKept
import Derived.OwnWalk
import Derived.Lib.IndexLaws
import Derived.Lib.ItoaMem
namespace Go.Proofs.Ythobaffgllipfaa
open Go.RowKit

/-- the library's table of powers of ten is as the program's text lays it -/
def Tab (w : World) : Prop := Lib.TabIs Try.prog w "internal/strconv.uint64pow10" .u64 Lib.pow10Tab
theorem below_grow (w : World) (n : Nat) (os : Array Obj) : Below w.heap.size w (Sort.grow (w.drewN n) os) := by
  refine ⟨rfl, rfl, rfl, by simp [Sort.grow], fun k hk => ?_⟩
  show (w.heap ++ os)[k]? = _
  rw [Array.getElem?_append_left hk]

theorem holds0 (w : World) (T : TypeId) (nd : Nat) (hs : nd ≤ 24) : Sort.Holds (fun (b : UInt8) => Value.int .u8 (b.toNat : Int)) (w.alloc (.cells Lib.zeros24 T)) w.heap.size 0 (Array.replicate nd (0 : UInt8)) := fun j hj => by
  have hj' : j < nd := by simpa using hj
  refine ⟨?_, World.frozen?_alloc_new _ _ _ _⟩
  rw [World.cell?_alloc_new, Lib.zeros24_at _ (by omega), getElem!_pos _ j hj]
  simp
theorem fin0 (w : World) (o : Obj) (dk : Array UInt8) (k : Nat) : ∃ os, (Sort.putRow (fun (b : UInt8) => Value.int .u8 (b.toNat : Int)) (w.alloc o) w.heap.size 0 dk).drewN k = Sort.grow (w.drewN k) os := by
  rw [Sort.alloc_eq_grow]
  obtain ⟨os', _, e⟩ := Sort.putRow_grow_new (fun (b : UInt8) => Value.int .u8 (b.toNat : Int)) w #[o] w.heap.size 0 dk (Nat.le_refl _)
  exact ⟨os', by rw [e]; rfl⟩

end Go.Proofs.Ythobaffgllipfaa
