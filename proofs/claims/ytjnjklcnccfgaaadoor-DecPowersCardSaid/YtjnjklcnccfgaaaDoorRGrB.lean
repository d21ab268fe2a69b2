/-
  The document's great numbers: cut, below.
-/
import Derived.Test.YtjnjklcnccfgaaaDoorRGrA
import Derived.WalkSpells
import Derived.WalkLawsBesides
import Derived.StillTactics
import Derived.Laws.Pointers
import Derived.Deep.RegionHeld3
import Derived.Deep.QuietTactic
import Derived.BigQuiet
import Derived.RowKit3
import Derived.Lib.Hide
import Derived.Lib.OthersKept
import Derived.OwnWalk
import Derived.Lib.IndexLaws
import Derived.Lib.ItoaMem
namespace Go.Proofs.YtjnjklcnccfgaaaDoor
open Go.RowKit

theorem valG_append : ∀ (a b : List Nat), valG (a ++ b) = valG a + 10000 ^ a.length * valG b
  | [], b => by simp [valG]
  | d :: a, b => by
    simp only [List.cons_append, valG, valG_append a b, List.length_cons, Nat.pow_succ]
    rw [Nat.mul_add, Nat.add_assoc, Nat.mul_comm (10000 ^ a.length) 10000, Nat.mul_assoc]
theorem valG_all0 : ∀ (l : List Nat), (∀ d ∈ l, d = 0) → valG l = 0
  | [], _ => rfl
  | d :: l, h => by
    rw [valG, h d (by simp), valG_all0 l (fun y hy => h y (by simp [hy]))]
theorem valG_take (l : List Nat) (n : Nat) (h : ∀ d ∈ l.drop n, d = 0) : valG (l.take n) = valG l := by
  have e := valG_append (l.take n) (l.drop n)
  rw [List.take_append_drop, valG_all0 _ h, Nat.mul_zero, Nat.add_zero] at e
  exact e.symm
theorem canG_take (l : List Nat) (k d : Nat) (hd : l[k]? = some d) (h0 : 0 < d) : CanG (l.take (k + 1)) := by
  intro y hy
  rw [List.take_add_one, hd, show (some d).toList = [d] from rfl, List.getLast?_concat] at hy
  injection hy with hy
  omega
theorem ownsRow_takec {w : World} {B g n L cap : Nat} {e : TypeId} {xs : List Value} (h : w.ownsRow B e 1 (.slice (some ⟨g, 0, none⟩) L cap) L xs) (hn : n ≤ L) : w.ownsRow B e 1 (.slice (some ⟨g, 0, none⟩) n cap) n (xs.take n) := by
  obtain ⟨h1, h2⟩ := h
  rcases h2 with ⟨h2, _⟩ | ⟨g', cap', cur, hv, hB, hh, hnc, hm, hs, ht⟩
  · cases h2
  · injection hv with hv1 hv2 hv3
    injection hv1 with hv1
    injection hv1 with hv1
    subst hv1; subst hv3
    refine ⟨by rw [List.length_take, h1]; omega, .inr ⟨g, cap, cur, rfl, hB, hh, by omega, hm, hs, ?_⟩⟩
    rw [← ht, List.take_take, show min n (L * 1) = n by omega, Nat.mul_one]
/-- without the words of nought at the end -/
structure CutAt (B : Nat) (l : List Nat) (w : World) (e : Ending) (w' : World) : Prop where
  same : w' = w
  out : ∃ u l', e = .returned u ∧ w.ownsRow B 3 1 u l'.length (l'.map fun (n : Nat) => Value.int .i64 (n : Int)) ∧ valG l' = valG l ∧ CanG l' ∧ l'.length ≤ l.length ∧ ∀ d ∈ l', d ∈ l
theorem canG_nil : CanG [] := fun d h => by simp at h
set_option maxRecDepth 100000 in
set_option maxHeartbeats 2000000 in
theorem cut_any (B : Nat) (l : List Nat) (hlen : l.length ≤ 1000000) (w : World) (v : Value) (hown : w.ownsRow B 3 1 v l.length (l.map fun (n : Nat) => Value.int .i64 (n : Int))) : Calls Tryd.prog 124 #[v] w (CutAt B l w) := by
  rcases hown.2 with ⟨h2, h3⟩ | ⟨g, cap, cur, hv, hB, hh, hnc, _⟩
  · obtain rfl : l = [] := List.eq_nil_of_length_eq_zero h3
    subst h2
    clear hown
    go_enter Tryd.func124, Tryd.ntmps124
    go_wp2
    go_loopw [3] (fun nv wq => wq = w ∧ nv = .int .i64 0) (fun _ _ => 0)
    case atStart => exact ⟨rfl, rfl⟩
    case round =>
      obtain ⟨rfl, rfl⟩ := hrel
      go_wp2
      go_ret
      exact ⟨rfl, _, [], rfl, World.ownsRow_nil _ _ _ _, rfl, canG_nil, Nat.le_refl _, fun _ h => h⟩
  · subst hv
    have hownH := Lib.hid hown
    clear hown hh
    go_enter Tryd.func124, Tryd.ntmps124
    go_wp2
    go_loopw [3] (fun nv wq => wq = w ∧ ∃ n, n ≤ l.length ∧ nv = .int .i64 (n : Int) ∧ Hid (∀ d ∈ l.drop n, d = 0)) (fun nv _ => (intOf nv).toNat)
    case atStart => exact ⟨rfl, l.length, Nat.le_refl _, rfl, Lib.hid (by simp)⟩
    case round =>
      obtain ⟨rfl, n, hn, rfl, hz⟩ := hrel
      rcases n with _ | k
      · go_wp2
        go_ret
        exact ⟨rfl, _, [], rfl, by simpa using ownsRow_takec hownH.out (Nat.zero_le _), (by rw [valG_all0 l (by simpa using hz.out)]; rfl), canG_nil, Nat.zero_le _, fun _ h => by simp at h⟩
      · obtain ⟨d, hd⟩ : ∃ d, l[k]? = some d := ⟨_, List.getElem?_eq_getElem (by omega)⟩
        have hcA := (hownH.out.cellAt k (by omega)).trans (show _ = some (Value.int .i64 (d : Int)) by rw [List.getElem?_map, hd]; rfl)
        have hw1 : IntKind.i64.wrap ((k : Int) + 1 - 1) = (k : Int) := by rw [IntWalk.i64_in _ (by omega)]; omega
        have hk0 : (0 : Int) < (k : Int) + 1 := by omega
        have hkk : (k : Int) < (l.length : Int) := by omega
        have hkc : k + 1 ≤ cap := by omega
        by_cases hd0 : d = 0
        · subst hd0
          have hd' := Lib.hid hd
          clear hd
          go_wp2
          go_roundw
          case rel =>
            refine ⟨by first | rfl | trivial, k, by omega, by go_num, Lib.hid ?_⟩
            intro y hy
            obtain ⟨hlt, e⟩ := List.getElem?_eq_some_iff.1 hd'.out
            rw [List.drop_eq_getElem_cons hlt, e] at hy
            rcases List.mem_cons.1 hy with h | h
            · exact h
            · exact hz.out y h
          case measure => simp [intOf]
        · have hdn : ((d : Int) = 0) = False := by simp; omega
          have hd' := Lib.hid (And.intro hd hd0)
          clear hd
          go_wp2
          go_ret
          have hl2 : (l.take (k + 1)).length = k + 1 := by rw [List.length_take]; omega
          refine ⟨rfl, _, l.take (k + 1), rfl, ?_, valG_take _ _ hz.out, canG_take _ _ _ hd'.out.1 (by have := hd'.out.2; omega), by rw [hl2]; exact hn, fun y hy => List.mem_of_mem_take hy⟩
          rw [hl2, List.map_take]; exact ownsRow_takec hownH.out hn
end Go.Proofs.YtjnjklcnccfgaaaDoor
