/-
  Parse of package addr: what it tells of any text.
-/
import Derived.Test.YtiekhbagpmnboaaGreatDoorRows
import Derived.Test.YtiekhbagpmnboaaGreatDoorBase
import Derived.Test.YtiekhbagpmnboaaGreatDoorAddrC
import Derived.Test.YtiekhbagpmnboaaGreatDoorNames
import Derived.WalkSpells
import Derived.WalkLawsBesides
import Derived.StillTactics
import Derived.Laws.Pointers
import Derived.Deep.RegionHeld3
import Derived.Deep.QuietTactic
import Derived.BigQuiet
import Derived.RowKit3
import Derived.Lib.Hide
import Derived.Lib.OthersKept
import Derived.WalkKit
import Derived.ProofKit
import Derived.OpenShut
import Derived.Carry
import Derived.ChangeSame
import Derived.Deep.Draws
import Derived.OwnWalk
import Derived.Lib.IndexLaws
import Derived.Lib.ItoaNum
import Derived.Lib.ItoaMem
namespace Go.Proofs.YtiekhbagpmnboaaGreatDoor
open Go.RowKit

/-- what Parse tells of a text -/
def pRow (l : List UInt8) : Int := match parse l with | some (r, _) => r | .none => 0
def pCol (l : List UInt8) : Int := match parse l with | some (_, c) => c | .none => 0
def pOk (l : List UInt8) : Bool := (parse l).isSome

theorem mayB_nat (r c : Nat) : mayB r c = mayN r c := by
  rw [Bool.eq_iff_iff]
  simp [mayB, mayN]
  omega
theorem stp_bound {c r d c' r' d' B : Nat} {b : UInt8} (h : stp (some (c, r, d)) b = some (c', r', d')) (hc : c ≤ B) (hr : r ≤ B) (hd : d ≤ B) (h1 : 1 ≤ B) : c' ≤ B * 300 ∧ r' ≤ B * 300 ∧ d' ≤ B * 300 := by
  have := b.toNat_lt
  simp only [stp] at h
  split at h
  · simp only [Option.some.injEq, Prod.mk.injEq] at h
    omega
  · split at h
    · split at h
      · cases h
      · simp only [Option.some.injEq, Prod.mk.injEq] at h
        omega
    · cases h
theorem run_bound : ∀ (l : List UInt8) (c r d c' r' d' B : Nat), l.foldl stp (some (c, r, d)) = some (c', r', d') → c ≤ B → r ≤ B → d ≤ B → 1 ≤ B → c' ≤ B * 300 ^ l.length ∧ r' ≤ B * 300 ^ l.length ∧ d' ≤ B * 300 ^ l.length
  | [], c, r, d, c', r', d', B, h, hc, hr, hd, _ => by
    simp only [List.foldl_nil, Option.some.injEq, Prod.mk.injEq] at h
    simp
    omega
  | b :: l, c, r, d, c', r', d', B, h, hc, hr, hd, h1 => by
    simp only [List.foldl_cons] at h
    cases hs : stp (some (c, r, d)) b with
    | none =>
      rw [hs] at h
      have : ∀ l : List UInt8, l.foldl stp .none = .none := by
        intro l
        induction l with
        | nil => rfl
        | cons a l ih => simp [stp, ih]
      rw [this] at h
      cases h
    | some x =>
      obtain ⟨c1, r1, d1⟩ := x
      rw [hs] at h
      obtain ⟨b1, b2, b3⟩ := stp_bound hs hc hr hd h1
      have := run_bound l c1 r1 d1 c' r' d' (B * 300) h b1 b2 b3 (by omega)
      rw [List.length_cons, Nat.pow_succ, Nat.mul_comm (300 ^ l.length) 300, ← Nat.mul_assoc]
      exact this
theorem run_small {l : List UInt8} {c r d : Nat} (h : runL l = some (c, r, d)) (hl : l.length ≤ 6) : c ≤ 729000000000000 ∧ r ≤ 729000000000000 ∧ d ≤ 729000000000000 := by
  have := run_bound l 0 0 0 c r d 1 h (by omega) (by omega) (by omega) (by omega)
  have h2 : 300 ^ l.length ≤ 300 ^ 6 := Nat.pow_le_pow_right (by omega) hl
  omega
theorem run_none : ∀ l : List UInt8, l.foldl stp .none = .none := by
  intro l
  induction l with
  | nil => rfl
  | cons a l ih => simp [stp, ih]
theorem take_snoc (s : ByteArray) (k : Nat) (h : k < s.size) : s.data.toList.take (k + 1) = s.data.toList.take k ++ [s[k]] := by
  rw [List.take_succ_eq_append_getElem (by simpa using h)]; rfl
theorem run_snoc {s : ByteArray} {k : Nat} (h : k < s.size) : runL (s.data.toList.take (k + 1)) = stp (runL (s.data.toList.take k)) s[k] := by
  rw [take_snoc s k h]; simp [runL]
/-- a step that falls: the whole text is no name -/
theorem parse_falls {s : ByteArray} {k : Nat} (h : k < s.size) (hn : stp (runL (s.data.toList.take k)) s[k] = .none) : parse s.data.toList = .none := by
  unfold parse
  split
  · rfl
  · have e : runL s.data.toList = .none := by
      have : s.data.toList = s.data.toList.take (k + 1) ++ s.data.toList.drop (k + 1) := by simp
      rw [this]
      unfold runL
      rw [List.foldl_append]
      have h2 := run_snoc h
      unfold runL at h2 hn
      rw [h2, hn, run_none]
    rw [e]; rfl
theorem parse_runs {s : ByteArray} {k c r d : Nat} (hs : s.size ≤ 6) (hk : s.size ≤ k) (h : runL (s.data.toList.take k) = some (c, r, d)) : parse s.data.toList = if mayN r c then some (r, c) else .none := by
  rw [List.take_of_length_le (by simpa using hk)] at h
  unfold parse
  rw [if_neg (by simp; omega), h]
  rfl

/-- the world in Parse's loop: the iterator, the cell that is read, the result -/
structure PW (w : World) (s : ByteArray) (k : Nat) (r c : Int) (wr : World) : Prop where
  it : wr.heap[w.heap.size + 2]? = some (.stringIter s k)
  cl : wr.heap[w.heap.size + 1]? = some (.cells #[.int .i64 r, .int .i64 c] 28 (0, 0))
  rs : wr.heap[w.heap.size]? = some (.cells #[.int .i64 0, .int .i64 0] 28 (0, 0))
  bl : Below w.heap.size w wr
  sz : wr.heap.size = w.heap.size + 3
theorem iterAt_cell (w : World) (k j o : Nat) (s : ByteArray) (p : Nat) (h : j ≠ k) : (w.iterAt k s p).cell? ⟨j, o, .none⟩ = w.cell? ⟨j, o, .none⟩ := World.cell?_of_block (w := w) (Lib.iterAt_other w k j s p h)
theorem iterAt_frozen (w : World) (k j o : Nat) (s : ByteArray) (p : Nat) (h : j ≠ k) : (w.iterAt k s p).frozen? ⟨j, o, .none⟩ = w.frozen? ⟨j, o, .none⟩ := World.frozen?_of_block (w := w) (Lib.iterAt_other w k j s p h)
theorem PW.next {w : World} {s : ByteArray} {k : Nat} {r c : Int} {wr : World} (h : PW w s k r c wr) (k' : Nat) : PW w s k' r c (wr.iterAt (w.heap.size + 2) s k') :=
  ⟨Lib.iterAt_heap _ _ _ _ _ h.it, by rw [Lib.iterAt_other _ _ _ _ _ (by omega)]; exact h.cl, by rw [Lib.iterAt_other _ _ _ _ _ (by omega)]; exact h.rs, Lib.below_iterAt h.bl (by omega) _ _, by rw [Lib.iterAt_size]; exact h.sz⟩
theorem set_block {w : World} {g i : Nat} {cs : Array Value} {t : TypeId} {fr : Nat × Nat} (h : w.heap[g]? = some (.cells cs t fr)) (v : Value) : (w.setCell ⟨g, i, .none⟩ v).heap[g]? = some (.cells (cs.setIfInBounds i v) t fr) := by
  simp [World.setCell, Array.getElem?_modify, h]
theorem PW.setCol {w : World} {s : ByteArray} {k : Nat} {r c : Int} {wr : World} (h : PW w s k r c wr) (v : Int) : PW w s k r v (wr.setCell ⟨w.heap.size + 1, 1, .none⟩ (.int .i64 v)) :=
  ⟨(Below.heap_setCell _ _ _ _ (by simp)).trans h.it, by simpa using set_block (i := 1) h.cl (.int .i64 v), (Below.heap_setCell _ _ _ _ (by simp)).trans h.rs, h.bl.setCell (by simp) _, by simpa [World.setCell] using h.sz⟩
theorem PW.setRow {w : World} {s : ByteArray} {k : Nat} {r c : Int} {wr : World} (h : PW w s k r c wr) (v : Int) : PW w s k v c (wr.setCell ⟨w.heap.size + 1, 0, .none⟩ (.int .i64 v)) :=
  ⟨(Below.heap_setCell _ _ _ _ (by simp)).trans h.it, by simpa using set_block (i := 0) h.cl (.int .i64 v), (Below.heap_setCell _ _ _ _ (by simp)).trans h.rs, h.bl.setCell (by simp) _, by simpa [World.setCell] using h.sz⟩
theorem PW.start (w : World) (s : ByteArray) : PW w s 0 0 0 (((w.alloc (.cells #[.int .i64 0, .int .i64 0] 28)).alloc (.cells #[.int .i64 0, .int .i64 0] 28)).iter s 0) := by
  have h := World.iter_heap ((w.alloc (.cells #[.int .i64 0, .int .i64 0] 28)).alloc (.cells #[.int .i64 0, .int .i64 0] 28)) s 0
  refine ⟨by simpa using h, ?_, ?_, ?_, by simp [World.iter]⟩
  · exact (Below.heap_alloc _ _ _ (by simp)).trans (by simpa using heap_alloc_new (w.alloc (.cells #[.int .i64 0, .int .i64 0] 28)) _)
  · exact (Below.heap_alloc _ _ _ (by simp; omega)).trans ((Below.heap_alloc _ _ _ (by simp)).trans (by simpa using heap_alloc_new w _))
  · exact (((Below.refl _ _).alloc (Nat.le_refl _) _).alloc (by simp) _).alloc (by simp; omega) _
theorem PW.pos {w : World} {s : ByteArray} {k : Nat} {r c : Int} {wr : World} (h : PW w s k r c wr) : wr.iterPos (w.heap.size + 2) = k := by simp [World.iterPos, h.it]
/-- the cells, as the walk asks for them -/
theorem PW.cells {w : World} {s : ByteArray} {k : Nat} {r c : Int} {wr : World} (h : PW w s k r c wr) :
    wr.cell? ⟨w.heap.size + 1, 0, .none⟩ = some (.int .i64 r) ∧ wr.cell? ⟨w.heap.size + 1, 1, .none⟩ = some (.int .i64 c) ∧ wr.cell? ⟨w.heap.size, 0, .none⟩ = some (.int .i64 0) ∧ wr.cell? ⟨w.heap.size, 1, .none⟩ = some (.int .i64 0) ∧
      (∀ j, wr.frozen? ⟨w.heap.size + 1, j, .none⟩ = false) ∧ (∀ j, wr.frozen? ⟨w.heap.size, j, .none⟩ = false) := by
  have h1 := h.cl
  have h2 := h.rs
  refine ⟨by simp [World.cell?, h1], by simp [World.cell?, h1], by simp [World.cell?, h2], by simp [World.cell?, h2], fun j => by simp [World.frozen?, h1], fun j => by simp [World.frozen?, h2]⟩

set_option maxHeartbeats 400000 in
theorem parse_long (s : ByteArray) (h : 6 < s.size) (hm : s.size ≤ maxLen) (w : World) :
    Calls Tryz.prog 84 #[.string s] w fun e w' => e = .returned (.tuple #[.agg #[.int .i64 (pRow s.data.toList), .int .i64 (pCol s.data.toList)], .bool (pOk s.data.toList)]) ∧ Below w.heap.size w w' := by
  unfold maxLen at hm
  have hp := Lib.hid (show parse s.data.toList = .none by unfold parse; rw [if_pos (by simpa using h)])
  go_enter Tryz.func84, Tryz.ntmps84
  go_wp2
  all_goals refine bodyPost_ret (v := .tuple #[.agg #[.int .i64 (pRow s.data.toList), .int .i64 (pCol s.data.toList)], .bool (pOk s.data.toList)]) ?_ rfl ⟨rfl, by (repeat (first | (with_reducible exact Below.refl _ _) | (with_reducible refine Below.alloc ?_ (by first | omega | (dsimp only; omega) | (simp <;> omega)) _) | (with_reducible refine Below.setCell ?_ (by first | omega | (dsimp only; omega) | (simp <;> omega)) _) | (with_reducible refine Below.drew ?_) | (with_reducible refine below_drewN ?_ _) | (with_reducible refine Below.trans ?_ (Below.mono (by assumption) (by first | omega | (dsimp only; omega) | (simp <;> omega))))))⟩
  all_goals simp [results, Tryz.results84, go_sem, pRow, pCol, pOk, hp.out]

set_option maxHeartbeats 1000000 in
theorem parse_short (s : ByteArray) (h : s.size ≤ 6) (w : World) :
    Calls Tryz.prog 84 #[.string s] w fun e w' => e = .returned (.tuple #[.agg #[.int .i64 (pRow s.data.toList), .int .i64 (pCol s.data.toList)], .bool (pOk s.data.toList)]) ∧ Below w.heap.size w w' := by
  go_enter Tryz.func84, Tryz.ntmps84
  go_wp2
  go_loopw [5] (fun d wr => ∃ k c r dn : Nat, k ≤ s.size ∧ runL (s.data.toList.take k) = some (c, r, dn) ∧ d = .int .i64 dn ∧ PW w s k r c wr) (fun _ wr => s.size - wr.iterPos (w.heap.size + 2))
  case atStart =>
    exact ⟨0, 0, 0, 0, Nat.zero_le _, by simp [runL], rfl, PW.start w s⟩
  case round =>
    obtain ⟨k, c, r, dn, hk, hrun, rfl, hw⟩ := hrel
    obtain ⟨bc, br, bd⟩ := run_small hrun (by simp; omega)
    obtain ⟨g1, g2, g3, g4, g5, g6⟩ := hw.cells
    have hrun' := Lib.hid hrun
    clear hrun
    by_cases hlt : k < s.size
    · have hb := s[k].toNat_lt
      by_cases ha : s[k].toNat < 128
      · have hnx : ∀ ty, (Instr.next (.pointer (some ⟨w.heap.size + 1 + 1, 0, .none⟩)) true ty).run Tryz.prog wr = _ := fun ty => Lib.run_next_ascii_at wr (w.heap.size + 2) s k ty hw.it hlt ha
        have q1 := fun j o (hj : j ≠ w.heap.size + 2) => iterAt_cell wr (w.heap.size + 2) j o s (k + 1) hj
        have q2 := fun j o (hj : j ≠ w.heap.size + 2) => iterAt_frozen wr (w.heap.size + 2) j o s (k + 1) hj
        have hw' := hw.next (k + 1)
        have hs := Lib.hid (run_snoc hlt)
        by_cases b1 : 65 ≤ s[k].toNat
        · by_cases b2 : s[k].toNat ≤ 90
          · by_cases d0 : dn = 0
            · subst d0
              go_wp2
              go_roundw
              case rel =>
                refine ⟨k + 1, c * 26 + (s[k].toNat - 65) + 1, r, 0, by omega, by rw [hs.out, hrun'.out]; simp only [stp]; rw [if_pos ⟨b1, b2, trivial⟩], rfl, ?_⟩
                rw [show ((c * 26 + (s[k].toNat - 65) + 1 : Nat) : Int) = (c : Int) * 26 + ((s[k].toNat : Int) - 65) + 1 from by omega]
                exact hw'.setCol _
              case measure =>
                rw [(hw'.setCol _).pos, hw.pos]
                omega
            · have e0 : ((dn : Int) == 0) = false := by simp; omega
              have hp := Lib.hid (parse_falls hlt (by rw [hrun'.out]; simp only [stp]; rw [if_neg (by omega), if_neg (by omega)]))
              have hbl := hw'.bl
              go_wp2
              all_goals refine bodyPost_ret (v := .tuple #[.agg #[.int .i64 (pRow s.data.toList), .int .i64 (pCol s.data.toList)], .bool (pOk s.data.toList)]) ?_ rfl ⟨rfl, by (repeat (first | (with_reducible exact Below.refl _ _) | (with_reducible refine Below.alloc ?_ (by first | omega | (dsimp only; omega) | (simp <;> omega)) _) | (with_reducible refine Below.setCell ?_ (by first | omega | (dsimp only; omega) | (simp <;> omega)) _) | (with_reducible refine Below.drew ?_) | (with_reducible refine below_drewN ?_ _) | (with_reducible refine Below.trans ?_ (Below.mono (by assumption) (by first | omega | (dsimp only; omega) | (simp <;> omega))))))⟩
              all_goals simp [results, Tryz.results84, go_sem, pRow, pCol, pOk, hp.out, *]
          · have hp := Lib.hid (parse_falls hlt (by rw [hrun'.out]; simp only [stp]; rw [if_neg (by omega), if_neg (by omega)]))
            have hbl := hw'.bl
            go_wp2
            all_goals refine bodyPost_ret (v := .tuple #[.agg #[.int .i64 (pRow s.data.toList), .int .i64 (pCol s.data.toList)], .bool (pOk s.data.toList)]) ?_ rfl ⟨rfl, by (repeat (first | (with_reducible exact Below.refl _ _) | (with_reducible refine Below.alloc ?_ (by first | omega | (dsimp only; omega) | (simp <;> omega)) _) | (with_reducible refine Below.setCell ?_ (by first | omega | (dsimp only; omega) | (simp <;> omega)) _) | (with_reducible refine Below.drew ?_) | (with_reducible refine below_drewN ?_ _) | (with_reducible refine Below.trans ?_ (Below.mono (by assumption) (by first | omega | (dsimp only; omega) | (simp <;> omega))))))⟩
            all_goals simp [results, Tryz.results84, go_sem, pRow, pCol, pOk, hp.out, *]
        · by_cases b3 : 48 ≤ s[k].toNat
          · by_cases b4 : s[k].toNat ≤ 57
            · by_cases d0 : dn = 0
              · subst d0
                by_cases b5 : s[k].toNat = 48
                · have e5 : ((s[k].toNat : Int) == 48) = true := by simp; omega
                  have hp := Lib.hid (parse_falls hlt (by rw [hrun'.out]; simp only [stp]; rw [if_neg (by omega), if_pos ⟨by omega, by omega⟩, if_pos ⟨by first | trivial | omega, by omega⟩]))
                  have hbl := hw'.bl
                  go_wp2
                  all_goals refine bodyPost_ret (v := .tuple #[.agg #[.int .i64 (pRow s.data.toList), .int .i64 (pCol s.data.toList)], .bool (pOk s.data.toList)]) ?_ rfl ⟨rfl, by (repeat (first | (with_reducible exact Below.refl _ _) | (with_reducible refine Below.alloc ?_ (by first | omega | (dsimp only; omega) | (simp <;> omega)) _) | (with_reducible refine Below.setCell ?_ (by first | omega | (dsimp only; omega) | (simp <;> omega)) _) | (with_reducible refine Below.drew ?_) | (with_reducible refine below_drewN ?_ _) | (with_reducible refine Below.trans ?_ (Below.mono (by assumption) (by first | omega | (dsimp only; omega) | (simp <;> omega))))))⟩
                  all_goals simp [results, Tryz.results84, go_sem, pRow, pCol, pOk, hp.out, *]
                · have e5 : ((s[k].toNat : Int) == 48) = false := by simp; omega
                  go_wp2
                  go_roundw
                  case rel =>
                    refine ⟨k + 1, c, r * 10 + (s[k].toNat - 48), 1, by omega, by rw [hs.out, hrun'.out]; simp only [stp]; rw [if_neg (by omega), if_pos ⟨by omega, by omega⟩, if_neg (by omega)], by go_num, ?_⟩
                    rw [show ((r * 10 + (s[k].toNat - 48) : Nat) : Int) = (r : Int) * 10 + ((s[k].toNat : Int) - 48) from by omega]
                    exact hw'.setRow _
                  case measure =>
                    rw [(hw'.setRow _).pos, hw.pos]
                    omega
              · have e0 : ((dn : Int) == 0) = false := by simp; omega
                go_wp2
                go_roundw
                case rel =>
                  refine ⟨k + 1, c, r * 10 + (s[k].toNat - 48), dn + 1, by omega, by rw [hs.out, hrun'.out]; simp only [stp]; rw [if_neg (by omega), if_pos ⟨by omega, by omega⟩, if_neg (by omega)], by go_num, ?_⟩
                  rw [show ((r * 10 + (s[k].toNat - 48) : Nat) : Int) = (r : Int) * 10 + ((s[k].toNat : Int) - 48) from by omega]
                  exact hw'.setRow _
                case measure =>
                  rw [(hw'.setRow _).pos, hw.pos]
                  omega
            · have hp := Lib.hid (parse_falls hlt (by rw [hrun'.out]; simp only [stp]; rw [if_neg (by omega), if_neg (by omega)]))
              have hbl := hw'.bl
              go_wp2
              all_goals refine bodyPost_ret (v := .tuple #[.agg #[.int .i64 (pRow s.data.toList), .int .i64 (pCol s.data.toList)], .bool (pOk s.data.toList)]) ?_ rfl ⟨rfl, by (repeat (first | (with_reducible exact Below.refl _ _) | (with_reducible refine Below.alloc ?_ (by first | omega | (dsimp only; omega) | (simp <;> omega)) _) | (with_reducible refine Below.setCell ?_ (by first | omega | (dsimp only; omega) | (simp <;> omega)) _) | (with_reducible refine Below.drew ?_) | (with_reducible refine below_drewN ?_ _) | (with_reducible refine Below.trans ?_ (Below.mono (by assumption) (by first | omega | (dsimp only; omega) | (simp <;> omega))))))⟩
              all_goals simp [results, Tryz.results84, go_sem, pRow, pCol, pOk, hp.out, *]
          · have hp := Lib.hid (parse_falls hlt (by rw [hrun'.out]; simp only [stp]; rw [if_neg (by omega), if_neg (by omega)]))
            have hbl := hw'.bl
            go_wp2
            all_goals refine bodyPost_ret (v := .tuple #[.agg #[.int .i64 (pRow s.data.toList), .int .i64 (pCol s.data.toList)], .bool (pOk s.data.toList)]) ?_ rfl ⟨rfl, by (repeat (first | (with_reducible exact Below.refl _ _) | (with_reducible refine Below.alloc ?_ (by first | omega | (dsimp only; omega) | (simp <;> omega)) _) | (with_reducible refine Below.setCell ?_ (by first | omega | (dsimp only; omega) | (simp <;> omega)) _) | (with_reducible refine Below.drew ?_) | (with_reducible refine below_drewN ?_ _) | (with_reducible refine Below.trans ?_ (Below.mono (by assumption) (by first | omega | (dsimp only; omega) | (simp <;> omega))))))⟩
            all_goals simp [results, Tryz.results84, go_sem, pRow, pCol, pOk, hp.out, *]
      · have hR := decode_high s k hlt (by omega)
        have hRl := decode_le s k
        have hnx : ∀ ty, (Instr.next (.pointer (some ⟨w.heap.size + 1 + 1, 0, .none⟩)) true ty).run Tryz.prog wr = _ := fun ty => Lib.run_next_any_at wr (w.heap.size + 2) s k ty hw.it hlt
        have q1 := fun j o (hj : j ≠ w.heap.size + 2) => iterAt_cell wr (w.heap.size + 2) j o s (k + (Utf8.decode s k).2) hj
        have q2 := fun j o (hj : j ≠ w.heap.size + 2) => iterAt_frozen wr (w.heap.size + 2) j o s (k + (Utf8.decode s k).2) hj
        have hw' := hw.next (k + (Utf8.decode s k).2)
        obtain ⟨hR, _⟩ := hR
        have hp := Lib.hid (parse_falls hlt (by rw [hrun'.out]; simp only [stp]; rw [if_neg (by omega), if_neg (by omega)]))
        have hbl := hw'.bl
        go_wp2
        all_goals refine bodyPost_ret (v := .tuple #[.agg #[.int .i64 (pRow s.data.toList), .int .i64 (pCol s.data.toList)], .bool (pOk s.data.toList)]) ?_ rfl ⟨rfl, by (repeat (first | (with_reducible exact Below.refl _ _) | (with_reducible refine Below.alloc ?_ (by first | omega | (dsimp only; omega) | (simp <;> omega)) _) | (with_reducible refine Below.setCell ?_ (by first | omega | (dsimp only; omega) | (simp <;> omega)) _) | (with_reducible refine Below.drew ?_) | (with_reducible refine below_drewN ?_ _) | (with_reducible refine Below.trans ?_ (Below.mono (by assumption) (by first | omega | (dsimp only; omega) | (simp <;> omega))))))⟩
        all_goals simp [results, Tryz.results84, go_sem, pRow, pCol, pOk, hp.out, *]
    · have hnx : ∀ ty, (Instr.next (.pointer (some ⟨w.heap.size + 1 + 1, 0, .none⟩)) true ty).run Tryz.prog wr = _ := fun ty => Lib.run_next_end_at wr (w.heap.size + 2) s k ty hw.it hlt
      have hp := Lib.hid (parse_runs h (by omega) hrun'.out)
      have hbl := hw.bl
      have hz0 : w.heap.size + 2 ≤ wr.heap.size := by have := hw.sz; omega
      cases hmb : mayN r c
      · have hm2 : mayB r c = false := (mayB_nat r c).trans hmb
        go_wp2_with (go_at_call 92; refine (may_any _ _ _).mono ?_; rintro e w1 ⟨rfl, hb⟩; obtain ⟨hc, hf, hz⟩ := bkeep hb (w.heap.size + 2) (by first | omega | (simp <;> omega)))
        all_goals refine bodyPost_ret (v := .tuple #[.agg #[.int .i64 (pRow s.data.toList), .int .i64 (pCol s.data.toList)], .bool (pOk s.data.toList)]) ?_ rfl ⟨rfl, by (repeat (first | (with_reducible exact Below.refl _ _) | (with_reducible refine Below.alloc ?_ (by first | omega | (dsimp only; omega) | (simp <;> omega)) _) | (with_reducible refine Below.setCell ?_ (by first | omega | (dsimp only; omega) | (simp <;> omega)) _) | (with_reducible refine Below.drew ?_) | (with_reducible refine below_drewN ?_ _) | (with_reducible refine Below.trans ?_ (Below.mono (by assumption) (by first | omega | (dsimp only; omega) | (simp <;> omega))))))⟩
        all_goals simp [results, Tryz.results84, go_sem, pRow, pCol, pOk, hp.out, *]
      · have hm2 : mayB r c = true := (mayB_nat r c).trans hmb
        go_wp2_with (go_at_call 92; refine (may_any _ _ _).mono ?_; rintro e w1 ⟨rfl, hb⟩; obtain ⟨hc, hf, hz⟩ := bkeep hb (w.heap.size + 2) (by first | omega | (simp <;> omega)))
        all_goals refine bodyPost_ret (v := .tuple #[.agg #[.int .i64 (pRow s.data.toList), .int .i64 (pCol s.data.toList)], .bool (pOk s.data.toList)]) ?_ rfl ⟨rfl, by (repeat (first | (with_reducible exact Below.refl _ _) | (with_reducible refine Below.alloc ?_ (by first | omega | (dsimp only; omega) | (simp <;> omega)) _) | (with_reducible refine Below.setCell ?_ (by first | omega | (dsimp only; omega) | (simp <;> omega)) _) | (with_reducible refine Below.drew ?_) | (with_reducible refine below_drewN ?_ _) | (with_reducible refine Below.trans ?_ (Below.mono (by assumption) (by first | omega | (dsimp only; omega) | (simp <;> omega))))))⟩
        all_goals simp [results, Tryz.results84, go_sem, pRow, pCol, pOk, hp.out, *]
end Go.Proofs.YtiekhbagpmnboaaGreatDoor
