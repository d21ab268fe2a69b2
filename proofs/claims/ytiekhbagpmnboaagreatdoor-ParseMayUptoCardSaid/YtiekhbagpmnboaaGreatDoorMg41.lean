/-
  refs: the row of parts, plain; refs: may whole.
-/
import Derived.Test.YtiekhbagpmnboaaGreatDoorMg2
import Derived.Test.YtiekhbagpmnboaaGreatDoorRows
import Derived.Test.YtiekhbagpmnboaaGreatDoorMg0
import Derived.Test.YtiekhbagpmnboaaGreatDoorProg
import Derived.Test.YtiekhbagpmnboaaGreatDoorShelf
import Derived.Test.YtiekhbagpmnboaaGreatDoorCutW
import Derived.Test.YtiekhbagpmnboaaGreatDoorAddrC
import Derived.Test.YtiekhbagpmnboaaGreatDoorNames
import Derived.Test.YtiekhbagpmnboaaGreatDoorParseW
import Derived.Test.YtiekhbagpmnboaaGreatDoorPRect
import Derived.Test.YtiekhbagpmnboaaGreatDoorValA
import Derived.Test.YtiekhbagpmnboaaGreatDoorValB
import Derived.Test.YtiekhbagpmnboaaGreatDoorValD
import Derived.Test.YtiekhbagpmnboaaGreatDoorLexP
import Derived.Test.YtiekhbagpmnboaaGreatDoorMg12
import Derived.Test.YtiekhbagpmnboaaGreatDoorMg28
import Derived.Test.YtiekhbagpmnboaaGreatDoorLexS
import Derived.Test.YtiekhbagpmnboaaGreatDoorRefN
import Derived.Test.YtiekhbagpmnboaaGreatDoorRefM
import Derived.Test.YtiekhbagpmnboaaGreatDoorRefY
import Derived.WalkSpells
import Derived.WalkLawsBesides
import Derived.StillTactics
import Derived.Laws.Pointers
import Derived.Deep.RegionHeld3
import Derived.Deep.QuietTactic
import Derived.BigQuiet
import Derived.RowKit3
import Derived.Lib.Hide
import Derived.Lib.OthersKept
import Derived.OwnWalk
import Derived.Lib.IndexLaws
import Derived.Lib.ItoaMem
import Derived.Lib.TrimByte
import Derived.Lib.SlTrimSet
import Derived.Lib.ParseIntB
import Derived.WalkKit
import Derived.ProofKit
import Derived.OpenShut
import Derived.Carry
import Derived.ChangeSame
import Derived.Deep.Draws
import Derived.Shelf.Strings.Builder1
import Derived.Shelf.Strings.Trim
import Derived.Shelf.Small.Utf8
import Derived.Shelf.Small.Strs
import Derived.Shelf.Small.Wraps
import Derived.Shelf.Strings.BuilderF
import Derived.Shelf.Strings.BuilderK
import Derived.Shelf.Strconv.Itoa0
import Derived.Shelf.Strconv.Itoa1
import Derived.Shelf.LaysM
import Derived.Shelf.Strconv.Itoa2
import Derived.Shelf.Strconv.Itoa3
import Derived.Ground.MpProg
import Derived.Shelf.Pu.ParseUintPublic10
import Derived.Shelf.Strings.Search1
import Derived.Shelf.Strings.Search2
import Derived.Shelf.Strings.Cut
import Derived.Shelf.Strings.Shaped
import Derived.Shelf.Strings.Prefix
import Derived.Shelf.Strings.Runes
import Derived.Shelf.Strings.AsciiSet
import Derived.Shelf.Unicode.DecodeSlow
import Derived.Lib.ItoaNum
import Derived.Maps.OwnSet
import Derived.Maps.AppendAt
namespace Go.Proofs.YtiekhbagpmnboaaGreatDoor
open Go.RowKit

def plRow (l : List PL) : List Value := (l.map PL.cs).flatten
theorem plRow_app (a b : List PL) : plRow (a ++ b) = plRow a ++ plRow b := by simp [plRow]
theorem plRow_one (p : PL) : plRow [p] = p.cs := by simp [plRow]
theorem plRow_len : ∀ l : List PL, (plRow l).length = l.length * 3
  | [] => rfl
  | p :: l => by
    rw [show plRow (p :: l) = p.cs ++ plRow l from rfl, List.length_append, plRow_len l, show p.cs.length = 3 from rfl, List.length_cons, Nat.succ_mul, Nat.add_comm]
theorem step_bad {st : List PL} {n : NL} (h : n.may = false) : stepP st n = none := by unfold stepP; rw [if_pos h]
theorem step_rect {st : List PL} {n : NL} (h : n.may = true) (hk : n.kind = 3) : stepP st n = some (st ++ [⟨0, 7, true⟩]) := by unfold stepP; rw [if_neg (by simp [h]), if_pos hk]
theorem step_leaf {st : List PL} {n : NL} (h : n.may = true) (h3 : n.kind ≠ 3) (h4 : n.kind ≠ 4) (h5 : n.kind ≠ 5) : stepP st n = some (st ++ [⟨0, 7, false⟩]) := by unfold stepP; rw [if_neg (by simp [h]), if_neg h3, if_neg h4, if_neg h5]
theorem step_one {s : List PL} {b : PL} {n : NL} (h : n.may = true) (hk : n.kind = 4) (ho : n.op = 1 ∨ n.op = 2) : stepP (s ++ [b]) n = if b.many then none else some (s ++ [⟨b.inside (levelI n.op), levelI n.op, false⟩]) := by unfold stepP; rw [if_neg (by simp [h]), if_neg (by omega), if_pos hk, if_pos ho]; simp
theorem step_one_no {n : NL} (h : n.may = true) (hk : n.kind = 4) : stepP [] n = none := by unfold stepP; rw [if_neg (by simp [h]), if_neg (by omega), if_pos hk]; simp
theorem step_two {s : List PL} {a b : PL} {n : NL} (h : n.may = true) (hk : n.kind = 4) (ho : ¬ (n.op = 1 ∨ n.op = 2)) : stepP (s ++ [a, b]) n = if a.many || b.many then none else some (s ++ [⟨max (a.inside (levelI n.op)) (b.inside (levelI n.op + 1)), levelI n.op, false⟩]) := by unfold stepP; rw [if_neg (by simp [h]), if_neg (by omega), if_pos hk, if_neg ho]; simp
theorem step_two_no {a : PL} {n : NL} (h : n.may = true) (hk : n.kind = 4) (ho : ¬ (n.op = 1 ∨ n.op = 2)) : stepP [a] n = none := by unfold stepP; rw [if_neg (by simp [h]), if_neg (by omega), if_pos hk, if_neg ho]; simp
theorem step_two_no0 {n : NL} (h : n.may = true) (hk : n.kind = 4) (ho : ¬ (n.op = 1 ∨ n.op = 2)) : stepP [] n = none := by unfold stepP; rw [if_neg (by simp [h]), if_neg (by omega), if_pos hk, if_neg ho]; simp
theorem op_of {n : NL} (h : n.may = true) (hk : n.kind = 4) : 1 ≤ n.op ∧ n.op ≤ 13 := by
  unfold NL.may at h
  rw [if_neg (by omega), if_neg (by omega), if_neg (by omega), if_pos hk] at h
  simp at h
  exact ⟨h.1.1.1.1.1, h.1.1.1.1.2⟩
theorem args_of {n : NL} (h : n.may = true) (hk : n.kind = 5) : 0 ≤ n.args ∧ n.args ≤ 16 ∧ namedB n.name.data.toList = true := by
  unfold NL.may at h
  rw [if_neg (by omega), if_neg (by omega), if_neg (by omega), if_neg (by omega), if_pos hk] at h
  simp at h
  exact ⟨h.1.1.1.1.1.2, h.1.1.1.1.2, h.1.1.1.1.1.1⟩
theorem two_last (st : List PL) : st = [] ∨ (∃ a, st = [a]) ∨ ∃ s a b, st = s ++ [a, b] := by
  rcases st.eq_nil_or_concat with rfl | ⟨s, b, rfl⟩
  · exact Or.inl rfl
  · rcases s.eq_nil_or_concat with rfl | ⟨s, a, rfl⟩
    · exact Or.inr (Or.inl ⟨b, rfl⟩)
    · exact Or.inr (Or.inr ⟨s, a, b, by simp⟩)
theorem step_call_no {st : List PL} {n : NL} (h : n.may = true) (hk : n.kind = 5) (hl : st.length < n.args.toNat) : stepP st n = none := by unfold stepP; rw [if_neg (by simp [h]), if_neg (by omega), if_neg (by omega), if_pos hk, if_pos hl]
theorem step_call {s t : List PL} {n : NL} (h : n.may = true) (hk : n.kind = 5) (hl : t.length = n.args.toNat) : stepP (s ++ t) n = some (s ++ [⟨deepL t + 1, 7, false⟩]) := by
  unfold stepP
  rw [if_neg (by simp [h]), if_neg (by omega), if_neg (by omega), if_pos hk, if_neg (by rw [List.length_append]; omega), show (s ++ t).length - n.args.toNat = s.length by rw [List.length_append]; omega]
  simp
theorem deep_snoc (l : List PL) (p : PL) : deepL (l ++ [p]) = max (deepL l) p.depth := by simp [deepL]
theorem deep_gen (k : Int) : ∀ (l : List PL) (d : Int), (∀ p ∈ l, 0 ≤ p.depth ∧ p.depth ≤ k) → 0 ≤ d → d ≤ k → 0 ≤ l.foldl (fun d p => max d p.depth) d ∧ l.foldl (fun d p => max d p.depth) d ≤ k
  | [], d, _, h0, h1 => ⟨h0, h1⟩
  | p :: l, d, h, h0, h1 => by
    have := h p (by simp)
    exact deep_gen k l (max d p.depth) (fun q hq => h q (by simp [hq])) (by omega) (by omega)
theorem deep_le {k : Int} {l : List PL} (h : ∀ p ∈ l, 0 ≤ p.depth ∧ p.depth ≤ k) (hk : 0 ≤ k) : 0 ≤ deepL l ∧ deepL l ≤ k := deep_gen k l 0 h (by omega) hk
theorem inside_le {k : Int} {p : PL} (h : 0 ≤ p.depth ∧ p.depth ≤ k) (x : Int) : 0 ≤ p.inside x ∧ p.inside x ≤ k + 1 := by unfold PL.inside; split <;> omega
def PDeep (k : Int) (st : List PL) : Prop := ∀ p ∈ st, 0 ≤ p.depth ∧ p.depth ≤ k
theorem PDeep.mono {k k' : Int} {st : List PL} (h : PDeep k st) (hk : k ≤ k') : PDeep k' st := fun p hp => ⟨(h p hp).1, Int.le_trans (h p hp).2 hk⟩
theorem PDeep.app {k : Int} {s : List PL} {p : PL} (h : PDeep k s) (h0 : 0 ≤ p.depth) (h1 : p.depth ≤ k) : PDeep k (s ++ [p]) := fun q hq => by
  rcases List.mem_append.1 hq with hq | hq
  · exact h q hq
  · rw [List.mem_singleton.1 hq]; exact ⟨h0, h1⟩
theorem PDeep.left {k : Int} {s t : List PL} (h : PDeep k (s ++ t)) : PDeep k s := fun q hq => h q (List.mem_append_left _ hq)
theorem PDeep.right {k : Int} {s t : List PL} (h : PDeep k (s ++ t)) : PDeep k t := fun q hq => h q (List.mem_append_right _ hq)
theorem step_len {st st' : List PL} {n : NL} (h : stepP st n = some st') : st'.length ≤ st.length + 1 := by
  unfold stepP at h
  split at h
  · cases h
  split at h
  · cases h; simp
  split at h
  · split at h
    · split at h
      · rename_i b s e
        have he : st.length = s.length + 1 := by have := congrArg List.length e; simpa using this
        split at h
        · cases h
        · cases h; simp <;> omega
      · cases h
    · split at h
      · rename_i b a s e
        have he : st.length = s.length + 2 := by have := congrArg List.length e; simpa using this
        split at h
        · cases h
        · cases h; simp <;> omega
      · cases h
  split at h
  · split at h
    · cases h
    · cases h; simp <;> omega
  · cases h; simp
theorem putP_take (ns : List NL) (j : Nat) (n : NL) (h : ns[j]? = some n) : putP (ns.take (j + 1)) = (putP (ns.take j)).bind fun s => stepP s n := by
  unfold putP
  rw [List.take_add_one, h, List.foldl_append]
  rfl
theorem putP_no (ns : List NL) (j : Nat) (h : putP (ns.take j) = none) : putP ns = none := by
  have e : ns = ns.take j ++ ns.drop j := (List.take_append_drop j ns).symm
  have key : ∀ l : List NL, l.foldl (fun st n => st.bind fun s => stepP s n) (none : Option (List PL)) = none := fun l => by
    induction l with
    | nil => rfl
    | cons n l ih => exact ih
  rw [e]
  unfold putP at h ⊢
  rw [List.foldl_append, h]
  exact key _
theorem depth_no {ns : List NL} {j : Nat} (h : putP (ns.take j) = none) : depthP ns = none := by
  unfold depthP
  rw [putP_no ns j h]
  split <;> rfl
/-- a row whose last elements are let go -/
theorem ownsRow_cut {w : World} {base : Nat} {e : TypeId} {size n m cap : Nat} {A : Option Addr} {xs ys zs : List Value} (h : w.ownsRow base e size (.slice A n cap) n xs) (hx : xs = ys ++ zs) (hy : ys.length = m * size) (hm : m ≤ n) (h0 : A = none → m = 0) : w.ownsRow base e size (.slice A m cap) m ys := by
  obtain ⟨h1, h2⟩ := h
  rcases h2 with ⟨hv, hn⟩ | ⟨g, cap', cur, hv, hg, hh, hle, hmx, hsz, htk⟩
  · cases hv
    have := h0 rfl
    subst this
    exact ⟨hy, .inl ⟨rfl, rfl⟩⟩
  · cases hv
    refine ⟨hy, .inr ⟨g, _, cur, rfl, hg, hh, by omega, hmx, hsz, ?_⟩⟩
    have h3 : (cur.toList.take (n * size)).take (m * size) = xs.take (m * size) := by rw [htk]
    rw [List.take_take, Nat.min_eq_left (Nat.mul_le_mul_right _ hm)] at h3
    rw [h3, hx, ← hy, List.take_left]
end Go.Proofs.YtiekhbagpmnboaaGreatDoor
namespace Go.Proofs.YtiekhbagpmnboaaGreatDoor
open Go.RowKit

def NL.ok (n : NL) : Prop := n.v.ok ∧ n.name.size ≤ 9223372036854775807
set_option maxHeartbeats 1000000 in
theorem refmay (n : NL) (ho : n.ok) (z : Bool) (h : n.may = z) (w : World) : Calls Tryz.prog 62 #[.agg #[.int .i64 n.kind, .int .i64 n.v.t, .int .i64 n.v.n, .string n.v.s, .bool n.v.b, .int .i64 n.v.c, .int .i64 n.r, .int .i64 n.c, .int .i64 n.t, .int .i64 n.l, .int .i64 n.b, .int .i64 n.q, .int .i64 n.op, .string n.name, .int .i64 n.args]] w fun e w' => e = .returned (.bool z) ∧ Below w.heap.size w w' := by
  subst h
  obtain ⟨hn, hs⟩ := ho
  obtain ⟨kd, ⟨t, m, s, b, c⟩, r, k, rt, rl, rb, rr, op, nm, ag⟩ := n
  obtain ⟨l, rfl⟩ : ∃ l : List UInt8, nm = ⟨l.toArray⟩ := ⟨nm.data.toList, by cases nm; simp⟩
  have hl : l.length ≤ 9223372036854775807 := by simpa [ByteArray.size] using hs
  clear hs
  have key : ∀ (x y : Bool), x = y → ∀ ar W, Calls Tryz.prog 62 ar W (fun e w' => e = .returned (.bool x) ∧ Below W.heap.size W w') → Calls Tryz.prog 62 ar W (fun e w' => e = .returned (.bool y) ∧ Below W.heap.size W w') := fun x y e _ _ h => e ▸ h
  by_cases k1 : kd = 1
  · subst k1
    cases h1 : vMay t m s b c
    · exact key _ _ (by simp [NL.may, VL.may, h1]) _ _ (rmay_v0 t m s b c r k rt rl rb rr op l ag hn h1 w)
    · by_cases h2 : t = 0
      · exact key _ _ (by simp [NL.may, h2]) _ _ (rmay_v1a t m s b c r k rt rl rb rr op l ag hn h1 h2 w)
      · by_cases h3 : 0 ≤ m
        · by_cases h4 : c = 1
          · exact key _ _ (by simp [NL.may, h4]) _ _ (rmay_v1c t m s b c r k rt rl rb rr op l ag hn h1 h2 h3 h4 w)
          · exact key _ _ (by simp [NL.may, VL.may, NL.noC, NL.noR, NL.noO, NL.noN, h1, h2, h3, h4]) _ _ (rmay_v2 t m s b c r k rt rl rb rr op l ag hn h1 h2 h3 h4 w)
        · exact key _ _ (by simp [NL.may, h3]) _ _ (rmay_v1b t m s b c r k rt rl rb rr op l ag hn h1 h2 (by omega) w)
  by_cases k2 : kd = 2
  · subst k2
    cases h1 : mayB r k
    · exact key _ _ (by simp [NL.may, h1]) _ _ (rmay_c0 t m s b c r k rt rl rb rr op l ag h1 w)
    · exact key _ _ (by simp [NL.may, NL.noV, NL.noR, NL.noO, NL.noN, vEq, h1]) _ _ (rmay_c1 t m s b c r k rt rl rb rr op l ag h1 w)
  by_cases k3 : kd = 3
  · subst k3
    cases h1 : mayRectB rt rl rb rr
    · exact key _ _ (by simp [NL.may, h1]) _ _ (rmay_r0 t m s b c r k rt rl rb rr op l ag h1 w)
    · exact key _ _ (by simp [NL.may, NL.noV, NL.noC, NL.noO, NL.noN, vEq, h1]) _ _ (rmay_r1 t m s b c r k rt rl rb rr op l ag h1 w)
  by_cases k4 : kd = 4
  · subst k4
    by_cases h1 : op < 1
    · exact key _ _ (by have h2 : ¬ 1 ≤ op := by omega
                        simp [NL.may, h2]) _ _ (rmay_o0 t m s b c r k rt rl rb rr op l ag h1 w)
    · by_cases h2 : op > 13
      · exact key _ _ (by have h3 : ¬ op ≤ 13 := by omega
                          simp [NL.may, h3]) _ _ (rmay_o1 t m s b c r k rt rl rb rr op l ag h1 h2 w)
      · exact key _ _ (by have h3 : op ≤ 13 := by omega
                          have h4 : 1 ≤ op := by omega
                          simp [NL.may, NL.noV, NL.noC, NL.noR, NL.noN, vEq, h3, h4]) _ _ (rmay_o2 t m s b c r k rt rl rb rr op l ag h1 h2 w)
  by_cases k5 : kd = 5
  · subst k5
    cases h1 : namedB l
    · exact key _ _ (by simp [NL.may, h1]) _ _ (rmay_n0 t m s b c r k rt rl rb rr op l ag hl h1 w)
    · by_cases h2 : ag < 0
      · exact key _ _ (by have h4 : ¬ 0 ≤ ag := by omega
                          simp [NL.may, h4]) _ _ (rmay_n1 t m s b c r k rt rl rb rr op l ag hl h1 h2 w)
      · by_cases h3 : ag > 16
        · exact key _ _ (by have h4 : ¬ ag ≤ 16 := by omega
                            simp [NL.may, h4]) _ _ (rmay_n2 t m s b c r k rt rl rb rr op l ag hl h1 h2 h3 w)
        · exact key _ _ (by have h4 : ag ≤ 16 := by omega
                            have h5 : 0 ≤ ag := by omega
                            simp [NL.may, NL.noV, NL.noC, NL.noR, NL.noO, vEq, h1, h4, h5]) _ _ (rmay_n3 t m s b c r k rt rl rb rr op l ag hl h1 h2 h3 w)
  exact key _ _ (by simp [NL.may, k1, k2, k3, k4, k5]) _ _ (rmay_no t m s b c r k rt rl rb rr op l ag kd k1 k2 k3 k4 k5 w)
end Go.Proofs.YtiekhbagpmnboaaGreatDoor
