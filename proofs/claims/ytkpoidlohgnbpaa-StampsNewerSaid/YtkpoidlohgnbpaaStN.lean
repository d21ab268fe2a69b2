/-
  stamps: the walk of StampsNewer.
-/
import Derived.Test.YtkpoidlohgnbpaaRows
import Derived.Test.YtkpoidlohgnbpaaBase
import Derived.Test.YtkpoidlohgnbpaaStK
import Derived.Test.YtkpoidlohgnbpaaAddrC
import Derived.Test.YtkpoidlohgnbpaaStC
import Derived.Test.YtkpoidlohgnbpaaStD
import Derived.Test.YtkpoidlohgnbpaaProg
import Derived.Test.YtkpoidlohgnbpaaShelf
import Derived.Test.YtkpoidlohgnbpaaStE
import Derived.Test.YtkpoidlohgnbpaaEq
import Derived.Test.YtkpoidlohgnbpaaStG
import Derived.Test.YtkpoidlohgnbpaaStF
import Derived.Test.YtkpoidlohgnbpaaStL
import Derived.Test.YtkpoidlohgnbpaaStH
import Derived.Test.YtkpoidlohgnbpaaStI
import Derived.Test.YtkpoidlohgnbpaaRowB
import Derived.Test.YtkpoidlohgnbpaaRdK
import Derived.Test.YtkpoidlohgnbpaaStB
import Derived.Outline
import Derived.Deep.CutRange
import Derived.Deep.CutBlock
import Derived.WalkSpells
import Derived.WalkLawsBesides
import Derived.StillTactics
import Derived.Laws.Pointers
import Derived.Deep.RegionHeld3
import Derived.Deep.QuietTactic
import Derived.BigQuiet
import Derived.RowKit3
import Derived.Lib.Hide
import Derived.Lib.OthersKept
import Derived.OwnWalk
import Derived.Lib.IndexLaws
import Derived.Lib.ItoaMem
import Derived.WalkKit
import Derived.ProofKit
import Derived.OpenShut
import Derived.Carry
import Derived.ChangeSame
import Derived.Deep.Draws
import Derived.DeepKeys4
import Derived.Maps.OwnSet
import Derived.Maps.AppendAt
import Derived.Maps.RangeWalk
import Derived.IntWalk
import Derived.StillTailTactics
import Derived.Shelf.Small.Bits
import Derived.Shelf.Strconv.Itoa0
import Derived.Shelf.Sort.Plain
import Derived.Ground.Names2Prog
import Derived.Shelf.Slices.SearchI
import Derived.Shelf.Slices.In.SortNone
import Derived.Shelf.Slices.Empties
import Derived.Sort.OwnSorted
import Derived.Sort.OwnSortedInts
import Derived.RangeFuncBox
import Derived.Deep.Slices
import Derived.ChangeSlices
namespace Go.Proofs.Ytkpoidlohgnbpaa
open Go.RowKit Go.Maps

abbrev WE := (Int × Int) × Int × Int
def wcs (e : WE) : List Value := [.int .i64 e.1.1, .int .i64 e.1.2, .int .i64 e.2.1, .int .i64 e.2.2]
theorem flat_set {k : Nat} : ∀ (l : List (List Value)), (∀ c ∈ l, c.length = k) → ∀ (p j : Nat) (hp : p < l.length) (u : Value), j < k → l.flatten.set (p * k + j) u = (l.set p (l[p].set j u)).flatten
  | [], _, p, j, hp, _, _ => by simp at hp
  | c :: l, h, 0, j, hp, u, hj => by
    have hc : c.length = k := h c (by simp)
    simp only [List.flatten_cons, Nat.zero_mul, Nat.zero_add, List.set_cons_zero, List.getElem_cons_zero]
    exact List.set_append_left j u (by omega)
  | c :: l, h, p + 1, j, hp, u, hj => by
    have hc : c.length = k := h c (by simp)
    have ih := flat_set l (fun c hc => h c (by simp [hc])) p j (by simpa using hp) u hj
    simp only [List.flatten_cons, List.set_cons_succ, List.getElem_cons_succ]
    have he : (p + 1) * k + j - c.length = p * k + j := by rw [hc, Nat.add_mul]; omega
    rw [List.set_append_right ((p + 1) * k + j) u (by rw [hc, Nat.add_mul]; omega), he, ih]
theorem wflat_set (l : WhenL) (p j : Nat) (hp : p < l.length) (u : Value) (hj : j < 4) (e : WE) (he : (wcs l[p]).set j u = wcs e) : (l.map wcs).flatten.set (p * 4 + j) u = ((l.set p e).map wcs).flatten := by
  rw [flat_set (k := 4) (l.map wcs) (by intro c hc; obtain ⟨x, _, rfl⟩ := List.mem_map.1 hc; rfl) p j (by simpa using hp) u hj, List.getElem_map, he, List.map_set]
theorem ownsRow_same {w w' : World} {B size n : Nat} {e : TypeId} {v : Value} {xs : List Value} (h : w.ownsRow B e size v n xs) (hs : ∀ g, v.ownBlock = some g → w'.heap[g]? = w.heap[g]?) : w'.ownsRow B e size v n xs := by
  obtain ⟨h1, h2⟩ := h
  rcases h2 with h2 | ⟨g, cap, cur, hv, hB, hh, hr⟩
  · exact ⟨h1, .inl h2⟩
  · exact ⟨h1, .inr ⟨g, cap, cur, hv, hB, by rw [hs g (by rw [hv]; rfl)]; exact hh, hr⟩⟩
theorem clk_row {w : World} {k b n : Nat} {M L T ch : Int} {f : CF} (h : ClockAt w k b n M L T f ch) {B m : Nat} {v : Value} {xs : List Value} (hv : w.ownsRow B 38 4 v m xs) (g : Nat) (hg : v.ownBlock = some g) : g < w.heap.size ∧ g ≠ k ∧ g ≠ b := by
  rcases hv.2 with ⟨rfl, _⟩ | ⟨g', cap, cur, rfl, hB, hh, hr⟩
  · simp [Value.ownBlock] at hg
  · have : g' = g := by simpa [Value.ownBlock] using hg
    subst this
    refine ⟨(Array.getElem?_eq_some_iff.1 hh).1, fun e => ?_, fun e => ?_⟩
    · have h1 := h.1
      rw [← e, hh] at h1
      injection h1 with h1
      injection h1 with _ h1 _
      exact absurd h1 (by decide)
    · obtain ⟨D, ⟨es, clock, hb, _⟩, _⟩ := h.2
      rw [← e, hh] at hb
      cases hb
theorem row_turn {w w' : World} {k b n : Nat} {M L T ch : Int} {f : CF} (h : ClockAt w k b n M L T f ch) {B m : Nat} {v : Value} {xs : List Value} (hv : w.ownsRow B 38 4 v m xs) (ht : Turn2 w w' k b) : w'.ownsRow B 38 4 v m xs :=
  ownsRow_same hv fun g hg => by
    obtain ⟨h1, h2, h3⟩ := clk_row h hv g hg
    exact ht.block g h1 h2 h3
theorem atL_found (l : WhenL) (c : Int × Int) (k : Nat) (hk : k < l.length) (h : l[k].1 = c) (hb : ∀ j (hj : j < k), (l[j]'(by omega)).1 ≠ c) : atL l c = k := by
  unfold atL
  rw [List.findIdx_eq hk]
  refine ⟨by rw [cellEq_ne]; simpa using h, fun j hj => ?_⟩
  rw [cellEq_ne]; simpa using hb j hj
theorem atL_gone (l : WhenL) (c : Int × Int) (h : ∀ j (hj : j < l.length), (l[j]).1 ≠ c) : atL l c = l.length := by
  unfold atL
  rw [List.findIdx_eq_length]
  intro e he
  obtain ⟨j, hj, rfl⟩ := List.getElem_of_mem he
  rw [cellEq_ne]; simpa using h j hj
theorem chs_x {M L T ch x : Int} {f f' : CF} {L' T' ch' : Int} {c : Int × Int} (s : ChStep M f L T ch c x f' L' T' ch') : (x = 50 ∧ M - 1 ≤ othersC f c ch) ∨ x = 0 := by
  cases s with
  | full h => exact .inl ⟨rfl, h⟩
  | next => exact .inr rfl
  | anew => exact .inr rfl
theorem nchange {M L T ch i : Int} {f f' : CF} {L' T' ch' : Int} {l : WhenL} {c : Int × Int} (hN : NInv f i l) (hi : 0 ≤ i) (hk : ClkInv M f L ch) (hc : mayB c.1 c.2 = true) (s : ChStep M f L T ch c 0 f' L' T' ch') (hp : atL l c < l.length) (o : Int) (ho : (l[atL l c]'hp).2.2 = o) :
    NInv f' (i + 1) (l.set (atL l c) (c, i + 1, o)) := by
  have h1 := atL_lt hp
  have h2 := inv_step hk hc s
  have := hN.change hi hp (by rw [h1]; exact hc) (by rw [h1]; exact chFacts hk hc s) (fun d => by have := h2.1.st d; omega)
  rw [h1, ho] at this
  exact this
theorem nchange_new {M L T ch i : Int} {f f' : CF} {L' T' ch' : Int} {l : WhenL} {c : Int × Int} (hN : NInv f i l) (hi : 0 ≤ i) (hk : ClkInv M f L ch) (hc : mayB c.1 c.2 = true) (s : ChStep M f L T ch c 0 f' L' T' ch') (hp : ¬ atL l c < l.length) :
    NInv f' (i + 1) ((l ++ [(c, 0, 0)]).set l.length (c, i + 1, 0)) := by
  have h2 := inv_step hk hc s
  have ha := hN.add (fun d => by have := hk.st d; omega) hi hc (atL_none hp)
  have hl : l.length < (l ++ [(c, (0 : Int), (0 : Int))]).length := by simp
  have e : (l ++ [(c, (0 : Int), (0 : Int))])[l.length]'hl = (c, 0, 0) := by simp
  have := ha.change hi hl (by rw [e]; exact hc) (by rw [e]; exact chFacts hk hc s) (fun d => by have := h2.1.st d; omega)
  rw [e] at this
  exact this
theorem nsee {M L ch i : Int} {f : CF} {l : WhenL} {c : Int × Int} (hN : NInv f i l) (hi : 0 ≤ i) (hk : ClkInv M f L ch) (hc : mayB c.1 c.2 = true) (hp : atL l c < l.length) (o : Int) (ho : (l[atL l c]'hp).2.1 = o) :
    NInv (updC f c (some ((getC f c).1, L))) (i + 1) (l.set (atL l c) (c, o, i + 1)) := by
  have h1 := atL_lt hp
  have := NInv.see hk hN hi hp (by rw [h1]; exact hc)
  rw [h1, ho] at this
  exact this
theorem nsee_new {M L ch i : Int} {f : CF} {l : WhenL} {c : Int × Int} (hN : NInv f i l) (hi : 0 ≤ i) (hk : ClkInv M f L ch) (hc : mayB c.1 c.2 = true) (hp : ¬ atL l c < l.length) :
    NInv (updC f c (some ((getC f c).1, L))) (i + 1) ((l ++ [(c, 0, 0)]).set l.length (c, 0, i + 1)) := by
  have ha := hN.add (fun d => by have := hk.st d; omega) hi hc (atL_none hp)
  have hl : l.length < (l ++ [(c, (0 : Int), (0 : Int))]).length := by simp
  have e : (l ++ [(c, (0 : Int), (0 : Int))])[l.length]'hl = (c, 0, 0) := by simp
  have := NInv.see hk ha hi hl (by rw [e]; exact hc)
  rw [e] at this
  exact this
theorem ClkB.store {B : Nat} {w0 w : World} {k b n : Nat} {M L T ch : Int} {f : CF} (h : ClkB B w0 w k b n M L T f ch) {g m cap : Nat} {xs : List Value} (hv : w.ownsRow B 38 4 (.slice (some ⟨g, 0, none⟩) m cap) m xs) (i : Nat) (u : Value) : ClkB B w0 (w.setCell ⟨g, i, none⟩ u) k b n M L T f ch := by
  obtain ⟨h1, h2, h3⟩ := clk_row h.clock hv g rfl
  exact ⟨h.clock.setO _ (fun e => h2 e.symm) (fun e => h3 e.symm) _, h.inv, h.past, bel_set h.below _ _ (hv.lt g rfl).1, h.size, h.cn⟩
theorem ClkB.grown {B : Nat} {w0 w w' : World} {k b n : Nat} {M L T ch : Int} {f : CF} (h : ClkB B w0 w k b n M L T f ch) {m : Nat} {v : Value} {xs : List Value} (hv : w.ownsRow B 38 4 v m xs) (hg : w.grownBy w' v.ownBlock) : ClkB B w0 w' k b n M L T f ch := by
  have hs := h.below.size
  have hB := h.size
  refine ⟨h.clock.same (hg.block k h.clock.lt (fun e => ?_)) (hg.block b h.clock.2.lt (fun e => ?_)), h.inv, h.past, bel_grown h.below (by omega) hg (fun g hgg => (hv.lt g hgg).1), h.size, h.cn⟩
  · exact (clk_row h.clock hv k e.symm).2.1 rfl
  · exact (clk_row h.clock hv b e.symm).2.2 rfl
theorem row_set {w : World} {B g cap : Nat} {l : WhenL} (h : w.ownsRow B 38 4 (.slice (some ⟨g, 0, none⟩) l.length cap) l.length (l.map wcs).flatten) (p j : Nat) (hp : p < l.length) (hj : j < 4) (u : Value) (e : WE) (he : (wcs l[p]).set j u = wcs e) : (w.setCell ⟨g, p * 4 + j, none⟩ u).ownsRow B 38 4 (.slice (some ⟨g, 0, none⟩) (l.set p e).length cap) (l.set p e).length ((l.set p e).map wcs).flatten := by
  rw [List.length_set, ← wflat_set l p j hp u hj e he]
  exact (h.stored _ _).1
theorem row_setN {w : World} {B g cap : Nat} {l : WhenL} (h : w.ownsRow B 38 4 (.slice (some ⟨g, 0, none⟩) l.length cap) l.length (l.map wcs).flatten) (p j : Nat) (hp : p < l.length) (hj : j < 4) (u : Value) (e : WE) (he : (wcs l[p]).set j u = wcs e) : (w.setCell ⟨g, p * 4 + j, none⟩ u).ownsRow B 38 4 (.slice (some ⟨g, 0, none⟩) l.length cap) (l.set p e).length ((l.set p e).map wcs).flatten := by
  have h9 := row_set h p j hp hj u e he
  rw [List.length_set] at h9 ⊢
  exact h9
theorem row_cell {w : World} {B g cap : Nat} {l : WhenL} (h : w.ownsRow B 38 4 (.slice (some ⟨g, 0, none⟩) l.length cap) l.length (l.map wcs).flatten) (p j : Nat) (hp : p < l.length) (hj : j < 4) (u : Value) (hu : (wcs l[p])[j]? = some u) : w.cell? ⟨g, p * 4 + j, none⟩ = some u := by
  rw [h.cellAt _ (by omega)]
  exact flat_at (k := 4) (l.map wcs) (by intro c hc; obtain ⟨x, _, rfl⟩ := List.mem_map.1 hc; rfl) p _ (by rw [List.getElem?_map, List.getElem?_eq_getElem hp]; rfl) j u hu
theorem row_form {w : World} {B size n cap : Nat} {e : TypeId} {A : Option Addr} {xs : List Value} (h : w.ownsRow B e size (.slice A n cap) n xs) (hn : 0 < n) : ∃ g, A = some ⟨g, 0, none⟩ := by
  rcases h.2 with ⟨_, h0⟩ | ⟨g, _, cur, hv, _⟩
  · omega
  · injection hv with h1; exact ⟨g, h1⟩
theorem when_w64 {f : CF} {i : Int} {l : WhenL} (h : NInv f i l) {e : WE} (he : e ∈ l) : W64 e.1 := by
  rcases h.cells e he with rfl | h1
  · unfold W64; simp
  · exact mayB_w64 h1
theorem newer_is (r1 c1 r2 c2 : Int) (z : Bool) {f : CF} (hz : decide ((getC f (r2, c2)).2 < (getC f (r1, c1)).1) = z) (w : World) {k b n : Nat} {M L T ch : Int} (h : ClockAt w k b n M L T f ch) (hW1 : W64 (r1, c1)) (hW2 : W64 (r2, c2)) : Calls Try.prog 12 #[.pointer (some ⟨k, 0, none⟩), .agg #[.int .i64 r1, .int .i64 c1], .agg #[.int .i64 r2, .int .i64 c2]] w fun e w' => e = .returned (.bool z) ∧ Below w.heap.size w w' :=
  (newer_any r1 c1 r2 c2 w h hW1 hW2).mono fun e w' g => ⟨by rw [g.1, hz], g.2⟩
theorem cells_new (w : World) (cs : Array Value) (t : TypeId) (j : Nat) (u : Value) (h : cs.toList[j]? = some u) : (w.alloc (.cells cs t)).cell? ((⟨w.heap.size, 0, none⟩ : Addr).add j) = some u := by
  have h2 := cell_of_row (w.alloc (.cells cs t)) w.heap.size j cs t (0, 0) (heap_alloc_new _ _)
  rw [Array.getElem?_toList] at h
  rw [h] at h2
  unfold Addr.add
  split
  · rename_i e; subst e; exact h2
  · rw [← h2, Nat.zero_add]
theorem when_info : (Try.prog.info? 38).map (fun i => (i.zero, i.size, i.bytes)) = some (some (.agg #[.int .i64 0, .int .i64 0, .int .i64 0, .int .i64 0]), 4, 32) := by kernel_rfl
set_option maxRecDepth 100000 in
set_option maxHeartbeats 1000000 in
theorem at_any (l : WhenL) (hl : l.length ≤ 4398046511104) (r c : Int) (w : World) (A : Option Addr) (cap : Nat) (hR : RdB w w.heap.size A 4 (l.map wcs)) : Calls Try.prog 7 #[.slice A l.length cap, .agg #[.int .i64 r, .int .i64 c]] w fun e w' => e = .returned (.int .i64 (atL l (r, c) : Nat)) ∧ Below w.heap.size w w' := by
  have hR' := Lib.hid hR
  clear hR
  go_enter Try.func7, Try.ntmps7
  go_wp2
  go_loopw [5] (fun i wr => ∃ j : Nat, j ≤ l.length ∧ i = .int .i64 (j : Int) ∧ (∀ m, m < j → ∀ (hm : m < l.length), l[m].1 ≠ (r, c)) ∧ ∃ q, wr = (w.alloc (.cells #[.int .i64 r, .int .i64 c] 30)).drewN q) (fun i _ => l.length - (intOf i).toNat)
  case atStart => exact ⟨0, by omega, rfl, fun m hm => absurd hm (by omega), 0, rfl⟩
  case round =>
    obtain ⟨j, hj, rfl, hno, q, hwr⟩ := hrel
    have hno' := Lib.hid hno
    clear hno
    have hb : Below w.heap.size w wr := by rw [hwr]; exact below_drewN ((Below.refl _ _).alloc (Nat.le_refl _) _) _
    have y0 : wr.cell? ⟨w.heap.size, 0, none⟩ = some (.int .i64 r) := by rw [hwr]; simp
    have y1 : wr.cell? ⟨w.heap.size, 1, none⟩ = some (.int .i64 c) := by rw [hwr]; simp
    have hwr' := Lib.hid hwr
    clear hwr
    by_cases hlt : j < l.length
    · obtain ⟨x, hx⟩ : ∃ x, l[j] = x := ⟨_, rfl⟩
      obtain ⟨eb, eo, hA2, heb, hcell⟩ := (hR'.out.below hb) j (wcs x) (by rw [List.getElem?_map, List.getElem?_eq_getElem hlt, hx]; rfl)
      obtain ⟨⟨r1, c1⟩, x3, x4⟩ := x
      obtain rfl : A = some ⟨eb, eo, none⟩ := hA2
      have u0 : wr.cell? ⟨eb, eo + j * 4, none⟩ = some (.int .i64 r1) := by simpa using hcell 0 _ rfl
      have u1 : wr.cell? ⟨eb, eo + j * 4 + 1, none⟩ = some (.int .i64 c1) := by simpa using hcell 1 _ rfl
      have hx' := Lib.hid hx
      clear hx hcell
      have hin1 : (0 : Int) ≤ j := by omega
      have hin2 : (j : Int) < l.length := by omega
      go_upto_region 4 with (fail)
      by_cases he : (r1, c1) = (r, c)
      · injection he with e1 e2
        have e1' := e1.symm
        have e2' := e2.symm
        subst e1' e2'
        have hce := cellEq_same r c
        go_quiet (fail)
        go_wp2
        go_ret
        refine ⟨?_, below_drewN hb _⟩
        rw [atL_found l (r, c) j hlt (by rw [hx'.out]) (fun m hm => hno'.out m hm _)]
        rfl
      · have hce : cellEq r1 c1 r c = false := by rw [cellEq_ne (r1, c1) (r, c)]; simpa using he
        go_quiet (fail)
        go_wp2
        go_roundw
        case rel =>
          refine ⟨j + 1, by omega, by go_num, fun m hm hml => ?_, _, by rw [hwr'.out, World.drewN_drewN]⟩
          rcases Nat.lt_or_eq_of_le (Nat.le_of_lt_succ hm) with h3 | rfl
          · exact hno'.out m h3 hml
          · rw [hx'.out]; exact he
        case measure => simp [intOf]; omega
    · have hjl : j = l.length := by omega
      subst hjl
      go_wp2
      go_ret
      exact ⟨by rw [atL_gone l (r, c) (fun m hm => hno'.out m hm hm)]; rfl, hb⟩
set_option maxRecDepth 100000 in
set_option maxHeartbeats 1000000 in
theorem newer_no (l : List OL) (_hl : l.length ≤ 3518437208883) (_hok : ∀ x ∈ l, x.ok) (M : Int) (w : World) (A : Option Addr) (cap : Nat) (_hR : RdB w w.heap.size A 5 (l.map OL.cs)) (hM : M < 2 ∨ 1099511627776 < M) : Calls Try.prog 3 #[.slice A l.length cap, .int .i64 M] w fun e w' => e = .returned (.bool true) ∧ Below w.heap.size w w' := by
  have hM' := Lib.hid hM
  clear hM _hR _hok
  by_cases h2 : M < 2
  all_goals
    go_enter Try.func3, Try.ntmps3
    go_wp2_with fail
    refine (known_any _).mono ?_
    rintro e w1 ⟨rfl, hb⟩
    go_wp2_with fail
    refine (new_no M hM'.out _).mono ?_
    rintro e w1 ⟨rfl, rfl⟩
    go_wp2
    go_ret
    exact ⟨by first | rfl | (have := hM'.out; congr 2; simp <;> omega), hb⟩
set_option maxRecDepth 100000 in
set_option maxHeartbeats 16000000 in
theorem newer_yes (l : List OL) (hl : l.length ≤ 3518437208883) (hok : ∀ x ∈ l, x.ok) (M : Int) (w : World) (A : Option Addr) (cap : Nat) (hR : RdB w w.heap.size A 5 (l.map OL.cs)) (hM1 : 2 ≤ M) (hM2 : M ≤ 1099511627776) : Calls Try.prog 3 #[.slice A l.length cap, .int .i64 M] w fun e w' => e = .returned (.bool true) ∧ Below w.heap.size w w' := by
  have hR' := Lib.hid hR
  have hok' := Lib.hid hok
  obtain ⟨i0, hi, iz0, iz1, iz2⟩ := info_parts when_info
  clear hR hok
  go_enter Try.func3, Try.ntmps3
  go_wp2_with fail
  refine (known_any _).mono ?_
  rintro e w0 ⟨rfl, hb0⟩
  go_wp2_with fail
  refine (new_yes M hM1 hM2 _).mono ?_
  rintro e w1 ⟨k, b, rfl, hk, hb, hcl, hbl⟩
  have hz0 := hb0.size
  have hkb := Lib.hid (show ClkB w.heap.size w w1 k b 0 M 0 0 (fun _ => none) 0 from ⟨hcl, ClkInv.start (by omega), ⟨by omega, by omega⟩, hb0.trans (hbl.mono (by omega)), Nat.le_refl _, by omega⟩)
  clear hcl hb0 hbl
  go_wp2
  go_loopw [7, 8] (fun v i wr => ∃ (j b n : Nat) (L T : Int) (f : CF) (ch : Int) (l2 : WhenL), j ≤ l.length ∧ i = .int .i64 (j : Int) ∧ n ≤ j ∧ 0 ≤ T ∧ T ≤ j ∧ l2.length ≤ j ∧ Hid (ClkB w.heap.size w wr k b n M L T f ch) ∧ Hid (NInv f j l2) ∧ Hid (wr.ownsRow w.heap.size 38 4 v l2.length (l2.map wcs).flatten)) (fun _ i _ => l.length - (intOf i).toNat)
  case atStart => exact ⟨0, b, 0, 0, 0, _, 0, [], by omega, rfl, by omega, by omega, by omega, by simp, hkb, Lib.hid (NInv.start _ rfl _), Lib.hid (World.ownsRow_nil _ _ _ _)⟩
  case round =>
    clear hkb
    obtain ⟨j, b, n, L, T, f, ch, l2, hj, rfl, hn, hTa, hTb, hl2, hC, hN, hO⟩ := hrel
    obtain ⟨A2, cap2, rfl⟩ := ownsRow_form hO.out
    by_cases hlt : j < l.length
    · have hg0 := hC.out.below
      obtain ⟨x, hx⟩ : ∃ x, l[j]? = some x := ⟨_, List.getElem?_eq_getElem hlt⟩
      obtain ⟨eb, eo, hA2, heb, hcell⟩ := (hR'.out.below hg0) j x.cs (by rw [List.getElem?_map, hx]; rfl)
      have hxo := hok'.out x (List.mem_of_getElem? hx)
      obtain ⟨kd, r1, c1, r2, c2⟩ := x
      have u0 : wr.cell? ⟨eb, eo + j * 5, none⟩ = some (.int .i64 kd) := by simpa using hcell 0 _ rfl
      have u1 : wr.cell? ⟨eb, eo + j * 5 + 1, none⟩ = some (.int .i64 r1) := by simpa using hcell 1 _ rfl
      have u2 : wr.cell? ⟨eb, eo + j * 5 + 1 + 1, none⟩ = some (.int .i64 c1) := by simpa using hcell 2 _ rfl
      have hW1 : W64 (r1, c1) := hxo.1
      have u3 : wr.cell? ⟨eb, eo + j * 5 + 1 + 1 + 1, none⟩ = some (.int .i64 r2) := by simpa using hcell 3 _ rfl
      have u4 : wr.cell? ⟨eb, eo + j * 5 + 1 + 1 + 1 + 1, none⟩ = some (.int .i64 c2) := by simpa using hcell 4 _ rfl
      clear hcell hxo
      obtain rfl : A = some ⟨eb, eo, none⟩ := hA2
      clear hg0 hx
      have hkl := hC.out.clock.lt
      have hws := hC.out.below.size
      have hbl := hC.out.clock.2.lt
      have howl := Lib.hid (fun g hg => (hO.out.lt g hg).2)
      go_wp2_with fail
      have bA := (Below.refl wr.heap.size wr).alloc (Nat.le_refl _) (.cells #[.int .i64 kd, .int .i64 r1, .int .i64 c1, .int .i64 r2, .int .i64 c2] 32)
      have hOa := ownsRow_below hO.out bA
      obtain ⟨A3, cap3, hA3, hRd⟩ := ownsRow_rdk (l := l2.map wcs) (by omega) (by intro c hc; obtain ⟨x, _, rfl⟩ := List.mem_map.1 hc; rfl) (by simp) hOa
      injection hA3 with e1 e2 e3
      subst e1 e3
      refine (at_any l2 (by omega) r1 c1 _ A2 cap2 hRd).mono ?_
      rintro e w2 ⟨rfl, hb2⟩
      have bB := bA.trans (hb2.mono (by simp))
      have a0 : w2.cell? ⟨wr.heap.size, 0, none⟩ = some (.int .i64 kd) := by rw [hb2.cell (by simp)]; simp
      have a1 : w2.cell? ⟨wr.heap.size, 1, none⟩ = some (.int .i64 r1) := by rw [hb2.cell (by simp)]; simp
      have a2 : w2.cell? ⟨wr.heap.size, 1 + 1, none⟩ = some (.int .i64 c1) := by rw [hb2.cell (by simp)]; simp
      have hz2 := hb2.size
      simp only [World.size_alloc] at hz2
      have hC2 := Lib.hid (hC.out.later bB)
      have hO2 := Lib.hid (ownsRow_below hO.out bB)
      clear bA hOa hRd hb2 e2 u0 u1 u2 u3 u4 hC hO bB
      go_wp2_with fail
      refine (rmay_any r1 c1 _).mono ?_
      rintro e w3 ⟨rfl, hb3⟩
      obtain ⟨hc3, hf3, hz3⟩ := bkeep hb3 (w2.heap.size) (by omega)
      have a0 : w3.cell? ⟨wr.heap.size, 0, none⟩ = some (.int .i64 kd) := (hc3 _ _ (by omega)).trans a0
      have a1 : w3.cell? ⟨wr.heap.size, 1, none⟩ = some (.int .i64 r1) := (hc3 _ _ (by omega)).trans a1
      have a2 : w3.cell? ⟨wr.heap.size, 1 + 1, none⟩ = some (.int .i64 c1) := (hc3 _ _ (by omega)).trans a2
      have hC := Lib.hid (hC2.out.later hb3)
      have hO := Lib.hid (ownsRow_below hO2.out hb3)
      clear hc3 hf3 hb3 hC2 hO2
      obtain ⟨p, hp⟩ : ∃ p, atL l2 (r1, c1) = p := ⟨_, rfl⟩
      rw [hp]
      have hp' := Lib.hid hp
      clear hp
      have hgt : wr.heap.size < w3.heap.size := by omega
      obtain ⟨mb, hmb⟩ : ∃ mb, mayB r1 c1 = mb := ⟨_, rfl⟩
      rw [hmb]
      have hmb' := Lib.hid hmb
      clear hmb
      go_upto_block 2 with (fail)
      go_cut [7, 12] from 34 to 170 (fun v x wc => ∃ (b n : Nat) (L T : Int) (f : CF) (ch : Int) (l3 : WhenL), n ≤ j + 1 ∧ 0 ≤ T ∧ T ≤ j + 1 ∧ l3.length ≤ j + 1 ∧ Hid (ClkB w.heap.size w wc k b n M L T f ch) ∧ Hid (NInv f ((j : Int) + 1) l3) ∧ Hid (wc.ownsRow w.heap.size 38 4 v l3.length (l3.map wcs).flatten))
      case first =>
        by_cases e0 : kd = 0
        · subst e0
          cases mb
          · go_wp2_with fail
            refine (change_no r1 c1 hmb'.out _ _).mono ?_
            rintro e w4 ⟨rfl, hb4⟩
            have hC4 := Lib.hid (hC.out.later hb4)
            have hO4 := Lib.hid (ownsRow_below hO.out hb4)
            clear hb4
            go_wp2
            go_roundw
            case rel =>
              exact ⟨j + 1, _, _, _, _, _, _, l2, by omega, by go_num, by omega, by omega, by omega, by omega, hC4, Lib.hid hN.out.later, hO4⟩
            case measure => simp [intOf]; omega
          · go_wp2_with fail
            refine (change_yes r1 c1 hmb'.out _ hC.out.clock (by omega) hC.out.inv (by omega) ⟨by omega, by omega⟩ ⟨hC.out.inv.ch_le, hC.out.cn⟩).mono ?_
            rintro e w4 hce
            have hturn := hce.turn
            obtain ⟨xx, f', L', T', ch', b', rfl, hst, k2, hTa', hTb'⟩ := hC.out.change hmb'.out hce
            have hO4 := Lib.hid (row_turn hC.out.clock hO.out hturn)
            obtain ⟨kc, _⟩ := hturn.keep (i := wr.heap.size) (by omega) (by omega) (by omega)
            have a0 := (kc 0).trans a0
            have a1 := (kc 1).trans a1
            have a2 := (kc (1 + 1)).trans a2
            have hz4 := hturn.size
            have hC4 := Lib.hid k2
            rcases chs_x hst with ⟨rfl, hfull⟩ | rfl
            · have hge : M - 1 ≤ (l2.length : Int) := Int.le_trans hfull (others_le hC.out.inv hN.out _)
              clear kc hturn hst k2 hce hfull
              go_wp2
              go_ret
              exact ⟨by first | rfl | (congr 2; done) | (congr 2; first | (simp; done) | (simp; omega) | omega), hC4.out.below⟩
            · have hst' := Lib.hid hst
              clear kc hturn hst k2 hce
              by_cases hpl : p < l2.length
              · have hpl0 : atL l2 (r1, c1) < l2.length := by rw [hp'.out]; exact hpl
                obtain ⟨e9, hxp⟩ : ∃ e9, l2[p] = e9 := ⟨_, rfl⟩
                obtain ⟨⟨r0, c0⟩, o1, o2⟩ := e9
                have hrc : (r0, c0) = (r1, c1) := by
                  have h9 := atL_lt hpl0
                  simp only [hp'.out] at h9
                  rw [hxp] at h9
                  exact h9
                injection hrc with er ec
                have er' := er.symm
                have ec' := ec.symm
                subst er' ec'
                have hNn := nchange hN.out (by omega) hC.out.inv hmb'.out hst'.out hpl0 o2 (by simp only [hp'.out]; rw [hxp])
                rw [hp'.out] at hNn
                have hNn' := Lib.hid hNn
                have hxp' := Lib.hid hxp
                obtain ⟨g, hvg⟩ := row_form (w := w4) (B := w.heap.size) (e := 38) (size := 4) (xs := (l2.map wcs).flatten) hO4.out (by omega)
                subst hvg
                have z1 : w4.cell? ⟨g, p * 4 + 2, none⟩ = some (.int .i64 o1) := row_cell hO4.out p 2 hpl (by omega) _ (by rw [hxp]; rfl)
                have zf : w4.frozen? ⟨g, p * 4 + 2, none⟩ = false := World.ownsRow.frozenAt (w := w4) (base := w.heap.size) (e := 38) (size := 4) (xs := (l2.map wcs).flatten) hO4.out _
                have hne : ¬ p = l2.length := by omega
                have hin1 : (0 : Int) ≤ p := by omega
                have hin2 : (p : Int) < l2.length := by omega
                clear hNn hxp
                go_wp2
                go_meet
                case rel => exact ⟨_, _, _, _, _, _, l2.set p ((r1, c1), (j : Int) + 1, o2), by omega, by omega, by omega, by simp; omega, Lib.hid (hC4.out.store hO4.out _ _), hNn', Lib.hid (row_setN hO4.out p 2 hpl (by omega) (.int .i64 ((j : Int) + 1)) ((r1, c1), (j : Int) + 1, o2) (by rw [hxp'.out]; rfl))⟩
              · have hpe : p = l2.length := by
                  have h9 := atL_le l2 (r1, c1)
                  rw [hp'.out] at h9
                  omega
                subst hpe
                have hNn' := Lib.hid (nchange_new hN.out (by omega) hC.out.inv hmb'.out hst'.out (by rw [hp'.out]; omega))
                clear hpl
                have hl9 : l2.length < (l2 ++ [((r1, c1), (0 : Int), (0 : Int))]).length := by simp
                have hl9a : (l2 ++ [((r1, c1), (0 : Int), (0 : Int))])[l2.length]'hl9 = ((r1, c1), (0 : Int), (0 : Int)) := by simp
                have hl9' := Lib.hid hl9a
                clear hl9a
                go_wp2_with (first
                  | (at_builtin; go_loud (refine wpList_append_own_at _ rfl _ _ 28 rfl w.heap.size 38 i0 (.agg #[.int .i64 0, .int .i64 0, .int .i64 0, .int .i64 0]) 4 32 Try.underlying28 hi iz0 iz1 iz2 rfl (by decide) _ _ _ rfl ((show w4.ownsRow w.heap.size 38 4 (.slice A2 l2.length cap2) l2.length (l2.map wcs).flatten from hO4.out).alloc _) ⟨w4.heap.size, 0, none⟩ 1 1 [.int .i64 r1, .int .i64 c1, .int .i64 0, .int .i64 0] rfl rfl (cells_new w4 #[.int .i64 r1, .int .i64 c1, .int .i64 0, .int .i64 0] 38) (by simp [Value.oneCell']) (by unfold maxLen; omega) (by omega) (by first | omega | (simp; done) | (simp; omega)) ?_); go_loud (intro v' w5 hown5 hgrow5 _ _); go_loud (obtain ⟨g', cap', rfl⟩ := ownsRow_succ hown5); go_loud (have q0 := hgrow5.block wr.heap.size (by first | omega | (simp; done) | (simp; omega)) (fun e => by have := howl.out _ (by first | exact e | exact e.symm); omega)); go_loud (have a05 := (World.cell?_of_block (a := ⟨wr.heap.size, 0, none⟩) q0).trans (cell_a1 a0 _)); go_loud (have hO5 := Lib.hid (show w5.ownsRow w.heap.size 38 4 (.slice (some ⟨g', 0, none⟩) (l2 ++ [((r1, c1), (0 : Int), (0 : Int))]).length cap') (l2 ++ [((r1, c1), (0 : Int), (0 : Int))]).length ((l2 ++ [((r1, c1), (0 : Int), (0 : Int))]).map wcs).flatten from by rw [List.length_append, List.map_append, List.flatten_append]; exact hown5)); go_loud (have hC5 := Lib.hid ((hC4.out.later (w' := w4.alloc (.cells #[.int .i64 r1, .int .i64 c1, .int .i64 0, .int .i64 0] 38)) ((Below.refl _ _).alloc (Nat.le_refl _) _)).grown ((show w4.ownsRow w.heap.size 38 4 (.slice A2 l2.length cap2) l2.length (l2.map wcs).flatten from hO4.out).alloc _) hgrow5)); go_loud (have z1 : w5.cell? ⟨g', l2.length * 4 + 2, none⟩ = some (.int .i64 0) := row_cell hO5.out l2.length 2 hl9 (by omega) _ (by rw [hl9'.out]; rfl)); go_loud (have zf : w5.frozen? ⟨g', l2.length * 4 + 2, none⟩ = false := World.ownsRow.frozenAt (w := w5) (base := w.heap.size) (e := 38) (size := 4) (xs := ((l2 ++ [((r1, c1), (0 : Int), (0 : Int))]).map wcs).flatten) hO5.out _); go_loud (have hin1 : (0 : Int) ≤ l2.length := by omega); go_loud (have hin2 : (l2.length : Int) < ((l2.length + 1 : Nat) : Int) := by omega); go_loud (have hin3 : (l2.length : Int) < (l2.length : Int) + 1 := by omega))
                  | fail)
                go_meet
                case rel =>
                  have hlen : ((l2 ++ [((r1, c1), (0 : Int), (0 : Int))]).set l2.length ((r1, c1), (j : Int) + 1, 0)).length = l2.length + 1 := by simp
                  have hr := row_set hO5.out l2.length 2 hl9 (by omega) (.int .i64 ((j : Int) + 1)) ((r1, c1), (j : Int) + 1, 0) (by rw [hl9'.out]; rfl)
                  exact ⟨_, _, _, _, _, _, (l2 ++ [((r1, c1), (0 : Int), (0 : Int))]).set l2.length ((r1, c1), (j : Int) + 1, 0), by omega, by omega, by omega, by rw [hlen]; omega, Lib.hid (hC5.out.store hO5.out _ _), hNn', Lib.hid (by rw [List.length_set, List.length_append] at hr ⊢; exact hr)⟩
        · by_cases e1 : kd = 1
          · subst e1
            cases mb
            · go_wp2_with fail
              refine (see_no r1 c1 hmb'.out _ _).mono ?_
              rintro e w4 ⟨⟨vv, rfl⟩, hb4⟩
              have hC4 := Lib.hid (hC.out.later hb4)
              have hO4 := Lib.hid (ownsRow_below hO.out hb4)
              clear hb4
              go_wp2
              go_roundw
              case rel =>
                exact ⟨j + 1, _, _, _, _, _, _, l2, by omega, by go_num, by omega, by omega, by omega, by omega, hC4, Lib.hid hN.out.later, hO4⟩
              case measure => simp [intOf]; omega
            · go_wp2_with fail
              refine (see_yes r1 c1 hmb'.out _ hC.out.clock (by unfold maxLen; omega) hW1).mono ?_
              rintro e w4 hse
              have hturn := hse.2.2
              obtain ⟨⟨vv, rfl⟩, k2⟩ := hC.out.see hmb'.out hse
              have hO4 := Lib.hid (row_turn hC.out.clock hO.out hturn)
              obtain ⟨kc, _⟩ := hturn.keep (i := wr.heap.size) (by omega) (by omega) (by omega)
              have a0 := (kc 0).trans a0
              have a1 := (kc 1).trans a1
              have a2 := (kc (1 + 1)).trans a2


              have hz4 := hturn.size
              have hC4 := Lib.hid k2
              clear kc hturn k2 hse
              by_cases hpl : p < l2.length
              · have hpl0 : atL l2 (r1, c1) < l2.length := by rw [hp'.out]; exact hpl
                obtain ⟨e9, hxp⟩ : ∃ e9, l2[p] = e9 := ⟨_, rfl⟩
                obtain ⟨⟨r0, c0⟩, o1, o2⟩ := e9
                have hrc : (r0, c0) = (r1, c1) := by
                  have h9 := atL_lt hpl0
                  simp only [hp'.out] at h9
                  rw [hxp] at h9
                  exact h9
                injection hrc with er ec
                have er' := er.symm
                have ec' := ec.symm
                subst er' ec'
                have hNn := nsee hN.out (by omega) hC.out.inv hmb'.out hpl0 o1 (by simp only [hp'.out]; rw [hxp])
                rw [hp'.out] at hNn
                have hNn' := Lib.hid hNn
                have hxp' := Lib.hid hxp
                obtain ⟨g, hvg⟩ := row_form (w := w4) (B := w.heap.size) (e := 38) (size := 4) (xs := (l2.map wcs).flatten) hO4.out (by omega)
                subst hvg
                have z1 : w4.cell? ⟨g, p * 4 + 3, none⟩ = some (.int .i64 o2) := row_cell hO4.out p 3 hpl (by omega) _ (by rw [hxp]; rfl)
                have zf : w4.frozen? ⟨g, p * 4 + 3, none⟩ = false := World.ownsRow.frozenAt (w := w4) (base := w.heap.size) (e := 38) (size := 4) (xs := (l2.map wcs).flatten) hO4.out _
                have hne : ¬ p = l2.length := by omega
                have hin1 : (0 : Int) ≤ p := by omega
                have hin2 : (p : Int) < l2.length := by omega
                clear hNn hxp
                go_wp2
                go_meet
                case rel => exact ⟨_, _, _, _, _, _, l2.set p ((r1, c1), o1, (j : Int) + 1), by omega, by omega, by omega, by simp; omega, Lib.hid (hC4.out.store hO4.out _ _), hNn', Lib.hid (row_setN hO4.out p 3 hpl (by omega) (.int .i64 ((j : Int) + 1)) ((r1, c1), o1, (j : Int) + 1) (by rw [hxp'.out]; rfl))⟩
              · have hpe : p = l2.length := by
                  have h9 := atL_le l2 (r1, c1)
                  rw [hp'.out] at h9
                  omega
                subst hpe
                have hNn' := Lib.hid (nsee_new hN.out (by omega) hC.out.inv hmb'.out (by rw [hp'.out]; omega))
                clear hpl
                have hl9 : l2.length < (l2 ++ [((r1, c1), (0 : Int), (0 : Int))]).length := by simp
                have hl9a : (l2 ++ [((r1, c1), (0 : Int), (0 : Int))])[l2.length]'hl9 = ((r1, c1), (0 : Int), (0 : Int)) := by simp
                have hl9' := Lib.hid hl9a
                clear hl9a
                go_wp2_with (first
                  | (at_builtin; go_loud (refine wpList_append_own_at _ rfl _ _ 28 rfl w.heap.size 38 i0 (.agg #[.int .i64 0, .int .i64 0, .int .i64 0, .int .i64 0]) 4 32 Try.underlying28 hi iz0 iz1 iz2 rfl (by decide) _ _ _ rfl ((show w4.ownsRow w.heap.size 38 4 (.slice A2 l2.length cap2) l2.length (l2.map wcs).flatten from hO4.out).alloc _) ⟨w4.heap.size, 0, none⟩ 1 1 [.int .i64 r1, .int .i64 c1, .int .i64 0, .int .i64 0] rfl rfl (cells_new w4 #[.int .i64 r1, .int .i64 c1, .int .i64 0, .int .i64 0] 38) (by simp [Value.oneCell']) (by unfold maxLen; omega) (by omega) (by first | omega | (simp; done) | (simp; omega)) ?_); go_loud (intro v' w5 hown5 hgrow5 _ _); go_loud (obtain ⟨g', cap', rfl⟩ := ownsRow_succ hown5); go_loud (have q0 := hgrow5.block wr.heap.size (by first | omega | (simp; done) | (simp; omega)) (fun e => by have := howl.out _ (by first | exact e | exact e.symm); omega)); go_loud (have a05 := (World.cell?_of_block (a := ⟨wr.heap.size, 0, none⟩) q0).trans (cell_a1 a0 _)); go_loud (have hO5 := Lib.hid (show w5.ownsRow w.heap.size 38 4 (.slice (some ⟨g', 0, none⟩) (l2 ++ [((r1, c1), (0 : Int), (0 : Int))]).length cap') (l2 ++ [((r1, c1), (0 : Int), (0 : Int))]).length ((l2 ++ [((r1, c1), (0 : Int), (0 : Int))]).map wcs).flatten from by rw [List.length_append, List.map_append, List.flatten_append]; exact hown5)); go_loud (have hC5 := Lib.hid ((hC4.out.later (w' := w4.alloc (.cells #[.int .i64 r1, .int .i64 c1, .int .i64 0, .int .i64 0] 38)) ((Below.refl _ _).alloc (Nat.le_refl _) _)).grown ((show w4.ownsRow w.heap.size 38 4 (.slice A2 l2.length cap2) l2.length (l2.map wcs).flatten from hO4.out).alloc _) hgrow5)); go_loud (have z1 : w5.cell? ⟨g', l2.length * 4 + 3, none⟩ = some (.int .i64 0) := row_cell hO5.out l2.length 3 hl9 (by omega) _ (by rw [hl9'.out]; rfl)); go_loud (have zf : w5.frozen? ⟨g', l2.length * 4 + 3, none⟩ = false := World.ownsRow.frozenAt (w := w5) (base := w.heap.size) (e := 38) (size := 4) (xs := ((l2 ++ [((r1, c1), (0 : Int), (0 : Int))]).map wcs).flatten) hO5.out _); go_loud (have hin1 : (0 : Int) ≤ l2.length := by omega); go_loud (have hin2 : (l2.length : Int) < ((l2.length + 1 : Nat) : Int) := by omega); go_loud (have hin3 : (l2.length : Int) < (l2.length : Int) + 1 := by omega))
                  | fail)
                go_meet
                case rel =>
                  have hlen : ((l2 ++ [((r1, c1), (0 : Int), (0 : Int))]).set l2.length ((r1, c1), 0, (j : Int) + 1)).length = l2.length + 1 := by simp
                  have hr := row_set hO5.out l2.length 3 hl9 (by omega) (.int .i64 ((j : Int) + 1)) ((r1, c1), 0, (j : Int) + 1) (by rw [hl9'.out]; rfl)
                  exact ⟨_, _, _, _, _, _, (l2 ++ [((r1, c1), (0 : Int), (0 : Int))]).set l2.length ((r1, c1), 0, (j : Int) + 1), by omega, by omega, by omega, by rw [hlen]; omega, Lib.hid (hC5.out.store hO5.out _ _), hNn', Lib.hid (by rw [List.length_set, List.length_append] at hr ⊢; exact hr)⟩
          · by_cases e2 : kd = 2
            · subst e2
              go_wp2_with fail
              refine (drop_any r1 c1 _ hC.out.clock hW1 ⟨hC.out.inv.ch_le, by have := hC.out.cn; omega⟩).mono ?_
              rintro e w4 hse
              have hturn := hse.2.2
              obtain ⟨⟨vv, rfl⟩, k2⟩ := hC.out.drop hW1 hse
              have hO4 := Lib.hid (row_turn hC.out.clock hO.out hturn)
              have hC4 := Lib.hid k2
              have hNd := hN.out.drop (by omega) (fun d => by have := hC.out.inv.st d; omega) hC.out.inv.dom (r1, c1)
              rw [hp'.out] at hNd
              clear hturn k2 hse
              by_cases hpl : p < l2.length
              · rw [if_pos hpl] at hNd
                have hNd' := Lib.hid hNd
                obtain ⟨e9, hxp⟩ : ∃ e9, l2[p] = e9 := ⟨_, rfl⟩
                obtain ⟨⟨r0, c0⟩, o1, o2⟩ := e9
                obtain ⟨g, hvg⟩ := row_form (w := w4) (B := w.heap.size) (e := 38) (size := 4) (xs := (l2.map wcs).flatten) hO4.out (by omega)
                subst hvg
                have y0 : w4.cell? ⟨g, p * 4 + 0, none⟩ = some (.int .i64 r0) := row_cell hO4.out p 0 hpl (by omega) _ (by rw [hxp]; rfl)
                have y1 : w4.cell? ⟨g, p * 4 + 1, none⟩ = some (.int .i64 c0) := row_cell hO4.out p 1 hpl (by omega) _ (by rw [hxp]; rfl)
                have y2 : w4.cell? ⟨g, p * 4 + 2, none⟩ = some (.int .i64 o1) := row_cell hO4.out p 2 hpl (by omega) _ (by rw [hxp]; rfl)
                have y3 : w4.cell? ⟨g, p * 4 + 3, none⟩ = some (.int .i64 o2) := row_cell hO4.out p 3 hpl (by omega) _ (by rw [hxp]; rfl)
                have zf : ∀ i, w4.frozen? ⟨g, i, none⟩ = false := World.ownsRow.frozenAt (w := w4) (base := w.heap.size) (e := 38) (size := 4) (xs := (l2.map wcs).flatten) hO4.out
                have y0' : w4.cell? ⟨g, p * 4, none⟩ = some (.int .i64 r0) := y0
                have hin1 : (0 : Int) ≤ p := by omega
                have hin2 : (p : Int) < l2.length := by omega
                have hxp' := Lib.hid hxp
                clear hNd hxp y0
                go_wp2
                go_meet
                case rel =>
                  have q1 := row_set hO4.out p 0 hpl (by omega) (.int .i64 0) ((0, c0), o1, o2) (by rw [hxp'.out]; rfl)
                  have q1 : (w4.setCell ⟨g, p * 4, none⟩ (.int .i64 0)).ownsRow w.heap.size 38 4 _ _ _ := q1
                  have q2 := row_set q1 p 1 (by simpa using hpl) (by omega) (.int .i64 0) ((0, 0), o1, o2) (by simp [wcs])
                  have q3 := row_set q2 p 2 (by simpa using hpl) (by omega) (.int .i64 0) ((0, 0), 0, o2) (by simp [wcs])
                  have q4 := row_set q3 p 3 (by simpa using hpl) (by omega) (.int .i64 0) ((0, 0), 0, 0) (by simp [wcs])
                  have c1' := hC4.out.store hO4.out (p * 4) (.int .i64 0)
                  have c2' := c1'.store q1 (p * 4 + 1) (.int .i64 0)
                  have c3' := c2'.store q2 (p * 4 + 2) (.int .i64 0)
                  have c4' := c3'.store q3 (p * 4 + 3) (.int .i64 0)
                  simp only [List.set_set] at q4
                  exact ⟨_, _, _, _, _, _, l2.set p ((0, 0), 0, 0), by omega, by omega, by omega, by simp; omega, Lib.hid c4', hNd', Lib.hid (by rw [List.length_set] at q4 ⊢; exact q4)⟩
              · rw [if_neg hpl] at hNd
                have hNd' := Lib.hid hNd
                clear hNd
                have hpl2 : ¬ (p : Int) < l2.length := by omega
                go_wp2
                go_meet
                case rel => exact ⟨_, _, _, _, _, _, l2, by omega, by omega, by omega, by omega, hC4, hNd', hO4⟩
            · have b0 : (kd == 0) = false := by simpa using e0
              have b1 : (kd == 1) = false := by simpa using e1
              have b2 : (kd == 2) = false := by simpa using e2
              clear e0 e1 e2
              go_wp2
              go_meet
              case rel => exact ⟨_, _, _, _, _, _, l2, by omega, by omega, by omega, by omega, hC, Lib.hid hN.out.later, hO⟩
      case rest =>
        clear hC hO hN a0 a1 a2 hgt hkl hbl howl hws hmb'
        obtain ⟨b, n, L, T, f, ch, l3, hn3, hTa3, hTb3, hl3, hC, hN, hO⟩ := hcut
        obtain ⟨A3, cap3, hv⟩ := ownsRow_form hO.out
        subst hv
        go_wp2
        go_loopw [13] (fun i wr => ∃ a : Nat, a ≤ l3.length ∧ i = .int .i64 (a : Int) ∧ Hid (ClkB w.heap.size w wr k b n M L T f ch) ∧ Hid (wr.ownsRow w.heap.size 38 4 (.slice A3 l3.length cap3) l3.length (l3.map wcs).flatten)) (fun i _ => l3.length - (intOf i).toNat)
        case atStart => exact ⟨0, by omega, rfl, hC, hO⟩
        case round =>
          clear hC hO
          obtain ⟨a, ha0, rfl, hC, hO⟩ := hrel
          by_cases ha : a < l3.length
          · go_wp2
            go_loopw [14] (fun i wr => ∃ m : Nat, m ≤ l3.length ∧ i = .int .i64 (m : Int) ∧ Hid (ClkB w.heap.size w wr k b n M L T f ch) ∧ Hid (wr.ownsRow w.heap.size 38 4 (.slice A3 l3.length cap3) l3.length (l3.map wcs).flatten)) (fun i _ => l3.length - (intOf i).toNat)
            case atStart => exact ⟨0, by omega, rfl, hC, hO⟩
            case round =>
              clear hC hO
              obtain ⟨m, hm0, rfl, hC, hO⟩ := hrel
              by_cases hm : m < l3.length
              · by_cases h12a : (a : Int) < 12
                · by_cases h12b : (m : Int) < 12
                  · obtain ⟨g, hvg⟩ := row_form (w := wr) (B := w.heap.size) (e := 38) (size := 4) (xs := (l3.map wcs).flatten) hO.out (by omega)
                    subst hvg
                    obtain ⟨ea, hea⟩ : ∃ ea, l3[a] = ea := ⟨_, rfl⟩
                    obtain ⟨eb9, heb9⟩ : ∃ eb9, l3[m] = eb9 := ⟨_, rfl⟩
                    have mea : ea ∈ l3 := by rw [← hea]; exact List.getElem_mem ha
                    have meb : eb9 ∈ l3 := by rw [← heb9]; exact List.getElem_mem hm
                    have hord := hN.out.ord ea mea eb9 meb
                    have hWa0 := when_w64 hN.out mea
                    have hWb0 := when_w64 hN.out meb
                    obtain ⟨⟨ra, ca⟩, cha, sa⟩ := ea
                    obtain ⟨⟨rb, cb⟩, chb, sb⟩ := eb9
                    have hWa : W64 (ra, ca) := hWa0
                    have hWb : W64 (rb, cb) := hWb0
                    have z0 : wr.cell? ⟨g, a * 4, none⟩ = some (.int .i64 ra) := row_cell hO.out a 0 ha (by omega) _ (by rw [hea]; rfl)
                    have z1 : wr.cell? ⟨g, a * 4 + 1, none⟩ = some (.int .i64 ca) := row_cell hO.out a 1 ha (by omega) _ (by rw [hea]; rfl)
                    have z2 : wr.cell? ⟨g, a * 4 + 2, none⟩ = some (.int .i64 cha) := row_cell hO.out a 2 ha (by omega) _ (by rw [hea]; rfl)
                    have z3 : wr.cell? ⟨g, m * 4, none⟩ = some (.int .i64 rb) := row_cell hO.out m 0 hm (by omega) _ (by rw [heb9]; rfl)
                    have z4 : wr.cell? ⟨g, m * 4 + 1, none⟩ = some (.int .i64 cb) := row_cell hO.out m 1 hm (by omega) _ (by rw [heb9]; rfl)
                    have z5 : wr.cell? ⟨g, m * 4 + 3, none⟩ = some (.int .i64 sb) := row_cell hO.out m 3 hm (by omega) _ (by rw [heb9]; rfl)
                    have zg : g < wr.heap.size := cellLt z0
                    have hin1 : (0 : Int) ≤ a := by omega
                    have hin2 : (a : Int) < l3.length := by omega
                    have hin3 : (0 : Int) ≤ m := by omega
                    have hin4 : (m : Int) < l3.length := by omega
                    clear hea heb9 mea meb hWa0 hWb0
                    by_cases hlt9 : sb < cha
                    · have hz' := Lib.hid (show decide ((getC f (rb, cb)).2 < (getC f (ra, ca)).1) = true from decide_eq_true (hord.2 hlt9))
                      clear hord
                      go_upto_region 39 with (fail)
                      go_region_held3 (fun w' => w'.cell? ⟨g, a * 4, none⟩ = some (.int .i64 ra) ∧ w'.cell? ⟨g, a * 4 + 1, none⟩ = some (.int .i64 ca) ∧ w'.cell? ⟨g, a * 4 + 2, none⟩ = some (.int .i64 cha) ∧ w'.cell? ⟨g, m * 4, none⟩ = some (.int .i64 rb) ∧ w'.cell? ⟨g, m * 4 + 1, none⟩ = some (.int .i64 cb) ∧ w'.cell? ⟨g, m * 4 + 3, none⟩ = some (.int .i64 sb) ∧ g < w'.heap.size ∧ ClkB w.heap.size w w' k b n M L T f ch ∧ w'.ownsRow w.heap.size 38 4 (.slice (some ⟨g, 0, none⟩) l3.length cap3) l3.length (l3.map wcs).flatten)
                        (first
                          | (((try go_split_ands); refine ⟨?_, ?_, ?_, ?_, ?_, ?_, ?_, ?_, ?_⟩ <;> first | (rw [hb.cell (by dsimp only; omega)]; assumption) | (have := hb.size; omega) | exact ClkB.later (by assumption) hb | exact ownsRow_below (by assumption) hb))
                          | (((try dsimp only); refine ⟨?_, ?_, ?_, ?_, ?_, ?_, ?_, ?_, ?_⟩ <;> first | assumption | exact hC.out.later (Below.refl _ _).drew | exact ownsRow_below hO.out (Below.refl _ _).drew | (simp [go_sem, *]; done) | (simp; omega))))
                        ((go_at_call 12; (try go_split_ands); refine (newer_is ra ca rb cb true hz'.out _ (ClkB.clock (by assumption)) hWa hWb).mono ?_; rintro e w1 ⟨rfl, hb⟩))
                      all_goals
                        go_split_ands
                        go_wp2
                        go_roundw
                        case rel => exact ⟨m + 1, by omega, by go_num, Lib.hid (by assumption), Lib.hid (by assumption)⟩
                        case measure => simp [intOf]; omega
                    · have hz' := Lib.hid (show decide ((getC f (rb, cb)).2 < (getC f (ra, ca)).1) = false from decide_eq_false (fun h9 => hlt9 (hord.1 h9)))
                      clear hord
                      go_upto_region 39 with (fail)
                      go_region_held3 (fun w' => w'.cell? ⟨g, a * 4, none⟩ = some (.int .i64 ra) ∧ w'.cell? ⟨g, a * 4 + 1, none⟩ = some (.int .i64 ca) ∧ w'.cell? ⟨g, a * 4 + 2, none⟩ = some (.int .i64 cha) ∧ w'.cell? ⟨g, m * 4, none⟩ = some (.int .i64 rb) ∧ w'.cell? ⟨g, m * 4 + 1, none⟩ = some (.int .i64 cb) ∧ w'.cell? ⟨g, m * 4 + 3, none⟩ = some (.int .i64 sb) ∧ g < w'.heap.size ∧ ClkB w.heap.size w w' k b n M L T f ch ∧ w'.ownsRow w.heap.size 38 4 (.slice (some ⟨g, 0, none⟩) l3.length cap3) l3.length (l3.map wcs).flatten)
                        (first
                          | (((try go_split_ands); refine ⟨?_, ?_, ?_, ?_, ?_, ?_, ?_, ?_, ?_⟩ <;> first | (rw [hb.cell (by dsimp only; omega)]; assumption) | (have := hb.size; omega) | exact ClkB.later (by assumption) hb | exact ownsRow_below (by assumption) hb))
                          | (((try dsimp only); refine ⟨?_, ?_, ?_, ?_, ?_, ?_, ?_, ?_, ?_⟩ <;> first | assumption | exact hC.out.later (Below.refl _ _).drew | exact ownsRow_below hO.out (Below.refl _ _).drew | (simp [go_sem, *]; done) | (simp; omega))))
                        ((go_at_call 12; (try go_split_ands); refine (newer_is ra ca rb cb false hz'.out _ (ClkB.clock (by assumption)) hWa hWb).mono ?_; rintro e w1 ⟨rfl, hb⟩))
                      all_goals
                        go_split_ands
                        go_wp2
                        go_roundw
                        case rel => exact ⟨m + 1, by omega, by go_num, Lib.hid (by assumption), Lib.hid (by assumption)⟩
                        case measure => simp [intOf]; omega
                  · have hd : decide ((m : Int) < 12) = false := by simpa using h12b
                    go_upto_region 39 with (fail)
                    go_quiet (fail)
                    go_wp2
                    go_roundw
                    case rel => exact ⟨m + 1, by omega, by go_num, Lib.hid (hC.out.later (below_drewN (Below.refl _ _) _)), Lib.hid (ownsRow_below hO.out (below_drewN (Below.refl _ _) _))⟩
                    case measure => simp [intOf]; omega
                · have hd : decide ((a : Int) < 12) = false := by simpa using h12a
                  go_upto_region 39 with (fail)
                  go_quiet (fail)
                  go_wp2
                  go_roundw
                  case rel => exact ⟨m + 1, by omega, by go_num, Lib.hid (hC.out.later (below_drewN (Below.refl _ _) _)), Lib.hid (ownsRow_below hO.out (below_drewN (Below.refl _ _) _))⟩
                  case measure => simp [intOf]; omega
              · go_wp2
                go_roundw
                case rel => exact ⟨a + 1, by omega, by go_num, hC, hO⟩
                case measure => simp [intOf]; omega
          · go_wp2
            go_roundw
            case rel =>
              first
                | exact ⟨j + 1, _, _, _, _, _, _, l3, by omega, by go_num, by omega, by omega, by omega, by omega, hC, hN, hO⟩
                | ((repeat (refine Exists.intro _ ?_)); exact ⟨⟨j + 1, _, _, _, _, _, _, l3, by omega, by go_num, by omega, by omega, by omega, by omega, hC, hN, hO⟩, rfl⟩)
            case measure => simp [intOf]; omega
    · have hj' : j = l.length := by omega
      clear hlt hj
      subst hj'
      go_wp2
      go_ret
      exact ⟨rfl, hC.out.below⟩
theorem walk_StampsNewer (l : List OL) (hl : l.length ≤ 3518437208883) (hok : ∀ x ∈ l, x.ok) (M : Int) (_hM : -9223372036854775808 ≤ M ∧ M ≤ 9223372036854775807) (w : World) (A : Option Addr) (cap : Nat) (hR : RdB w w.heap.size A 5 (l.map OL.cs)) : Calls Try.prog 3 #[.slice A l.length cap, .int .i64 M] w fun e w' => e = .returned (.bool true) ∧ Below w.heap.size w w' := by
  by_cases h : M < 2 ∨ 1099511627776 < M
  · exact newer_no l hl hok M w A cap hR h
  · exact newer_yes l hl hok M w A cap hR (by omega) (by omega)
end Go.Proofs.Ytkpoidlohgnbpaa
