/-
  orielref05: part (leaf, call).
-/
import Derived.Test.YtfbkoieodflcpaaDoorMg4
import Derived.Test.YtfbkoieodflcpaaDoorRows
import Derived.Test.YtfbkoieodflcpaaDoorBase
import Derived.Test.YtfbkoieodflcpaaDoorProg
import Derived.Test.YtfbkoieodflcpaaDoorShelf
import Derived.Test.YtfbkoieodflcpaaDoorAddrC
import Derived.Test.YtfbkoieodflcpaaDoorNames
import Derived.Test.YtfbkoieodflcpaaDoorMg7
import Derived.Test.YtfbkoieodflcpaaDoorDecA
import Derived.Test.YtfbkoieodflcpaaDoorValA
import Derived.Test.YtfbkoieodflcpaaDoorValB
import Derived.Test.YtfbkoieodflcpaaDoorMg11
import Derived.Test.YtfbkoieodflcpaaDoorLexP
import Derived.Test.YtfbkoieodflcpaaDoorRowB
import Derived.Test.YtfbkoieodflcpaaDoorMapK
import Derived.Test.YtfbkoieodflcpaaDoorArgK
import Derived.Test.YtfbkoieodflcpaaDoorRefP
import Derived.Test.YtfbkoieodflcpaaDoorMg17
import Derived.Test.YtfbkoieodflcpaaDoorRefN
import Derived.Test.YtfbkoieodflcpaaDoorRefM
import Derived.Test.YtfbkoieodflcpaaDoorRNam
import Derived.Test.YtfbkoieodflcpaaDoorRNod
import Derived.Test.YtfbkoieodflcpaaDoorRefY
import Derived.Test.YtfbkoieodflcpaaDoorRefQ
import Derived.Test.YtfbkoieodflcpaaDoorRefZ
import Derived.Test.YtfbkoieodflcpaaDoorRLev
import Derived.Test.YtfbkoieodflcpaaDoorRNodB
import Derived.WalkSpells
import Derived.WalkLawsBesides
import Derived.StillTactics
import Derived.Laws.Pointers
import Derived.Deep.RegionHeld3
import Derived.Deep.QuietTactic
import Derived.BigQuiet
import Derived.RowKit3
import Derived.Lib.Hide
import Derived.Lib.OthersKept
import Derived.OwnWalk
import Derived.Lib.IndexLaws
import Derived.Lib.ItoaMem
import Derived.Lib.TrimByte
import Derived.Lib.SlTrimSet
import Derived.Lib.ParseIntB
import Derived.WalkKit
import Derived.ProofKit
import Derived.OpenShut
import Derived.Carry
import Derived.ChangeSame
import Derived.Deep.Draws
import Derived.Shelf.Strings.Builder1
import Derived.Shelf.Strings.Builder2
import Derived.Shelf.Strings.Trim
import Derived.Shelf.Small.Utf8
import Derived.Shelf.Small.Strs
import Derived.Shelf.Strings.BuilderF
import Derived.Shelf.Strings.BuilderK
import Derived.Shelf.Strconv.Itoa0
import Derived.Shelf.Strconv.Itoa1
import Derived.Shelf.LaysM
import Derived.Shelf.Strconv.Itoa2
import Derived.Shelf.Strconv.Itoa3
import Derived.Shelf.Strings.Search1
import Derived.Shelf.Strings.Search2
import Derived.Shelf.Strings.Search3
import Derived.Shelf.Strings.Count
import Derived.Shelf.Strings.Shaped
import Derived.Shelf.Strings.Split
import Derived.Shelf.Strings.Replace
import Derived.Shelf.Strings.Runes
import Derived.Shelf.Strings.AsciiSet
import Derived.Shelf.Unicode.DecodeSlow
import Derived.Lib.ItoaNum
import Derived.Maps.OwnSet
import Derived.Maps.AppendAt
namespace Go.Proofs.YtfbkoieodflcpaaDoor
open Go.RowKit

theorem row_set2 {w : World} {b : Nat} {a a' c d : Value} {t : TypeId} (h : w.heap[b]? = some (.cells #[a, c, d] t (0, 0))) : (w.setCell ⟨b, 0, none⟩ a').heap[b]? = some (.cells #[a', c, d] t (0, 0)) := by
  simp [World.setCell, Array.getElem?_modify, h]
/-- how deep an operation's parts are: the i-th must bind so closely and i more -/
def wdeep (lev : Int) (l : List PL) : Int := (l.mapIdx fun i x => x.inside (lev + i)).foldl max 0
theorem wdeep_snoc (lev : Int) (l : List PL) (x : PL) : wdeep lev (l ++ [x]) = max (wdeep lev l) (x.inside (lev + l.length)) := by
  unfold wdeep
  rw [List.mapIdx_append, List.foldl_append]
  simp
theorem wdeep_le (lev k : Int) : ∀ (l : List PL), (∀ p ∈ l, 0 ≤ p.depth ∧ p.depth ≤ k) → 0 ≤ k → 0 ≤ wdeep lev l ∧ wdeep lev l ≤ k + 1 := fun l => by
  induction h : l.length generalizing l with
  | zero =>
    intro _ hk
    obtain rfl := List.eq_nil_of_length_eq_zero h
    exact ⟨Int.le_refl _, by show (0 : Int) ≤ k + 1; omega⟩
  | succ m ih =>
    intro hl hk
    rcases l.eq_nil_or_concat with rfl | ⟨a, x, rfl⟩
    · simp at h
    rw [List.concat_eq_append] at *
    have h1 := ih a (by simpa using h) (fun p hp => hl p (List.mem_append_left _ hp)) hk
    have h2 := inside_le (hl x (by simp)) (lev + a.length)
    rw [wdeep_snoc]
    omega
set_option maxHeartbeats 1000000 in
theorem rpart_rect (n : NL) (hk : n.kind = 3) (V : Value) (w : World) : Calls Tryd.prog 33 #[.agg #[.int .i64 n.kind, .int .i64 n.v.t, .int .i64 n.v.n, .string n.v.s, .bool n.v.b, .int .i64 n.v.c, .int .i64 n.r, .int .i64 n.c, .int .i64 n.t, .int .i64 n.l, .int .i64 n.b, .int .i64 n.q, .int .i64 n.op, .string n.name, .int .i64 n.args], V] w fun e w' => e = .returned (.tuple #[.agg #[.int .i64 0, .int .i64 7, .bool true], .bool true]) ∧ Below w.heap.size w w' := by
  have fk3 : (n.kind == 3) = true := by simp; omega
  clear hk
  go_enter Tryd.func33, Tryd.ntmps33
  go_wp2
  refine bodyPost_ret (v := .tuple #[.agg #[.int .i64 0, .int .i64 7, .bool true], .bool true]) ?_ rfl ⟨rfl, by (repeat (first | (with_reducible exact Below.refl _ _) | (with_reducible refine Below.alloc ?_ (by first | omega | (dsimp only; omega) | (simp <;> omega)) _) | (with_reducible refine Below.setCell ?_ (by first | omega | (dsimp only; omega) | (simp <;> omega)) _) | (with_reducible refine Below.drew ?_) | (with_reducible refine below_drewN ?_ _) | (with_reducible refine Below.trans ?_ (Below.mono (by assumption) (by first | omega | (dsimp only; omega) | (simp <;> omega))))))⟩
  simp [results, Tryd.results33, go_sem, *]
set_option maxHeartbeats 1000000 in
theorem rpart_leaf (n : NL) (h3 : n.kind ≠ 3) (h4 : n.kind ≠ 4) (h5 : n.kind ≠ 5) (V : Value) (w : World) : Calls Tryd.prog 33 #[.agg #[.int .i64 n.kind, .int .i64 n.v.t, .int .i64 n.v.n, .string n.v.s, .bool n.v.b, .int .i64 n.v.c, .int .i64 n.r, .int .i64 n.c, .int .i64 n.t, .int .i64 n.l, .int .i64 n.b, .int .i64 n.q, .int .i64 n.op, .string n.name, .int .i64 n.args], V] w fun e w' => e = .returned (.tuple #[.agg #[.int .i64 0, .int .i64 7, .bool false], .bool true]) ∧ Below w.heap.size w w' := by
  have fk3 : (n.kind == 3) = false := by simp; omega
  have fk4 : (n.kind == 4) = false := by simp; omega
  have fk5 : (n.kind == 5) = false := by simp; omega
  clear h3 h4 h5
  go_enter Tryd.func33, Tryd.ntmps33
  go_wp2
  refine bodyPost_ret (v := .tuple #[.agg #[.int .i64 0, .int .i64 7, .bool false], .bool true]) ?_ rfl ⟨rfl, by (repeat (first | (with_reducible exact Below.refl _ _) | (with_reducible refine Below.alloc ?_ (by first | omega | (dsimp only; omega) | (simp <;> omega)) _) | (with_reducible refine Below.setCell ?_ (by first | omega | (dsimp only; omega) | (simp <;> omega)) _) | (with_reducible refine Below.drew ?_) | (with_reducible refine below_drewN ?_ _) | (with_reducible refine Below.trans ?_ (Below.mono (by assumption) (by first | omega | (dsimp only; omega) | (simp <;> omega))))))⟩
  simp [results, Tryd.results33, go_sem, *]
set_option maxRecDepth 100000 in
set_option maxHeartbeats 4000000 in
theorem rpart_call (n : NL) (hk : n.kind = 5) (l : List PL) (hl : l.length ≤ 16) (hp : ∀ p ∈ l, 0 ≤ p.depth ∧ p.depth ≤ 100000) (w : World) (A : Option Addr) (cap : Nat) (hR : RdB w w.heap.size A 3 (l.map PL.cs)) : Calls Tryd.prog 33 #[.agg #[.int .i64 n.kind, .int .i64 n.v.t, .int .i64 n.v.n, .string n.v.s, .bool n.v.b, .int .i64 n.v.c, .int .i64 n.r, .int .i64 n.c, .int .i64 n.t, .int .i64 n.l, .int .i64 n.b, .int .i64 n.q, .int .i64 n.op, .string n.name, .int .i64 n.args], .slice A l.length cap] w fun e w' => e = .returned (.tuple #[.agg #[.int .i64 (deepL l + 1), .int .i64 7, .bool false], .bool true]) ∧ Below w.heap.size w w' := by
  have fk3 : (n.kind == 3) = false := by simp; omega
  have fk5 : (n.kind == 5) = true := by simp; omega
  clear hk
  have hRH := Lib.hid hR
  have hpH := Lib.hid hp
  clear hR hp
  have hW : Below w.heap.size w ((w.alloc (.cells #[.int .i64 n.kind, .int .i64 n.v.t, .int .i64 n.v.n, .string n.v.s, .bool n.v.b, .int .i64 n.v.c, .int .i64 n.r, .int .i64 n.c, .int .i64 n.t, .int .i64 n.l, .int .i64 n.b, .int .i64 n.q, .int .i64 n.op, .string n.name, .int .i64 n.args] 41)).alloc (.cells #[.int .i64 0, .int .i64 0, .bool false] 66)) := ((Below.refl _ _).alloc (Nat.le_refl _) _).alloc (by simp) _
  go_enter Tryd.func33, Tryd.ntmps33
  go_wp2
  have hb9 := heap_alloc_new ((w.alloc (.cells #[.int .i64 n.kind, .int .i64 n.v.t, .int .i64 n.v.n, .string n.v.s, .bool n.v.b, .int .i64 n.v.c, .int .i64 n.r, .int .i64 n.c, .int .i64 n.t, .int .i64 n.l, .int .i64 n.b, .int .i64 n.q, .int .i64 n.op, .string n.name, .int .i64 n.args] 41)).alloc (.cells #[.int .i64 0, .int .i64 0, .bool false] 66)) (.cells #[.int .i64 1, .int .i64 7, .bool false] 66)
  simp only [World.size_alloc] at hb9
  go_loopw [7] (fun i wr => ∃ q : Nat, q ≤ l.length ∧ i = .int .i64 (q : Int) ∧ wr.heap[w.heap.size + 1 + 1]? = some (.cells #[.int .i64 (deepL (l.take q) + 1), .int .i64 7, .bool false] 66 (0, 0)) ∧ Below (w.heap.size + 2) ((w.alloc (.cells #[.int .i64 n.kind, .int .i64 n.v.t, .int .i64 n.v.n, .string n.v.s, .bool n.v.b, .int .i64 n.v.c, .int .i64 n.r, .int .i64 n.c, .int .i64 n.t, .int .i64 n.l, .int .i64 n.b, .int .i64 n.q, .int .i64 n.op, .string n.name, .int .i64 n.args] 41)).alloc (.cells #[.int .i64 0, .int .i64 0, .bool false] 66)) wr) (fun i _ => l.length - (intOf i).toNat)
  case atStart => exact ⟨0, by omega, rfl, hb9, (Below.refl _ _).alloc (by simp) _⟩
  case round =>
    obtain ⟨q, hq, rfl, hbx, hbr⟩ := hrel
    have hbe : Below w.heap.size w wr := hW.trans (hbr.mono (by omega))
    have hbl : w.heap.size + 1 + 1 < wr.heap.size := (Array.getElem?_eq_some_iff.1 hbx).1
    have hD := deep_le (k := 100000) (l := l.take q) (fun p hm => hpH.out p (List.mem_of_mem_take hm)) (by omega)
    obtain ⟨D, hDe⟩ : ∃ D, deepL (l.take q) = D := ⟨_, rfl⟩
    rw [hDe] at hD hbx
    have hx0 : wr.cell? ⟨w.heap.size + 1 + 1, 0, none⟩ = some (.int .i64 (D + 1)) := blk_cell hbx 0
    have hxf := blk_frozen hbx 0
    by_cases hql : q < l.length
    · obtain ⟨x, hx⟩ : ∃ x, l[q]? = some x := ⟨_, List.getElem?_eq_getElem hql⟩
      have hxd := hpH.out x (List.mem_of_getElem? hx)
      obtain ⟨ab, ao, hA2, hab, hcA⟩ := (hRH.out.below hbe) q x.cs (by rw [List.getElem?_map, hx]; rfl)
      obtain rfl : A = some ⟨ab, ao, none⟩ := hA2
      have ha0 : wr.cell? ⟨ab, ao + q * 3, none⟩ = some (.int .i64 x.depth) := hcA 0 _ rfl
      have ha1 : wr.cell? ⟨ab, ao + q * 3 + 1, none⟩ = some (.int .i64 x.binds) := hcA 1 _ rfl
      have ha2 : wr.cell? ⟨ab, ao + q * 3 + 2, none⟩ = some (.bool x.many) := hcA 2 _ rfl
      have hDn : deepL (l.take (q + 1)) = max D x.depth := by rw [List.take_add_one, hx, ← hDe]; exact deep_snoc _ _
      have hDnH := Lib.hid hDn
      have hkl : (q : Int) < (l.length : Int) := by omega
      have hk0 : (0 : Int) ≤ (q : Int) := by omega
      have hwx : IntKind.i64.wrap (x.depth + 1) = x.depth + 1 := IntWalk.i64_in _ (by omega)
      have hwq : IntKind.i64.wrap ((q : Int) + 1) = (q : Int) + 1 := IntWalk.i64_in _ (by omega)
      have hne : ab ≠ w.heap.size + 1 + 1 := by omega
      clear hDn hDe hx hcA hxd hD hbe hW
      by_cases hg : D < x.depth
      · have hgt : decide (D + 1 < x.depth + 1) = true := by simp; omega
        have hgt2 : decide (D < x.depth) = true := by simp; omega
        have hm : Hid (max D x.depth = x.depth) := Lib.hid (by omega)
        clear hg
        go_wp2
        go_quiet (fail)
        go_wp2
        go_roundw
        case rel => exact ⟨q + 1, by omega, by go_num, by rw [hDnH.out, hm.out]; exact row_set2 hbx, by (repeat (first | (with_reducible exact Below.refl _ _) | (with_reducible refine Below.alloc ?_ (by first | omega | (dsimp only; omega) | (simp <;> omega)) _) | (with_reducible refine Below.setCell ?_ (by first | omega | (dsimp only; omega) | (simp <;> omega)) _) | (with_reducible refine Below.drew ?_) | (with_reducible refine below_drewN ?_ _) | (with_reducible refine Below.trans ?_ (Below.mono (by assumption) (by first | omega | (dsimp only; omega) | (simp <;> omega))))))⟩
        case measure => simp [intOf]; omega
      · have hgt : decide (D + 1 < x.depth + 1) = false := by simp; omega
        have hgt2 : decide (D < x.depth) = false := by simp; omega
        have hm : Hid (max D x.depth = D) := Lib.hid (by omega)
        clear hg
        go_wp2
        go_quiet (fail)
        go_wp2
        go_roundw
        case rel => exact ⟨q + 1, by omega, by go_num, by rw [hDnH.out, hm.out]; exact hbx, by (repeat (first | (with_reducible exact Below.refl _ _) | (with_reducible refine Below.alloc ?_ (by first | omega | (dsimp only; omega) | (simp <;> omega)) _) | (with_reducible refine Below.setCell ?_ (by first | omega | (dsimp only; omega) | (simp <;> omega)) _) | (with_reducible refine Below.drew ?_) | (with_reducible refine below_drewN ?_ _) | (with_reducible refine Below.trans ?_ (Below.mono (by assumption) (by first | omega | (dsimp only; omega) | (simp <;> omega))))))⟩
        case measure => simp [intOf]; omega
    · obtain rfl : q = l.length := by omega
      have hnn : ¬ ((l.length : Int) < (l.length : Int)) := by omega
      have hDl := Lib.hid (show deepL l = D by rw [← hDe, List.take_of_length_le (Nat.le_refl _)])
      have hx1 : wr.cell? ⟨w.heap.size + 1 + 1, 1, none⟩ = some (.int .i64 7) := blk_cell hbx 1
      have hx2 : wr.cell? ⟨w.heap.size + 1 + 1, 2, none⟩ = some (.bool false) := blk_cell hbx 2
      have hrb : wr.heap[w.heap.size + 1]? = some (.cells #[.int .i64 0, .int .i64 0, .bool false] 66 (0, 0)) := (hbr.block (w.heap.size + 1) (by omega)).trans (by have := heap_alloc_new (w.alloc (.cells #[.int .i64 n.kind, .int .i64 n.v.t, .int .i64 n.v.n, .string n.v.s, .bool n.v.b, .int .i64 n.v.c, .int .i64 n.r, .int .i64 n.c, .int .i64 n.t, .int .i64 n.l, .int .i64 n.b, .int .i64 n.q, .int .i64 n.op, .string n.name, .int .i64 n.args] 41)) (.cells #[.int .i64 0, .int .i64 0, .bool false] 66); simpa only [World.size_alloc] using this)
      have hrc0 := blk_cell hrb 0
      have hrc1 := blk_cell hrb 1
      have hrc2 := blk_cell hrb 2
      have hrf := fun i => blk_frozen hrb i
      have hrf0 := hrf 0
      have hrf1 := hrf 1
      have hrf2 := hrf 2
      clear hDe hrf
      go_wp2
      refine bodyPost_ret (v := .tuple #[.agg #[.int .i64 (D + 1), .int .i64 7, .bool false], .bool true]) ?_ rfl ⟨by rw [hDl.out], by (repeat (first | (with_reducible exact Below.refl _ _) | (with_reducible refine Below.alloc ?_ (by first | omega | (dsimp only; omega) | (simp <;> omega)) _) | (with_reducible refine Below.setCell ?_ (by first | omega | (dsimp only; omega) | (simp <;> omega)) _) | (with_reducible refine Below.drew ?_) | (with_reducible refine below_drewN ?_ _) | (with_reducible refine Below.trans ?_ (Below.mono (by assumption) (by first | omega | (dsimp only; omega) | (simp <;> omega))))))⟩
      simp [results, Tryd.results33, go_sem, *]
set_option maxRecDepth 100000 in
set_option maxHeartbeats 4000000 in
theorem rpart_op (n : NL) (hk : n.kind = 4) (ho1 : 1 ≤ n.op) (ho2 : n.op ≤ 13) (l : List PL) (hl : l.length ≤ 2) (hp : ∀ p ∈ l, 0 ≤ p.depth ∧ p.depth ≤ 90000) (r : PL) (ok : Bool) (hr : (l.any (·.many) = true ∧ ok = false ∧ r = ⟨0, 0, false⟩) ∨ (l.any (·.many) = false ∧ ok = true ∧ r = ⟨wdeep (levelI n.op) l, levelI n.op, false⟩)) (w : World) (A : Option Addr) (cap : Nat) (hR : RdB w w.heap.size A 3 (l.map PL.cs)) : Calls Tryd.prog 33 #[.agg #[.int .i64 n.kind, .int .i64 n.v.t, .int .i64 n.v.n, .string n.v.s, .bool n.v.b, .int .i64 n.v.c, .int .i64 n.r, .int .i64 n.c, .int .i64 n.t, .int .i64 n.l, .int .i64 n.b, .int .i64 n.q, .int .i64 n.op, .string n.name, .int .i64 n.args], .slice A l.length cap] w fun e w' => e = .returned (.tuple #[.agg #[.int .i64 r.depth, .int .i64 r.binds, .bool r.many], .bool ok]) ∧ Below w.heap.size w w' := by
  have fk3 : (n.kind == 3) = false := by simp; omega
  have fk4 : (n.kind == 4) = true := by simp; omega
  have fk5 : (n.kind == 5) = false := by simp; omega
  obtain ⟨lv, hlv⟩ : ∃ lv, levelI n.op = lv := ⟨_, rfl⟩
  have hlvb : 1 ≤ lv ∧ lv ≤ 6 := by rw [← hlv]; unfold levelI; (repeat' split) <;> omega
  have CV : ∀ w0 : World, Calls Tryd.prog 51 #[.int .i64 n.op] w0 fun e w' => e = .returned (.int .i64 lv) ∧ w0 = w' := fun w0 => by rw [← hlv]; exact rref_level n.op ho1 ho2 w0
  have CVH := Lib.hid CV
  rw [hlv] at hr
  have hRH := Lib.hid hR
  have hpH := Lib.hid hp
  have hrH := Lib.hid hr
  clear hR hp hk ho1 ho2 CV hlv hr
  have hW : Below w.heap.size w ((w.alloc (.cells #[.int .i64 n.kind, .int .i64 n.v.t, .int .i64 n.v.n, .string n.v.s, .bool n.v.b, .int .i64 n.v.c, .int .i64 n.r, .int .i64 n.c, .int .i64 n.t, .int .i64 n.l, .int .i64 n.b, .int .i64 n.q, .int .i64 n.op, .string n.name, .int .i64 n.args] 41)).alloc (.cells #[.int .i64 0, .int .i64 0, .bool false] 66)) := ((Below.refl _ _).alloc (Nat.le_refl _) _).alloc (by simp) _
  go_enter Tryd.func33, Tryd.ntmps33
  go_wp2_with fail
  go_at_call 51
  refine (CVH.out _).mono ?_
  rintro e w1 ⟨rfl, rfl⟩
  go_wp2_with fail
  have hb9 := heap_alloc_new ((w.alloc (.cells #[.int .i64 n.kind, .int .i64 n.v.t, .int .i64 n.v.n, .string n.v.s, .bool n.v.b, .int .i64 n.v.c, .int .i64 n.r, .int .i64 n.c, .int .i64 n.t, .int .i64 n.l, .int .i64 n.b, .int .i64 n.q, .int .i64 n.op, .string n.name, .int .i64 n.args] 41)).alloc (.cells #[.int .i64 0, .int .i64 0, .bool false] 66)) (.cells #[.int .i64 0, .int .i64 lv, .bool false] 66)
  simp only [World.size_alloc] at hb9
  go_loopw [9] (fun i wr => ∃ q : Nat, q ≤ l.length ∧ i = .int .i64 (q : Int) ∧ wr.heap[w.heap.size + 1 + 1]? = some (.cells #[.int .i64 (wdeep lv (l.take q)), .int .i64 lv, .bool false] 66 (0, 0)) ∧ Hid ((l.take q).any (·.many) = false) ∧ Below (w.heap.size + 2) ((w.alloc (.cells #[.int .i64 n.kind, .int .i64 n.v.t, .int .i64 n.v.n, .string n.v.s, .bool n.v.b, .int .i64 n.v.c, .int .i64 n.r, .int .i64 n.c, .int .i64 n.t, .int .i64 n.l, .int .i64 n.b, .int .i64 n.q, .int .i64 n.op, .string n.name, .int .i64 n.args] 41)).alloc (.cells #[.int .i64 0, .int .i64 0, .bool false] 66)) wr) (fun i _ => l.length - (intOf i).toNat)
  case atStart => exact ⟨0, by omega, rfl, hb9, Lib.hid rfl, (Below.refl _ _).alloc (by simp) _⟩
  case round =>
    clear hb9
    obtain ⟨q, hq, rfl, hbx, hmany, hbr⟩ := hrel
    have hbe : Below w.heap.size w wr := hW.trans (hbr.mono (by omega))
    have hbl : w.heap.size + 1 + 1 < wr.heap.size := (Array.getElem?_eq_some_iff.1 hbx).1
    have hD := wdeep_le lv 90000 (l.take q) (fun p hm => hpH.out p (List.mem_of_mem_take hm)) (by omega)
    obtain ⟨D, hDe⟩ : ∃ D, wdeep lv (l.take q) = D := ⟨_, rfl⟩
    rw [hDe] at hD hbx
    have hx0 : wr.cell? ⟨w.heap.size + 1 + 1, 0, none⟩ = some (.int .i64 D) := blk_cell hbx 0
    have hx1 : wr.cell? ⟨w.heap.size + 1 + 1, 1, none⟩ = some (.int .i64 lv) := blk_cell hbx 1
    have hxf := blk_frozen hbx 0
    have hrb : wr.heap[w.heap.size + 1]? = some (.cells #[.int .i64 0, .int .i64 0, .bool false] 66 (0, 0)) := (hbr.block (w.heap.size + 1) (by omega)).trans (by have := heap_alloc_new (w.alloc (.cells #[.int .i64 n.kind, .int .i64 n.v.t, .int .i64 n.v.n, .string n.v.s, .bool n.v.b, .int .i64 n.v.c, .int .i64 n.r, .int .i64 n.c, .int .i64 n.t, .int .i64 n.l, .int .i64 n.b, .int .i64 n.q, .int .i64 n.op, .string n.name, .int .i64 n.args] 41)) (.cells #[.int .i64 0, .int .i64 0, .bool false] 66); simpa only [World.size_alloc] using this)
    by_cases hql : q < l.length
    · obtain ⟨x, hx⟩ : ∃ x, l[q]? = some x := ⟨_, List.getElem?_eq_getElem hql⟩
      have hxd := hpH.out x (List.mem_of_getElem? hx)
      obtain ⟨ab, ao, hA2, hab, hcA⟩ := (hRH.out.below hbe) q x.cs (by rw [List.getElem?_map, hx]; rfl)
      obtain rfl : A = some ⟨ab, ao, none⟩ := hA2
      have ha0 : wr.cell? ⟨ab, ao + q * 3, none⟩ = some (.int .i64 x.depth) := hcA 0 _ rfl
      have ha1 : wr.cell? ⟨ab, ao + q * 3 + 1, none⟩ = some (.int .i64 x.binds) := hcA 1 _ rfl
      have ha2 : wr.cell? ⟨ab, ao + q * 3 + 2, none⟩ = some (.bool x.many) := hcA 2 _ rfl
      have hql2 : (l.take q).length = q := by rw [List.length_take]; omega
      have hkl : (q : Int) < (l.length : Int) := by omega
      have hk0 : (0 : Int) ≤ (q : Int) := by omega
      have hwq : IntKind.i64.wrap ((q : Int) + 1) = (q : Int) + 1 := IntWalk.i64_in _ (by omega)
      have hwl : IntKind.i64.wrap (lv + (q : Int)) = lv + (q : Int) := IntWalk.i64_in _ (by omega)
      have hne : ab ≠ w.heap.size + 1 + 1 := by omega
      cases hm : x.many
      · rw [hm] at ha2
        obtain ⟨dx, hdx⟩ : ∃ dx, x.inside (lv + (q : Int)) = dx := ⟨_, rfl⟩
        have hdxb := inside_le hxd (lv + (q : Int))
        rw [hdx] at hdxb
        have hDnH := Lib.hid (show wdeep lv (l.take (q + 1)) = max D dx by
          rw [List.take_add_one, hx, Option.toList_some, wdeep_snoc, hDe, hql2, hdx])
        have hmn := Lib.hid (show (l.take (q + 1)).any (·.many) = false by
          rw [List.take_add_one, hx, List.any_append, hmany.out]; simp [hm])
        have CW : ∀ w0 : World, Calls Tryd.prog 52 #[.agg #[.int .i64 x.depth, .int .i64 x.binds, .bool false], .int .i64 (lv + (q : Int))] w0 fun e w' => e = .returned (.int .i64 dx) ∧ Below w0.heap.size w0 w' := fun w0 => by
          have h := rref_within x (lv + (q : Int)) dx hxd.1 (by omega) hdx w0
          rw [hm] at h
          exact h
        have CWH := Lib.hid CW
        have hbrH := Lib.hid hbr
        have hbxH := Lib.hid hbx
        clear CW hDe hx hcA hm hdx hbe hW hbr hrb hmany hql2
        go_wp2_with fail
        go_wp2_with fail
        refine wp_region_noPanic ?_
        refine wp_region_held_drew (S := fun w' => w'.cell? ⟨ab, ao + q * 3, none⟩ = some (.int .i64 x.depth) ∧ w'.cell? ⟨ab, ao + q * 3 + 1, none⟩ = some (.int .i64 x.binds) ∧ w'.cell? ⟨ab, ao + q * 3 + 2, none⟩ = some (.bool false) ∧ w'.cell? ⟨w.heap.size + 1 + 1, 1, none⟩ = some (.int .i64 lv)) (by kernel_rfl) ⟨ha0, ha1, ha2, hx1⟩ (fun hHeld => ?_)
        refine wpAnyH_take (i := 0) (oi := ⟨_, _, _, _, _, _⟩) (v := ?v1) rfl (by kernel_rfl) (by kernel_rfl) (by kernel_rfl) (fun _ _ _ h => h) (Or.inl ⟨by rfl, ?hy1⟩) hHeld ?rest1
        case hy1 => (intro w2 hSw; (try dsimp only at hSw); go_split_ands; go_simp; first | done | with_reducible rfl)
        try simp only [Act.put, List.setIfInBounds_toArray, List.set_cons_zero, List.set_cons_succ]
        refine wpAnyH_take (i := 1) (oi := ⟨_, _, _, _, _, _⟩) (v := ?v2) rfl (by kernel_rfl) (by kernel_rfl) (by kernel_rfl) (fun _ _ _ h => h) (Or.inl ⟨by rfl, ?hy2⟩) hHeld ?rest2
        case hy2 => (intro w2 hSw; (try dsimp only at hSw); go_split_ands; go_simp; first | done | with_reducible rfl)
        try simp only [Act.put, List.setIfInBounds_toArray, List.set_cons_zero, List.set_cons_succ]
        refine wpAnyH_take (i := 2) (oi := ⟨_, _, _, _, _, _⟩) (v := ?v3) rfl (by kernel_rfl) (by kernel_rfl) (by kernel_rfl) (fun _ _ _ h => h) (Or.inl ⟨by rfl, ?hy3⟩) hHeld ?rest3
        case hy3 => (intro w2 hSw; (try dsimp only at hSw); go_split_ands; go_simp; first | done | with_reducible rfl)
        try simp only [Act.put, List.setIfInBounds_toArray, List.set_cons_zero, List.set_cons_succ]
        refine wpAnyH_take (i := 3) (oi := ⟨_, _, _, _, _, _⟩) (v := ?v4) rfl (by kernel_rfl) (by kernel_rfl) (by kernel_rfl) (fun _ _ _ h => h) (Or.inl ⟨by rfl, ?hy4⟩) hHeld ?rest4
        case hy4 => (intro w2 hSw; (try dsimp only at hSw); go_split_ands; go_simp; first | done | with_reducible rfl)
        try simp only [Act.put, List.setIfInBounds_toArray, List.set_cons_zero, List.set_cons_succ]
        refine wpAnyH_take (i := 4) (oi := ⟨_, _, _, _, _, _⟩) (v := ?v5) rfl (by kernel_rfl) (by kernel_rfl) (by kernel_rfl) (fun _ _ _ h => h) (Or.inl ⟨by rfl, ?hy5⟩) hHeld ?rest5
        case hy5 => (intro w2 hSw; (try dsimp only at hSw); go_split_ands; go_simp; first | done | with_reducible rfl)
        try simp only [Act.put, List.setIfInBounds_toArray, List.set_cons_zero, List.set_cons_succ]
        refine wpAnyH_take (i := 5) (oi := ⟨_, _, _, _, _, _⟩) (v := ?v6) rfl (by kernel_rfl) (by kernel_rfl) (by kernel_rfl) (fun _ _ _ h => h) (Or.inl ⟨by rfl, ?hy6⟩) hHeld ?rest6
        case hy6 => (intro w2 hSw; (try dsimp only at hSw); go_split_ands; go_simp; first | done | with_reducible rfl)
        try simp only [Act.put, List.setIfInBounds_toArray, List.set_cons_zero, List.set_cons_succ]
        refine wpAnyH_take (i := 6) (oi := ⟨_, _, _, _, _, _⟩) (v := ?v7) rfl (by kernel_rfl) (by kernel_rfl) (by kernel_rfl) (fun _ _ _ h => h) (Or.inl ⟨by rfl, ?hy7⟩) hHeld ?rest7
        case hy7 => (intro w2 hSw; (try dsimp only at hSw); go_split_ands; go_simp; first | done | with_reducible rfl)
        try simp only [Act.put, List.setIfInBounds_toArray, List.set_cons_zero, List.set_cons_succ]
        refine wpAnyH_take (i := 7) (oi := ⟨_, _, _, _, _, _⟩) (v := ?v8) rfl (by kernel_rfl) (by kernel_rfl) (by kernel_rfl) (fun _ _ _ h => h) (Or.inl ⟨by rfl, ?hy8⟩) hHeld ?rest8
        case hy8 => (intro w2 hSw; (try dsimp only at hSw); go_split_ands; go_simp; first | done | with_reducible rfl)
        try simp only [Act.put, List.setIfInBounds_toArray, List.set_cons_zero, List.set_cons_succ]
        refine wpAnyH_ready (rs := [8]) (by kernel_rfl) (by simp) ?_
        refine AllReadyH.cons (o := ⟨_, _, _, _, _, _⟩) rfl (fun K hK => ?_) AllReadyH.nil
        go_split_ands
        go_simp
        refine (CWH.out _).mono ?_
        rintro e w3 ⟨rfl, hb0⟩
        have hb : Below wr.heap.size wr w3 := ((Below.refl _ _).drew).trans hb0
        have hbx3 := (hb.block (w.heap.size + 1 + 1) hbl).trans hbxH.out
        have hbr3 := hbrH.out.trans (hb.mono (by omega))
        refine hK.out _ _ ⟨(hb.cell (p := ⟨ab, ao + q * 3, none⟩) (by dsimp only; omega)).trans ha0, (hb.cell (p := ⟨ab, ao + q * 3 + 1, none⟩) (by dsimp only; omega)).trans ha1, (hb.cell (p := ⟨ab, ao + q * 3 + 2, none⟩) (by dsimp only; omega)).trans ha2, (hb.cell (p := ⟨w.heap.size + 1 + 1, 1, none⟩) hbl).trans hx1⟩ (fun hHeld => ?_)
        clear hK K hb0
        try simp only [Act.put, List.setIfInBounds_toArray, List.set_cons_zero, List.set_cons_succ]
        refine wpAnyH_take (i := 9) (oi := ⟨_, _, _, _, _, _⟩) (v := ?v9) rfl (by kernel_rfl) (by kernel_rfl) (by kernel_rfl) (fun _ _ _ h => h) (Or.inl ⟨by rfl, ?hy9⟩) hHeld ?rest9
        case hy9 => (intro w2 hSw; (try dsimp only at hSw); go_split_ands; go_simp; first | done | with_reducible rfl)
        try simp only [Act.put, List.setIfInBounds_toArray, List.set_cons_zero, List.set_cons_succ]
        refine wpAnyH_done (by kernel_rfl) ?_ _
        refine NoPanic.normal ?_
        have hx3 : w3.cell? ⟨w.heap.size + 1 + 1, 0, none⟩ = some (.int .i64 D) := blk_cell hbx3 0
        have hxf3 := blk_frozen hbx3 0
        clear hx0 hx1 hxf ha0 ha1 ha2 hb
        by_cases hg : D < dx
        · have hgt : decide (D < dx) = true := by simp; omega
          have hmx : Hid (max D dx = dx) := Lib.hid (by omega)
          clear hg
          go_wp2
          go_roundw
          case rel => exact ⟨q + 1, by omega, by go_num, by rw [hDnH.out, hmx.out]; exact row_set2 hbx3, hmn, hbr3.setCell (p := ⟨w.heap.size + 1 + 1, 0, none⟩) (Nat.le_refl _) _⟩
          case measure => simp [intOf]; omega
        · have hgt : decide (D < dx) = false := by simp; omega
          have hmx : Hid (max D dx = D) := Lib.hid (by omega)
          clear hg
          go_wp2
          go_roundw
          case rel => exact ⟨q + 1, by omega, by go_num, by rw [hDnH.out, hmx.out]; exact hbx3, hmn, hbr3⟩
          case measure => simp [intOf]; omega
      · rw [hm] at ha2
        have hany : l.any (·.many) = true := List.any_eq_true.2 ⟨x, List.mem_of_getElem? hx, hm⟩
        obtain ⟨rfl, rfl⟩ : ok = false ∧ r = ⟨0, 0, false⟩ := by
          rcases hrH.out with ⟨_, h1, h2⟩ | ⟨h1, _⟩
          · exact ⟨h1, h2⟩
          · rw [hany] at h1; cases h1
        have hrc0 := blk_cell hrb 0
        have hrc1 := blk_cell hrb 1
        have hrc2 := blk_cell hrb 2
        have hrf := fun i => blk_frozen hrb i
        have hrf0 := hrf 0
        have hrf1 := hrf 1
        have hrf2 := hrf 2
        clear hrf
        clear hDe hx hcA hm hany hW hbr hmany hql2
        go_wp2
        refine bodyPost_ret (v := .tuple #[.agg #[.int .i64 0, .int .i64 0, .bool false], .bool false]) ?_ rfl ⟨rfl, by (repeat (first | (with_reducible exact Below.refl _ _) | (with_reducible refine Below.alloc ?_ (by first | omega | (dsimp only; omega) | (simp <;> omega)) _) | (with_reducible refine Below.setCell ?_ (by first | omega | (dsimp only; omega) | (simp <;> omega)) _) | (with_reducible refine Below.drew ?_) | (with_reducible refine below_drewN ?_ _) | (with_reducible refine Below.trans ?_ (Below.mono (by assumption) (by first | omega | (dsimp only; omega) | (simp <;> omega))))))⟩
        simp [results, Tryd.results33, go_sem, *]
    · obtain rfl : q = l.length := by omega
      have hnn : ¬ ((l.length : Int) < (l.length : Int)) := by omega
      have htk : l.take l.length = l := List.take_of_length_le (Nat.le_refl _)
      obtain ⟨rfl, rfl⟩ : ok = true ∧ r = ⟨D, lv, false⟩ := by
        have hmo := hmany.out
        rw [htk] at hmo hDe
        rcases hrH.out with ⟨h1, _⟩ | ⟨_, h1, h2⟩
        · rw [hmo] at h1; cases h1
        · exact ⟨h1, by rw [h2, hDe]⟩
      have hx2 : wr.cell? ⟨w.heap.size + 1 + 1, 2, none⟩ = some (.bool false) := blk_cell hbx 2
      have hrc0 := blk_cell hrb 0
      have hrc1 := blk_cell hrb 1
      have hrc2 := blk_cell hrb 2
      have hrf := fun i => blk_frozen hrb i
      have hrf0 := hrf 0
      have hrf1 := hrf 1
      have hrf2 := hrf 2
      clear hrf
      clear hDe htk hmany hW hbr
      go_wp2
      refine bodyPost_ret (v := .tuple #[.agg #[.int .i64 D, .int .i64 lv, .bool false], .bool true]) ?_ rfl ⟨rfl, by (repeat (first | (with_reducible exact Below.refl _ _) | (with_reducible refine Below.alloc ?_ (by first | omega | (dsimp only; omega) | (simp <;> omega)) _) | (with_reducible refine Below.setCell ?_ (by first | omega | (dsimp only; omega) | (simp <;> omega)) _) | (with_reducible refine Below.drew ?_) | (with_reducible refine below_drewN ?_ _) | (with_reducible refine Below.trans ?_ (Below.mono (by assumption) (by first | omega | (dsimp only; omega) | (simp <;> omega))))))⟩
      simp [results, Tryd.results33, go_sem, *]
end Go.Proofs.YtfbkoieodflcpaaDoor
