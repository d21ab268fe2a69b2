/-
  nums: the walk of NumsFaults.
-/
import Derived.Test.YthobaffgllipfaaRows
import Derived.Test.YthobaffgllipfaaBase
import Derived.Test.YthobaffgllipfaaMapK
import Derived.Test.YthobaffgllipfaaNFind
import Derived.Test.YthobaffgllipfaaRowB
import Derived.Test.YthobaffgllipfaaDecA
import Derived.Test.YthobaffgllipfaaValA
import Derived.Test.YthobaffgllipfaaValB
import Derived.Test.YthobaffgllipfaaDecS
import Derived.Test.YthobaffgllipfaaValC
import Derived.Test.YthobaffgllipfaaAddrC
import Derived.Test.YthobaffgllipfaaAddrI
import Derived.Test.YthobaffgllipfaaArgK
import Derived.Test.YthobaffgllipfaaDMod
import Derived.Test.YthobaffgllipfaaDFlo
import Derived.Test.YthobaffgllipfaaProg
import Derived.Test.YthobaffgllipfaaShelf
import Derived.Test.YthobaffgllipfaaPrintL
import Derived.Test.YthobaffgllipfaaDPrint
import Derived.Test.YthobaffgllipfaaDRnd
import Derived.Test.YthobaffgllipfaaDSqr
import Derived.Test.YthobaffgllipfaaKnuth
import Derived.Test.YthobaffgllipfaaDDiv
import Derived.Test.YthobaffgllipfaaDecK
import Derived.Test.YthobaffgllipfaaDDivA
import Derived.Test.YthobaffgllipfaaNDoA
import Derived.Test.YthobaffgllipfaaNDoB
import Derived.Test.YthobaffgllipfaaNDoC
import Derived.Test.YthobaffgllipfaaNDoD
import Derived.Test.YthobaffgllipfaaNDoE
import Derived.Test.YthobaffgllipfaaNCall
import Derived.Test.YthobaffgllipfaaValE
import Derived.Test.YthobaffgllipfaaValF
import Derived.Test.YthobaffgllipfaaValL
import Derived.Test.YthobaffgllipfaaNCallK
import Derived.Test.YthobaffgllipfaaNCallB
import Derived.Test.YthobaffgllipfaaNDoF
import Derived.Test.YthobaffgllipfaaNDoG
import Derived.Test.YthobaffgllipfaaNDoQ
import Derived.Test.YthobaffgllipfaaNDoAt
import Derived.Test.YthobaffgllipfaaNDoP
import Derived.Test.YthobaffgllipfaaNDoAt2
import Derived.Test.YthobaffgllipfaaDPow
import Derived.Test.YthobaffgllipfaaDPowB
import Derived.Test.YthobaffgllipfaaDPowC
import Derived.Test.YthobaffgllipfaaNDoAt3
import Derived.Test.YthobaffgllipfaaArgS
import Derived.Test.YthobaffgllipfaaNLaw
import Derived.Test.YthobaffgllipfaaNFltL
import Derived.Test.YthobaffgllipfaaNKn
import Derived.Test.YthobaffgllipfaaLNTak
import Derived.WalkSpells
import Derived.WalkLawsBesides
import Derived.StillTactics
import Derived.Laws.Pointers
import Derived.Deep.RegionHeld3
import Derived.Deep.QuietTactic
import Derived.BigQuiet
import Derived.RowKit3
import Derived.Lib.Hide
import Derived.Lib.OthersKept
import Derived.OwnWalk
import Derived.Lib.IndexLaws
import Derived.Lib.ItoaMem
import Derived.WalkKit
import Derived.ProofKit
import Derived.OpenShut
import Derived.Carry
import Derived.ChangeSame
import Derived.Deep.Draws
import Derived.Maps.OwnSet
import Derived.Maps.AppendAt
import Derived.Laws.EntriesVeiled
import Derived.Laws.BitsAllLaws
import Derived.Shelf.Small.Bits
import Derived.Shelf.Strconv.Itoa0
import Derived.Shelf.Bits.Mul64
import Derived.Lib.TrimByte
import Derived.Lib.Bytealg
import Derived.Lib.SlTrimSet
import Derived.Lib.ParseIntB
import Derived.Shelf.Strings.SlTrimAscii
import Derived.Lib.SmallJoins
import Derived.Deep.RegionWith
import Derived.Laws.Externs
namespace Go.Proofs.Ythobaffgllipfaa
open Go.RowKit

/-- a value's five cells at the head of a block -/
structure VAt (w : World) (b : Nat) (v : VL) : Prop where
  c0 : w.cell? ⟨b, 0, none⟩ = some (.int .i64 v.t)
  c1 : w.cell? ⟨b, 1, none⟩ = some (.int .i64 v.n)
  c2 : w.cell? ⟨b, 2, none⟩ = some (.string v.s)
  c3 : w.cell? ⟨b, 3, none⟩ = some (.bool v.b)
  c4 : w.cell? ⟨b, 4, none⟩ = some (.int .i64 v.c)
  f : ∀ o, w.frozen? ⟨b, o, none⟩ = false
  lt : b < w.heap.size
theorem VAt.below {w w' : World} {b B : Nat} {v : VL} (h : VAt w b v) (hb : Below B w w') (hB : b < B) : VAt w' b v :=
  ⟨(hb.cell (p := ⟨b, 0, none⟩) hB).trans h.c0, (hb.cell (p := ⟨b, 1, none⟩) hB).trans h.c1, (hb.cell (p := ⟨b, 2, none⟩) hB).trans h.c2, (hb.cell (p := ⟨b, 3, none⟩) hB).trans h.c3, (hb.cell (p := ⟨b, 4, none⟩) hB).trans h.c4, fun o => (hb.frozen (p := ⟨b, o, none⟩) hB).trans (h.f o), Nat.lt_of_lt_of_le h.lt hb.size⟩
theorem VAt.grown {w w' : World} {b : Nat} {r : Option Nat} {v : VL} (h : VAt w b v) (hg : w.grownBy w' r) (hr : some b ≠ r) : VAt w' b v := by
  have hb := hg.block b h.lt hr
  exact ⟨(World.cell?_of_block hb).trans h.c0, (World.cell?_of_block hb).trans h.c1, (World.cell?_of_block hb).trans h.c2, (World.cell?_of_block hb).trans h.c3, (World.cell?_of_block hb).trans h.c4, fun o => (World.frozen?_of_block (a := ⟨b, o, none⟩) hb).trans (h.f o), Nat.lt_of_lt_of_le h.lt hg.size⟩
theorem VAt.new (w : World) (v : VL) (t : TypeId) : VAt (w.alloc (.cells #[.int .i64 v.t, .int .i64 v.n, .string v.s, .bool v.b, .int .i64 v.c] t)) w.heap.size v := by
  have hb := heap_alloc_new w (.cells #[.int .i64 v.t, .int .i64 v.n, .string v.s, .bool v.b, .int .i64 v.c] t)
  refine ⟨?_, ?_, ?_, ?_, ?_, fun o => blk_frozen hb o, by simp⟩ <;> simp
/-- five cells at the head of a block, as they are -/
structure Five (w : World) (b : Nat) (x0 x1 x2 x3 x4 : Value) : Prop where
  c0 : w.cell? ⟨b, 0, none⟩ = some x0
  c1 : w.cell? ⟨b, 1, none⟩ = some x1
  c2 : w.cell? ⟨b, 2, none⟩ = some x2
  c3 : w.cell? ⟨b, 3, none⟩ = some x3
  c4 : w.cell? ⟨b, 4, none⟩ = some x4
theorem cell_so {w : World} {b i j : Nat} {x : Value} (h : w.cell? ⟨b, j, none⟩ = some x) (hij : i ≠ j) (v : Value) : (w.setCell ⟨b, i, none⟩ v).cell? ⟨b, j, none⟩ = some x := (World.cell?_setCell_other w _ _ _ (by simp <;> exact hij)).trans h
theorem cell_ss {w : World} {b i : Nat} {x : Value} (h : w.cell? ⟨b, i, none⟩ = some x) (v : Value) : (w.setCell ⟨b, i, none⟩ v).cell? ⟨b, i, none⟩ = some v := World.cell?_setCell_same' w _ _ (by rw [h]; rfl)
theorem Five.s0 {w : World} {b : Nat} {x0 x1 x2 x3 x4 : Value} (h : Five w b x0 x1 x2 x3 x4) (u : Value) : Five (w.setCell ⟨b, 0, none⟩ u) b u x1 x2 x3 x4 := ⟨cell_ss h.c0 u, cell_so h.c1 (by decide) u, cell_so h.c2 (by decide) u, cell_so h.c3 (by decide) u, cell_so h.c4 (by decide) u⟩
theorem Five.s1 {w : World} {b : Nat} {x0 x1 x2 x3 x4 : Value} (h : Five w b x0 x1 x2 x3 x4) (u : Value) : Five (w.setCell ⟨b, 1, none⟩ u) b x0 u x2 x3 x4 := ⟨cell_so h.c0 (by decide) u, cell_ss h.c1 u, cell_so h.c2 (by decide) u, cell_so h.c3 (by decide) u, cell_so h.c4 (by decide) u⟩
theorem Five.s2 {w : World} {b : Nat} {x0 x1 x2 x3 x4 : Value} (h : Five w b x0 x1 x2 x3 x4) (u : Value) : Five (w.setCell ⟨b, 2, none⟩ u) b x0 x1 u x3 x4 := ⟨cell_so h.c0 (by decide) u, cell_so h.c1 (by decide) u, cell_ss h.c2 u, cell_so h.c3 (by decide) u, cell_so h.c4 (by decide) u⟩
theorem Five.s3 {w : World} {b : Nat} {x0 x1 x2 x3 x4 : Value} (h : Five w b x0 x1 x2 x3 x4) (u : Value) : Five (w.setCell ⟨b, 3, none⟩ u) b x0 x1 x2 u x4 := ⟨cell_so h.c0 (by decide) u, cell_so h.c1 (by decide) u, cell_so h.c2 (by decide) u, cell_ss h.c3 u, cell_so h.c4 (by decide) u⟩
theorem Five.s4 {w : World} {b : Nat} {x0 x1 x2 x3 x4 : Value} (h : Five w b x0 x1 x2 x3 x4) (u : Value) : Five (w.setCell ⟨b, 4, none⟩ u) b x0 x1 x2 x3 u := ⟨cell_so h.c0 (by decide) u, cell_so h.c1 (by decide) u, cell_so h.c2 (by decide) u, cell_so h.c3 (by decide) u, cell_ss h.c4 u⟩
theorem VAt.put {w : World} {b : Nat} {v : VL} (h : VAt w b v) (u : VL) : VAt (((((w.setCell ⟨b, 0, none⟩ (.int .i64 u.t)).setCell ⟨b, 1, none⟩ (.int .i64 u.n)).setCell ⟨b, 2, none⟩ (.string u.s)).setCell ⟨b, 3, none⟩ (.bool u.b)).setCell ⟨b, 4, none⟩ (.int .i64 u.c)) b u := by
  have h5 := ((((Five.mk h.c0 h.c1 h.c2 h.c3 h.c4).s0 (.int .i64 u.t)).s1 (.int .i64 u.n)).s2 (.string u.s)).s3 (.bool u.b) |>.s4 (.int .i64 u.c)
  exact ⟨h5.c0, h5.c1, h5.c2, h5.c3, h5.c4, fun o => by simp only [World.frozen?_setCell]; exact h.f o, by simp; exact h.lt⟩
/-- two rows of the call's own that share no block -/
def Apart (a b : Value) : Prop := ∀ g, a.ownBlock = some g → b.ownBlock ≠ some g
theorem Apart.kept {a b : Value} (h : Apart a b) : b.ownBlock = none ∨ b.ownBlock ≠ a.ownBlock := by
  cases hb : b.ownBlock with
  | none => exact .inl rfl
  | some g => exact .inr fun e => h g e.symm hb
theorem apart_left {w : World} {v v' r : Value} {W : Nat} {B size n : Nat} {e : TypeId} {xs : List Value} (hap : Apart v r) (hr : w.ownsRow B e size r n xs) (hW : w.heap.size ≤ W) (hloc : v'.ownBlock = v.ownBlock ∨ v'.ownBlock = some W) : Apart v' r := fun g hg => by
  rcases hloc with h | h
  · exact hap g (h ▸ hg)
  · intro e2
    have h1 := (hr.lt g e2).2
    have h2 : g = W := by rw [h] at hg; simpa using hg.symm
    omega
theorem apart_right {w : World} {v r r' : Value} {W : Nat} {B size n : Nat} {e : TypeId} {xs : List Value} (hap : Apart v r) (hv : w.ownsRow B e size v n xs) (hW : w.heap.size ≤ W) (hloc : r'.ownBlock = r.ownBlock ∨ r'.ownBlock = some W) : Apart v r' := fun g hg e4 => by
  rcases hloc with h | h
  · exact hap g hg (h ▸ e4)
  · have h1 := (hv.lt g hg).2
    have h2 : g = W := by rw [h] at e4; simpa using e4.symm
    omega
theorem Apart.swap {a b : Value} (h : Apart a b) : Apart b a := fun g hg e => h g e hg
theorem bool_ends (a : Bool) : (a && true) = a := by cases a <;> rfl
theorem ownsRow_set {w : World} {B size n : Nat} {e : TypeId} {v : Value} {xs : List Value} (h : w.ownsRow B e size v n xs) (p : Addr) (u : Value) (hb : v.ownBlock = some p.block → False) : (w.setCell p u).ownsRow B e size v n xs := by
  refine h.kept (row := some p.block) ⟨rfl, rfl, rfl, by simp, fun i _ hi => Below.heap_setCell _ _ _ i (fun e => hi (by rw [e]))⟩ ?_
  by_cases h1 : v.ownBlock = some p.block
  · exact (hb h1).elim
  · exact .inr h1
theorem ownsRow_set5 {w : World} {B size n : Nat} {e : TypeId} {v : Value} {xs : List Value} {b : Nat} {u0 u1 u2 u3 u4 : Value} (h : w.ownsRow B e size v n xs) (hb : v.ownBlock = some b → False) : (((((w.setCell ⟨b, 0, none⟩ u0).setCell ⟨b, 1, none⟩ u1).setCell ⟨b, 2, none⟩ u2).setCell ⟨b, 3, none⟩ u3).setCell ⟨b, 4, none⟩ u4).ownsRow B e size v n xs :=
  ownsRow_set (ownsRow_set (ownsRow_set (ownsRow_set (ownsRow_set h _ _ hb) _ _ hb) _ _ hb) _ _ hb) _ _ hb
set_option maxRecDepth 100000 in
set_option maxHeartbeats 8000000 in
theorem walk_NumsFaults (name : ByteArray) (hs : name.size ≤ 9223372036854775807) (l : List VL) (hl : ∀ v ∈ l, v.ok) (hlen : l.length ≤ 1048576) (text : Int) (w : World) (A : Option Addr) (cap : Nat) (hA : RdB w w.heap.size A 5 (l.map VL.cs)) : Calls Try.prog 4 #[.string name, .slice A l.length cap, .int .i64 text] w fun e w' => e = .returned (.bool true) ∧ Below w.heap.size w w' := by
  obtain ⟨i0, hi, hz0, hz1, hz2⟩ := info_parts arg_info
  obtain ⟨j0, hj, hy0, hy1, hy2⟩ := info_parts bool_info
  have hA' := Lib.hid hA
  have hl' := Lib.hid hl
  clear hA hl
  go_enter Try.func4, Try.ntmps4
  go_wp2
  go_loopw [7, 8, 10, 11] (fun v r ok i wr => ∃ k : Nat, k ≤ l.length ∧ i = .int .i64 (k : Int) ∧ ok = .bool ((l.take k).all VL.may) ∧ Hid (wr.ownsRow (w.heap.size + 1) 37 11 v k ((l.take k).map fun x => (sglL x).cs).flatten) ∧ Hid (wr.ownsRow (w.heap.size + 1) 4 1 r k ((l.take k).map fun _ => Value.bool false)) ∧ Hid (Apart v r) ∧ Hid (VAt wr w.heap.size (fltOf (l.take k))) ∧ Below w.heap.size w wr) (fun _ _ _ i _ => l.length - (intOf i).toNat)
  case atStart => exact ⟨0, Nat.zero_le _, rfl, rfl, Lib.hid (World.ownsRow_nil _ _ _ _), Lib.hid (World.ownsRow_nil _ _ _ _), Lib.hid (fun g hg => by simp [Value.ownBlock] at hg), Lib.hid (VAt.new w v0 _), (Below.refl _ _).alloc (Nat.le_refl _) _⟩
  case round =>
    obtain ⟨k, hk, rfl, rfl, hown, hrow, hap, hflt, g0⟩ := hrel
    have hzr := g0.size
    have hzl := hflt.out.lt
    by_cases hlt : k < l.length
    · obtain ⟨x, hx⟩ : ∃ x, l[k]? = some x := ⟨_, List.getElem?_eq_getElem hlt⟩
      have hxm := List.mem_of_getElem? hx
      have hxo : -9223372036854775808 ≤ x.n ∧ x.n ≤ 9223372036854775807 := hl'.out x hxm
      obtain ⟨ab, ao, hA2, hab, hcell⟩ := (hA'.out.below g0) k x.cs (by rw [List.getElem?_map, hx]; rfl)
      obtain rfl : A = some ⟨ab, ao, none⟩ := hA2
      have hc0 : wr.cell? ⟨ab, ao + k * 5, none⟩ = some (.int .i64 x.t) := hcell 0 _ rfl
      have hc1 : wr.cell? ⟨ab, ao + k * 5 + 1, none⟩ = some (.int .i64 x.n) := hcell 1 _ rfl
      have hc2 : wr.cell? ⟨ab, ao + k * 5 + 2, none⟩ = some (.string x.s) := hcell 2 _ rfl
      have hc3 : wr.cell? ⟨ab, ao + k * 5 + 3, none⟩ = some (.bool x.b) := hcell 3 _ rfl
      have hc4 : wr.cell? ⟨ab, ao + k * 5 + 4, none⟩ = some (.int .i64 x.c) := hcell 4 _ rfl
      have hts : l.take (k + 1) = l.take k ++ [x] := by rw [List.take_add_one, hx]; rfl
      have hts' := Lib.hid hts
      have hkl : (k : Int) < (l.length : Int) := by omega
      have ab_ne : ab ≠ w.heap.size := by omega
      clear hx hcell hts hxm
      cases hok : (l.take k).all VL.may
      · have hok' := Lib.hid hok
        clear hok
        rcases fltOf_t (l.take k) with ⟨h0, _⟩ | ⟨h0, _⟩
        · by_cases h4 : x.t = 4
          · have hsn' := Lib.hid (show fltOf (l.take (k + 1)) = x from by rw [hts'.out, fltOf_snoc]; simp [h0, h4])
            have h4' := Lib.hid h4
            clear h4
            have h0' := Lib.hid h0
            clear h0
            have gM := g0
            have gN := Below.refl wr.heap.size wr
            go_wp2_with fail
            refine (lsingle_any x.t x.n x.s x.b x.c _).mono ?_
            rintro e w2 ⟨rfl, hb2⟩
            have g2 : Below w.heap.size w w2 := gM.trans (hb2.mono gM.size)
            have gx : Below wr.heap.size wr w2 := gN.trans (hb2.mono gN.size)
            have hown2 := ownsRow_below hown.out gx
            have hrow2 := ownsRow_below hrow.out gx
            have hf2 := hflt.out.below gx hflt.out.lt
            have hz2' := gx.size
            have hz2'' := hflt.out.lt
            have hnf : ∀ z : Value, (∀ g, z.ownBlock = some g → w.heap.size + 1 ≤ g) → some w.heap.size ≠ z.ownBlock := fun z hz e => by
              have := hz _ e.symm
              omega
            have hnf' := Lib.hid hnf
            clear hnf
            go_wp2_with (first | (at_builtin; refine wpList_append_own_at _ rfl _ _ 27 rfl (w.heap.size + 1) 37 i0 (.agg #[.bool false, .int .i64 0, .int .i64 0, .string ⟨#[]⟩, .bool false, .int .i64 0, .int .i64 0, .int .i64 0, .int .i64 0, .int .i64 0, .slice none 0 0]) 11 112 Try.underlying27 hi hz0 hz1 hz2 rfl (by decide) _ _ _ rfl (hown2.alloc _) ⟨w2.heap.size, 0, none⟩ 1 1 [.bool false, .int .i64 x.t, .int .i64 x.n, .string x.s, .bool x.b, .int .i64 x.c, .int .i64 0, .int .i64 0, .int .i64 0, .int .i64 0, .slice none 0 0] rfl rfl (fun j u hj => by have := cell_of_row (w2.alloc (.cells #[.bool false, .int .i64 x.t, .int .i64 x.n, .string x.s, .bool x.b, .int .i64 x.c, .int .i64 0, .int .i64 0, .int .i64 0, .int .i64 0, .slice none 0 0] 37)) w2.heap.size j _ _ (0, 0) (heap_alloc_new _ _); simp only [Addr.add]; split <;> simp_all) (by simp [Value.oneCell']) (by unfold maxLen; omega) (by omega) (by simp; omega) ?_; intro v' w3 hown3 hgrow3 _ hloc3; (have hap3 := apart_left hap.out hrow2 (Nat.le_trans (Nat.le_refl _) (by simp)) hloc3); (have hrow3 := (hrow2.alloc (.cells #[.bool false, .int .i64 x.t, .int .i64 x.n, .string x.s, .bool x.b, .int .i64 x.c, .int .i64 0, .int .i64 0, .int .i64 0, .int .i64 0, .slice none 0 0] 37)).kept hgrow3 hap.out.kept); (have hf3 := (hf2.below ((Below.refl _ _).alloc (Nat.le_refl _) _) hf2.lt).grown hgrow3 (hnf'.out _ fun g hg => (hown2.lt g hg).1)); (have g3 : Below w.heap.size w w3 := (g2.alloc g2.size _).grown hgrow3 (by have := g2.size; simp; omega) (fun j hj => by have := (hown2.lt j hj).1; omega)); (have hz3' := hgrow3.size); (simp only [World.size_alloc] at hz3')) | (at_builtin; refine wpList_append_own_at _ rfl _ _ 22 rfl (w.heap.size + 1) 4 j0 (.bool false) 1 1 Try.underlying22 hj hy0 hy1 hy2 rfl (by decide) _ _ _ rfl (hrow3.alloc _) ⟨w3.heap.size, 0, none⟩ 1 1 [.bool false] rfl rfl (cell_one_new _ _ _) (by simp [Value.oneCell']) (by unfold maxLen; omega) (by omega) (by simp; omega) ?_; intro r' w4 hrow4 hgrow4 _ hloc4; (have hap4 := apart_right hap3 hown3 (by simp) hloc4); (have hown4 := (hown3.alloc (.cells #[.bool false] 4)).kept hgrow4 hap3.swap.kept); (have hf4 := (hf3.below ((Below.refl _ _).alloc (Nat.le_refl _) _) hf3.lt).grown hgrow4 (hnf'.out _ fun g hg => (hrow3.lt g hg).1)); (have g4 : Below w.heap.size w w4 := (g3.alloc g3.size _).grown hgrow4 (by have := g3.size; simp; omega) (fun j hj => by have := (hrow3.lt j hj).1; omega)); (have k0 : w4.cell? ⟨ab, ao + k * 5, none⟩ = some (.int .i64 x.t) := (g4.cell (p := ⟨ab, _, none⟩) hab).trans ((g0.cell (p := ⟨ab, _, none⟩) hab).symm.trans hc0)); (have k1 : w4.cell? ⟨ab, ao + k * 5 + 1, none⟩ = some (.int .i64 x.n) := (g4.cell (p := ⟨ab, _, none⟩) hab).trans ((g0.cell (p := ⟨ab, _, none⟩) hab).symm.trans hc1)); (have k2 : w4.cell? ⟨ab, ao + k * 5 + 2, none⟩ = some (.string x.s) := (g4.cell (p := ⟨ab, _, none⟩) hab).trans ((g0.cell (p := ⟨ab, _, none⟩) hab).symm.trans hc2)); (have k3 : w4.cell? ⟨ab, ao + k * 5 + 3, none⟩ = some (.bool x.b) := (g4.cell (p := ⟨ab, _, none⟩) hab).trans ((g0.cell (p := ⟨ab, _, none⟩) hab).symm.trans hc3)); (have k4 : w4.cell? ⟨ab, ao + k * 5 + 4, none⟩ = some (.int .i64 x.c) := (g4.cell (p := ⟨ab, _, none⟩) hab).trans ((g0.cell (p := ⟨ab, _, none⟩) hab).symm.trans hc4)); (have hown4' := Lib.hid hown4); (have hrow4' := Lib.hid hrow4); (have hap4' := Lib.hid hap4); (have hf4' := Lib.hid hf4); (obtain ⟨q0, q1, q2, q3, q4, qf, ql⟩ := hf4); (have e0 := ab_ne); (rw [h0'.out] at q0); (rw [h4'.out] at k0); (clear hc0 hc1 hc2 hc3 hc4 hown2 hrow2 hf2 hown3 hrow3 hf3 hown4 hrow4 hap3 hap4 hb2 hgrow3 hgrow4 hloc3 hloc4 g2 gx g3 hz2' hz3')))
            go_roundw
            case rel =>
              refine ⟨k + 1, by omega, by go_num, by rw [hts'.out, List.all_append, hok'.out]; rfl, Lib.hid ?_, Lib.hid ?_, hap4', Lib.hid ?_, ?_⟩
              · rw [hts'.out, List.map_append, List.flatten_append]; exact (ownsRow_set5 hown4'.out (fun e => absurd ((hown4'.out.lt _ e).1) (by omega)))
              · rw [hts'.out, List.map_append]; exact (ownsRow_set5 hrow4'.out (fun e => absurd ((hrow4'.out.lt _ e).1) (by omega)))
              · rw [hsn'.out]; have := hf4'.out.put x; rw [h4'.out] at this; exact this
              · exact ((((g4.setCell (p := ⟨w.heap.size, 0, none⟩) (Nat.le_refl _) _).setCell (p := ⟨w.heap.size, 1, none⟩) (Nat.le_refl _) _).setCell (p := ⟨w.heap.size, 2, none⟩) (Nat.le_refl _) _).setCell (p := ⟨w.heap.size, 3, none⟩) (Nat.le_refl _) _).setCell (p := ⟨w.heap.size, 4, none⟩) (Nat.le_refl _) _
            case measure => simp [intOf]; omega
          · have hsn' := Lib.hid (show fltOf (l.take (k + 1)) = fltOf (l.take k) from by rw [hts'.out, fltOf_snoc]; simp [h0, h4])
            have h0' := Lib.hid h0
            clear h0
            have gM := g0
            have gN := Below.refl wr.heap.size wr
            go_wp2_with fail
            refine (lsingle_any x.t x.n x.s x.b x.c _).mono ?_
            rintro e w2 ⟨rfl, hb2⟩
            have g2 : Below w.heap.size w w2 := gM.trans (hb2.mono gM.size)
            have gx : Below wr.heap.size wr w2 := gN.trans (hb2.mono gN.size)
            have hown2 := ownsRow_below hown.out gx
            have hrow2 := ownsRow_below hrow.out gx
            have hf2 := hflt.out.below gx hflt.out.lt
            have hz2' := gx.size
            have hz2'' := hflt.out.lt
            have hnf : ∀ z : Value, (∀ g, z.ownBlock = some g → w.heap.size + 1 ≤ g) → some w.heap.size ≠ z.ownBlock := fun z hz e => by
              have := hz _ e.symm
              omega
            have hnf' := Lib.hid hnf
            clear hnf
            go_wp2_with (first | (at_builtin; refine wpList_append_own_at _ rfl _ _ 27 rfl (w.heap.size + 1) 37 i0 (.agg #[.bool false, .int .i64 0, .int .i64 0, .string ⟨#[]⟩, .bool false, .int .i64 0, .int .i64 0, .int .i64 0, .int .i64 0, .int .i64 0, .slice none 0 0]) 11 112 Try.underlying27 hi hz0 hz1 hz2 rfl (by decide) _ _ _ rfl (hown2.alloc _) ⟨w2.heap.size, 0, none⟩ 1 1 [.bool false, .int .i64 x.t, .int .i64 x.n, .string x.s, .bool x.b, .int .i64 x.c, .int .i64 0, .int .i64 0, .int .i64 0, .int .i64 0, .slice none 0 0] rfl rfl (fun j u hj => by have := cell_of_row (w2.alloc (.cells #[.bool false, .int .i64 x.t, .int .i64 x.n, .string x.s, .bool x.b, .int .i64 x.c, .int .i64 0, .int .i64 0, .int .i64 0, .int .i64 0, .slice none 0 0] 37)) w2.heap.size j _ _ (0, 0) (heap_alloc_new _ _); simp only [Addr.add]; split <;> simp_all) (by simp [Value.oneCell']) (by unfold maxLen; omega) (by omega) (by simp; omega) ?_; intro v' w3 hown3 hgrow3 _ hloc3; (have hap3 := apart_left hap.out hrow2 (Nat.le_trans (Nat.le_refl _) (by simp)) hloc3); (have hrow3 := (hrow2.alloc (.cells #[.bool false, .int .i64 x.t, .int .i64 x.n, .string x.s, .bool x.b, .int .i64 x.c, .int .i64 0, .int .i64 0, .int .i64 0, .int .i64 0, .slice none 0 0] 37)).kept hgrow3 hap.out.kept); (have hf3 := (hf2.below ((Below.refl _ _).alloc (Nat.le_refl _) _) hf2.lt).grown hgrow3 (hnf'.out _ fun g hg => (hown2.lt g hg).1)); (have g3 : Below w.heap.size w w3 := (g2.alloc g2.size _).grown hgrow3 (by have := g2.size; simp; omega) (fun j hj => by have := (hown2.lt j hj).1; omega)); (have hz3' := hgrow3.size); (simp only [World.size_alloc] at hz3')) | (at_builtin; refine wpList_append_own_at _ rfl _ _ 22 rfl (w.heap.size + 1) 4 j0 (.bool false) 1 1 Try.underlying22 hj hy0 hy1 hy2 rfl (by decide) _ _ _ rfl (hrow3.alloc _) ⟨w3.heap.size, 0, none⟩ 1 1 [.bool false] rfl rfl (cell_one_new _ _ _) (by simp [Value.oneCell']) (by unfold maxLen; omega) (by omega) (by simp; omega) ?_; intro r' w4 hrow4 hgrow4 _ hloc4; (have hap4 := apart_right hap3 hown3 (by simp) hloc4); (have hown4 := (hown3.alloc (.cells #[.bool false] 4)).kept hgrow4 hap3.swap.kept); (have hf4 := (hf3.below ((Below.refl _ _).alloc (Nat.le_refl _) _) hf3.lt).grown hgrow4 (hnf'.out _ fun g hg => (hrow3.lt g hg).1)); (have g4 : Below w.heap.size w w4 := (g3.alloc g3.size _).grown hgrow4 (by have := g3.size; simp; omega) (fun j hj => by have := (hrow3.lt j hj).1; omega)); (have k0 : w4.cell? ⟨ab, ao + k * 5, none⟩ = some (.int .i64 x.t) := (g4.cell (p := ⟨ab, _, none⟩) hab).trans ((g0.cell (p := ⟨ab, _, none⟩) hab).symm.trans hc0)); (have k1 : w4.cell? ⟨ab, ao + k * 5 + 1, none⟩ = some (.int .i64 x.n) := (g4.cell (p := ⟨ab, _, none⟩) hab).trans ((g0.cell (p := ⟨ab, _, none⟩) hab).symm.trans hc1)); (have k2 : w4.cell? ⟨ab, ao + k * 5 + 2, none⟩ = some (.string x.s) := (g4.cell (p := ⟨ab, _, none⟩) hab).trans ((g0.cell (p := ⟨ab, _, none⟩) hab).symm.trans hc2)); (have k3 : w4.cell? ⟨ab, ao + k * 5 + 3, none⟩ = some (.bool x.b) := (g4.cell (p := ⟨ab, _, none⟩) hab).trans ((g0.cell (p := ⟨ab, _, none⟩) hab).symm.trans hc3)); (have k4 : w4.cell? ⟨ab, ao + k * 5 + 4, none⟩ = some (.int .i64 x.c) := (g4.cell (p := ⟨ab, _, none⟩) hab).trans ((g0.cell (p := ⟨ab, _, none⟩) hab).symm.trans hc4)); (have hown4' := Lib.hid hown4); (have hrow4' := Lib.hid hrow4); (have hap4' := Lib.hid hap4); (have hf4' := Lib.hid hf4); (obtain ⟨q0, q1, q2, q3, q4, qf, ql⟩ := hf4); (have e0 := ab_ne); (rw [h0'.out] at q0); (skip); (clear hc0 hc1 hc2 hc3 hc4 hown2 hrow2 hf2 hown3 hrow3 hf3 hown4 hrow4 hap3 hap4 hb2 hgrow3 hgrow4 hloc3 hloc4 g2 gx g3 hz2' hz3')))
            go_roundw
            case rel =>
              refine ⟨k + 1, by omega, by go_num, by rw [hts'.out, List.all_append, hok'.out]; rfl, Lib.hid ?_, Lib.hid ?_, hap4', Lib.hid ?_, ?_⟩
              · rw [hts'.out, List.map_append, List.flatten_append]; exact hown4'.out
              · rw [hts'.out, List.map_append]; exact hrow4'.out
              · rw [hsn'.out]; exact hf4'.out
              · exact g4
            case measure => simp [intOf]; omega
        · have hsn' := Lib.hid (show fltOf (l.take (k + 1)) = fltOf (l.take k) from by rw [hts'.out, fltOf_snoc]; simp [h0])
          have h0' := Lib.hid h0
          clear h0
          have gM := g0
          have gN := Below.refl wr.heap.size wr
          go_wp2_with fail
          refine (lsingle_any x.t x.n x.s x.b x.c _).mono ?_
          rintro e w2 ⟨rfl, hb2⟩
          have g2 : Below w.heap.size w w2 := gM.trans (hb2.mono gM.size)
          have gx : Below wr.heap.size wr w2 := gN.trans (hb2.mono gN.size)
          have hown2 := ownsRow_below hown.out gx
          have hrow2 := ownsRow_below hrow.out gx
          have hf2 := hflt.out.below gx hflt.out.lt
          have hz2' := gx.size
          have hz2'' := hflt.out.lt
          have hnf : ∀ z : Value, (∀ g, z.ownBlock = some g → w.heap.size + 1 ≤ g) → some w.heap.size ≠ z.ownBlock := fun z hz e => by
            have := hz _ e.symm
            omega
          have hnf' := Lib.hid hnf
          clear hnf
          go_wp2_with (first | (at_builtin; refine wpList_append_own_at _ rfl _ _ 27 rfl (w.heap.size + 1) 37 i0 (.agg #[.bool false, .int .i64 0, .int .i64 0, .string ⟨#[]⟩, .bool false, .int .i64 0, .int .i64 0, .int .i64 0, .int .i64 0, .int .i64 0, .slice none 0 0]) 11 112 Try.underlying27 hi hz0 hz1 hz2 rfl (by decide) _ _ _ rfl (hown2.alloc _) ⟨w2.heap.size, 0, none⟩ 1 1 [.bool false, .int .i64 x.t, .int .i64 x.n, .string x.s, .bool x.b, .int .i64 x.c, .int .i64 0, .int .i64 0, .int .i64 0, .int .i64 0, .slice none 0 0] rfl rfl (fun j u hj => by have := cell_of_row (w2.alloc (.cells #[.bool false, .int .i64 x.t, .int .i64 x.n, .string x.s, .bool x.b, .int .i64 x.c, .int .i64 0, .int .i64 0, .int .i64 0, .int .i64 0, .slice none 0 0] 37)) w2.heap.size j _ _ (0, 0) (heap_alloc_new _ _); simp only [Addr.add]; split <;> simp_all) (by simp [Value.oneCell']) (by unfold maxLen; omega) (by omega) (by simp; omega) ?_; intro v' w3 hown3 hgrow3 _ hloc3; (have hap3 := apart_left hap.out hrow2 (Nat.le_trans (Nat.le_refl _) (by simp)) hloc3); (have hrow3 := (hrow2.alloc (.cells #[.bool false, .int .i64 x.t, .int .i64 x.n, .string x.s, .bool x.b, .int .i64 x.c, .int .i64 0, .int .i64 0, .int .i64 0, .int .i64 0, .slice none 0 0] 37)).kept hgrow3 hap.out.kept); (have hf3 := (hf2.below ((Below.refl _ _).alloc (Nat.le_refl _) _) hf2.lt).grown hgrow3 (hnf'.out _ fun g hg => (hown2.lt g hg).1)); (have g3 : Below w.heap.size w w3 := (g2.alloc g2.size _).grown hgrow3 (by have := g2.size; simp; omega) (fun j hj => by have := (hown2.lt j hj).1; omega)); (have hz3' := hgrow3.size); (simp only [World.size_alloc] at hz3')) | (at_builtin; refine wpList_append_own_at _ rfl _ _ 22 rfl (w.heap.size + 1) 4 j0 (.bool false) 1 1 Try.underlying22 hj hy0 hy1 hy2 rfl (by decide) _ _ _ rfl (hrow3.alloc _) ⟨w3.heap.size, 0, none⟩ 1 1 [.bool false] rfl rfl (cell_one_new _ _ _) (by simp [Value.oneCell']) (by unfold maxLen; omega) (by omega) (by simp; omega) ?_; intro r' w4 hrow4 hgrow4 _ hloc4; (have hap4 := apart_right hap3 hown3 (by simp) hloc4); (have hown4 := (hown3.alloc (.cells #[.bool false] 4)).kept hgrow4 hap3.swap.kept); (have hf4 := (hf3.below ((Below.refl _ _).alloc (Nat.le_refl _) _) hf3.lt).grown hgrow4 (hnf'.out _ fun g hg => (hrow3.lt g hg).1)); (have g4 : Below w.heap.size w w4 := (g3.alloc g3.size _).grown hgrow4 (by have := g3.size; simp; omega) (fun j hj => by have := (hrow3.lt j hj).1; omega)); (have k0 : w4.cell? ⟨ab, ao + k * 5, none⟩ = some (.int .i64 x.t) := (g4.cell (p := ⟨ab, _, none⟩) hab).trans ((g0.cell (p := ⟨ab, _, none⟩) hab).symm.trans hc0)); (have k1 : w4.cell? ⟨ab, ao + k * 5 + 1, none⟩ = some (.int .i64 x.n) := (g4.cell (p := ⟨ab, _, none⟩) hab).trans ((g0.cell (p := ⟨ab, _, none⟩) hab).symm.trans hc1)); (have k2 : w4.cell? ⟨ab, ao + k * 5 + 2, none⟩ = some (.string x.s) := (g4.cell (p := ⟨ab, _, none⟩) hab).trans ((g0.cell (p := ⟨ab, _, none⟩) hab).symm.trans hc2)); (have k3 : w4.cell? ⟨ab, ao + k * 5 + 3, none⟩ = some (.bool x.b) := (g4.cell (p := ⟨ab, _, none⟩) hab).trans ((g0.cell (p := ⟨ab, _, none⟩) hab).symm.trans hc3)); (have k4 : w4.cell? ⟨ab, ao + k * 5 + 4, none⟩ = some (.int .i64 x.c) := (g4.cell (p := ⟨ab, _, none⟩) hab).trans ((g0.cell (p := ⟨ab, _, none⟩) hab).symm.trans hc4)); (have hown4' := Lib.hid hown4); (have hrow4' := Lib.hid hrow4); (have hap4' := Lib.hid hap4); (have hf4' := Lib.hid hf4); (obtain ⟨q0, q1, q2, q3, q4, qf, ql⟩ := hf4); (have e0 := ab_ne); (rw [h0'.out] at q0); (skip); (clear hc0 hc1 hc2 hc3 hc4 hown2 hrow2 hf2 hown3 hrow3 hf3 hown4 hrow4 hap3 hap4 hb2 hgrow3 hgrow4 hloc3 hloc4 g2 gx g3 hz2' hz3')))
          go_roundw
          case rel =>
            refine ⟨k + 1, by omega, by go_num, by rw [hts'.out, List.all_append, hok'.out]; rfl, Lib.hid ?_, Lib.hid ?_, hap4', Lib.hid ?_, ?_⟩
            · rw [hts'.out, List.map_append, List.flatten_append]; exact hown4'.out
            · rw [hts'.out, List.map_append]; exact hrow4'.out
            · rw [hsn'.out]; exact hf4'.out
            · exact g4
          case measure => simp [intOf]; omega
      · have hok' := Lib.hid hok
        clear hok
        rcases fltOf_t (l.take k) with ⟨h0, _⟩ | ⟨h0, _⟩
        · by_cases h4 : x.t = 4
          · have hsn' := Lib.hid (show fltOf (l.take (k + 1)) = x from by rw [hts'.out, fltOf_snoc]; simp [h0, h4])
            have h4' := Lib.hid h4
            clear h4
            have h0' := Lib.hid h0
            clear h0
            go_wp2_with fail
            refine (rvmay_any x.t x.n x.s x.b x.c hxo _).mono ?_
            rintro e w1 ⟨rfl, hb1⟩
            have gM : Below w.heap.size w w1 := g0.trans (hb1.mono g0.size)
            have gN : Below wr.heap.size wr w1 := hb1
            have hc0 : w1.cell? ⟨ab, ao + k * 5, none⟩ = some (.int .i64 x.t) := (hb1.cell (p := ⟨ab, _, none⟩) (by simp; omega)).trans hc0
            have hc1 : w1.cell? ⟨ab, ao + k * 5 + 1, none⟩ = some (.int .i64 x.n) := (hb1.cell (p := ⟨ab, _, none⟩) (by simp; omega)).trans hc1
            have hc2 : w1.cell? ⟨ab, ao + k * 5 + 2, none⟩ = some (.string x.s) := (hb1.cell (p := ⟨ab, _, none⟩) (by simp; omega)).trans hc2
            have hc3 : w1.cell? ⟨ab, ao + k * 5 + 3, none⟩ = some (.bool x.b) := (hb1.cell (p := ⟨ab, _, none⟩) (by simp; omega)).trans hc3
            have hc4 : w1.cell? ⟨ab, ao + k * 5 + 4, none⟩ = some (.int .i64 x.c) := (hb1.cell (p := ⟨ab, _, none⟩) (by simp; omega)).trans hc4
            clear hb1
            go_wp2_with fail
            refine (lsingle_any x.t x.n x.s x.b x.c _).mono ?_
            rintro e w2 ⟨rfl, hb2⟩
            have g2 : Below w.heap.size w w2 := gM.trans (hb2.mono gM.size)
            have gx : Below wr.heap.size wr w2 := gN.trans (hb2.mono gN.size)
            have hown2 := ownsRow_below hown.out gx
            have hrow2 := ownsRow_below hrow.out gx
            have hf2 := hflt.out.below gx hflt.out.lt
            have hz2' := gx.size
            have hz2'' := hflt.out.lt
            have hnf : ∀ z : Value, (∀ g, z.ownBlock = some g → w.heap.size + 1 ≤ g) → some w.heap.size ≠ z.ownBlock := fun z hz e => by
              have := hz _ e.symm
              omega
            have hnf' := Lib.hid hnf
            clear hnf
            go_wp2_with (first | (at_builtin; refine wpList_append_own_at _ rfl _ _ 27 rfl (w.heap.size + 1) 37 i0 (.agg #[.bool false, .int .i64 0, .int .i64 0, .string ⟨#[]⟩, .bool false, .int .i64 0, .int .i64 0, .int .i64 0, .int .i64 0, .int .i64 0, .slice none 0 0]) 11 112 Try.underlying27 hi hz0 hz1 hz2 rfl (by decide) _ _ _ rfl (hown2.alloc _) ⟨w2.heap.size, 0, none⟩ 1 1 [.bool false, .int .i64 x.t, .int .i64 x.n, .string x.s, .bool x.b, .int .i64 x.c, .int .i64 0, .int .i64 0, .int .i64 0, .int .i64 0, .slice none 0 0] rfl rfl (fun j u hj => by have := cell_of_row (w2.alloc (.cells #[.bool false, .int .i64 x.t, .int .i64 x.n, .string x.s, .bool x.b, .int .i64 x.c, .int .i64 0, .int .i64 0, .int .i64 0, .int .i64 0, .slice none 0 0] 37)) w2.heap.size j _ _ (0, 0) (heap_alloc_new _ _); simp only [Addr.add]; split <;> simp_all) (by simp [Value.oneCell']) (by unfold maxLen; omega) (by omega) (by simp; omega) ?_; intro v' w3 hown3 hgrow3 _ hloc3; (have hap3 := apart_left hap.out hrow2 (Nat.le_trans (Nat.le_refl _) (by simp)) hloc3); (have hrow3 := (hrow2.alloc (.cells #[.bool false, .int .i64 x.t, .int .i64 x.n, .string x.s, .bool x.b, .int .i64 x.c, .int .i64 0, .int .i64 0, .int .i64 0, .int .i64 0, .slice none 0 0] 37)).kept hgrow3 hap.out.kept); (have hf3 := (hf2.below ((Below.refl _ _).alloc (Nat.le_refl _) _) hf2.lt).grown hgrow3 (hnf'.out _ fun g hg => (hown2.lt g hg).1)); (have g3 : Below w.heap.size w w3 := (g2.alloc g2.size _).grown hgrow3 (by have := g2.size; simp; omega) (fun j hj => by have := (hown2.lt j hj).1; omega)); (have hz3' := hgrow3.size); (simp only [World.size_alloc] at hz3')) | (at_builtin; refine wpList_append_own_at _ rfl _ _ 22 rfl (w.heap.size + 1) 4 j0 (.bool false) 1 1 Try.underlying22 hj hy0 hy1 hy2 rfl (by decide) _ _ _ rfl (hrow3.alloc _) ⟨w3.heap.size, 0, none⟩ 1 1 [.bool false] rfl rfl (cell_one_new _ _ _) (by simp [Value.oneCell']) (by unfold maxLen; omega) (by omega) (by simp; omega) ?_; intro r' w4 hrow4 hgrow4 _ hloc4; (have hap4 := apart_right hap3 hown3 (by simp) hloc4); (have hown4 := (hown3.alloc (.cells #[.bool false] 4)).kept hgrow4 hap3.swap.kept); (have hf4 := (hf3.below ((Below.refl _ _).alloc (Nat.le_refl _) _) hf3.lt).grown hgrow4 (hnf'.out _ fun g hg => (hrow3.lt g hg).1)); (have g4 : Below w.heap.size w w4 := (g3.alloc g3.size _).grown hgrow4 (by have := g3.size; simp; omega) (fun j hj => by have := (hrow3.lt j hj).1; omega)); (have k0 : w4.cell? ⟨ab, ao + k * 5, none⟩ = some (.int .i64 x.t) := (g4.cell (p := ⟨ab, _, none⟩) hab).trans ((gM.cell (p := ⟨ab, _, none⟩) hab).symm.trans hc0)); (have k1 : w4.cell? ⟨ab, ao + k * 5 + 1, none⟩ = some (.int .i64 x.n) := (g4.cell (p := ⟨ab, _, none⟩) hab).trans ((gM.cell (p := ⟨ab, _, none⟩) hab).symm.trans hc1)); (have k2 : w4.cell? ⟨ab, ao + k * 5 + 2, none⟩ = some (.string x.s) := (g4.cell (p := ⟨ab, _, none⟩) hab).trans ((gM.cell (p := ⟨ab, _, none⟩) hab).symm.trans hc2)); (have k3 : w4.cell? ⟨ab, ao + k * 5 + 3, none⟩ = some (.bool x.b) := (g4.cell (p := ⟨ab, _, none⟩) hab).trans ((gM.cell (p := ⟨ab, _, none⟩) hab).symm.trans hc3)); (have k4 : w4.cell? ⟨ab, ao + k * 5 + 4, none⟩ = some (.int .i64 x.c) := (g4.cell (p := ⟨ab, _, none⟩) hab).trans ((gM.cell (p := ⟨ab, _, none⟩) hab).symm.trans hc4)); (have hown4' := Lib.hid hown4); (have hrow4' := Lib.hid hrow4); (have hap4' := Lib.hid hap4); (have hf4' := Lib.hid hf4); (obtain ⟨q0, q1, q2, q3, q4, qf, ql⟩ := hf4); (have e0 := ab_ne); (rw [h0'.out] at q0); (rw [h4'.out] at k0); (clear hc0 hc1 hc2 hc3 hc4 hown2 hrow2 hf2 hown3 hrow3 hf3 hown4 hrow4 hap3 hap4 hb2 hgrow3 hgrow4 hloc3 hloc4 g2 gx g3 hz2' hz3')))
            go_roundw
            case rel =>
              refine ⟨k + 1, by omega, by go_num, by rw [hts'.out, List.all_append, hok'.out]; simp [VL.may], Lib.hid ?_, Lib.hid ?_, hap4', Lib.hid ?_, ?_⟩
              · rw [hts'.out, List.map_append, List.flatten_append]; exact (ownsRow_set5 hown4'.out (fun e => absurd ((hown4'.out.lt _ e).1) (by omega)))
              · rw [hts'.out, List.map_append]; exact (ownsRow_set5 hrow4'.out (fun e => absurd ((hrow4'.out.lt _ e).1) (by omega)))
              · rw [hsn'.out]; have := hf4'.out.put x; rw [h4'.out] at this; exact this
              · exact ((((g4.setCell (p := ⟨w.heap.size, 0, none⟩) (Nat.le_refl _) _).setCell (p := ⟨w.heap.size, 1, none⟩) (Nat.le_refl _) _).setCell (p := ⟨w.heap.size, 2, none⟩) (Nat.le_refl _) _).setCell (p := ⟨w.heap.size, 3, none⟩) (Nat.le_refl _) _).setCell (p := ⟨w.heap.size, 4, none⟩) (Nat.le_refl _) _
            case measure => simp [intOf]; omega
          · have hsn' := Lib.hid (show fltOf (l.take (k + 1)) = fltOf (l.take k) from by rw [hts'.out, fltOf_snoc]; simp [h0, h4])
            have h0' := Lib.hid h0
            clear h0
            go_wp2_with fail
            refine (rvmay_any x.t x.n x.s x.b x.c hxo _).mono ?_
            rintro e w1 ⟨rfl, hb1⟩
            have gM : Below w.heap.size w w1 := g0.trans (hb1.mono g0.size)
            have gN : Below wr.heap.size wr w1 := hb1
            have hc0 : w1.cell? ⟨ab, ao + k * 5, none⟩ = some (.int .i64 x.t) := (hb1.cell (p := ⟨ab, _, none⟩) (by simp; omega)).trans hc0
            have hc1 : w1.cell? ⟨ab, ao + k * 5 + 1, none⟩ = some (.int .i64 x.n) := (hb1.cell (p := ⟨ab, _, none⟩) (by simp; omega)).trans hc1
            have hc2 : w1.cell? ⟨ab, ao + k * 5 + 2, none⟩ = some (.string x.s) := (hb1.cell (p := ⟨ab, _, none⟩) (by simp; omega)).trans hc2
            have hc3 : w1.cell? ⟨ab, ao + k * 5 + 3, none⟩ = some (.bool x.b) := (hb1.cell (p := ⟨ab, _, none⟩) (by simp; omega)).trans hc3
            have hc4 : w1.cell? ⟨ab, ao + k * 5 + 4, none⟩ = some (.int .i64 x.c) := (hb1.cell (p := ⟨ab, _, none⟩) (by simp; omega)).trans hc4
            clear hb1
            go_wp2_with fail
            refine (lsingle_any x.t x.n x.s x.b x.c _).mono ?_
            rintro e w2 ⟨rfl, hb2⟩
            have g2 : Below w.heap.size w w2 := gM.trans (hb2.mono gM.size)
            have gx : Below wr.heap.size wr w2 := gN.trans (hb2.mono gN.size)
            have hown2 := ownsRow_below hown.out gx
            have hrow2 := ownsRow_below hrow.out gx
            have hf2 := hflt.out.below gx hflt.out.lt
            have hz2' := gx.size
            have hz2'' := hflt.out.lt
            have hnf : ∀ z : Value, (∀ g, z.ownBlock = some g → w.heap.size + 1 ≤ g) → some w.heap.size ≠ z.ownBlock := fun z hz e => by
              have := hz _ e.symm
              omega
            have hnf' := Lib.hid hnf
            clear hnf
            go_wp2_with (first | (at_builtin; refine wpList_append_own_at _ rfl _ _ 27 rfl (w.heap.size + 1) 37 i0 (.agg #[.bool false, .int .i64 0, .int .i64 0, .string ⟨#[]⟩, .bool false, .int .i64 0, .int .i64 0, .int .i64 0, .int .i64 0, .int .i64 0, .slice none 0 0]) 11 112 Try.underlying27 hi hz0 hz1 hz2 rfl (by decide) _ _ _ rfl (hown2.alloc _) ⟨w2.heap.size, 0, none⟩ 1 1 [.bool false, .int .i64 x.t, .int .i64 x.n, .string x.s, .bool x.b, .int .i64 x.c, .int .i64 0, .int .i64 0, .int .i64 0, .int .i64 0, .slice none 0 0] rfl rfl (fun j u hj => by have := cell_of_row (w2.alloc (.cells #[.bool false, .int .i64 x.t, .int .i64 x.n, .string x.s, .bool x.b, .int .i64 x.c, .int .i64 0, .int .i64 0, .int .i64 0, .int .i64 0, .slice none 0 0] 37)) w2.heap.size j _ _ (0, 0) (heap_alloc_new _ _); simp only [Addr.add]; split <;> simp_all) (by simp [Value.oneCell']) (by unfold maxLen; omega) (by omega) (by simp; omega) ?_; intro v' w3 hown3 hgrow3 _ hloc3; (have hap3 := apart_left hap.out hrow2 (Nat.le_trans (Nat.le_refl _) (by simp)) hloc3); (have hrow3 := (hrow2.alloc (.cells #[.bool false, .int .i64 x.t, .int .i64 x.n, .string x.s, .bool x.b, .int .i64 x.c, .int .i64 0, .int .i64 0, .int .i64 0, .int .i64 0, .slice none 0 0] 37)).kept hgrow3 hap.out.kept); (have hf3 := (hf2.below ((Below.refl _ _).alloc (Nat.le_refl _) _) hf2.lt).grown hgrow3 (hnf'.out _ fun g hg => (hown2.lt g hg).1)); (have g3 : Below w.heap.size w w3 := (g2.alloc g2.size _).grown hgrow3 (by have := g2.size; simp; omega) (fun j hj => by have := (hown2.lt j hj).1; omega)); (have hz3' := hgrow3.size); (simp only [World.size_alloc] at hz3')) | (at_builtin; refine wpList_append_own_at _ rfl _ _ 22 rfl (w.heap.size + 1) 4 j0 (.bool false) 1 1 Try.underlying22 hj hy0 hy1 hy2 rfl (by decide) _ _ _ rfl (hrow3.alloc _) ⟨w3.heap.size, 0, none⟩ 1 1 [.bool false] rfl rfl (cell_one_new _ _ _) (by simp [Value.oneCell']) (by unfold maxLen; omega) (by omega) (by simp; omega) ?_; intro r' w4 hrow4 hgrow4 _ hloc4; (have hap4 := apart_right hap3 hown3 (by simp) hloc4); (have hown4 := (hown3.alloc (.cells #[.bool false] 4)).kept hgrow4 hap3.swap.kept); (have hf4 := (hf3.below ((Below.refl _ _).alloc (Nat.le_refl _) _) hf3.lt).grown hgrow4 (hnf'.out _ fun g hg => (hrow3.lt g hg).1)); (have g4 : Below w.heap.size w w4 := (g3.alloc g3.size _).grown hgrow4 (by have := g3.size; simp; omega) (fun j hj => by have := (hrow3.lt j hj).1; omega)); (have k0 : w4.cell? ⟨ab, ao + k * 5, none⟩ = some (.int .i64 x.t) := (g4.cell (p := ⟨ab, _, none⟩) hab).trans ((gM.cell (p := ⟨ab, _, none⟩) hab).symm.trans hc0)); (have k1 : w4.cell? ⟨ab, ao + k * 5 + 1, none⟩ = some (.int .i64 x.n) := (g4.cell (p := ⟨ab, _, none⟩) hab).trans ((gM.cell (p := ⟨ab, _, none⟩) hab).symm.trans hc1)); (have k2 : w4.cell? ⟨ab, ao + k * 5 + 2, none⟩ = some (.string x.s) := (g4.cell (p := ⟨ab, _, none⟩) hab).trans ((gM.cell (p := ⟨ab, _, none⟩) hab).symm.trans hc2)); (have k3 : w4.cell? ⟨ab, ao + k * 5 + 3, none⟩ = some (.bool x.b) := (g4.cell (p := ⟨ab, _, none⟩) hab).trans ((gM.cell (p := ⟨ab, _, none⟩) hab).symm.trans hc3)); (have k4 : w4.cell? ⟨ab, ao + k * 5 + 4, none⟩ = some (.int .i64 x.c) := (g4.cell (p := ⟨ab, _, none⟩) hab).trans ((gM.cell (p := ⟨ab, _, none⟩) hab).symm.trans hc4)); (have hown4' := Lib.hid hown4); (have hrow4' := Lib.hid hrow4); (have hap4' := Lib.hid hap4); (have hf4' := Lib.hid hf4); (obtain ⟨q0, q1, q2, q3, q4, qf, ql⟩ := hf4); (have e0 := ab_ne); (rw [h0'.out] at q0); (skip); (clear hc0 hc1 hc2 hc3 hc4 hown2 hrow2 hf2 hown3 hrow3 hf3 hown4 hrow4 hap3 hap4 hb2 hgrow3 hgrow4 hloc3 hloc4 g2 gx g3 hz2' hz3')))
            go_roundw
            case rel =>
              refine ⟨k + 1, by omega, by go_num, by rw [hts'.out, List.all_append, hok'.out]; simp [VL.may], Lib.hid ?_, Lib.hid ?_, hap4', Lib.hid ?_, ?_⟩
              · rw [hts'.out, List.map_append, List.flatten_append]; exact hown4'.out
              · rw [hts'.out, List.map_append]; exact hrow4'.out
              · rw [hsn'.out]; exact hf4'.out
              · exact g4
            case measure => simp [intOf]; omega
        · have hsn' := Lib.hid (show fltOf (l.take (k + 1)) = fltOf (l.take k) from by rw [hts'.out, fltOf_snoc]; simp [h0])
          have h0' := Lib.hid h0
          clear h0
          go_wp2_with fail
          refine (rvmay_any x.t x.n x.s x.b x.c hxo _).mono ?_
          rintro e w1 ⟨rfl, hb1⟩
          have gM : Below w.heap.size w w1 := g0.trans (hb1.mono g0.size)
          have gN : Below wr.heap.size wr w1 := hb1
          have hc0 : w1.cell? ⟨ab, ao + k * 5, none⟩ = some (.int .i64 x.t) := (hb1.cell (p := ⟨ab, _, none⟩) (by simp; omega)).trans hc0
          have hc1 : w1.cell? ⟨ab, ao + k * 5 + 1, none⟩ = some (.int .i64 x.n) := (hb1.cell (p := ⟨ab, _, none⟩) (by simp; omega)).trans hc1
          have hc2 : w1.cell? ⟨ab, ao + k * 5 + 2, none⟩ = some (.string x.s) := (hb1.cell (p := ⟨ab, _, none⟩) (by simp; omega)).trans hc2
          have hc3 : w1.cell? ⟨ab, ao + k * 5 + 3, none⟩ = some (.bool x.b) := (hb1.cell (p := ⟨ab, _, none⟩) (by simp; omega)).trans hc3
          have hc4 : w1.cell? ⟨ab, ao + k * 5 + 4, none⟩ = some (.int .i64 x.c) := (hb1.cell (p := ⟨ab, _, none⟩) (by simp; omega)).trans hc4
          clear hb1
          go_wp2_with fail
          refine (lsingle_any x.t x.n x.s x.b x.c _).mono ?_
          rintro e w2 ⟨rfl, hb2⟩
          have g2 : Below w.heap.size w w2 := gM.trans (hb2.mono gM.size)
          have gx : Below wr.heap.size wr w2 := gN.trans (hb2.mono gN.size)
          have hown2 := ownsRow_below hown.out gx
          have hrow2 := ownsRow_below hrow.out gx
          have hf2 := hflt.out.below gx hflt.out.lt
          have hz2' := gx.size
          have hz2'' := hflt.out.lt
          have hnf : ∀ z : Value, (∀ g, z.ownBlock = some g → w.heap.size + 1 ≤ g) → some w.heap.size ≠ z.ownBlock := fun z hz e => by
            have := hz _ e.symm
            omega
          have hnf' := Lib.hid hnf
          clear hnf
          go_wp2_with (first | (at_builtin; refine wpList_append_own_at _ rfl _ _ 27 rfl (w.heap.size + 1) 37 i0 (.agg #[.bool false, .int .i64 0, .int .i64 0, .string ⟨#[]⟩, .bool false, .int .i64 0, .int .i64 0, .int .i64 0, .int .i64 0, .int .i64 0, .slice none 0 0]) 11 112 Try.underlying27 hi hz0 hz1 hz2 rfl (by decide) _ _ _ rfl (hown2.alloc _) ⟨w2.heap.size, 0, none⟩ 1 1 [.bool false, .int .i64 x.t, .int .i64 x.n, .string x.s, .bool x.b, .int .i64 x.c, .int .i64 0, .int .i64 0, .int .i64 0, .int .i64 0, .slice none 0 0] rfl rfl (fun j u hj => by have := cell_of_row (w2.alloc (.cells #[.bool false, .int .i64 x.t, .int .i64 x.n, .string x.s, .bool x.b, .int .i64 x.c, .int .i64 0, .int .i64 0, .int .i64 0, .int .i64 0, .slice none 0 0] 37)) w2.heap.size j _ _ (0, 0) (heap_alloc_new _ _); simp only [Addr.add]; split <;> simp_all) (by simp [Value.oneCell']) (by unfold maxLen; omega) (by omega) (by simp; omega) ?_; intro v' w3 hown3 hgrow3 _ hloc3; (have hap3 := apart_left hap.out hrow2 (Nat.le_trans (Nat.le_refl _) (by simp)) hloc3); (have hrow3 := (hrow2.alloc (.cells #[.bool false, .int .i64 x.t, .int .i64 x.n, .string x.s, .bool x.b, .int .i64 x.c, .int .i64 0, .int .i64 0, .int .i64 0, .int .i64 0, .slice none 0 0] 37)).kept hgrow3 hap.out.kept); (have hf3 := (hf2.below ((Below.refl _ _).alloc (Nat.le_refl _) _) hf2.lt).grown hgrow3 (hnf'.out _ fun g hg => (hown2.lt g hg).1)); (have g3 : Below w.heap.size w w3 := (g2.alloc g2.size _).grown hgrow3 (by have := g2.size; simp; omega) (fun j hj => by have := (hown2.lt j hj).1; omega)); (have hz3' := hgrow3.size); (simp only [World.size_alloc] at hz3')) | (at_builtin; refine wpList_append_own_at _ rfl _ _ 22 rfl (w.heap.size + 1) 4 j0 (.bool false) 1 1 Try.underlying22 hj hy0 hy1 hy2 rfl (by decide) _ _ _ rfl (hrow3.alloc _) ⟨w3.heap.size, 0, none⟩ 1 1 [.bool false] rfl rfl (cell_one_new _ _ _) (by simp [Value.oneCell']) (by unfold maxLen; omega) (by omega) (by simp; omega) ?_; intro r' w4 hrow4 hgrow4 _ hloc4; (have hap4 := apart_right hap3 hown3 (by simp) hloc4); (have hown4 := (hown3.alloc (.cells #[.bool false] 4)).kept hgrow4 hap3.swap.kept); (have hf4 := (hf3.below ((Below.refl _ _).alloc (Nat.le_refl _) _) hf3.lt).grown hgrow4 (hnf'.out _ fun g hg => (hrow3.lt g hg).1)); (have g4 : Below w.heap.size w w4 := (g3.alloc g3.size _).grown hgrow4 (by have := g3.size; simp; omega) (fun j hj => by have := (hrow3.lt j hj).1; omega)); (have k0 : w4.cell? ⟨ab, ao + k * 5, none⟩ = some (.int .i64 x.t) := (g4.cell (p := ⟨ab, _, none⟩) hab).trans ((gM.cell (p := ⟨ab, _, none⟩) hab).symm.trans hc0)); (have k1 : w4.cell? ⟨ab, ao + k * 5 + 1, none⟩ = some (.int .i64 x.n) := (g4.cell (p := ⟨ab, _, none⟩) hab).trans ((gM.cell (p := ⟨ab, _, none⟩) hab).symm.trans hc1)); (have k2 : w4.cell? ⟨ab, ao + k * 5 + 2, none⟩ = some (.string x.s) := (g4.cell (p := ⟨ab, _, none⟩) hab).trans ((gM.cell (p := ⟨ab, _, none⟩) hab).symm.trans hc2)); (have k3 : w4.cell? ⟨ab, ao + k * 5 + 3, none⟩ = some (.bool x.b) := (g4.cell (p := ⟨ab, _, none⟩) hab).trans ((gM.cell (p := ⟨ab, _, none⟩) hab).symm.trans hc3)); (have k4 : w4.cell? ⟨ab, ao + k * 5 + 4, none⟩ = some (.int .i64 x.c) := (g4.cell (p := ⟨ab, _, none⟩) hab).trans ((gM.cell (p := ⟨ab, _, none⟩) hab).symm.trans hc4)); (have hown4' := Lib.hid hown4); (have hrow4' := Lib.hid hrow4); (have hap4' := Lib.hid hap4); (have hf4' := Lib.hid hf4); (obtain ⟨q0, q1, q2, q3, q4, qf, ql⟩ := hf4); (have e0 := ab_ne); (rw [h0'.out] at q0); (skip); (clear hc0 hc1 hc2 hc3 hc4 hown2 hrow2 hf2 hown3 hrow3 hf3 hown4 hrow4 hap3 hap4 hb2 hgrow3 hgrow4 hloc3 hloc4 g2 gx g3 hz2' hz3')))
          go_roundw
          case rel =>
            refine ⟨k + 1, by omega, by go_num, by rw [hts'.out, List.all_append, hok'.out]; simp [VL.may], Lib.hid ?_, Lib.hid ?_, hap4', Lib.hid ?_, ?_⟩
            · rw [hts'.out, List.map_append, List.flatten_append]; exact hown4'.out
            · rw [hts'.out, List.map_append]; exact hrow4'.out
            · rw [hsn'.out]; exact hf4'.out
            · exact g4
          case measure => simp [intOf]; omega
    · obtain rfl : k = l.length := by omega
      rw [List.take_length] at hown hrow hflt
      obtain ⟨A2, cap2, rfl, hrd⟩ := ownsRow_rdk (l := l.map fun x => (sglL x).cs) (by omega) (by intro c hc; obtain ⟨x, _, rfl⟩ := List.mem_map.1 hc; rfl) (by simp) hown.out
      obtain ⟨A3, cap3, rfl, hrd3⟩ := ownsRow_rd hrow.out
      have CLw : ∀ (tx : Int) (wx : World), Below wr.heap.size wr wx → Calls Try.prog 14 #[.string name, .slice A2 l.length cap2, .int .i64 tx] wx fun e w' => e = .returned (.agg #[.int .i64 (answR name l).t, .int .i64 (answR name l).n, .string (answR name l).s, .bool (answR name l).b, .int .i64 (answR name l).c]) ∧ Below wx.heap.size wx w' := fun tx wx hbx => by
        have C := ncall_any name hs (l.map sglL) (by simp; omega) tx (doR name (l.map VL.asN)) (sgl_mays l hl'.out) (fun ht => by
          rw [asN_sgl]
          exact doAt_all name (l.map VL.asN) (fun x hx => by
            obtain ⟨v, hv, rfl⟩ := List.mem_map.1 hx
            exact asN_in v (hl'.out v hv)) (z := false) (by rw [any_sgl, List.length_map] at ht; rw [List.length_map]; exact ht)) wx A2 cap2 (by rw [List.map_map]; exact (hrd.below hbx).mono hbx.size) (fun y hy => by
          obtain ⟨v, hv, rfl⟩ := List.mem_map.1 hy
          exact ⟨hl'.out v hv, fun i c hi => by simp [sglL] at hi, fun e he => by simp [sglL] at he, by simp [sglL]⟩)
        rw [List.length_map] at C
        exact C
      have TKw : ∀ (z : Bool) (wx : World), takesN name l.length false = z → Below wr.heap.size wr wx → Calls Try.prog 10 #[.string name, .slice A3 l.length cap3] wx fun e w' => e = .returned (.bool z) ∧ wx = w' := fun z wx hz hbx => by
        have C := rtakes_any name (l.map fun _ => false) (by simp; omega) z (by rw [List.length_map, List.any_map]; rw [← hz]; congr 1; simp) wx A3 cap3 (by
          have e : ((l.map fun _ => Value.bool false).map fun x => [x]) = ((l.map fun _ => false).map fun (x : Bool) => [Value.bool x]) := by simp
          rw [← e]; exact (hrd3.below hbx).mono hbx.size)
        rw [List.length_map] at C
        exact C
      have hm := answR_may name l
      have hin := answR_in name l hl'.out
      have hno := answR_no name l
      have hyes := answR_yes name l
      have hft := fltOf_t l
      generalize answR name l = V at CLw hm hno hyes hin
      obtain ⟨vt, vn, vs, vb, vc⟩ := V
      generalize fltOf l = FV at hflt hyes hft
      obtain ⟨ft, fn, fs, fb, fc⟩ := FV
      have hvn : -9223372036854775808 ≤ vn ∧ vn ≤ 9223372036854775807 := hin
      clear hin
      have MYw : ∀ wx : World, Hid (Calls Try.prog 12 #[.agg #[.int .i64 vt, .int .i64 vn, .string vs, .bool vb, .int .i64 vc]] wx fun e w' => e = .returned (.bool true) ∧ Below wx.heap.size wx w') := fun wx => Lib.hid (by
        have C := rvmay_any vt vn vs vb vc hvn wx
        rw [show vMay vt vn vs vb vc = true from hm] at C
        exact C)
      have CLw' := Lib.hid CLw
      have TKw' := Lib.hid TKw
      have hvs := vEq_self vt vn vs vb vc
      clear hrd hrd3 hown hrow hap CLw TKw hm
      cases ha : l.all VL.may
      · obtain ⟨rfl, rfl, rfl, rfl, rfl⟩ : vt = 4 ∧ vn = 0 ∧ vs = ⟨#[]⟩ ∧ vb = false ∧ vc = 8 := by simpa using hno (by rw [ha]; rfl)
        clear hno hyes hft
        go_wp2_with fail
        refine (CLw'.out text _ (Below.refl _ _)).mono ?_
        rintro e w1 ⟨rfl, hb1⟩
        have g1 : Below w.heap.size w w1 := g0.trans (hb1.mono g0.size)
        have hz1' := hb1.size
        have hf1 := hflt.out.below hb1 hflt.out.lt
        obtain ⟨q0, q1, q2, q3, q4, qf, ql⟩ := hf1
        have hq : w.heap.size ≠ w1.heap.size := by omega
        go_wp2_with fail
        go_region_held3 (fun w' => w'.cell? ⟨w1.heap.size, 0, none⟩ = some (.int .i64 4) ∧ w'.cell? ⟨w1.heap.size, 1, none⟩ = some (.int .i64 0) ∧ w'.cell? ⟨w1.heap.size, 2, none⟩ = some (.string ⟨#[]⟩) ∧ w'.cell? ⟨w1.heap.size, 3, none⟩ = some (.bool false) ∧ w'.cell? ⟨w1.heap.size, 4, none⟩ = some (.int .i64 8) ∧ Below wr.heap.size wr w' ∧ Below w.heap.size w w' ∧ w1.heap.size + 1 ≤ w'.heap.size)
          (first | ((go_split_ands; refine ⟨?_, ?_, ?_, ?_, ?_, ?_, ?_, ?_⟩ <;> first | (rw [hb.cell (by dsimp only; omega)]; assumption) | exact Below.trans (by assumption) (hb.mono (by omega)) | (have := hb.size; omega))) | ((refine ⟨?_, ?_, ?_, ?_, ?_, ?_, ?_, ?_⟩ <;> first | exact (hb1.alloc hz1' _).drew | exact (g1.alloc g1.size _).drew | (simp [go_sem, *]; done) | (simp; omega))))
          (first | (go_at_call 11; refine (nknown _).mono ?_; rintro e w1 ⟨rfl, hb⟩) | (go_at_call 14; (try go_split_ands); refine (CLw'.out 0 _ (by assumption)).mono ?_; rintro e w1 ⟨rfl, hb⟩) | (go_at_call 12; refine ((MYw _).out).mono ?_; rintro e w1 ⟨rfl, hb⟩))
        go_split_ands
        all_goals
          go_split_ands
          go_wp2
          go_ret
          exact ⟨rfl, by first | assumption | (go_split_ands; assumption)⟩
      · cases ht : takesN name l.length false
        · obtain ⟨rfl, rfl, rfl, rfl, rfl⟩ : vt = 4 ∧ vn = 0 ∧ vs = ⟨#[]⟩ ∧ vb = false ∧ vc = 8 := by simpa using hno (by rw [ha, ht]; rfl)
          have ht' := Lib.hid ht
          clear hno hyes hft ht
          go_wp2_with fail
          refine (CLw'.out text _ (Below.refl _ _)).mono ?_
          rintro e w1 ⟨rfl, hb1⟩
          have g1 : Below w.heap.size w w1 := g0.trans (hb1.mono g0.size)
          have hz1' := hb1.size
          have hf1 := hflt.out.below hb1 hflt.out.lt
          obtain ⟨q0, q1, q2, q3, q4, qf, ql⟩ := hf1
          have hq : w.heap.size ≠ w1.heap.size := by omega
          go_wp2_with fail
          go_region_held3 (fun w' => w'.cell? ⟨w1.heap.size, 0, none⟩ = some (.int .i64 4) ∧ w'.cell? ⟨w1.heap.size, 1, none⟩ = some (.int .i64 0) ∧ w'.cell? ⟨w1.heap.size, 2, none⟩ = some (.string ⟨#[]⟩) ∧ w'.cell? ⟨w1.heap.size, 3, none⟩ = some (.bool false) ∧ w'.cell? ⟨w1.heap.size, 4, none⟩ = some (.int .i64 8) ∧ Below wr.heap.size wr w' ∧ Below w.heap.size w w' ∧ w1.heap.size + 1 ≤ w'.heap.size)
            (first | ((go_split_ands; refine ⟨?_, ?_, ?_, ?_, ?_, ?_, ?_, ?_⟩ <;> first | (rw [hb.cell (by dsimp only; omega)]; assumption) | exact Below.trans (by assumption) (hb.mono (by omega)) | (have := hb.size; omega))) | ((refine ⟨?_, ?_, ?_, ?_, ?_, ?_, ?_, ?_⟩ <;> first | exact (hb1.alloc hz1' _).drew | exact (g1.alloc g1.size _).drew | (simp [go_sem, *]; done) | (simp; omega))))
            (first | (go_at_call 11; refine (nknown _).mono ?_; rintro e w1 ⟨rfl, hb⟩) | (go_at_call 14; (try go_split_ands); refine (CLw'.out 0 _ (by assumption)).mono ?_; rintro e w1 ⟨rfl, hb⟩) | (go_at_call 12; refine ((MYw _).out).mono ?_; rintro e w1 ⟨rfl, hb⟩))
          go_split_ands
          all_goals
            go_split_ands
            rename_i gS1 gS2 gS3
            go_wp2_with fail
            refine (TKw'.out false _ ht'.out gS1).mono ?_
            rintro e wk ⟨rfl, rfl⟩
            have hf9 := hflt.out.below gS1 hflt.out.lt
            obtain ⟨p0, p1, p2, p3, p4, pf, pl⟩ := hf9
            go_wp2
            go_ret
            exact ⟨rfl, gS2⟩
        · rcases hft with ⟨h0, _⟩ | ⟨h0, _⟩
          · have h0' : ft = 0 := h0
            subst h0'
            clear h0
            have ht' := Lib.hid ht
            clear hno hyes ht
            go_wp2_with fail
            refine (CLw'.out text _ (Below.refl _ _)).mono ?_
            rintro e w1 ⟨rfl, hb1⟩
            have g1 : Below w.heap.size w w1 := g0.trans (hb1.mono g0.size)
            have hz1' := hb1.size
            have hf1 := hflt.out.below hb1 hflt.out.lt
            obtain ⟨q0, q1, q2, q3, q4, qf, ql⟩ := hf1
            have hq : w.heap.size ≠ w1.heap.size := by omega
            go_wp2_with fail
            go_region_held3 (fun w' => w'.cell? ⟨w1.heap.size, 0, none⟩ = some (.int .i64 vt) ∧ w'.cell? ⟨w1.heap.size, 1, none⟩ = some (.int .i64 vn) ∧ w'.cell? ⟨w1.heap.size, 2, none⟩ = some (.string vs) ∧ w'.cell? ⟨w1.heap.size, 3, none⟩ = some (.bool vb) ∧ w'.cell? ⟨w1.heap.size, 4, none⟩ = some (.int .i64 vc) ∧ Below wr.heap.size wr w' ∧ Below w.heap.size w w' ∧ w1.heap.size + 1 ≤ w'.heap.size)
              (first | ((go_split_ands; refine ⟨?_, ?_, ?_, ?_, ?_, ?_, ?_, ?_⟩ <;> first | (rw [hb.cell (by dsimp only; omega)]; assumption) | exact Below.trans (by assumption) (hb.mono (by omega)) | (have := hb.size; omega))) | ((refine ⟨?_, ?_, ?_, ?_, ?_, ?_, ?_, ?_⟩ <;> first | exact (hb1.alloc hz1' _).drew | exact (g1.alloc g1.size _).drew | (simp [go_sem, *]; done) | (simp; omega))))
              (first | (go_at_call 11; refine (nknown _).mono ?_; rintro e w1 ⟨rfl, hb⟩) | (go_at_call 14; (try go_split_ands); refine (CLw'.out 0 _ (by assumption)).mono ?_; rintro e w1 ⟨rfl, hb⟩) | (go_at_call 12; refine ((MYw _).out).mono ?_; rintro e w1 ⟨rfl, hb⟩))
            go_split_ands
            all_goals
              go_split_ands
              rename_i gS1 gS2 gS3
              go_wp2_with fail
              refine (TKw'.out true _ ht'.out gS1).mono ?_
              rintro e wk ⟨rfl, rfl⟩
              have hf9 := hflt.out.below gS1 hflt.out.lt
              obtain ⟨p0, p1, p2, p3, p4, pf, pl⟩ := hf9
              go_wp2
              go_ret
              exact ⟨rfl, gS2⟩
          · have h0' : ft = 4 := h0
            subst h0'
            obtain ⟨rfl, rfl, rfl, rfl, rfl⟩ : vt = 4 ∧ vn = fn ∧ vs = fs ∧ vb = fb ∧ vc = fc := by
              rcases hyes ha ht with h | h
              · exact absurd h (by simp)
              · simpa using h
            clear h0
            have ht' := Lib.hid ht
            clear hno hyes ht
            go_wp2_with fail
            refine (CLw'.out text _ (Below.refl _ _)).mono ?_
            rintro e w1 ⟨rfl, hb1⟩
            have g1 : Below w.heap.size w w1 := g0.trans (hb1.mono g0.size)
            have hz1' := hb1.size
            have hf1 := hflt.out.below hb1 hflt.out.lt
            obtain ⟨q0, q1, q2, q3, q4, qf, ql⟩ := hf1
            have hq : w.heap.size ≠ w1.heap.size := by omega
            go_wp2_with fail
            go_region_held3 (fun w' => w'.cell? ⟨w1.heap.size, 0, none⟩ = some (.int .i64 4) ∧ w'.cell? ⟨w1.heap.size, 1, none⟩ = some (.int .i64 vn) ∧ w'.cell? ⟨w1.heap.size, 2, none⟩ = some (.string vs) ∧ w'.cell? ⟨w1.heap.size, 3, none⟩ = some (.bool vb) ∧ w'.cell? ⟨w1.heap.size, 4, none⟩ = some (.int .i64 vc) ∧ Below wr.heap.size wr w' ∧ Below w.heap.size w w' ∧ w1.heap.size + 1 ≤ w'.heap.size)
              (first | ((go_split_ands; refine ⟨?_, ?_, ?_, ?_, ?_, ?_, ?_, ?_⟩ <;> first | (rw [hb.cell (by dsimp only; omega)]; assumption) | exact Below.trans (by assumption) (hb.mono (by omega)) | (have := hb.size; omega))) | ((refine ⟨?_, ?_, ?_, ?_, ?_, ?_, ?_, ?_⟩ <;> first | exact (hb1.alloc hz1' _).drew | exact (g1.alloc g1.size _).drew | (simp [go_sem, *]; done) | (simp; omega))))
              (first | (go_at_call 11; refine (nknown _).mono ?_; rintro e w1 ⟨rfl, hb⟩) | (go_at_call 14; (try go_split_ands); refine (CLw'.out 0 _ (by assumption)).mono ?_; rintro e w1 ⟨rfl, hb⟩) | (go_at_call 12; refine ((MYw _).out).mono ?_; rintro e w1 ⟨rfl, hb⟩))
            go_split_ands
            all_goals
              go_split_ands
              rename_i gS1 gS2 gS3
              go_wp2_with fail
              refine (TKw'.out true _ ht'.out gS1).mono ?_
              rintro e wk ⟨rfl, rfl⟩
              have hf9 := hflt.out.below gS1 hflt.out.lt
              obtain ⟨p0, p1, p2, p3, p4, pf, pl⟩ := hf9
              go_wp2
              go_ret
              exact ⟨rfl, gS2⟩
end Go.Proofs.Ythobaffgllipfaa
