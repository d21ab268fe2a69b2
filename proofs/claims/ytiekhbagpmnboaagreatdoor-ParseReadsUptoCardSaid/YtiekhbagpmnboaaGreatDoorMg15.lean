/-
  orielref06: the reader's methods, whatever came of what was ahead; Plain laws of the document's reader: what is read on, whatever came of what was ahead; parse: the reader's post; parse: the reader's neg; orielref06: the reader's neg.
-/
import Derived.Test.YtiekhbagpmnboaaGreatDoorMg0
import Derived.Test.YtiekhbagpmnboaaGreatDoorRows
import Derived.Test.YtiekhbagpmnboaaGreatDoorProg
import Derived.Test.YtiekhbagpmnboaaGreatDoorAddrC
import Derived.Test.YtiekhbagpmnboaaGreatDoorMg2
import Derived.Test.YtiekhbagpmnboaaGreatDoorMg26
import Derived.Test.YtiekhbagpmnboaaGreatDoorValA
import Derived.Test.YtiekhbagpmnboaaGreatDoorValB
import Derived.Test.YtiekhbagpmnboaaGreatDoorMg5
import Derived.Test.YtiekhbagpmnboaaGreatDoorMg6
import Derived.Test.YtiekhbagpmnboaaGreatDoorMg7
import Derived.Test.YtiekhbagpmnboaaGreatDoorPaW
import Derived.Test.YtiekhbagpmnboaaGreatDoorMg9
import Derived.Test.YtiekhbagpmnboaaGreatDoorDrC
import Derived.Test.YtiekhbagpmnboaaGreatDoorMg11
import Derived.Test.YtiekhbagpmnboaaGreatDoorDrF
import Derived.Test.YtiekhbagpmnboaaGreatDoorDrH
import Derived.Test.YtiekhbagpmnboaaGreatDoorDrI
import Derived.Test.YtiekhbagpmnboaaGreatDoorMg16
import Derived.WalkSpells
import Derived.WalkLawsBesides
import Derived.StillTactics
import Derived.Laws.Pointers
import Derived.Deep.RegionHeld3
import Derived.Deep.QuietTactic
import Derived.BigQuiet
import Derived.RowKit3
import Derived.Lib.Hide
import Derived.Lib.OthersKept
import Derived.OwnWalk
import Derived.Lib.IndexLaws
import Derived.Lib.ItoaMem
import Derived.Lib.TrimByte
import Derived.Lib.SlTrimSet
import Derived.Lib.ParseIntB
import Derived.WalkKit
import Derived.ProofKit
import Derived.OpenShut
import Derived.Carry
import Derived.ChangeSame
import Derived.Deep.Draws
import Derived.Shelf.Strings.Builder1
import Derived.Shelf.Strings.Trim
import Derived.Shelf.Small.Utf8
import Derived.Shelf.Small.Strs
import Derived.Shelf.Small.Wraps
import Derived.Shelf.Strings.BuilderF
import Derived.Shelf.Strings.BuilderK
import Derived.Shelf.Strconv.Itoa0
import Derived.Shelf.Strconv.Itoa1
import Derived.Shelf.LaysM
import Derived.Shelf.Strconv.Itoa2
import Derived.Shelf.Strconv.Itoa3
import Derived.Ground.MpProg
import Derived.Shelf.Pu.ParseUintPublic10
import Derived.Shelf.Strings.Search1
import Derived.Shelf.Strings.Search2
import Derived.Shelf.Strings.Cut
import Derived.Shelf.Strings.Shaped
import Derived.Shelf.Strings.Prefix
import Derived.Shelf.Strings.Runes
import Derived.Shelf.Strings.AsciiSet
import Derived.Shelf.Unicode.DecodeSlow
import Derived.Lib.ItoaNum
import Derived.Maps.OwnSet
import Derived.Maps.AppendAt
import Derived.BigRegion
import Derived.Deep.RegionLaw
import Derived.Deep.AppendLies
import Derived.ScopeJumps
import Derived.WalkMore
namespace Go.Proofs.YtiekhbagpmnboaaGreatDoor
open Go.RowKit

theorem own_keepD {R B size n : Nat} {w w' : World} {e : TypeId} {v : Value} {xs : List Value} (h : w.ownsRow B e size v n xs) (hB : R < B) (hne : ∀ q, v.ownBlock = some q → nownD w R ≠ some q) (hk : KeepD R w w') : w'.ownsRow B e size v n xs ∧ ∀ q, v.ownBlock = some q → nownD w' R ≠ some q := by
  refine ⟨?_, fun q hq => ?_⟩
  · obtain ⟨h1, h2⟩ := h
    rcases h2 with ⟨h2, h3⟩ | ⟨g, cap, cur, hv, hg, hh, hr⟩
    · exact ⟨h1, .inl ⟨h2, h3⟩⟩
    · exact ⟨h1, .inr ⟨g, cap, cur, hv, hg, hk.2.2 g _ _ _ hh (by omega) (hne g (by rw [hv]; rfl)), hr⟩⟩
  · have hlt := (h.lt q hq).2
    rcases hk.2.1 with e | ⟨g, e, h1, _⟩
    · rw [e]; exact hne q hq
    · rw [e]; intro e2; injection e2 with e2; omega
theorem KeepD.grow {R : Nat} {w w1 w2 : World} {row : Option Nat} (hk : KeepD R w w1) (hR : R < w1.heap.size) (hg : w1.grownBy w2 row) (hrow : ∀ q, row = some q → w.heap.size ≤ q ∧ R < q) : KeepD R w w2 := by
  obtain ⟨h1, h2, h3⟩ := hk
  have hne : some R ≠ row := fun e => by have := (hrow R e.symm).2; omega
  have hn : nownD w2 R = nownD w1 R := nownD_eq (hg.cell_far ⟨R, 2, none⟩ hR hne)
  have hsz := hg.size
  refine ⟨h1.grown hg (by omega) (fun q hq => by have := (hrow q hq).2; omega), ?_, fun k cs t fr hk hkR how => ?_⟩
  · rw [hn]
    rcases h2 with e | ⟨g, e, a, b⟩
    · exact .inl e
    · exact .inr ⟨g, e, a, by omega⟩
  · have hlt := heap_lt hk
    have hk1 := h3 k cs t fr hk hkR how
    exact (hg.block k (heap_lt hk1) (fun e => by have := (hrow k e.symm).1; omega)).trans hk1
theorem DS.grow {tv : TV} {R : Nat} {w1 w2 : World} {ts : List Tok} {i : Nat} {ns : List NL} {o er a : Int} {A : Option Addr} {cap : Nat} {N : Value} {row : Option Nat} (h : DS tv R w1 ts i ns o er a A cap N) (hg : w1.grownBy w2 row) (hrow : ∀ q, row = some q → R < q ∧ nownD w1 R ≠ some q) : DS tv R w2 ts i ns o er a A cap N := by
  have hR := h.ltR
  have hne : some R ≠ row := fun e => by have := (hrow R e.symm).1; omega
  have hb : Below R w1 w2 := (Below.refl _ _).grown hg (by omega) (fun q hq => by have := (hrow q hq).1; omega)
  refine ⟨(hg.block R hR hne).trans h.blk, h.toks.below hb, h.lt, ?_, h.nl, h.tl, h.tab.below hb⟩
  have hn := h.nown
  obtain ⟨h1, h2⟩ := h.nodes
  rcases h2 with ⟨h2, h3⟩ | ⟨g, cap, cur, hv, hB, hh, hr⟩
  · exact ⟨h1, .inl ⟨h2, h3⟩⟩
  · refine ⟨h1, .inr ⟨g, cap, cur, hv, hB, (hg.block g (heap_lt hh) (fun e => ?_)).trans hh, hr⟩⟩
    exact (hrow g e.symm).2 (by rw [hn, hv]; rfl)
theorem DSt.grow {tv : TV} {R : Nat} {w1 w2 : World} {ts : List Tok} {x : PR} {row : Option Nat} (h : DSt tv R w1 ts x) (hg : w1.grownBy w2 row) (hrow : ∀ q, row = some q → R < q ∧ nownD w1 R ≠ some q) : DSt tv R w2 ts x := by
  cases x with
  | ok s => obtain ⟨⟨A, cap, N, i, h, hd⟩, hr⟩ := h; exact ⟨⟨A, cap, N, i, h.grow hg hrow, hd⟩, hr⟩
  | bad e a => obtain ⟨he, A, cap, N, i, ns, o, h⟩ := h; exact ⟨he, A, cap, N, i, ns, o, h.grow hg hrow⟩
theorem DSt.up {tv : TV} {R : Nat} {w w' : World} {ts : List Tok} {x : PR} (h : DSt tv R w ts x) (hb : Below w.heap.size w w') : DSt tv R w' ts x := by
  cases x with
  | ok s => exact DOk.up h hb
  | bad e a => exact DEr.up h hb
theorem DSt.ltR {tv : TV} {R : Nat} {w : World} {ts : List Tok} {x : PR} (h : DSt tv R w ts x) : R < w.heap.size := by
  cases x with
  | ok s => exact DOk.ltR h
  | bad e a => exact DEr.ltR h
theorem DSt.fresh {tv : TV} {R : Nat} {w : World} {ts : List Tok} {x : PR} (h : DSt tv R w ts x) (k : Nat) (hk : nownD w R = some k) : R < k ∧ k < w.heap.size := by
  cases x with
  | ok s => obtain ⟨⟨A, cap, N, i, h, hd⟩, hr⟩ := h; exact h.fresh k hk
  | bad e a => obtain ⟨he, A, cap, N, i, ns, o, h⟩ := h; exact h.fresh k hk
def errR : PR → Int | .ok _ => 0 | .bad e _ => e
theorem DSt.err {tv : TV} {R : Nat} {w : World} {ts : List Tok} {x : PR} (h : DSt tv R w ts x) : w.cell? ⟨R, 4, none⟩ = some (.int .i64 (errR x)) := by
  cases x with
  | ok s => exact DOk.err h
  | bad e a => exact DEr.err h
theorem DRes.st {tv : TV} {R : Nat} {w : World} {ts : List Tok} {x : PR} {e : Ending} {w' : World} (h : DRes tv R ts w x e w') : e = .returned (.tuple #[]) ∧ KeepD R w w' ∧ DSt tv R w' ts x := by
  obtain ⟨h1, h2, h3⟩ := h
  refine ⟨h1, h2, ?_⟩
  cases x <;> exact h3
theorem DSt.res {tv : TV} {R : Nat} {w w' : World} {ts : List Tok} {x : PR} (h : DSt tv R w' ts x) (hk : KeepD R w w') : DRes tv R ts w x (.returned (.tuple #[])) w' := by
  refine ⟨rfl, hk, ?_⟩
  cases x <;> exact h
def isR : PR → List UInt8 → Bool | .ok s, c => s.is c | .bad .., _ => false
def addR : PR → NL → Int → PR | .ok s, n, a => s.add n a | .bad e b, _, _ => .bad e b
def failR : PR → Int → Int → PR | .ok _, e, a => .bad e a | .bad e b, _, _ => .bad e b
theorem dstep_on (tv : TV) (R : Nat) (ts : List Tok) (x : PR) (w : World) (h : DSt tv R w ts x) : Calls Tryz.prog 60 #[.pointer (some ⟨R, 0, none⟩)] w fun e w' => DRes tv R ts w (stepR x) e w' := by
  cases x with
  | ok s => exact dstep_ok tv R ts s w h
  | bad e a => exact dstep_er tv R ts e a w h
theorem dsign_on (tv : TV) (R : Nat) (ts : List Tok) (x : PR) (c : List UInt8) (w : World) (h : DSt tv R w ts x) : Calls Tryz.prog 59 #[.pointer (some ⟨R, 0, none⟩), .string ⟨c.toArray⟩] w fun e w' => e = .returned (.bool (isR x c)) ∧ Below w.heap.size w w' := by
  cases x with
  | ok s => exact dsign_ok tv R ts s c w h
  | bad e a => exact dsign_er tv R ts e a _ w h
theorem dnow_on (tv : TV) (R : Nat) (ts : List Tok) (x : PR) (w : World) (h : DSt tv R w ts x) : ∃ y : Tok, (∀ s, x = .ok s → y = s.now) ∧ Calls Tryz.prog 29 #[.pointer (some ⟨R, 0, none⟩)] w fun e w' => e = .returned (.agg #[.int .i64 y.kind, .int .i64 y.place, .int .i64 y.num, .string y.str, .int .i64 y.r, .int .i64 y.c, .int .i64 y.t, .int .i64 y.l, .int .i64 y.b, .int .i64 y.q, .int .i64 y.code]) ∧ Below w.heap.size w w' := by
  cases x with
  | ok s => exact ⟨s.now, fun s' h => by (injection h with h; rw [h]), dnow_ok tv R ts s w h⟩
  | bad e a =>
    obtain ⟨y, hy⟩ := dnow_er tv R ts e a w h
    exact ⟨y, (fun s' h => by cases h), hy⟩
theorem dnode_on (tv : TV) (R : Nat) (ts : List Tok) (x : PR) (n : NL) (at' : Int) (w : World) (h : DSt tv R w ts x) : Calls Tryz.prog 61 #[.pointer (some ⟨R, 0, none⟩), .agg #[.int .i64 n.kind, .int .i64 n.v.t, .int .i64 n.v.n, .string n.v.s, .bool n.v.b, .int .i64 n.v.c, .int .i64 n.r, .int .i64 n.c, .int .i64 n.t, .int .i64 n.l, .int .i64 n.b, .int .i64 n.q, .int .i64 n.op, .string n.name, .int .i64 n.args], .int .i64 at'] w fun e w' => DRes tv R ts w (addR x n at') e w' := by
  cases x with
  | ok s => exact dnode_ok tv R ts s n at' w h
  | bad e a => exact dnode_er tv R ts e a n at' w h
theorem dfail_on (tv : TV) (R : Nat) (ts : List Tok) (x : PR) (er at' : Int) (he : er ≠ 0) (w : World) (h : DSt tv R w ts x) : Calls Tryz.prog 30 #[.pointer (some ⟨R, 0, none⟩), .int .i64 er, .int .i64 at'] w fun e w' => DRes tv R ts w (failR x er at') e w' := by
  cases x with
  | ok s => exact dfail_ok tv R ts s er at' he w h
  | bad e a => exact dfail_er tv R ts e a er at' w h
theorem dclosed_on (tv : TV) (R : Nat) (ts : List Tok) (x : PR) (ho : ∀ s, x = .ok s → 1 ≤ s.opn) (w : World) (h : DSt tv R w ts x) : Calls Tryz.prog 114 #[.pointer (some ⟨R, 0, none⟩)] w fun e w' => DRes tv R ts w (closeR x) e w' := by
  cases x with
  | ok s => exact dclosed tv R ts s (ho s rfl) w h
  | bad e a => exact dclosed_er tv R ts e a w h
/-- how far the reader stands, as a number -/
def leftD (n R : Nat) (w : World) : Nat := match w.cell? ⟨R, 1, none⟩ with | some (.int _ i) => n - i.toNat | _ => 0
theorem DOk.left {tv : TV} {R : Nat} {w : World} {ts : List Tok} {s : PS} (h : DOk tv R w ts s) : leftD ts.length R w = s.rest.length + 1 := by
  obtain ⟨⟨A, cap, N, i, h, hd⟩, hr⟩ := h
  have hc : w.cell? ⟨R, 1, none⟩ = some (.int .i64 (i : Int)) := by rw [cell_of_row w R 1 _ _ _ h.blk]; rfl
  unfold leftD
  rw [hc]
  have := congrArg List.length hd
  simp at this
  simp; omega
def goesD (n R : Nat) (w : World) : Nat := match w.cell? ⟨R, 4, none⟩ with | some (.int _ e) => if e = 0 then 1 + leftD n R w else 0 | _ => 0
/-- a number that goes down while the reader reads on -/
def moreD (n R : Nat) (v : Value) (w : World) : Nat := match v with | .bool true => 1 + goesD n R w | _ => 0
theorem DOk.goes {tv : TV} {R : Nat} {w : World} {ts : List Tok} {s : PS} (h : DOk tv R w ts s) : goesD ts.length R w = s.rest.length + 2 := by
  unfold goesD
  rw [h.err]
  simp [h.left]; omega
theorem DEr.goes {tv : TV} {R : Nat} {w : World} {ts : List Tok} {e a : Int} (h : DEr tv R w ts e a) : goesD ts.length R w = 0 := by
  unfold goesD
  rw [h.err]
  simp [h.1]
theorem DSt.apart {tv : TV} {R : Nat} {w w' : World} {ts : List Tok} {x : PR} {k : Nat} {cs : Array Value} {t : TypeId} {fr : Nat × Nat} (h : DSt tv R w ts x) (hb : Below w.heap.size w w') (hk : w.heap.size ≤ k) (hh : w'.heap[k]? = some (.cells cs t fr)) : ApartD R w' k cs t fr := by
  have hlt := h.ltR
  refine ⟨hh, by omega, fun e => ?_⟩
  rw [nownD_eq (hb.cell (p := ⟨R, 2, none⟩) hlt)] at e
  have := (h.fresh k e).2
  omega
theorem ApartD.grow {R k : Nat} {w1 w2 : World} {cs : Array Value} {t : TypeId} {fr : Nat × Nat} {row : Option Nat} (h : ApartD R w1 k cs t fr) (hg : w1.grownBy w2 row) (hR : R < w1.heap.size) (hr : some R ≠ row) (hk : some k ≠ row) : ApartD R w2 k cs t fr :=
  ⟨(hg.block k (heap_lt h.blk) hk).trans h.blk, h.ne, by rw [nownD_eq (hg.cell_far ⟨R, 2, none⟩ hR hr)]; exact h.own⟩
end Go.Proofs.YtiekhbagpmnboaaGreatDoor
namespace Go.Proofs.YtiekhbagpmnboaaGreatDoor
open Go.RowKit

theorem is_not {s : PS} {c d : List UInt8} (h : s.is c = true) (hn : c ≠ d) : s.is d = false := by
  unfold PS.is at *
  simp only [Bool.and_eq_true, decide_eq_true_eq] at h
  rw [h.2]
  have : (⟨c.toArray⟩ : ByteArray) ≠ ⟨d.toArray⟩ := fun e => hn (by injection e with e; simpa using congrArg Array.toList e)
  simp [this]
theorem isR_ok {x : PR} {c : List UInt8} (h : isR x c = true) : ∃ s, x = .ok s ∧ s.is c = true := by
  cases x with
  | ok s => exact ⟨s, rfl, h⟩
  | bad e a => cases h
def negsR (l : List Int) : PR → PR | .ok s => negs l s | .bad e a => .bad e a
theorem negsR_nil (x : PR) : negsR [] x = x := by cases x <;> rfl
theorem negsR_cons (a : Int) (l : List Int) (x : PR) : negsR (a :: l) x = negsR l (addR x (opN 1) a) := by
  cases x with
  | bad e b => rfl
  | ok s =>
    simp only [negsR, negs, addR]
    cases s.add (opN 1) a <;> rfl
theorem neg_on {tb : Tb} {g : Nat} {ats : List Int} {s : PS} {r : PR} (h : px tb g (.neg ats) s = some r) : ∃ g', g = g' + 1 ∧ ((s.is [45] = true ∧ px tb g' (.neg (s.now.place :: ats)) s.step = some r) ∨ (s.is [45] = false ∧ ∃ x q, px tb g' .prim s = some x ∧ bindR (some x) (px tb g' .pct) = some q ∧ r = negsR ats q)) := by
  cases g with
  | zero => cases h
  | succ g =>
    refine ⟨g, rfl, ?_⟩
    rw [px] at h
    split at h
    · rename_i hs; exact .inl ⟨hs, h⟩
    · rename_i hs
      refine .inr ⟨by simpa using hs, ?_⟩
      rcases bindR_some h with ⟨e, a, h1, h2⟩ | ⟨s1, h1, h2⟩
      · exact ⟨_, .bad e a, h1, rfl, h2⟩
      · rcases bindR_some h2 with ⟨e, a, h3, h4⟩ | ⟨s2, h3, h4⟩
        · exact ⟨_, .bad e a, h1, h3, h4⟩
        · injection h4 with h4
          exact ⟨_, .ok s2, h1, h3, h4.symm⟩
theorem pct_on {tb : Tb} {g : Nat} {x q : PR} (h : bindR (some x) (px tb g .pct) = some q) : (isR x [37] = false ∧ q = x) ∨ ∃ s g', x = .ok s ∧ g = g' + 1 ∧ s.is [37] = true ∧ bindR (some (stepR (s.add (opN 2) s.now.place))) (px tb g' .pct) = some q := by
  cases x with
  | bad e a => simp only [bindR] at h; injection h with h; exact .inl ⟨rfl, h.symm⟩
  | ok s =>
    simp only [bindR] at h
    cases g with
    | zero => cases h
    | succ g =>
      rw [px] at h
      split at h
      · rename_i hs
        refine .inr ⟨s, g, rfl, rfl, hs, ?_⟩
        cases hq : s.add (opN 2) s.now.place with
        | bad e a => rw [hq] at h; exact h
        | ok s1 => rw [hq] at h; exact h
      · rename_i hs
        injection h with h
        exact .inl ⟨by simpa [isR] using hs, h.symm⟩
theorem loopR_none {tb : Tb} {g k : Nat} {x r : PR} (h : bindR (some x) (px tb g (.loop k)) = some r) (hn : ∀ y ∈ sgn k, isR x y.1 = false) : r = x := by
  cases x with
  | bad e a => simp only [bindR] at h; injection h with h; exact h.symm
  | ok s =>
    simp only [bindR] at h
    cases g with
    | zero => cases h
    | succ g =>
      have hs : s.sig (sgn k) = none := by
        unfold PS.sig
        rw [List.find?_eq_none.2 (fun y hy => by simpa [isR] using hn y hy)]
        rfl
      rw [px, hs] at h
      injection h with h
      exact h.symm
theorem find_at {α : Type} (p : α → Bool) : ∀ (l : List α) (i : Nat) (y : α), l[i]? = some y → p y = true → (∀ j, j < i → ∀ z, l[j]? = some z → p z = false) → l.find? p = some y := by
  intro l
  induction l with
  | nil => intro i y h; simp at h
  | cons a l ih =>
    intro i y h hp hn
    cases i with
    | zero =>
      simp at h
      subst h
      simp [hp]
    | succ i =>
      have ha := hn 0 (by omega) a rfl
      rw [List.find?_cons, ha]
      exact ih i y (by simpa using h) hp fun j hj z hz => hn (j + 1) (by omega) z (by simpa using hz)
theorem loopR_some {tb : Tb} {g k i : Nat} {s : PS} {y : List UInt8 × Int} {r : PR} (h : bindR (some (.ok s)) (px tb g (.loop k)) = some r) (hy : (sgn k)[i]? = some y) (hi : s.is y.1 = true) (hn : ∀ j, j < i → ∀ z, (sgn k)[j]? = some z → s.is z.1 = false) : ∃ g' x, g = g' + 1 ∧ px tb g' (.lev (k + 1)) s.step = some x ∧ bindR (some (addR x (opN y.2) s.now.place)) (px tb g' (.loop k)) = some r := by
  simp only [bindR] at h
  cases g with
  | zero => cases h
  | succ g =>
    have hs : s.sig (sgn k) = some y.2 := by
      unfold PS.sig
      rw [find_at (fun x : List UInt8 × Int => s.is x.1) (sgn k) i y hy hi hn]
      rfl
    rw [px, hs] at h
    rcases bindR_some h with ⟨e, a, h3, h4⟩ | ⟨s2, h3, h4⟩
    · exact ⟨g, _, rfl, h3, by rw [h4]; rfl⟩
    · exact ⟨g, _, rfl, h3, h4⟩
/-- where an argument begins -/
def argR (tb : Tb) (g : Nat) (nm : ByteArray) (p : Int) (rects : List Bool) (s : PS) : Option PR :=
  if s.now.kind = 5 then bindR (some (stepR (s.add (rectN' s.now.t s.now.l s.now.b s.now.q) s.now.place))) (px tb g (.args nm p (rects ++ [true])))
  else bindR (px tb g (.lev 0) s) (px tb g (.args nm p (rects ++ [false])))
/-- what is read where the arguments end -/
def finR (tb : Tb) (nm : ByteArray) (p : Int) (rects : List Bool) : PR → PR
  | .ok s => if s.is [41] = true then (if tb.takes nm rects = true then closeR (s.add (callN nm rects.length) p) else .bad 8 p) else s.fail
  | .bad e a => .bad e a
theorem args_on {tb : Tb} {g : Nat} {nm : ByteArray} {p : Int} {rects : List Bool} {s : PS} {r : PR} (h : px tb g (.args nm p rects) s = some r) : ∃ g', g = g' + 1 ∧
    ((s.is [41] = true ∧ r = finR tb nm p rects (.ok s)) ∨
     (s.is [41] = false ∧ rects ≠ [] ∧ (s.is [44] = false ∨ rects.length = 16) ∧ r = s.fail) ∨
     (s.is [41] = false ∧ rects = [] ∧ argR tb g' nm p rects s = some r) ∨
     (s.is [41] = false ∧ rects ≠ [] ∧ s.is [44] = true ∧ rects.length ≠ 16 ∧ argR tb g' nm p rects s.step = some r)) := by
  cases g with
  | zero => cases h
  | succ g =>
    refine ⟨g, rfl, ?_⟩
    have harg : ∀ s1 : PS, (if s1.now.kind = 5 then bindR (some (s1.add (rectN' s1.now.t s1.now.l s1.now.b s1.now.q) s1.now.place)) (fun s2 => px tb g (.args nm p (rects ++ [true])) s2.step) else bindR (px tb g (.lev 0) s1) (px tb g (.args nm p (rects ++ [false])))) = some r → argR tb g nm p rects s1 = some r := by
      intro s1 h1
      unfold argR
      split at h1
      · rename_i h5
        rw [if_pos h5]
        cases hq : s1.add (rectN' s1.now.t s1.now.l s1.now.b s1.now.q) s1.now.place with
        | bad e a => rw [hq] at h1; exact h1
        | ok s2 => rw [hq] at h1; exact h1
      · rename_i h5
        rw [if_neg h5]
        exact h1
    rw [px] at h
    split at h
    · rename_i h1
      refine .inl ⟨h1, ?_⟩
      simp only [finR, h1, if_true]
      split at h
      · rename_i h2
        rw [if_pos h2]
        rcases bindR_some h with ⟨e, a, h3, h4⟩ | ⟨s1, h3, h4⟩
        · injection h3 with h3; rw [h3, h4]; rfl
        · injection h3 with h3; injection h4 with h4; rw [h3, ← h4]; rfl
      · rename_i h2
        rw [if_neg h2]
        injection h with h
        exact h.symm
    · rename_i h1
      have h1' : s.is [41] = false := by simpa using h1
      split at h
      · rename_i h2
        injection h with h
        exact .inr (.inl ⟨h1', h2.1, h2.2, h.symm⟩)
      · rename_i h2
        by_cases hr : rects = []
        · rw [if_pos hr] at h
          exact .inr (.inr (.inl ⟨h1', hr, harg s h⟩))
        · rw [if_neg hr] at h
          refine .inr (.inr (.inr ⟨h1', hr, ?_, fun e => h2 ⟨hr, .inr e⟩, harg s.step h⟩))
          cases h44 : s.is [44] with
          | true => rfl
          | false => exact absurd ⟨hr, .inl h44⟩ h2
/-- behind an argument -/
theorem args_then {tb : Tb} {g : Nat} {nm : ByteArray} {p : Int} {rects : List Bool} {x r : PR} (h : bindR (some x) (px tb g (.args nm p rects)) = some r) (hne : rects ≠ []) :
    (isR x [44] = false ∧ r = finR tb nm p rects x) ∨ ∃ s, x = .ok s ∧ s.is [44] = true ∧ s.is [41] = false ∧ ((rects.length = 16 ∧ r = s.fail) ∨ (rects.length ≠ 16 ∧ ∃ g', g = g' + 1 ∧ argR tb g' nm p rects s.step = some r)) := by
  cases x with
  | bad e a => simp only [bindR] at h; injection h with h; exact .inl ⟨rfl, h.symm⟩
  | ok s =>
    simp only [bindR] at h
    obtain ⟨g', rfl, h | h | h | h⟩ := args_on h
    · exact .inl ⟨is_not h.1 (by decide), h.2⟩
    · obtain ⟨h1, _, h3, h4⟩ := h
      cases h44 : s.is [44] with
      | false => exact .inl ⟨h44, by simp only [finR, h1]; exact h4⟩
      | true =>
        refine .inr ⟨s, rfl, h44, h1, .inl ⟨?_, h4⟩⟩
        rcases h3 with h3 | h3
        · rw [h44] at h3; cases h3
        · exact h3
    · exact absurd h.2.1 hne
    · exact .inr ⟨s, rfl, h.2.2.1, h.1, .inr ⟨h.2.2.2.1, g', rfl, h.2.2.2.2⟩⟩
def okR : PR → Bool | .ok _ => true | .bad .. => false
/-- at the first argument -/
theorem args_begin {tb : Tb} {g : Nat} {nm : ByteArray} {p : Int} {x r : PR} (h : bindR (some x) (px tb g (.args nm p [])) = some r) :
    ((okR x = false ∨ isR x [41] = true) ∧ r = finR tb nm p [] x) ∨ ∃ s g', x = .ok s ∧ s.is [41] = false ∧ g = g' + 1 ∧ argR tb g' nm p [] s = some r := by
  cases x with
  | bad e a => simp only [bindR] at h; injection h with h; exact .inl ⟨.inl rfl, h.symm⟩
  | ok s =>
    simp only [bindR] at h
    obtain ⟨g', rfl, h | h | h | h⟩ := args_on h
    · exact .inl ⟨.inr h.1, h.2⟩
    · exact absurd rfl h.2.1
    · exact .inr ⟨s, g', rfl, h.1, rfl, h.2.2⟩
    · exact absurd rfl h.2.1
theorem arg_rect {tb : Tb} {g : Nat} {nm : ByteArray} {p : Int} {rects : List Bool} {s : PS} {r : PR} (h : argR tb g nm p rects s = some r) (h5 : s.now.kind = 5) : bindR (some (stepR (s.add (rectN' s.now.t s.now.l s.now.b s.now.q) s.now.place))) (px tb g (.args nm p (rects ++ [true]))) = some r := by
  unfold argR at h
  rwa [if_pos h5] at h
theorem arg_expr {tb : Tb} {g : Nat} {nm : ByteArray} {p : Int} {rects : List Bool} {s : PS} {r : PR} (h : argR tb g nm p rects s = some r) (h5 : s.now.kind ≠ 5) : ∃ x, px tb g (.lev 0) s = some x ∧ bindR (some x) (px tb g (.args nm p (rects ++ [false]))) = some r := by
  unfold argR at h
  rw [if_neg h5] at h
  rcases bindR_some h with ⟨e, a, h1, h2⟩ | ⟨s1, h1, h2⟩
  · exact ⟨_, h1, by rw [h2]; rfl⟩
  · exact ⟨_, h1, h2⟩
end Go.Proofs.YtiekhbagpmnboaaGreatDoor
namespace Go.Proofs.YtiekhbagpmnboaaGreatDoor
open Go.RowKit

theorem own_keep {R B size n : Nat} {w w' : World} {e : TypeId} {v : Value} {xs : List Value} (h : w.ownsRow B e size v n xs) (hB : R < B) (hne : ∀ q, v.ownBlock = some q → nown w R ≠ some q) (hk : KeepR R w w') : w'.ownsRow B e size v n xs ∧ ∀ q, v.ownBlock = some q → nown w' R ≠ some q := by
  refine ⟨?_, fun q hq => ?_⟩
  · obtain ⟨h1, h2⟩ := h
    rcases h2 with ⟨h2, h3⟩ | ⟨g, cap, cur, hv, hg, hh, hr⟩
    · exact ⟨h1, .inl ⟨h2, h3⟩⟩
    · exact ⟨h1, .inr ⟨g, cap, cur, hv, hg, hk.2.2 g _ _ _ hh (by omega) (hne g (by rw [hv]; rfl)), hr⟩⟩
  · have hlt := (h.lt q hq).2
    rcases hk.2.1 with e | ⟨g, e, h1, _⟩
    · rw [e]; exact hne q hq
    · rw [e]; intro e2; injection e2 with e2; omega
theorem KeepR.grow {R : Nat} {w w1 w2 : World} {row : Option Nat} (hk : KeepR R w w1) (hR : R < w1.heap.size) (hg : w1.grownBy w2 row) (hrow : ∀ q, row = some q → w.heap.size ≤ q ∧ R < q) : KeepR R w w2 := by
  obtain ⟨h1, h2, h3⟩ := hk
  have hne : some R ≠ row := fun e => by have := (hrow R e.symm).2; omega
  have hn : nown w2 R = nown w1 R := nown_eq (hg.cell_far ⟨R, 14, none⟩ hR hne)
  have hsz := hg.size
  refine ⟨h1.grown hg (by omega) (fun q hq => by have := (hrow q hq).2; omega), ?_, fun k cs t fr hk hkR how => ?_⟩
  · rw [hn]
    rcases h2 with e | ⟨g, e, a, b⟩
    · exact .inl e
    · exact .inr ⟨g, e, a, by omega⟩
  · have hlt := heap_lt hk
    have hk1 := h3 k cs t fr hk hkR how
    exact (hg.block k (heap_lt hk1) (fun e => by have := (hrow k e.symm).1; omega)).trans hk1
theorem RSt.grow {tv : TV} {R : Nat} {w1 w2 : World} {s : PS} {row : Option Nat} (h : RSt tv R w1 s) (hg : w1.grownBy w2 row) (hrow : ∀ q, row = some q → R < q ∧ nown w1 R ≠ some q) : RSt tv R w2 s := by
  have hR := h.lt
  have hf := h.fresh
  obtain ⟨A, cap, N, h⟩ := h
  have hne : some R ≠ row := fun e => by have := (hrow R e.symm).1; omega
  have hb : Below R w1 w2 := (Below.refl _ _).grown hg (by omega) (fun q hq => by have := (hrow q hq).1; omega)
  refine ⟨A, cap, N, (hg.block R hR hne).trans h.blk, h.rest.below hb, h.room, ?_, h.o1, h.o2, h.nl, h.rl, h.wf, h.tab.below hb⟩
  have hn := h.nown
  obtain ⟨h1, h2⟩ := h.nodes
  rcases h2 with ⟨h2, h3⟩ | ⟨g, cap, cur, hv, hB, hh, hr⟩
  · exact ⟨h1, .inl ⟨h2, h3⟩⟩
  · refine ⟨h1, .inr ⟨g, cap, cur, hv, hB, (hg.block g (heap_lt hh) (fun e => ?_)).trans hh, hr⟩⟩
    exact (hrow g e.symm).2 (by rw [hn, hv]; rfl)
theorem pct_some {tb : Tb} {g : Nat} {s : PS} {r : PR} (h : px tb g .pct s = some r) : ∃ g', g = g' + 1 ∧ ((s.is [37] = false ∧ r = .ok s) ∨ (s.is [37] = true ∧ ((∃ e a, s.add (opN 2) s.now.place = .bad e a ∧ r = .bad e a) ∨ ∃ s1, s.add (opN 2) s.now.place = .ok s1 ∧ px tb g' .pct s1.step = some r))) := by
  cases g with
  | zero => cases h
  | succ g =>
    refine ⟨g, rfl, ?_⟩
    rw [px] at h
    split at h
    · rename_i hs
      refine .inr ⟨hs, ?_⟩
      rcases bindR_some h with ⟨e, a, h3, h4⟩ | ⟨s2, h3, h4⟩
      · injection h3 with h3; exact .inl ⟨e, a, h3, h4⟩
      · injection h3 with h3; exact .inr ⟨s2, h3, h4⟩
    · rename_i hs
      injection h with h
      exact .inl ⟨by simpa using hs, h.symm⟩
theorem RSt.place {tv : TV} {R : Nat} {w : World} {s : PS} (h : RSt tv R w s) : w.cell? ⟨R, 2, none⟩ = some (.int .i64 s.now.place) := by
  obtain ⟨A, cap', N, h⟩ := h
  rw [cell_of_row w R 2 _ _ _ h.blk]; rfl
set_option maxRecDepth 100000 in
set_option maxHeartbeats 2000000 in
theorem ppost (tb : Tb) (tv : TV) (R f : Nat) (HP : ∀ s w q, RSt tv R w s → px tb f .prim s = some q → Calls Tryz.prog 111 #[.pointer (some ⟨R, 0, none⟩)] w fun e w' => RRes tv R w q e w') (s : PS) (r : PR) (w : World) (hR : RSt tv R w s) (h : bindR (px tb f .prim s) (px tb f .pct) = some r) : Calls Tryz.prog 89 #[.pointer (some ⟨R, 0, none⟩)] w fun e w' => RRes tv R w r e w' := by
  have C := fun q => HP s w q hR
  clear HP
  rcases bindR_some h with ⟨e1, a1, h2, rfl⟩ | ⟨s1, h2, h3⟩
  · have C1 := C _ h2
    clear C h2 h hR
    go_enter Tryz.func89, Tryz.ntmps89
    go_wp2_with fail
    refine C1.mono ?_
    rintro e w1 ⟨k1, rfl⟩
    exact ⟨rfl, k1, rfl⟩
  · have C1 := C _ h2
    clear C h2 h hR
    go_enter Tryz.func89, Tryz.ntmps89
    go_wp2_with fail
    refine C1.mono ?_
    rintro e w1 ⟨k1, rfl, hR1⟩
    clear C1
    go_wp2
    go_loopw [] (fun wr => ∃ (g : Nat) (s2 : PS), g ≤ f ∧ px tb g .pct s2 = some r ∧ KeepR R w wr ∧ RSt tv R wr s2) (fun wr => restLen R wr)
    case atStart => exact ⟨f, s1, Nat.le_refl _, h3, k1, hR1⟩
    case round =>
      clear h3 hR1 k1
      obtain ⟨g, s2, hg, hpx, hk, hR2⟩ := hrel
      obtain ⟨g', rfl, hcase⟩ := pct_some hpx
      have CI := pis tv R s2 [37] wr hR2
      have hlen := restLen_of hR2
      clear hpx
      rcases hcase with ⟨hi, rfl⟩ | ⟨hi, hcase⟩
      · rw [hi] at CI
        clear hi
        go_wp2_with fail
        refine CI.mono ?_
        rintro e w2 ⟨rfl, he2⟩
        have he2 := he2.symm
        subst he2
        go_wp2
        first | go_end0 | refine bodyPost_ret (results_none rfl _ _ _) rfl ?_
        exact ⟨hk, rfl, hR2⟩
      · rw [hi] at CI
        have hpl := hR2.place
        have CO := pop tv R s2 2 s2.now.place wr hR2
        have hwf := hR2.wf
        have hl := PS.is_last hi
        clear hi
        go_wp2_with fail
        refine CI.mono ?_
        rintro e w2 ⟨rfl, he2⟩
        have he2 := he2.symm
        subst he2
        rcases hcase with ⟨e1, a1, h5, rfl⟩ | ⟨s3, h5, h6⟩
        · rw [h5] at CO
          clear h5
          go_wp2_with fail
          refine CO.mono ?_
          rintro e w5 ⟨k5, rfl⟩
          exact ⟨rfl, hk.trans k5, rfl⟩
        · rw [h5] at CO
          obtain ⟨e2, _⟩ := add_some h5
          have hl3 : s3.step.rest.length + 1 = s2.rest.length := by
            have hwf3 : s3.wf := by rw [e2]; exact hwf
            have := PS.step_len hwf3 (by rw [e2]; exact hl)
            rw [this, e2]
          clear h5 e2
          go_wp2_with fail
          refine CO.mono ?_
          rintro e w5 ⟨k5, rfl, hR5⟩
          have CS := pstep tv R s3 w5 hR5
          go_wp2_with fail
          refine CS.mono ?_
          rintro e w6 ⟨rfl, hR6, k6⟩
          have hlen6 := restLen_of hR6
          clear CS CO CI hpl
          go_wp2
          go_roundw
          case rel => exact ⟨g', s3.step, by omega, h6, hk.trans (k5.trans k6), hR6⟩
          case measure => omega
end Go.Proofs.YtiekhbagpmnboaaGreatDoor
namespace Go.Proofs.YtiekhbagpmnboaaGreatDoor
open Go.RowKit

theorem int_info : (Tryz.prog.info? 3).map (fun i => (i.zero, i.size, i.bytes)) = some (some (.int .i64 0), 1, 8) := by kernel_rfl
def atRow (l : List Int) : List Value := l.map fun x => .int .i64 x
theorem own_cut {w : World} {base : Nat} {e : TypeId} {size n m cap : Nat} {A : Option Addr} {xs ys zs : List Value} (h : w.ownsRow base e size (.slice A n cap) n xs) (hx : xs = ys ++ zs) (hy : ys.length = m * size) (hm : m ≤ n) (h0 : A = none → m = 0) : w.ownsRow base e size (.slice A m cap) m ys := by
  obtain ⟨h1, h2⟩ := h
  rcases h2 with ⟨hv, hn⟩ | ⟨g, cap', cur, hv, hg, hh, hle, hmx, hsz, htk⟩
  · cases hv
    have := h0 rfl
    subst this
    exact ⟨hy, .inl ⟨rfl, rfl⟩⟩
  · cases hv
    refine ⟨hy, .inr ⟨g, _, cur, rfl, hg, hh, by omega, hmx, hsz, ?_⟩⟩
    have h3 : (cur.toList.take (n * size)).take (m * size) = xs.take (m * size) := by rw [htk]
    rw [List.take_take, Nat.min_eq_left (Nat.mul_le_mul_right _ hm)] at h3
    rw [h3, hx, ← hy, List.take_left]
theorem own_cap {w : World} {base : Nat} {e : TypeId} {size n cap : Nat} {A : Option Addr} {xs : List Value} (h : w.ownsRow base e size (.slice A n cap) n xs) : n ≤ cap := by
  rcases h.2 with ⟨hv, hn⟩ | ⟨g, cap', cur, hv, hg, hh, hle, _⟩
  · cases hv; omega
  · cases hv; exact hle
def sliceLen (v : Value) : Nat := match v with | .slice _ n _ => n | _ => 0
theorem neg_some {tb : Tb} {g : Nat} {ats : List Int} {s : PS} {r : PR} (h : px tb g (.neg ats) s = some r) : ∃ g', g = g' + 1 ∧ ((s.is [45] = true ∧ px tb g' (.neg (s.now.place :: ats)) s.step = some r) ∨ (s.is [45] = false ∧ bindR (px tb g' .prim s) (fun s' => bindR (px tb g' .pct s') fun s'' => some (negs ats s'')) = some r)) := by
  cases g with
  | zero => cases h
  | succ g =>
    refine ⟨g, rfl, ?_⟩
    rw [px] at h
    split at h
    · rename_i hs; exact .inl ⟨hs, h⟩
    · rename_i hs; exact .inr ⟨by simpa using hs, h⟩
/-- where a thing behind its signs ends -/
theorem post_negs {tb : Tb} {g : Nat} {ats : List Int} {s : PS} {r : PR} (h : bindR (px tb g .prim s) (fun s' => bindR (px tb g .pct s') fun s'' => some (negs ats s'')) = some r) : (∃ e a, bindR (px tb g .prim s) (px tb g .pct) = some (.bad e a) ∧ r = .bad e a) ∨ ∃ s1, bindR (px tb g .prim s) (px tb g .pct) = some (.ok s1) ∧ negs ats s1 = r := by
  rcases bindR_some h with ⟨e, a, h1, h2⟩ | ⟨s1, h1, h2⟩
  · exact .inl ⟨e, a, by rw [h1]; rfl, h2⟩
  · rcases bindR_some h2 with ⟨e, a, h3, h4⟩ | ⟨s2, h3, h4⟩
    · exact .inl ⟨e, a, by rw [h1]; exact h3, h4⟩
    · injection h4 with h4
      exact .inr ⟨s2, by rw [h1]; exact h3, h4⟩
set_option maxRecDepth 100000 in
set_option maxHeartbeats 4000000 in
theorem pneg (tb : Tb) (tv : TV) (R f : Nat) (HP : ∀ s w q, RSt tv R w s → px tb f .prim s = some q → Calls Tryz.prog 111 #[.pointer (some ⟨R, 0, none⟩)] w fun e w' => RRes tv R w q e w') (s : PS) (r : PR) (w : World) (hR : RSt tv R w s) (h : px tb f (.neg []) s = some r) : Calls Tryz.prog 56 #[.pointer (some ⟨R, 0, none⟩)] w fun e w' => RRes tv R w r e w' := by
  obtain ⟨i0, hi, hz0, hz1, hz2⟩ := info_parts int_info
  have CI := pis tv R s [45] w hR
  have hlt := hR.lt
  have hrl0 := hR.rl
  obtain ⟨f', rfl, hcase⟩ := neg_some h
  have HQ : ∀ g s w q, g ≤ f' → RSt tv R w s → bindR (px tb g .prim s) (px tb g .pct) = some q → Calls Tryz.prog 89 #[.pointer (some ⟨R, 0, none⟩)] w fun e w' => RRes tv R w q e w' := fun g s w q hg hR h => ppost tb tv R f' (fun s w q hR h => HP s w q hR (px_mono tb (Nat.le_succ _) h)) s q w hR (bindR_mono h (fun _ h => px_mono tb hg h) fun _ _ _ h => px_mono tb hg h)
  clear HP
  rcases hcase with ⟨h45, h0⟩ | ⟨h45, h0⟩
  · rw [h45] at CI
    obtain ⟨w0, hw0⟩ : ∃ w0, w0 = w := ⟨_, rfl⟩
    go_enter Tryz.func56, Tryz.ntmps56
    go_wp2_with fail
    refine CI.mono ?_
    rintro e w2 ⟨rfl, he2⟩
    have he2 := he2.symm
    subst he2
    clear CI
    go_wp2
    go_loopw [2] (fun v wr => ∃ (g : Nat) (ats : List Int) (s2 : PS), g ≤ f' + 1 ∧ px tb g (.neg ats) s2 = some r ∧ KeepR R w wr ∧ RSt tv R wr s2 ∧ ats.length + s2.rest.length ≤ s.rest.length ∧ wr.ownsRow w.heap.size 3 1 v ats.length (atRow ats.reverse) ∧ ∀ q, v.ownBlock = some q → nown wr R ≠ some q) (fun _ wr => restLen R wr)
    case atStart => exact ⟨f' + 1, [], s, Nat.le_refl _, h, KeepR.refl hlt, hR, by simp, World.ownsRow_nil _ _ _ _, fun q hq => by cases hq⟩
    case round =>
      clear hR h0 h45 h
      obtain ⟨g, ats, s2, hg, hpx, hk, hR2, hlen, hown, hna⟩ := hrel
      obtain ⟨g', rfl, hcase⟩ := neg_some hpx
      have CI := pis tv R s2 [45] wr hR2
      have hrl := restLen_of hR2
      have hRl := hR2.lt
      have hsz := hk.1.size
      clear hpx
      obtain ⟨A, cap, rfl⟩ := ownsRow_form' hown
      rcases hcase with ⟨hi45, hpx⟩ | ⟨hi45, hpx⟩
      · rw [hi45] at CI
        have hpl := hR2.place
        have hwf := hR2.wf
        have hl := PS.is_last hi45
        have hsl := PS.step_len hwf hl
        clear hi45
        go_wp2_with fail
        refine CI.mono ?_
        rintro e w2 ⟨rfl, he2⟩
        have he2 := he2.symm
        subst he2
        go_wp2_with (at_builtin; refine wpList_append_own_at _ rfl _ _ 100 rfl w.heap.size 3 i0 (.int .i64 0) 1 8 Tryz.underlying100 hi hz0 hz1 hz2 rfl (by decide) _ _ _ rfl (hown.alloc _) ⟨wr.heap.size, 0, none⟩ 1 1 [.int .i64 s2.now.place] rfl rfl (World.news_of_block (cs := #[.int .i64 s2.now.place]) (heap_alloc_new wr _)) (by simp [Value.oneCell']) (by unfold maxLen; omega) (by omega) (by simp; omega) ?_; intro v' w5 hown5 hgrow5 _ hat5)
        have hW1 : Below wr.heap.size wr (wr.alloc (.cells #[.int .i64 s2.now.place] 3)) := (Below.refl _ _).alloc (Nat.le_refl _) _
        have hn1 : nown (wr.alloc (.cells #[.int .i64 s2.now.place] 3)) R = nown wr R := nown_eq (hW1.cell (p := ⟨R, 14, none⟩) hRl)
        have hk5 : KeepR R w w5 := (hk.trans (KeepR.up hW1 hRl)).grow (by simp; omega) hgrow5 (fun q hq => by have := hown.lt q hq; omega)
        have hR5 : RSt tv R w5 s2 := (hR2.up hW1).grow hgrow5 (fun q hq => ⟨by have := hown.lt q hq; omega, by rw [hn1]; exact hna q hq⟩)
        have hn5 : nown w5 R = nown wr R := (nown_eq (hgrow5.cell_far ⟨R, 14, none⟩ (by simp; omega) (fun e => by have := hown.lt R e.symm; omega))).trans hn1
        have hna5 : ∀ q, v'.ownBlock = some q → nown w5 R ≠ some q := fun q hq => by
          rw [hn5]
          rcases hat5 with e | e
          · exact hna q (e.symm.trans hq)
          · rw [hq] at e
            injection e with e
            intro e2
            have := (hR2.fresh q e2).2
            simp at e
            omega
        have CS := pstep tv R s2 w5 hR5
        have hl5 : w5.ownsRow w.heap.size 3 1 v' (s2.now.place :: ats).length (atRow (s2.now.place :: ats).reverse) := by
          have e : atRow (s2.now.place :: ats).reverse = atRow ats.reverse ++ [.int .i64 s2.now.place] := by simp [atRow]
          rw [e]; exact hown5
        clear CI hpl hna hown hown5 hgrow5 hat5 hk hR2 hW1 hn1 hn5
        go_wp2_with fail
        refine CS.mono ?_
        rintro e w6 ⟨rfl, hR6, k6⟩
        obtain ⟨hl6, hna6⟩ := own_keep hl5 hlt hna5 k6
        have hlen6 := restLen_of hR6
        clear CS
        go_wp2
        go_roundw
        case rel => exact ⟨g', s2.now.place :: ats, s2.step, by omega, hpx, hk5.trans k6, hR6, by simp; omega, hl6, hna6⟩
        case measure => omega
      · rw [hi45] at CI
        clear hi45
        have hC := fun q => HQ g' s2 wr q (by omega) hR2
        rcases post_negs hpx with ⟨e1, a1, h1, rfl⟩ | ⟨s3, h1, hng⟩
        · have CQ := hC _ h1
          clear h1 hpx hC HQ
          go_wp2_with fail
          refine CI.mono ?_
          rintro e w2 ⟨rfl, he2⟩
          have he2 := he2.symm
          subst he2
          go_wp2_with fail
          refine CQ.mono ?_
          rintro e w3 ⟨k3, rfl⟩
          exact ⟨rfl, hk.trans k3, rfl⟩
        · have CQ := hC _ h1
          clear h1 hpx hC HQ
          go_wp2_with fail
          refine CI.mono ?_
          rintro e w2 ⟨rfl, he2⟩
          have he2 := he2.symm
          subst he2
          go_wp2_with fail
          refine CQ.mono ?_
          rintro e w3 ⟨k3, rfl, hR3⟩
          obtain ⟨hown3, hna3⟩ := own_keep hown hlt hna k3
          have hk3 := hk.trans k3
          clear CI CQ hown hna hk k3 hR2 hrl
          go_wp2
          go_loopw [2] (fun v wq => ∃ (l : List Int) (s4 : PS), l.length ≤ ats.length ∧ negs l s4 = r ∧ v = .slice A l.length cap ∧ KeepR R w wq ∧ RSt tv R wq s4 ∧ wq.ownsRow w.heap.size 3 1 (.slice A l.length cap) l.length (atRow l.reverse) ∧ ∀ q, Value.ownBlock (.slice A l.length cap) = some q → nown wq R ≠ some q) (fun v _ => sliceLen v)
          case atStart => exact ⟨ats, s3, Nat.le_refl _, hng, rfl, hk3, hR3, hown3, hna3⟩
          case round =>
            clear hng hk3 hR3 hown3 hna3
            obtain ⟨l, s4, hle, hng, rfl, hk, hR4, hown, hna⟩ := hrel
            cases l with
            | nil =>
              simp only [negs] at hng
              subst hng
              go_wp2
              first | go_end0 | refine bodyPost_ret (results_none rfl _ _ _) rfl ?_
              exact ⟨hk, rfl, hR4⟩
            | cons a l =>
              have hlc : (a :: l).length = l.length + 1 := rfl
              rw [hlc] at hown hna ⊢
              obtain ⟨gb, cap0, he, hgb, _⟩ := hown.form (by omega)
              injection he with hA _ hcap
              subst hA hcap
              have hcl : wr.cell? ⟨gb, l.length, none⟩ = some (.int .i64 a) := by
                have := hown.cellAt l.length (by omega)
                rw [this]
                simp [atRow]
              have hcp := own_cap hown
              have hg0 : (0 : Int) < (l.length : Int) + 1 := by omega
              have hwl : IntKind.i64.wrap ((l.length : Int) + 1 - 1) = (l.length : Int) := (IntWalk.i64_in _ (by omega)).trans (by omega)
              have hwl2 : IntKind.i64.wrap (l.length : Int) = (l.length : Int) := IntWalk.i64_in _ (by omega)
              have CO := pop tv R s4 1 a wr hR4
              simp only [negs] at hng
              cases hq : s4.add (opN 1) a with
              | bad e1 a1 =>
                rw [hq] at CO hng
                simp only at hng
                clear hq
                subst hng
                go_wp2_with fail
                refine CO.mono ?_
                rintro e w5 ⟨k5, rfl⟩
                exact ⟨rfl, hk.trans k5, rfl⟩
              | ok s5 =>
                rw [hq] at CO hng
                simp only at hng
                clear hq
                go_wp2_with fail
                refine CO.mono ?_
                rintro e w5 ⟨k5, rfl, hR5⟩
                obtain ⟨hown5, hna5⟩ := own_keep hown hlt hna k5
                have hcut := own_cut hown5 (ys := atRow l.reverse) (zs := [.int .i64 a]) (m := l.length) (by simp [atRow]) (by simp [atRow]) (by omega) (fun h => by cases h)
                clear CO hcl
                go_wp2
                go_roundw
                case rel => exact ⟨l, s5, by simp at hle; omega, hng, by simp, hk.trans k5, hR5, hcut, hna5⟩
                case measure => simp [sliceLen]
  · rw [h45] at CI
    rcases post_negs h0 with ⟨e1, a1, h1, rfl⟩ | ⟨s3, h1, hng⟩
    · have CQ := HQ f' s w _ (Nat.le_refl _) hR h1
      clear h1 h0 HQ h h45
      go_enter Tryz.func56, Tryz.ntmps56
      go_wp2_with fail
      refine CI.mono ?_
      rintro e w2 ⟨rfl, he2⟩
      have he2 := he2.symm
      subst he2
      go_wp2_with fail
      refine CQ.mono ?_
      rintro e w3 ⟨k3, rfl⟩
      exact ⟨rfl, k3, rfl⟩
    · have CQ := HQ f' s w _ (Nat.le_refl _) hR h1
      simp only [negs] at hng
      clear h1 h0 HQ h h45
      go_enter Tryz.func56, Tryz.ntmps56
      go_wp2_with fail
      refine CI.mono ?_
      rintro e w2 ⟨rfl, he2⟩
      have he2 := he2.symm
      subst he2
      go_wp2_with fail
      refine CQ.mono ?_
      rintro e w3 ⟨k3, rfl, hR3⟩
      subst hng
      go_wp2
      first | go_end0 | refine bodyPost_ret (results_none rfl _ _ _) rfl ?_
      exact ⟨k3, rfl, hR3⟩
end Go.Proofs.YtiekhbagpmnboaaGreatDoor
namespace Go.Proofs.YtiekhbagpmnboaaGreatDoor
open Go.RowKit

theorem DOk.rl {tv : TV} {R : Nat} {w : World} {ts : List Tok} {s : PS} (h : DOk tv R w ts s) : s.rest.length ≤ 1000000000 := by
  obtain ⟨⟨A, cap, N, i, h, hd⟩, hr⟩ := h
  have := congrArg List.length hd
  have := h.tl
  simp at *
  omega
def goesN : PR → Nat | .ok s => s.rest.length + 2 | .bad .. => 0
theorem DSt.goes {tv : TV} {R : Nat} {w : World} {ts : List Tok} {x : PR} (h : DSt tv R w ts x) : goesD ts.length R w = goesN x := by
  cases x with
  | ok s => exact DOk.goes h
  | bad e a => exact DEr.goes h
theorem pct_less {s : PS} (hw : s.wf) (hi : s.is [37] = true) (x : PR) (hx : stepR (s.add (opN 2) s.now.place) = x) : goesN x < s.rest.length + 2 := by
  cases hq : s.add (opN 2) s.now.place with
  | bad e a => rw [hq] at hx; subst hx; simp [stepR, goesN]
  | ok s1 =>
    rw [hq] at hx
    subst hx
    obtain ⟨e, _⟩ := add_some hq
    have hw1 : s1.wf := PS.wf_of hw (by rw [e]) (by rw [e])
    have := PS.step_len hw1 (by rw [e]; exact PS.is_last hi)
    have e2 : s1.rest = s.rest := by rw [e]
    simp only [stepR, goesN]
    rw [e2] at this
    omega
def intOf (v : Value) : Nat := match v with | .int _ i => (i + 1).toNat | _ => 0
set_option maxRecDepth 100000 in
set_option maxHeartbeats 8000000 in
theorem dneg (tb : Tb) (tv : TV) (R : Nat) (ts : List Tok) (f : Nat) (HP : ∀ s w q, DOk tv R w ts s → px tb f .prim s = some q → Calls Tryz.prog 90 #[.pointer (some ⟨R, 0, none⟩)] w fun e w' => DRes tv R ts w q e w') (s : PS) (r : PR) (w : World) (hR : DOk tv R w ts s) (h : px tb f (.neg []) s = some r) : Calls Tryz.prog 57 #[.pointer (some ⟨R, 0, none⟩)] w fun e w' => DRes tv R ts w r e w' := by
  obtain ⟨i0, hi, hz0, hz1, hz2⟩ := info_parts int_info
  have hlt := hR.ltR
  have hrl0 := hR.rl
  go_enter Tryz.func57, Tryz.ntmps57
  go_wp2
  go_loopw [2] (fun v wr => ∃ (g : Nat) (ats : List Int) (s2 : PS), g ≤ f ∧ px tb g (.neg ats) s2 = some r ∧ KeepD R w wr ∧ DOk tv R wr ts s2 ∧ ats.length + s2.rest.length ≤ s.rest.length ∧ wr.ownsRow w.heap.size 3 1 v ats.length (atRow ats.reverse) ∧ ∀ q, v.ownBlock = some q → nownD wr R ≠ some q) (fun _ wr => leftD ts.length R wr)
  case atStart => exact ⟨f, [], s, Nat.le_refl _, h, KeepD.refl hlt, hR, by simp, World.ownsRow_nil _ _ _ _, fun q hq => by cases hq⟩
  case round =>
    clear hR h
    obtain ⟨g, ats, s2, hg, hpx, hk, hR2, hlen, hown, hna⟩ := hrel
    obtain ⟨g', rfl, hcase⟩ := neg_on hpx
    have hleft := hR2.left
    have hRl := hR2.ltR
    have CI := dsign_ok tv R ts s2 [45] wr hR2
    clear hpx
    rcases hcase with ⟨hi45, hpx⟩ | ⟨hi45, x, q, hpx, hpc, hr⟩
    · rw [hi45] at CI
      have hwf := hR2.2.2.2
      have hsl := PS.step_len hwf (PS.is_last hi45)
      have hfp := field_place
      clear hi45 hwf
      go_wp2_with fail
      refine CI.mono ?_
      rintro e w2 ⟨rfl, hb2⟩
      have k2 := KeepD.up hb2 hRl
      obtain ⟨hown2, hna2⟩ := own_keepD hown hlt hna k2
      have hR22 := hR2.up hb2
      have CN := dnow_ok tv R ts s2 w2 hR22
      have hk2 := hk.trans k2
      have hRl2 := hR22.ltR
      clear CI hown hna hR2 hk k2
      go_wp2_with fail
      refine CN.mono ?_
      rintro e w3 ⟨rfl, hb3⟩
      have k3 := KeepD.up hb3 hRl2
      obtain ⟨hown3, hna3⟩ := own_keepD hown2 hlt hna2 k3
      have hR3 := hR22.up hb3
      have hk3 := hk2.trans k3
      have hRl3 := hR3.ltR
      have hsz3 := hk3.1.size
      obtain ⟨A, cap, rfl⟩ := ownsRow_form' hown3
      clear CN hown2 hna2 hR22 hk2 k3
      go_wp2_with (at_builtin; refine wpList_append_own_at _ rfl _ _ 100 rfl w.heap.size 3 i0 (.int .i64 0) 1 8 Tryz.underlying100 hi hz0 hz1 hz2 rfl (by decide) _ _ _ rfl (hown3.alloc _) ⟨w3.heap.size, 0, none⟩ 1 1 [.int .i64 s2.now.place] rfl rfl (World.news_of_block (cs := #[.int .i64 s2.now.place]) (heap_alloc_new w3 _)) (by simp [Value.oneCell']) (by unfold maxLen; omega) (by omega) (by simp; omega) ?_; intro v' w5 hown5 hgrow5 _ hat5)
      have hW1 : Below w3.heap.size w3 (w3.alloc (.cells #[.int .i64 s2.now.place] 3)) := (Below.refl _ _).alloc (Nat.le_refl _) _
      have hn1 : nownD (w3.alloc (.cells #[.int .i64 s2.now.place] 3)) R = nownD w3 R := nownD_eq (hW1.cell (p := ⟨R, 2, none⟩) hRl3)
      have hk5 : KeepD R w w5 := (hk3.trans (KeepD.up hW1 hRl3)).grow (by simp; omega) hgrow5 (fun q hq => by have := hown3.lt q hq; omega)
      have hR5 : DOk tv R w5 ts s2 := DSt.grow (x := .ok s2) (hR3.up hW1) hgrow5 (fun q hq => ⟨by have := hown3.lt q hq; omega, by rw [hn1]; exact hna3 q hq⟩)
      have hn5 : nownD w5 R = nownD w3 R := (nownD_eq (hgrow5.cell_far ⟨R, 2, none⟩ (by simp; omega) (fun e => by have := hown3.lt R e.symm; omega))).trans hn1
      have hna5 : ∀ q, v'.ownBlock = some q → nownD w5 R ≠ some q := fun q hq => by
        rw [hn5]
        rcases hat5 with e | e
        · exact hna3 q (e.symm.trans hq)
        · rw [hq] at e
          injection e with e
          intro e2
          have := (DSt.fresh (x := .ok s2) hR3 q e2).2
          simp at e
          omega
      have CS := dstep_ok tv R ts s2 w5 hR5
      have hl5 : w5.ownsRow w.heap.size 3 1 v' (s2.now.place :: ats).length (atRow (s2.now.place :: ats).reverse) := by
        have e : atRow (s2.now.place :: ats).reverse = atRow ats.reverse ++ [.int .i64 s2.now.place] := by simp [atRow]
        rw [e]; exact hown5
      clear hfp hna3 hown3 hown5 hgrow5 hat5 hk3 hR3 hW1 hn1 hn5
      go_wp2_with fail
      refine CS.mono ?_
      intro e w6 h6
      obtain ⟨rfl, k6, h6⟩ := h6.st
      have hR6 : DOk tv R w6 ts s2.step := h6
      obtain ⟨hl6, hna6⟩ := own_keepD hl5 hlt hna5 k6
      have hlen6 := hR6.left
      clear CS
      go_wp2
      go_roundw
      case rel => exact ⟨g', s2.now.place :: ats, s2.step, by omega, hpx, hk5.trans k6, hR6, by simp; omega, hl6, hna6⟩
      case measure => omega
    · rw [hi45] at CI
      clear hi45
      go_wp2_with fail
      refine CI.mono ?_
      rintro e w2 ⟨rfl, hb2⟩
      have k2 := KeepD.up hb2 hRl
      obtain ⟨hown2, hna2⟩ := own_keepD hown hlt hna k2
      have CP := HP s2 w2 x (hR2.up hb2) (px_mono tb (by omega) hpx)
      have hk2 := hk.trans k2
      have hal : (ats.length : Int) ≤ 1000000000 := by omega
      clear CI hown hna hR2 hk k2 HP hpx hleft hlen
      go_wp2_with fail
      refine CP.mono ?_
      intro e w3 h3
      obtain ⟨rfl, k3, h3⟩ := h3.st
      obtain ⟨hown3, hna3⟩ := own_keepD hown2 hlt hna2 k3
      have hk3 := hk2.trans k3
      obtain ⟨A, cap, rfl⟩ := ownsRow_form' hown3
      clear CP hown2 hna2 hk2 k3
      go_wp2
      go_loopw [] (fun wq => ∃ (g : Nat) (y : PR), bindR (some y) (px tb g .pct) = some q ∧ KeepD R w wq ∧ DSt tv R wq ts y ∧ wq.ownsRow w.heap.size 3 1 (.slice A ats.length cap) ats.length (atRow ats.reverse) ∧ ∀ q, Value.ownBlock (.slice A ats.length cap) = some q → nownD wq R ≠ some q) (fun wq => goesD ts.length R wq)
      case atStart => exact ⟨g', x, hpc, hk3, h3, hown3, hna3⟩
      case round =>
        clear hpc hk3 h3 hown3 hna3
        obtain ⟨g2, y, hpc, hk, hy, hown, hna⟩ := hrel
        have hgo := hy.goes
        have CI := dsign_on tv R ts y [37] wr hy
        have hRl := hy.ltR
        rcases pct_on hpc with ⟨hi37, hq⟩ | ⟨s4, g3, rfl, rfl, hi37, hpc2⟩
        · rw [hi37] at CI
          subst hq
          clear hi37 hpc hgo
          go_wp2_with fail
          refine CI.mono ?_
          rintro e w4 ⟨rfl, hb4⟩
          have k4 := KeepD.up hb4 hRl
          obtain ⟨hown4, hna4⟩ := own_keepD hown hlt hna k4
          have h4 := hy.up hb4
          have hk4 := hk.trans k4
          clear CI hown hna hy hk k4
          go_wp2
          go_loopw [3] (fun v wq => ∃ (l pre : List Int) (y : PR) (k : Int), v = .int .i64 k ∧ k = (l.length : Int) - 1 ∧ ats = pre ++ l ∧ negsR l y = r ∧ KeepD R w wq ∧ DSt tv R wq ts y ∧ wq.ownsRow w.heap.size 3 1 (.slice A ats.length cap) ats.length (atRow ats.reverse) ∧ ∀ q, Value.ownBlock (.slice A ats.length cap) = some q → nownD wq R ≠ some q) (fun v _ => intOf v)
          case atStart => exact ⟨ats, [], q, _, rfl, rfl, rfl, hr.symm, hk4, h4, hown4, hna4⟩
          case round =>
            clear hk4 h4 hown4 hna4 hr
            obtain ⟨l, pre, y, k, rfl, hkl, hats, hng, hk, hy, hown, hna⟩ := hrel
            cases l with
            | nil =>
              rw [negsR_nil] at hng
              have hk0 : k = -1 := by simp at hkl; omega
              subst hk0
              clear hkl
              go_wp2
              first | go_end0 | refine bodyPost_ret (results_none rfl _ _ _) rfl ?_
              rw [← hng]
              exact DSt.res hy hk
            | cons a l =>
              have hk0 : k = (l.length : Int) := by rw [hkl]; simp
              subst hk0
              have hll : l.length < ats.length := by rw [hats]; simp; omega
              have hcl : ∃ gb, A = some ⟨gb, 0, none⟩ ∧ wr.cell? ⟨gb, l.length, none⟩ = some (.int .i64 a) ∧ gb < wr.heap.size := by
                obtain ⟨gb, cap0, he, hgb, _⟩ := hown.form (by omega)
                injection he with hA _ hcap
                subst hA
                have := hown.cellAt l.length (by omega)
                refine ⟨gb, rfl, ?_, ?_⟩
                · rw [this]
                  simp [atRow, hats]
                · exact (hown.lt gb rfl).2
              obtain ⟨gb, hA, hcl, hgb⟩ := hcl
              have hatsH := Lib.hid hats
              clear hats
              have hcp := own_cap hown
              rw [negsR_cons] at hng
              have CO := dnode_on tv R ts y (opN 1) a wr hy
              simp only [opN, vl0] at CO
              clear hkl hy
              subst hA
              go_wp2_with fail
              refine CO.mono ?_
              intro e w5 h5
              obtain ⟨rfl, k5, h5⟩ := h5.st
              obtain ⟨hown5, hna5⟩ := own_keepD hown hlt hna k5
              clear CO hcl hown hna
              go_wp2
              go_roundw
              case rel => exact ⟨l, pre ++ [a], addR y (opN 1) a, _, rfl, rfl, by rw [hatsH.out]; simp, hng, hk.trans k5, h5, hown5, hna5⟩
              case measure => simp [intOf]
        · have CI1 : Calls Tryz.prog 59 #[.pointer (some ⟨R, 0, none⟩), .string ⟨#[37]⟩] wr fun e w' => e = .returned (.bool true) ∧ Below wr.heap.size wr w' := hi37 ▸ CI
          have hR4 : DOk tv R wr ts s4 := hy
          have hle := fun x hx => pct_less hR4.2.2.2 hi37 x hx
          have hfp := field_place
          clear CI hi37 hpc hy
          go_wp2_with fail
          refine CI1.mono ?_
          rintro e w4 ⟨rfl, hb4⟩
          have k4 := KeepD.up hb4 hRl
          obtain ⟨hown4, hna4⟩ := own_keepD hown hlt hna k4
          have h4 := hR4.up hb4
          have hk4 := hk.trans k4
          have hRl4 := h4.ltR
          have CN := dnow_ok tv R ts s4 w4 h4
          clear CI1 hown hna hR4 hk k4
          go_wp2_with fail
          refine CN.mono ?_
          rintro e w5 ⟨rfl, hb5⟩
          have k5 := KeepD.up hb5 hRl4
          obtain ⟨hown5, hna5⟩ := own_keepD hown4 hlt hna4 k5
          have h5 := h4.up hb5
          have hk5 := hk4.trans k5
          have CO := dnode_ok tv R ts s4 (opN 2) s4.now.place w5 h5
          clear CN hown4 hna4 h4 hk4 k5
          generalize s4.add (opN 2) s4.now.place = y5 at *
          simp only [opN, vl0] at CO
          go_wp2_with fail
          refine CO.mono ?_
          intro e w6 h6
          obtain ⟨rfl, k6, h6⟩ := h6.st
          obtain ⟨hown6, hna6⟩ := own_keepD hown5 hlt hna5 k6
          have hk6 := hk5.trans k6
          have CS := dstep_on tv R ts y5 w6 h6
          clear CO hfp hown5 hna5 h5 hk5 k6
          go_wp2_with fail
          refine CS.mono ?_
          intro e w7 h7
          obtain ⟨rfl, k7, h7⟩ := h7.st
          obtain ⟨hown7, hna7⟩ := own_keepD hown6 hlt hna6 k7
          have hk7 := hk6.trans k7
          have hgo7 := h7.goes
          have hle7 := hle _ rfl
          clear CS hown6 hna6 h6 hk6 k7 hle
          go_wp2
          go_roundw
          case rel => exact ⟨g3, stepR y5, hpc2, hk7, h7, hown7, hna7⟩
          case measure => rw [hgo7, hgo]; exact hle7
end Go.Proofs.YtiekhbagpmnboaaGreatDoor
