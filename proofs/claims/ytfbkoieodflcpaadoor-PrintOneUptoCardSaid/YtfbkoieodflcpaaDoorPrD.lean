/-
  orielref05.Same of two that are not alike.
-/
import Derived.Test.YtfbkoieodflcpaaDoorMg4
import Derived.Test.YtfbkoieodflcpaaDoorRows
import Derived.Test.YtfbkoieodflcpaaDoorBase
import Derived.Test.YtfbkoieodflcpaaDoorProg
import Derived.Test.YtfbkoieodflcpaaDoorShelf
import Derived.Test.YtfbkoieodflcpaaDoorAddrC
import Derived.Test.YtfbkoieodflcpaaDoorMg6
import Derived.Test.YtfbkoieodflcpaaDoorDecA
import Derived.Test.YtfbkoieodflcpaaDoorValA
import Derived.Test.YtfbkoieodflcpaaDoorValB
import Derived.Test.YtfbkoieodflcpaaDoorMg11
import Derived.Test.YtfbkoieodflcpaaDoorMg10
import Derived.Test.YtfbkoieodflcpaaDoorMapK
import Derived.Test.YtfbkoieodflcpaaDoorRefP
import Derived.Test.YtfbkoieodflcpaaDoorRefQ
import Derived.Test.YtfbkoieodflcpaaDoorPrSm
import Derived.WalkSpells
import Derived.WalkLawsBesides
import Derived.StillTactics
import Derived.Laws.Pointers
import Derived.Deep.RegionHeld3
import Derived.Deep.QuietTactic
import Derived.BigQuiet
import Derived.RowKit3
import Derived.Lib.Hide
import Derived.Lib.OthersKept
import Derived.OwnWalk
import Derived.Lib.IndexLaws
import Derived.Lib.ItoaMem
import Derived.Lib.TrimByte
import Derived.Lib.SlTrimSet
import Derived.Lib.ParseIntB
import Derived.WalkKit
import Derived.ProofKit
import Derived.OpenShut
import Derived.Carry
import Derived.ChangeSame
import Derived.Deep.Draws
import Derived.Shelf.Strings.Builder1
import Derived.Shelf.Strings.Builder2
import Derived.Shelf.Strings.Trim
import Derived.Shelf.Small.Utf8
import Derived.Shelf.Small.Strs
import Derived.Shelf.Strings.BuilderF
import Derived.Shelf.Strings.BuilderK
import Derived.Shelf.Strconv.Itoa0
import Derived.Shelf.Strconv.Itoa1
import Derived.Shelf.LaysM
import Derived.Shelf.Strconv.Itoa2
import Derived.Shelf.Strconv.Itoa3
import Derived.Shelf.Strings.Search1
import Derived.Shelf.Strings.Search2
import Derived.Shelf.Strings.Search3
import Derived.Shelf.Strings.Count
import Derived.Shelf.Strings.Shaped
import Derived.Shelf.Strings.Split
import Derived.Shelf.Strings.Replace
import Derived.Shelf.Strings.Runes
import Derived.Shelf.Strings.AsciiSet
import Derived.Shelf.Unicode.DecodeSlow
import Derived.Lib.ItoaNum
import Derived.Maps.OwnSet
import Derived.Maps.AppendAt
namespace Go.Proofs.YtfbkoieodflcpaaDoor
open Go.RowKit

theorem node_ne (n m : NL) (h : n ≠ m) : (n.kind ≠ m.kind) ∨ (n.kind = m.kind ∧ n.v.t ≠ m.v.t) ∨ (n.kind = m.kind ∧ n.v.t = m.v.t ∧ n.v.n ≠ m.v.n) ∨ (n.kind = m.kind ∧ n.v.t = m.v.t ∧ n.v.n = m.v.n ∧ n.v.s ≠ m.v.s) ∨ (n.kind = m.kind ∧ n.v.t = m.v.t ∧ n.v.n = m.v.n ∧ n.v.s = m.v.s ∧ n.v.b ≠ m.v.b) ∨ (n.kind = m.kind ∧ n.v.t = m.v.t ∧ n.v.n = m.v.n ∧ n.v.s = m.v.s ∧ n.v.b = m.v.b ∧ n.v.c ≠ m.v.c) ∨ (n.kind = m.kind ∧ n.v.t = m.v.t ∧ n.v.n = m.v.n ∧ n.v.s = m.v.s ∧ n.v.b = m.v.b ∧ n.v.c = m.v.c ∧ n.r ≠ m.r) ∨ (n.kind = m.kind ∧ n.v.t = m.v.t ∧ n.v.n = m.v.n ∧ n.v.s = m.v.s ∧ n.v.b = m.v.b ∧ n.v.c = m.v.c ∧ n.r = m.r ∧ n.c ≠ m.c) ∨ (n.kind = m.kind ∧ n.v.t = m.v.t ∧ n.v.n = m.v.n ∧ n.v.s = m.v.s ∧ n.v.b = m.v.b ∧ n.v.c = m.v.c ∧ n.r = m.r ∧ n.c = m.c ∧ n.t ≠ m.t) ∨ (n.kind = m.kind ∧ n.v.t = m.v.t ∧ n.v.n = m.v.n ∧ n.v.s = m.v.s ∧ n.v.b = m.v.b ∧ n.v.c = m.v.c ∧ n.r = m.r ∧ n.c = m.c ∧ n.t = m.t ∧ n.l ≠ m.l) ∨ (n.kind = m.kind ∧ n.v.t = m.v.t ∧ n.v.n = m.v.n ∧ n.v.s = m.v.s ∧ n.v.b = m.v.b ∧ n.v.c = m.v.c ∧ n.r = m.r ∧ n.c = m.c ∧ n.t = m.t ∧ n.l = m.l ∧ n.b ≠ m.b) ∨ (n.kind = m.kind ∧ n.v.t = m.v.t ∧ n.v.n = m.v.n ∧ n.v.s = m.v.s ∧ n.v.b = m.v.b ∧ n.v.c = m.v.c ∧ n.r = m.r ∧ n.c = m.c ∧ n.t = m.t ∧ n.l = m.l ∧ n.b = m.b ∧ n.q ≠ m.q) ∨ (n.kind = m.kind ∧ n.v.t = m.v.t ∧ n.v.n = m.v.n ∧ n.v.s = m.v.s ∧ n.v.b = m.v.b ∧ n.v.c = m.v.c ∧ n.r = m.r ∧ n.c = m.c ∧ n.t = m.t ∧ n.l = m.l ∧ n.b = m.b ∧ n.q = m.q ∧ n.op ≠ m.op) ∨ (n.kind = m.kind ∧ n.v.t = m.v.t ∧ n.v.n = m.v.n ∧ n.v.s = m.v.s ∧ n.v.b = m.v.b ∧ n.v.c = m.v.c ∧ n.r = m.r ∧ n.c = m.c ∧ n.t = m.t ∧ n.l = m.l ∧ n.b = m.b ∧ n.q = m.q ∧ n.op = m.op ∧ n.name ≠ m.name) ∨ (n.kind = m.kind ∧ n.v.t = m.v.t ∧ n.v.n = m.v.n ∧ n.v.s = m.v.s ∧ n.v.b = m.v.b ∧ n.v.c = m.v.c ∧ n.r = m.r ∧ n.c = m.c ∧ n.t = m.t ∧ n.l = m.l ∧ n.b = m.b ∧ n.q = m.q ∧ n.op = m.op ∧ n.name = m.name ∧ n.args ≠ m.args) := by
  by_cases h0 : n.kind = m.kind
  case neg => exact Or.inl (h0)
  by_cases h1 : n.v.t = m.v.t
  case neg => exact Or.inr (Or.inl (⟨h0, h1⟩))
  by_cases h2 : n.v.n = m.v.n
  case neg => exact Or.inr (Or.inr (Or.inl (⟨h0, h1, h2⟩)))
  by_cases h3 : n.v.s = m.v.s
  case neg => exact Or.inr (Or.inr (Or.inr (Or.inl (⟨h0, h1, h2, h3⟩))))
  by_cases h4 : n.v.b = m.v.b
  case neg => exact Or.inr (Or.inr (Or.inr (Or.inr (Or.inl (⟨h0, h1, h2, h3, h4⟩)))))
  by_cases h5 : n.v.c = m.v.c
  case neg => exact Or.inr (Or.inr (Or.inr (Or.inr (Or.inr (Or.inl (⟨h0, h1, h2, h3, h4, h5⟩))))))
  by_cases h6 : n.r = m.r
  case neg => exact Or.inr (Or.inr (Or.inr (Or.inr (Or.inr (Or.inr (Or.inl (⟨h0, h1, h2, h3, h4, h5, h6⟩)))))))
  by_cases h7 : n.c = m.c
  case neg => exact Or.inr (Or.inr (Or.inr (Or.inr (Or.inr (Or.inr (Or.inr (Or.inl (⟨h0, h1, h2, h3, h4, h5, h6, h7⟩))))))))
  by_cases h8 : n.t = m.t
  case neg => exact Or.inr (Or.inr (Or.inr (Or.inr (Or.inr (Or.inr (Or.inr (Or.inr (Or.inl (⟨h0, h1, h2, h3, h4, h5, h6, h7, h8⟩)))))))))
  by_cases h9 : n.l = m.l
  case neg => exact Or.inr (Or.inr (Or.inr (Or.inr (Or.inr (Or.inr (Or.inr (Or.inr (Or.inr (Or.inl (⟨h0, h1, h2, h3, h4, h5, h6, h7, h8, h9⟩))))))))))
  by_cases h10 : n.b = m.b
  case neg => exact Or.inr (Or.inr (Or.inr (Or.inr (Or.inr (Or.inr (Or.inr (Or.inr (Or.inr (Or.inr (Or.inl (⟨h0, h1, h2, h3, h4, h5, h6, h7, h8, h9, h10⟩)))))))))))
  by_cases h11 : n.q = m.q
  case neg => exact Or.inr (Or.inr (Or.inr (Or.inr (Or.inr (Or.inr (Or.inr (Or.inr (Or.inr (Or.inr (Or.inr (Or.inl (⟨h0, h1, h2, h3, h4, h5, h6, h7, h8, h9, h10, h11⟩))))))))))))
  by_cases h12 : n.op = m.op
  case neg => exact Or.inr (Or.inr (Or.inr (Or.inr (Or.inr (Or.inr (Or.inr (Or.inr (Or.inr (Or.inr (Or.inr (Or.inr (Or.inl (⟨h0, h1, h2, h3, h4, h5, h6, h7, h8, h9, h10, h11, h12⟩)))))))))))))
  by_cases h13 : n.name = m.name
  case neg => exact Or.inr (Or.inr (Or.inr (Or.inr (Or.inr (Or.inr (Or.inr (Or.inr (Or.inr (Or.inr (Or.inr (Or.inr (Or.inr (Or.inl (⟨h0, h1, h2, h3, h4, h5, h6, h7, h8, h9, h10, h11, h12, h13⟩))))))))))))))
  by_cases h14 : n.args = m.args
  case neg => exact Or.inr (Or.inr (Or.inr (Or.inr (Or.inr (Or.inr (Or.inr (Or.inr (Or.inr (Or.inr (Or.inr (Or.inr (Or.inr (Or.inr (⟨h0, h1, h2, h3, h4, h5, h6, h7, h8, h9, h10, h11, h12, h13, h14⟩))))))))))))))
  exfalso
  apply h
  obtain ⟨a0, ⟨a1, a2, a3, a4, a5⟩, a6, a7, a8, a9, a10, a11, a12, a13, a14⟩ := n
  obtain ⟨b0, ⟨b1, b2, b3, b4, b5⟩, b6, b7, b8, b9, b10, b11, b12, b13, b14⟩ := m
  simp only at h0 h1 h2 h3 h4 h5 h6 h7 h8 h9 h10 h11 h12 h13 h14
  subst h0 h1 h2 h3 h4 h5 h6 h7 h8 h9 h10 h11 h12 h13 h14
  rfl
set_option maxRecDepth 100000 in
set_option maxHeartbeats 8000000 in
theorem rsame_diff (ns ms : List NL) (hlen : ns.length ≤ 9223372036854775807) (hml : ms.length = ns.length) (d : Nat) (hd : d < ns.length) (hpre : ∀ j, j < d → ns[j]? = ms[j]?) (hne : ns[d]? ≠ ms[d]?) (w : World) (A B : Option Addr) (cap cap2 : Nat) (hRA : RdB w w.heap.size A 15 (ns.map NL.cs)) (hRB : RdB w w.heap.size B 15 (ms.map NL.cs)) : Calls Tryd.prog 8 #[.agg #[.slice A ns.length cap], .agg #[.slice B ns.length cap2]] w fun e w' => e = .returned (.bool false) ∧ Below w.heap.size w w' := by
  have hRAH := Lib.hid hRA
  have hRBH := Lib.hid hRB
  have hpreH := Lib.hid hpre
  have hneH := Lib.hid hne
  have hmlH := Lib.hid hml
  clear hRA hRB hpre hne hml
  have hW : Below w.heap.size w ((w.alloc (.cells #[.slice A ns.length cap] 24)).alloc (.cells #[.slice B ns.length cap2] 24)) := ((Below.refl _ _).alloc (Nat.le_refl _) _).alloc (by simp) _
  go_enter Tryd.func8, Tryd.ntmps8
  go_wp2
  go_loopw [5] (fun i wr => ∃ j : Nat, j ≤ d ∧ i = .int .i64 (j : Int) ∧ Below (w.heap.size + 2) ((w.alloc (.cells #[.slice A ns.length cap] 24)).alloc (.cells #[.slice B ns.length cap2] 24)) wr) (fun i _ => d - (intOf i).toNat)
  case atStart => exact ⟨0, by omega, rfl, Below.refl _ _⟩
  case round =>
    obtain ⟨j, hj, rfl, hbr⟩ := hrel
    have hb0 : Below w.heap.size w wr := hW.trans (hbr.mono (by omega))
    have hzr : w.heap.size + 2 ≤ wr.heap.size := by have := hbr.size; simp at this; omega
    have hf1 : wr.cell? ⟨w.heap.size, 0, none⟩ = some (.slice A ns.length cap) := (hbr.cell (p := ⟨w.heap.size, 0, none⟩) (by show w.heap.size < w.heap.size + 2; omega)).trans (by simp [go_sem])
    have hf2 : wr.cell? ⟨w.heap.size + 1, 0, none⟩ = some (.slice B ns.length cap2) := (hbr.cell (p := ⟨w.heap.size + 1, 0, none⟩) (by show w.heap.size + 1 < w.heap.size + 2; omega)).trans (by simp [go_sem])
    have hjn : j < ns.length := by omega
    obtain ⟨n, hn⟩ : ∃ n, ns[j]? = some n := ⟨_, List.getElem?_eq_getElem hjn⟩
    obtain ⟨m, hm⟩ : ∃ m, ms[j]? = some m := ⟨_, List.getElem?_eq_getElem (by rw [hmlH.out]; exact hjn)⟩
    obtain ⟨ab, ao, hA2, hab, hcA⟩ := (hRAH.out.below hb0) j n.cs (by rw [List.getElem?_map, hn]; rfl)
    obtain rfl : A = some ⟨ab, ao, none⟩ := hA2
    obtain ⟨bb, bo, hB2, hbb, hcB⟩ := (hRBH.out.below hb0) j m.cs (by rw [List.getElem?_map, hm]; rfl)
    obtain rfl : B = some ⟨bb, bo, none⟩ := hB2
    have ha0 : wr.cell? ⟨ab, ao + j * 15, none⟩ = some (.int .i64 n.kind) := hcA 0 _ rfl
    have ha1 : wr.cell? ⟨ab, ao + j * 15 + 1, none⟩ = some (.int .i64 n.v.t) := hcA 1 _ rfl
    have ha2 : wr.cell? ⟨ab, ao + j * 15 + 2, none⟩ = some (.int .i64 n.v.n) := hcA 2 _ rfl
    have ha3 : wr.cell? ⟨ab, ao + j * 15 + 3, none⟩ = some (.string n.v.s) := hcA 3 _ rfl
    have ha4 : wr.cell? ⟨ab, ao + j * 15 + 4, none⟩ = some (.bool n.v.b) := hcA 4 _ rfl
    have ha5 : wr.cell? ⟨ab, ao + j * 15 + 5, none⟩ = some (.int .i64 n.v.c) := hcA 5 _ rfl
    have ha6 : wr.cell? ⟨ab, ao + j * 15 + 6, none⟩ = some (.int .i64 n.r) := hcA 6 _ rfl
    have ha7 : wr.cell? ⟨ab, ao + j * 15 + 7, none⟩ = some (.int .i64 n.c) := hcA 7 _ rfl
    have ha8 : wr.cell? ⟨ab, ao + j * 15 + 8, none⟩ = some (.int .i64 n.t) := hcA 8 _ rfl
    have ha9 : wr.cell? ⟨ab, ao + j * 15 + 9, none⟩ = some (.int .i64 n.l) := hcA 9 _ rfl
    have ha10 : wr.cell? ⟨ab, ao + j * 15 + 10, none⟩ = some (.int .i64 n.b) := hcA 10 _ rfl
    have ha11 : wr.cell? ⟨ab, ao + j * 15 + 11, none⟩ = some (.int .i64 n.q) := hcA 11 _ rfl
    have ha12 : wr.cell? ⟨ab, ao + j * 15 + 12, none⟩ = some (.int .i64 n.op) := hcA 12 _ rfl
    have ha13 : wr.cell? ⟨ab, ao + j * 15 + 13, none⟩ = some (.string n.name) := hcA 13 _ rfl
    have ha14 : wr.cell? ⟨ab, ao + j * 15 + 14, none⟩ = some (.int .i64 n.args) := hcA 14 _ rfl
    have hkl : (j : Int) < (ns.length : Int) := by omega
    have hk0 : (0 : Int) ≤ (j : Int) := by omega
    have hwj : IntKind.i64.wrap ((j : Int) + 1) = (j : Int) + 1 := IntWalk.i64_in _ (by omega)
    by_cases hlt : j < d
    · obtain rfl : n = m := by
        have h := hpreH.out j hlt
        rw [hn, hm] at h
        exact Option.some.inj h
      have hb0_ : wr.cell? ⟨bb, bo + j * 15, none⟩ = some (.int .i64 n.kind) := hcB 0 _ rfl
      have hb1_ : wr.cell? ⟨bb, bo + j * 15 + 1, none⟩ = some (.int .i64 n.v.t) := hcB 1 _ rfl
      have hb2_ : wr.cell? ⟨bb, bo + j * 15 + 2, none⟩ = some (.int .i64 n.v.n) := hcB 2 _ rfl
      have hb3_ : wr.cell? ⟨bb, bo + j * 15 + 3, none⟩ = some (.string n.v.s) := hcB 3 _ rfl
      have hb4_ : wr.cell? ⟨bb, bo + j * 15 + 4, none⟩ = some (.bool n.v.b) := hcB 4 _ rfl
      have hb5_ : wr.cell? ⟨bb, bo + j * 15 + 5, none⟩ = some (.int .i64 n.v.c) := hcB 5 _ rfl
      have hb6_ : wr.cell? ⟨bb, bo + j * 15 + 6, none⟩ = some (.int .i64 n.r) := hcB 6 _ rfl
      have hb7_ : wr.cell? ⟨bb, bo + j * 15 + 7, none⟩ = some (.int .i64 n.c) := hcB 7 _ rfl
      have hb8_ : wr.cell? ⟨bb, bo + j * 15 + 8, none⟩ = some (.int .i64 n.t) := hcB 8 _ rfl
      have hb9_ : wr.cell? ⟨bb, bo + j * 15 + 9, none⟩ = some (.int .i64 n.l) := hcB 9 _ rfl
      have hb10_ : wr.cell? ⟨bb, bo + j * 15 + 10, none⟩ = some (.int .i64 n.b) := hcB 10 _ rfl
      have hb11_ : wr.cell? ⟨bb, bo + j * 15 + 11, none⟩ = some (.int .i64 n.q) := hcB 11 _ rfl
      have hb12_ : wr.cell? ⟨bb, bo + j * 15 + 12, none⟩ = some (.int .i64 n.op) := hcB 12 _ rfl
      have hb13_ : wr.cell? ⟨bb, bo + j * 15 + 13, none⟩ = some (.string n.name) := hcB 13 _ rfl
      have hb14_ : wr.cell? ⟨bb, bo + j * 15 + 14, none⟩ = some (.int .i64 n.args) := hcB 14 _ rfl
      clear hcA hcB hn hm hW hb0
      go_wp2
      go_quiet (fail)
      go_wp2
      go_roundw
      case rel => exact ⟨j + 1, by omega, by go_num, by (repeat (first | (with_reducible exact Below.refl _ _) | (with_reducible refine Below.alloc ?_ (by first | omega | (dsimp only; omega) | (simp <;> omega)) _) | (with_reducible refine Below.setCell ?_ (by first | omega | (dsimp only; omega) | (simp <;> omega)) _) | (with_reducible refine Below.drew ?_) | (with_reducible refine below_drewN ?_ _) | (with_reducible refine Below.trans ?_ (Below.mono (by assumption) (by first | omega | (dsimp only; omega) | (simp <;> omega))))))⟩
      case measure => simp [intOf]; omega
    · obtain rfl : j = d := by omega
      have hnm : n ≠ m := fun e => hneH.out (by rw [hn, hm, e])
      clear hcA hn hm hW hbr
      rcases node_ne n m hnm with hne | ⟨e0, hne⟩ | ⟨e0, e1, hne⟩ | ⟨e0, e1, e2, hne⟩ | ⟨e0, e1, e2, e3, hne⟩ | ⟨e0, e1, e2, e3, e4, hne⟩ | ⟨e0, e1, e2, e3, e4, e5, hne⟩ | ⟨e0, e1, e2, e3, e4, e5, e6, hne⟩ | ⟨e0, e1, e2, e3, e4, e5, e6, e7, hne⟩ | ⟨e0, e1, e2, e3, e4, e5, e6, e7, e8, hne⟩ | ⟨e0, e1, e2, e3, e4, e5, e6, e7, e8, e9, hne⟩ | ⟨e0, e1, e2, e3, e4, e5, e6, e7, e8, e9, e10, hne⟩ | ⟨e0, e1, e2, e3, e4, e5, e6, e7, e8, e9, e10, e11, hne⟩ | ⟨e0, e1, e2, e3, e4, e5, e6, e7, e8, e9, e10, e11, e12, hne⟩ | ⟨e0, e1, e2, e3, e4, e5, e6, e7, e8, e9, e10, e11, e12, e13, hne⟩
      · clear hnm
        as_aux_lemma =>
          have hb0_ : wr.cell? ⟨bb, bo + j * 15, none⟩ = some (.int .i64 m.kind) := hcB 0 _ rfl
          have hb1_ : wr.cell? ⟨bb, bo + j * 15 + 1, none⟩ = some (.int .i64 m.v.t) := hcB 1 _ rfl
          have hb2_ : wr.cell? ⟨bb, bo + j * 15 + 2, none⟩ = some (.int .i64 m.v.n) := hcB 2 _ rfl
          have hb3_ : wr.cell? ⟨bb, bo + j * 15 + 3, none⟩ = some (.string m.v.s) := hcB 3 _ rfl
          have hb4_ : wr.cell? ⟨bb, bo + j * 15 + 4, none⟩ = some (.bool m.v.b) := hcB 4 _ rfl
          have hb5_ : wr.cell? ⟨bb, bo + j * 15 + 5, none⟩ = some (.int .i64 m.v.c) := hcB 5 _ rfl
          have hb6_ : wr.cell? ⟨bb, bo + j * 15 + 6, none⟩ = some (.int .i64 m.r) := hcB 6 _ rfl
          have hb7_ : wr.cell? ⟨bb, bo + j * 15 + 7, none⟩ = some (.int .i64 m.c) := hcB 7 _ rfl
          have hb8_ : wr.cell? ⟨bb, bo + j * 15 + 8, none⟩ = some (.int .i64 m.t) := hcB 8 _ rfl
          have hb9_ : wr.cell? ⟨bb, bo + j * 15 + 9, none⟩ = some (.int .i64 m.l) := hcB 9 _ rfl
          have hb10_ : wr.cell? ⟨bb, bo + j * 15 + 10, none⟩ = some (.int .i64 m.b) := hcB 10 _ rfl
          have hb11_ : wr.cell? ⟨bb, bo + j * 15 + 11, none⟩ = some (.int .i64 m.q) := hcB 11 _ rfl
          have hb12_ : wr.cell? ⟨bb, bo + j * 15 + 12, none⟩ = some (.int .i64 m.op) := hcB 12 _ rfl
          have hb13_ : wr.cell? ⟨bb, bo + j * 15 + 13, none⟩ = some (.string m.name) := hcB 13 _ rfl
          have hb14_ : wr.cell? ⟨bb, bo + j * 15 + 14, none⟩ = some (.int .i64 m.args) := hcB 14 _ rfl
          have hbq : (n.kind == m.kind) = false := by simpa using hne
          have hbp : (n.kind = m.kind) = False := eq_false hne
          clear hcB hne
          go_wp2
          go_quiet (fail)
          go_wp2
          go_ret
          exact ⟨rfl, by (repeat (first | (with_reducible exact Below.refl _ _) | (with_reducible refine Below.alloc ?_ (by first | omega | (dsimp only; omega) | (simp <;> omega)) _) | (with_reducible refine Below.setCell ?_ (by first | omega | (dsimp only; omega) | (simp <;> omega)) _) | (with_reducible refine Below.drew ?_) | (with_reducible refine below_drewN ?_ _) | (with_reducible refine Below.trans ?_ (Below.mono (by assumption) (by first | omega | (dsimp only; omega) | (simp <;> omega))))))⟩
      · clear hnm
        as_aux_lemma =>
          have hb0_ : wr.cell? ⟨bb, bo + j * 15, none⟩ = some (.int .i64 n.kind) := by rw [e0]; exact hcB 0 _ rfl
          have hb1_ : wr.cell? ⟨bb, bo + j * 15 + 1, none⟩ = some (.int .i64 m.v.t) := hcB 1 _ rfl
          have hb2_ : wr.cell? ⟨bb, bo + j * 15 + 2, none⟩ = some (.int .i64 m.v.n) := hcB 2 _ rfl
          have hb3_ : wr.cell? ⟨bb, bo + j * 15 + 3, none⟩ = some (.string m.v.s) := hcB 3 _ rfl
          have hb4_ : wr.cell? ⟨bb, bo + j * 15 + 4, none⟩ = some (.bool m.v.b) := hcB 4 _ rfl
          have hb5_ : wr.cell? ⟨bb, bo + j * 15 + 5, none⟩ = some (.int .i64 m.v.c) := hcB 5 _ rfl
          have hb6_ : wr.cell? ⟨bb, bo + j * 15 + 6, none⟩ = some (.int .i64 m.r) := hcB 6 _ rfl
          have hb7_ : wr.cell? ⟨bb, bo + j * 15 + 7, none⟩ = some (.int .i64 m.c) := hcB 7 _ rfl
          have hb8_ : wr.cell? ⟨bb, bo + j * 15 + 8, none⟩ = some (.int .i64 m.t) := hcB 8 _ rfl
          have hb9_ : wr.cell? ⟨bb, bo + j * 15 + 9, none⟩ = some (.int .i64 m.l) := hcB 9 _ rfl
          have hb10_ : wr.cell? ⟨bb, bo + j * 15 + 10, none⟩ = some (.int .i64 m.b) := hcB 10 _ rfl
          have hb11_ : wr.cell? ⟨bb, bo + j * 15 + 11, none⟩ = some (.int .i64 m.q) := hcB 11 _ rfl
          have hb12_ : wr.cell? ⟨bb, bo + j * 15 + 12, none⟩ = some (.int .i64 m.op) := hcB 12 _ rfl
          have hb13_ : wr.cell? ⟨bb, bo + j * 15 + 13, none⟩ = some (.string m.name) := hcB 13 _ rfl
          have hb14_ : wr.cell? ⟨bb, bo + j * 15 + 14, none⟩ = some (.int .i64 m.args) := hcB 14 _ rfl
          have hbq : (n.v.t == m.v.t) = false := by simpa using hne
          have hbp : (n.v.t = m.v.t) = False := eq_false hne
          clear hcB e0 hne
          go_wp2
          go_quiet (fail)
          go_wp2
          go_ret
          exact ⟨rfl, by (repeat (first | (with_reducible exact Below.refl _ _) | (with_reducible refine Below.alloc ?_ (by first | omega | (dsimp only; omega) | (simp <;> omega)) _) | (with_reducible refine Below.setCell ?_ (by first | omega | (dsimp only; omega) | (simp <;> omega)) _) | (with_reducible refine Below.drew ?_) | (with_reducible refine below_drewN ?_ _) | (with_reducible refine Below.trans ?_ (Below.mono (by assumption) (by first | omega | (dsimp only; omega) | (simp <;> omega))))))⟩
      · clear hnm
        as_aux_lemma =>
          have hb0_ : wr.cell? ⟨bb, bo + j * 15, none⟩ = some (.int .i64 n.kind) := by rw [e0]; exact hcB 0 _ rfl
          have hb1_ : wr.cell? ⟨bb, bo + j * 15 + 1, none⟩ = some (.int .i64 n.v.t) := by rw [e1]; exact hcB 1 _ rfl
          have hb2_ : wr.cell? ⟨bb, bo + j * 15 + 2, none⟩ = some (.int .i64 m.v.n) := hcB 2 _ rfl
          have hb3_ : wr.cell? ⟨bb, bo + j * 15 + 3, none⟩ = some (.string m.v.s) := hcB 3 _ rfl
          have hb4_ : wr.cell? ⟨bb, bo + j * 15 + 4, none⟩ = some (.bool m.v.b) := hcB 4 _ rfl
          have hb5_ : wr.cell? ⟨bb, bo + j * 15 + 5, none⟩ = some (.int .i64 m.v.c) := hcB 5 _ rfl
          have hb6_ : wr.cell? ⟨bb, bo + j * 15 + 6, none⟩ = some (.int .i64 m.r) := hcB 6 _ rfl
          have hb7_ : wr.cell? ⟨bb, bo + j * 15 + 7, none⟩ = some (.int .i64 m.c) := hcB 7 _ rfl
          have hb8_ : wr.cell? ⟨bb, bo + j * 15 + 8, none⟩ = some (.int .i64 m.t) := hcB 8 _ rfl
          have hb9_ : wr.cell? ⟨bb, bo + j * 15 + 9, none⟩ = some (.int .i64 m.l) := hcB 9 _ rfl
          have hb10_ : wr.cell? ⟨bb, bo + j * 15 + 10, none⟩ = some (.int .i64 m.b) := hcB 10 _ rfl
          have hb11_ : wr.cell? ⟨bb, bo + j * 15 + 11, none⟩ = some (.int .i64 m.q) := hcB 11 _ rfl
          have hb12_ : wr.cell? ⟨bb, bo + j * 15 + 12, none⟩ = some (.int .i64 m.op) := hcB 12 _ rfl
          have hb13_ : wr.cell? ⟨bb, bo + j * 15 + 13, none⟩ = some (.string m.name) := hcB 13 _ rfl
          have hb14_ : wr.cell? ⟨bb, bo + j * 15 + 14, none⟩ = some (.int .i64 m.args) := hcB 14 _ rfl
          have hbq : (n.v.n == m.v.n) = false := by simpa using hne
          have hbp : (n.v.n = m.v.n) = False := eq_false hne
          clear hcB e0 e1 hne
          go_wp2
          go_quiet (fail)
          go_wp2
          go_ret
          exact ⟨rfl, by (repeat (first | (with_reducible exact Below.refl _ _) | (with_reducible refine Below.alloc ?_ (by first | omega | (dsimp only; omega) | (simp <;> omega)) _) | (with_reducible refine Below.setCell ?_ (by first | omega | (dsimp only; omega) | (simp <;> omega)) _) | (with_reducible refine Below.drew ?_) | (with_reducible refine below_drewN ?_ _) | (with_reducible refine Below.trans ?_ (Below.mono (by assumption) (by first | omega | (dsimp only; omega) | (simp <;> omega))))))⟩
      · clear hnm
        as_aux_lemma =>
          have hb0_ : wr.cell? ⟨bb, bo + j * 15, none⟩ = some (.int .i64 n.kind) := by rw [e0]; exact hcB 0 _ rfl
          have hb1_ : wr.cell? ⟨bb, bo + j * 15 + 1, none⟩ = some (.int .i64 n.v.t) := by rw [e1]; exact hcB 1 _ rfl
          have hb2_ : wr.cell? ⟨bb, bo + j * 15 + 2, none⟩ = some (.int .i64 n.v.n) := by rw [e2]; exact hcB 2 _ rfl
          have hb3_ : wr.cell? ⟨bb, bo + j * 15 + 3, none⟩ = some (.string m.v.s) := hcB 3 _ rfl
          have hb4_ : wr.cell? ⟨bb, bo + j * 15 + 4, none⟩ = some (.bool m.v.b) := hcB 4 _ rfl
          have hb5_ : wr.cell? ⟨bb, bo + j * 15 + 5, none⟩ = some (.int .i64 m.v.c) := hcB 5 _ rfl
          have hb6_ : wr.cell? ⟨bb, bo + j * 15 + 6, none⟩ = some (.int .i64 m.r) := hcB 6 _ rfl
          have hb7_ : wr.cell? ⟨bb, bo + j * 15 + 7, none⟩ = some (.int .i64 m.c) := hcB 7 _ rfl
          have hb8_ : wr.cell? ⟨bb, bo + j * 15 + 8, none⟩ = some (.int .i64 m.t) := hcB 8 _ rfl
          have hb9_ : wr.cell? ⟨bb, bo + j * 15 + 9, none⟩ = some (.int .i64 m.l) := hcB 9 _ rfl
          have hb10_ : wr.cell? ⟨bb, bo + j * 15 + 10, none⟩ = some (.int .i64 m.b) := hcB 10 _ rfl
          have hb11_ : wr.cell? ⟨bb, bo + j * 15 + 11, none⟩ = some (.int .i64 m.q) := hcB 11 _ rfl
          have hb12_ : wr.cell? ⟨bb, bo + j * 15 + 12, none⟩ = some (.int .i64 m.op) := hcB 12 _ rfl
          have hb13_ : wr.cell? ⟨bb, bo + j * 15 + 13, none⟩ = some (.string m.name) := hcB 13 _ rfl
          have hb14_ : wr.cell? ⟨bb, bo + j * 15 + 14, none⟩ = some (.int .i64 m.args) := hcB 14 _ rfl
          obtain ⟨l1, hl1⟩ : ∃ l1 : List UInt8, n.v.s = ⟨l1.toArray⟩ := ⟨n.v.s.data.toList, by rw [Array.toArray_toList]⟩
          obtain ⟨l2, hl2⟩ : ∃ l2 : List UInt8, m.v.s = ⟨l2.toArray⟩ := ⟨m.v.s.data.toList, by rw [Array.toArray_toList]⟩
          have hbp : (l1 = l2) = False := eq_false (fun e => hne (by rw [hl1, hl2, e]))
          rw [hl1] at ha3
          rw [hl2] at hb3_
          clear hl1 hl2
          clear hcB e0 e1 e2 hne
          go_wp2
          go_quiet (fail)
          go_wp2
          go_ret
          exact ⟨rfl, by (repeat (first | (with_reducible exact Below.refl _ _) | (with_reducible refine Below.alloc ?_ (by first | omega | (dsimp only; omega) | (simp <;> omega)) _) | (with_reducible refine Below.setCell ?_ (by first | omega | (dsimp only; omega) | (simp <;> omega)) _) | (with_reducible refine Below.drew ?_) | (with_reducible refine below_drewN ?_ _) | (with_reducible refine Below.trans ?_ (Below.mono (by assumption) (by first | omega | (dsimp only; omega) | (simp <;> omega))))))⟩
      · clear hnm
        as_aux_lemma =>
          have hb0_ : wr.cell? ⟨bb, bo + j * 15, none⟩ = some (.int .i64 n.kind) := by rw [e0]; exact hcB 0 _ rfl
          have hb1_ : wr.cell? ⟨bb, bo + j * 15 + 1, none⟩ = some (.int .i64 n.v.t) := by rw [e1]; exact hcB 1 _ rfl
          have hb2_ : wr.cell? ⟨bb, bo + j * 15 + 2, none⟩ = some (.int .i64 n.v.n) := by rw [e2]; exact hcB 2 _ rfl
          have hb3_ : wr.cell? ⟨bb, bo + j * 15 + 3, none⟩ = some (.string n.v.s) := by rw [e3]; exact hcB 3 _ rfl
          have hb4_ : wr.cell? ⟨bb, bo + j * 15 + 4, none⟩ = some (.bool m.v.b) := hcB 4 _ rfl
          have hb5_ : wr.cell? ⟨bb, bo + j * 15 + 5, none⟩ = some (.int .i64 m.v.c) := hcB 5 _ rfl
          have hb6_ : wr.cell? ⟨bb, bo + j * 15 + 6, none⟩ = some (.int .i64 m.r) := hcB 6 _ rfl
          have hb7_ : wr.cell? ⟨bb, bo + j * 15 + 7, none⟩ = some (.int .i64 m.c) := hcB 7 _ rfl
          have hb8_ : wr.cell? ⟨bb, bo + j * 15 + 8, none⟩ = some (.int .i64 m.t) := hcB 8 _ rfl
          have hb9_ : wr.cell? ⟨bb, bo + j * 15 + 9, none⟩ = some (.int .i64 m.l) := hcB 9 _ rfl
          have hb10_ : wr.cell? ⟨bb, bo + j * 15 + 10, none⟩ = some (.int .i64 m.b) := hcB 10 _ rfl
          have hb11_ : wr.cell? ⟨bb, bo + j * 15 + 11, none⟩ = some (.int .i64 m.q) := hcB 11 _ rfl
          have hb12_ : wr.cell? ⟨bb, bo + j * 15 + 12, none⟩ = some (.int .i64 m.op) := hcB 12 _ rfl
          have hb13_ : wr.cell? ⟨bb, bo + j * 15 + 13, none⟩ = some (.string m.name) := hcB 13 _ rfl
          have hb14_ : wr.cell? ⟨bb, bo + j * 15 + 14, none⟩ = some (.int .i64 m.args) := hcB 14 _ rfl
          have hbq : (n.v.b == m.v.b) = false := by simpa using hne
          have hbp : (n.v.b = m.v.b) = False := eq_false hne
          clear hcB e0 e1 e2 e3 hne
          go_wp2
          go_quiet (fail)
          go_wp2
          go_ret
          exact ⟨rfl, by (repeat (first | (with_reducible exact Below.refl _ _) | (with_reducible refine Below.alloc ?_ (by first | omega | (dsimp only; omega) | (simp <;> omega)) _) | (with_reducible refine Below.setCell ?_ (by first | omega | (dsimp only; omega) | (simp <;> omega)) _) | (with_reducible refine Below.drew ?_) | (with_reducible refine below_drewN ?_ _) | (with_reducible refine Below.trans ?_ (Below.mono (by assumption) (by first | omega | (dsimp only; omega) | (simp <;> omega))))))⟩
      · clear hnm
        as_aux_lemma =>
          have hb0_ : wr.cell? ⟨bb, bo + j * 15, none⟩ = some (.int .i64 n.kind) := by rw [e0]; exact hcB 0 _ rfl
          have hb1_ : wr.cell? ⟨bb, bo + j * 15 + 1, none⟩ = some (.int .i64 n.v.t) := by rw [e1]; exact hcB 1 _ rfl
          have hb2_ : wr.cell? ⟨bb, bo + j * 15 + 2, none⟩ = some (.int .i64 n.v.n) := by rw [e2]; exact hcB 2 _ rfl
          have hb3_ : wr.cell? ⟨bb, bo + j * 15 + 3, none⟩ = some (.string n.v.s) := by rw [e3]; exact hcB 3 _ rfl
          have hb4_ : wr.cell? ⟨bb, bo + j * 15 + 4, none⟩ = some (.bool n.v.b) := by rw [e4]; exact hcB 4 _ rfl
          have hb5_ : wr.cell? ⟨bb, bo + j * 15 + 5, none⟩ = some (.int .i64 m.v.c) := hcB 5 _ rfl
          have hb6_ : wr.cell? ⟨bb, bo + j * 15 + 6, none⟩ = some (.int .i64 m.r) := hcB 6 _ rfl
          have hb7_ : wr.cell? ⟨bb, bo + j * 15 + 7, none⟩ = some (.int .i64 m.c) := hcB 7 _ rfl
          have hb8_ : wr.cell? ⟨bb, bo + j * 15 + 8, none⟩ = some (.int .i64 m.t) := hcB 8 _ rfl
          have hb9_ : wr.cell? ⟨bb, bo + j * 15 + 9, none⟩ = some (.int .i64 m.l) := hcB 9 _ rfl
          have hb10_ : wr.cell? ⟨bb, bo + j * 15 + 10, none⟩ = some (.int .i64 m.b) := hcB 10 _ rfl
          have hb11_ : wr.cell? ⟨bb, bo + j * 15 + 11, none⟩ = some (.int .i64 m.q) := hcB 11 _ rfl
          have hb12_ : wr.cell? ⟨bb, bo + j * 15 + 12, none⟩ = some (.int .i64 m.op) := hcB 12 _ rfl
          have hb13_ : wr.cell? ⟨bb, bo + j * 15 + 13, none⟩ = some (.string m.name) := hcB 13 _ rfl
          have hb14_ : wr.cell? ⟨bb, bo + j * 15 + 14, none⟩ = some (.int .i64 m.args) := hcB 14 _ rfl
          have hbq : (n.v.c == m.v.c) = false := by simpa using hne
          have hbp : (n.v.c = m.v.c) = False := eq_false hne
          clear hcB e0 e1 e2 e3 e4 hne
          go_wp2
          go_quiet (fail)
          go_wp2
          go_ret
          exact ⟨rfl, by (repeat (first | (with_reducible exact Below.refl _ _) | (with_reducible refine Below.alloc ?_ (by first | omega | (dsimp only; omega) | (simp <;> omega)) _) | (with_reducible refine Below.setCell ?_ (by first | omega | (dsimp only; omega) | (simp <;> omega)) _) | (with_reducible refine Below.drew ?_) | (with_reducible refine below_drewN ?_ _) | (with_reducible refine Below.trans ?_ (Below.mono (by assumption) (by first | omega | (dsimp only; omega) | (simp <;> omega))))))⟩
      · clear hnm
        as_aux_lemma =>
          have hb0_ : wr.cell? ⟨bb, bo + j * 15, none⟩ = some (.int .i64 n.kind) := by rw [e0]; exact hcB 0 _ rfl
          have hb1_ : wr.cell? ⟨bb, bo + j * 15 + 1, none⟩ = some (.int .i64 n.v.t) := by rw [e1]; exact hcB 1 _ rfl
          have hb2_ : wr.cell? ⟨bb, bo + j * 15 + 2, none⟩ = some (.int .i64 n.v.n) := by rw [e2]; exact hcB 2 _ rfl
          have hb3_ : wr.cell? ⟨bb, bo + j * 15 + 3, none⟩ = some (.string n.v.s) := by rw [e3]; exact hcB 3 _ rfl
          have hb4_ : wr.cell? ⟨bb, bo + j * 15 + 4, none⟩ = some (.bool n.v.b) := by rw [e4]; exact hcB 4 _ rfl
          have hb5_ : wr.cell? ⟨bb, bo + j * 15 + 5, none⟩ = some (.int .i64 n.v.c) := by rw [e5]; exact hcB 5 _ rfl
          have hb6_ : wr.cell? ⟨bb, bo + j * 15 + 6, none⟩ = some (.int .i64 m.r) := hcB 6 _ rfl
          have hb7_ : wr.cell? ⟨bb, bo + j * 15 + 7, none⟩ = some (.int .i64 m.c) := hcB 7 _ rfl
          have hb8_ : wr.cell? ⟨bb, bo + j * 15 + 8, none⟩ = some (.int .i64 m.t) := hcB 8 _ rfl
          have hb9_ : wr.cell? ⟨bb, bo + j * 15 + 9, none⟩ = some (.int .i64 m.l) := hcB 9 _ rfl
          have hb10_ : wr.cell? ⟨bb, bo + j * 15 + 10, none⟩ = some (.int .i64 m.b) := hcB 10 _ rfl
          have hb11_ : wr.cell? ⟨bb, bo + j * 15 + 11, none⟩ = some (.int .i64 m.q) := hcB 11 _ rfl
          have hb12_ : wr.cell? ⟨bb, bo + j * 15 + 12, none⟩ = some (.int .i64 m.op) := hcB 12 _ rfl
          have hb13_ : wr.cell? ⟨bb, bo + j * 15 + 13, none⟩ = some (.string m.name) := hcB 13 _ rfl
          have hb14_ : wr.cell? ⟨bb, bo + j * 15 + 14, none⟩ = some (.int .i64 m.args) := hcB 14 _ rfl
          have hbq : (n.r == m.r) = false := by simpa using hne
          have hbp : (n.r = m.r) = False := eq_false hne
          clear hcB e0 e1 e2 e3 e4 e5 hne
          go_wp2
          go_quiet (fail)
          go_wp2
          go_ret
          exact ⟨rfl, by (repeat (first | (with_reducible exact Below.refl _ _) | (with_reducible refine Below.alloc ?_ (by first | omega | (dsimp only; omega) | (simp <;> omega)) _) | (with_reducible refine Below.setCell ?_ (by first | omega | (dsimp only; omega) | (simp <;> omega)) _) | (with_reducible refine Below.drew ?_) | (with_reducible refine below_drewN ?_ _) | (with_reducible refine Below.trans ?_ (Below.mono (by assumption) (by first | omega | (dsimp only; omega) | (simp <;> omega))))))⟩
      · clear hnm
        as_aux_lemma =>
          have hb0_ : wr.cell? ⟨bb, bo + j * 15, none⟩ = some (.int .i64 n.kind) := by rw [e0]; exact hcB 0 _ rfl
          have hb1_ : wr.cell? ⟨bb, bo + j * 15 + 1, none⟩ = some (.int .i64 n.v.t) := by rw [e1]; exact hcB 1 _ rfl
          have hb2_ : wr.cell? ⟨bb, bo + j * 15 + 2, none⟩ = some (.int .i64 n.v.n) := by rw [e2]; exact hcB 2 _ rfl
          have hb3_ : wr.cell? ⟨bb, bo + j * 15 + 3, none⟩ = some (.string n.v.s) := by rw [e3]; exact hcB 3 _ rfl
          have hb4_ : wr.cell? ⟨bb, bo + j * 15 + 4, none⟩ = some (.bool n.v.b) := by rw [e4]; exact hcB 4 _ rfl
          have hb5_ : wr.cell? ⟨bb, bo + j * 15 + 5, none⟩ = some (.int .i64 n.v.c) := by rw [e5]; exact hcB 5 _ rfl
          have hb6_ : wr.cell? ⟨bb, bo + j * 15 + 6, none⟩ = some (.int .i64 n.r) := by rw [e6]; exact hcB 6 _ rfl
          have hb7_ : wr.cell? ⟨bb, bo + j * 15 + 7, none⟩ = some (.int .i64 m.c) := hcB 7 _ rfl
          have hb8_ : wr.cell? ⟨bb, bo + j * 15 + 8, none⟩ = some (.int .i64 m.t) := hcB 8 _ rfl
          have hb9_ : wr.cell? ⟨bb, bo + j * 15 + 9, none⟩ = some (.int .i64 m.l) := hcB 9 _ rfl
          have hb10_ : wr.cell? ⟨bb, bo + j * 15 + 10, none⟩ = some (.int .i64 m.b) := hcB 10 _ rfl
          have hb11_ : wr.cell? ⟨bb, bo + j * 15 + 11, none⟩ = some (.int .i64 m.q) := hcB 11 _ rfl
          have hb12_ : wr.cell? ⟨bb, bo + j * 15 + 12, none⟩ = some (.int .i64 m.op) := hcB 12 _ rfl
          have hb13_ : wr.cell? ⟨bb, bo + j * 15 + 13, none⟩ = some (.string m.name) := hcB 13 _ rfl
          have hb14_ : wr.cell? ⟨bb, bo + j * 15 + 14, none⟩ = some (.int .i64 m.args) := hcB 14 _ rfl
          have hbq : (n.c == m.c) = false := by simpa using hne
          have hbp : (n.c = m.c) = False := eq_false hne
          clear hcB e0 e1 e2 e3 e4 e5 e6 hne
          go_wp2
          go_quiet (fail)
          go_wp2
          go_ret
          exact ⟨rfl, by (repeat (first | (with_reducible exact Below.refl _ _) | (with_reducible refine Below.alloc ?_ (by first | omega | (dsimp only; omega) | (simp <;> omega)) _) | (with_reducible refine Below.setCell ?_ (by first | omega | (dsimp only; omega) | (simp <;> omega)) _) | (with_reducible refine Below.drew ?_) | (with_reducible refine below_drewN ?_ _) | (with_reducible refine Below.trans ?_ (Below.mono (by assumption) (by first | omega | (dsimp only; omega) | (simp <;> omega))))))⟩
      · clear hnm
        as_aux_lemma =>
          have hb0_ : wr.cell? ⟨bb, bo + j * 15, none⟩ = some (.int .i64 n.kind) := by rw [e0]; exact hcB 0 _ rfl
          have hb1_ : wr.cell? ⟨bb, bo + j * 15 + 1, none⟩ = some (.int .i64 n.v.t) := by rw [e1]; exact hcB 1 _ rfl
          have hb2_ : wr.cell? ⟨bb, bo + j * 15 + 2, none⟩ = some (.int .i64 n.v.n) := by rw [e2]; exact hcB 2 _ rfl
          have hb3_ : wr.cell? ⟨bb, bo + j * 15 + 3, none⟩ = some (.string n.v.s) := by rw [e3]; exact hcB 3 _ rfl
          have hb4_ : wr.cell? ⟨bb, bo + j * 15 + 4, none⟩ = some (.bool n.v.b) := by rw [e4]; exact hcB 4 _ rfl
          have hb5_ : wr.cell? ⟨bb, bo + j * 15 + 5, none⟩ = some (.int .i64 n.v.c) := by rw [e5]; exact hcB 5 _ rfl
          have hb6_ : wr.cell? ⟨bb, bo + j * 15 + 6, none⟩ = some (.int .i64 n.r) := by rw [e6]; exact hcB 6 _ rfl
          have hb7_ : wr.cell? ⟨bb, bo + j * 15 + 7, none⟩ = some (.int .i64 n.c) := by rw [e7]; exact hcB 7 _ rfl
          have hb8_ : wr.cell? ⟨bb, bo + j * 15 + 8, none⟩ = some (.int .i64 m.t) := hcB 8 _ rfl
          have hb9_ : wr.cell? ⟨bb, bo + j * 15 + 9, none⟩ = some (.int .i64 m.l) := hcB 9 _ rfl
          have hb10_ : wr.cell? ⟨bb, bo + j * 15 + 10, none⟩ = some (.int .i64 m.b) := hcB 10 _ rfl
          have hb11_ : wr.cell? ⟨bb, bo + j * 15 + 11, none⟩ = some (.int .i64 m.q) := hcB 11 _ rfl
          have hb12_ : wr.cell? ⟨bb, bo + j * 15 + 12, none⟩ = some (.int .i64 m.op) := hcB 12 _ rfl
          have hb13_ : wr.cell? ⟨bb, bo + j * 15 + 13, none⟩ = some (.string m.name) := hcB 13 _ rfl
          have hb14_ : wr.cell? ⟨bb, bo + j * 15 + 14, none⟩ = some (.int .i64 m.args) := hcB 14 _ rfl
          have hbq : (n.t == m.t) = false := by simpa using hne
          have hbp : (n.t = m.t) = False := eq_false hne
          clear hcB e0 e1 e2 e3 e4 e5 e6 e7 hne
          go_wp2
          go_quiet (fail)
          go_wp2
          go_ret
          exact ⟨rfl, by (repeat (first | (with_reducible exact Below.refl _ _) | (with_reducible refine Below.alloc ?_ (by first | omega | (dsimp only; omega) | (simp <;> omega)) _) | (with_reducible refine Below.setCell ?_ (by first | omega | (dsimp only; omega) | (simp <;> omega)) _) | (with_reducible refine Below.drew ?_) | (with_reducible refine below_drewN ?_ _) | (with_reducible refine Below.trans ?_ (Below.mono (by assumption) (by first | omega | (dsimp only; omega) | (simp <;> omega))))))⟩
      · clear hnm
        as_aux_lemma =>
          have hb0_ : wr.cell? ⟨bb, bo + j * 15, none⟩ = some (.int .i64 n.kind) := by rw [e0]; exact hcB 0 _ rfl
          have hb1_ : wr.cell? ⟨bb, bo + j * 15 + 1, none⟩ = some (.int .i64 n.v.t) := by rw [e1]; exact hcB 1 _ rfl
          have hb2_ : wr.cell? ⟨bb, bo + j * 15 + 2, none⟩ = some (.int .i64 n.v.n) := by rw [e2]; exact hcB 2 _ rfl
          have hb3_ : wr.cell? ⟨bb, bo + j * 15 + 3, none⟩ = some (.string n.v.s) := by rw [e3]; exact hcB 3 _ rfl
          have hb4_ : wr.cell? ⟨bb, bo + j * 15 + 4, none⟩ = some (.bool n.v.b) := by rw [e4]; exact hcB 4 _ rfl
          have hb5_ : wr.cell? ⟨bb, bo + j * 15 + 5, none⟩ = some (.int .i64 n.v.c) := by rw [e5]; exact hcB 5 _ rfl
          have hb6_ : wr.cell? ⟨bb, bo + j * 15 + 6, none⟩ = some (.int .i64 n.r) := by rw [e6]; exact hcB 6 _ rfl
          have hb7_ : wr.cell? ⟨bb, bo + j * 15 + 7, none⟩ = some (.int .i64 n.c) := by rw [e7]; exact hcB 7 _ rfl
          have hb8_ : wr.cell? ⟨bb, bo + j * 15 + 8, none⟩ = some (.int .i64 n.t) := by rw [e8]; exact hcB 8 _ rfl
          have hb9_ : wr.cell? ⟨bb, bo + j * 15 + 9, none⟩ = some (.int .i64 m.l) := hcB 9 _ rfl
          have hb10_ : wr.cell? ⟨bb, bo + j * 15 + 10, none⟩ = some (.int .i64 m.b) := hcB 10 _ rfl
          have hb11_ : wr.cell? ⟨bb, bo + j * 15 + 11, none⟩ = some (.int .i64 m.q) := hcB 11 _ rfl
          have hb12_ : wr.cell? ⟨bb, bo + j * 15 + 12, none⟩ = some (.int .i64 m.op) := hcB 12 _ rfl
          have hb13_ : wr.cell? ⟨bb, bo + j * 15 + 13, none⟩ = some (.string m.name) := hcB 13 _ rfl
          have hb14_ : wr.cell? ⟨bb, bo + j * 15 + 14, none⟩ = some (.int .i64 m.args) := hcB 14 _ rfl
          have hbq : (n.l == m.l) = false := by simpa using hne
          have hbp : (n.l = m.l) = False := eq_false hne
          clear hcB e0 e1 e2 e3 e4 e5 e6 e7 e8 hne
          go_wp2
          go_quiet (fail)
          go_wp2
          go_ret
          exact ⟨rfl, by (repeat (first | (with_reducible exact Below.refl _ _) | (with_reducible refine Below.alloc ?_ (by first | omega | (dsimp only; omega) | (simp <;> omega)) _) | (with_reducible refine Below.setCell ?_ (by first | omega | (dsimp only; omega) | (simp <;> omega)) _) | (with_reducible refine Below.drew ?_) | (with_reducible refine below_drewN ?_ _) | (with_reducible refine Below.trans ?_ (Below.mono (by assumption) (by first | omega | (dsimp only; omega) | (simp <;> omega))))))⟩
      · clear hnm
        as_aux_lemma =>
          have hb0_ : wr.cell? ⟨bb, bo + j * 15, none⟩ = some (.int .i64 n.kind) := by rw [e0]; exact hcB 0 _ rfl
          have hb1_ : wr.cell? ⟨bb, bo + j * 15 + 1, none⟩ = some (.int .i64 n.v.t) := by rw [e1]; exact hcB 1 _ rfl
          have hb2_ : wr.cell? ⟨bb, bo + j * 15 + 2, none⟩ = some (.int .i64 n.v.n) := by rw [e2]; exact hcB 2 _ rfl
          have hb3_ : wr.cell? ⟨bb, bo + j * 15 + 3, none⟩ = some (.string n.v.s) := by rw [e3]; exact hcB 3 _ rfl
          have hb4_ : wr.cell? ⟨bb, bo + j * 15 + 4, none⟩ = some (.bool n.v.b) := by rw [e4]; exact hcB 4 _ rfl
          have hb5_ : wr.cell? ⟨bb, bo + j * 15 + 5, none⟩ = some (.int .i64 n.v.c) := by rw [e5]; exact hcB 5 _ rfl
          have hb6_ : wr.cell? ⟨bb, bo + j * 15 + 6, none⟩ = some (.int .i64 n.r) := by rw [e6]; exact hcB 6 _ rfl
          have hb7_ : wr.cell? ⟨bb, bo + j * 15 + 7, none⟩ = some (.int .i64 n.c) := by rw [e7]; exact hcB 7 _ rfl
          have hb8_ : wr.cell? ⟨bb, bo + j * 15 + 8, none⟩ = some (.int .i64 n.t) := by rw [e8]; exact hcB 8 _ rfl
          have hb9_ : wr.cell? ⟨bb, bo + j * 15 + 9, none⟩ = some (.int .i64 n.l) := by rw [e9]; exact hcB 9 _ rfl
          have hb10_ : wr.cell? ⟨bb, bo + j * 15 + 10, none⟩ = some (.int .i64 m.b) := hcB 10 _ rfl
          have hb11_ : wr.cell? ⟨bb, bo + j * 15 + 11, none⟩ = some (.int .i64 m.q) := hcB 11 _ rfl
          have hb12_ : wr.cell? ⟨bb, bo + j * 15 + 12, none⟩ = some (.int .i64 m.op) := hcB 12 _ rfl
          have hb13_ : wr.cell? ⟨bb, bo + j * 15 + 13, none⟩ = some (.string m.name) := hcB 13 _ rfl
          have hb14_ : wr.cell? ⟨bb, bo + j * 15 + 14, none⟩ = some (.int .i64 m.args) := hcB 14 _ rfl
          have hbq : (n.b == m.b) = false := by simpa using hne
          have hbp : (n.b = m.b) = False := eq_false hne
          clear hcB e0 e1 e2 e3 e4 e5 e6 e7 e8 e9 hne
          go_wp2
          go_quiet (fail)
          go_wp2
          go_ret
          exact ⟨rfl, by (repeat (first | (with_reducible exact Below.refl _ _) | (with_reducible refine Below.alloc ?_ (by first | omega | (dsimp only; omega) | (simp <;> omega)) _) | (with_reducible refine Below.setCell ?_ (by first | omega | (dsimp only; omega) | (simp <;> omega)) _) | (with_reducible refine Below.drew ?_) | (with_reducible refine below_drewN ?_ _) | (with_reducible refine Below.trans ?_ (Below.mono (by assumption) (by first | omega | (dsimp only; omega) | (simp <;> omega))))))⟩
      · clear hnm
        as_aux_lemma =>
          have hb0_ : wr.cell? ⟨bb, bo + j * 15, none⟩ = some (.int .i64 n.kind) := by rw [e0]; exact hcB 0 _ rfl
          have hb1_ : wr.cell? ⟨bb, bo + j * 15 + 1, none⟩ = some (.int .i64 n.v.t) := by rw [e1]; exact hcB 1 _ rfl
          have hb2_ : wr.cell? ⟨bb, bo + j * 15 + 2, none⟩ = some (.int .i64 n.v.n) := by rw [e2]; exact hcB 2 _ rfl
          have hb3_ : wr.cell? ⟨bb, bo + j * 15 + 3, none⟩ = some (.string n.v.s) := by rw [e3]; exact hcB 3 _ rfl
          have hb4_ : wr.cell? ⟨bb, bo + j * 15 + 4, none⟩ = some (.bool n.v.b) := by rw [e4]; exact hcB 4 _ rfl
          have hb5_ : wr.cell? ⟨bb, bo + j * 15 + 5, none⟩ = some (.int .i64 n.v.c) := by rw [e5]; exact hcB 5 _ rfl
          have hb6_ : wr.cell? ⟨bb, bo + j * 15 + 6, none⟩ = some (.int .i64 n.r) := by rw [e6]; exact hcB 6 _ rfl
          have hb7_ : wr.cell? ⟨bb, bo + j * 15 + 7, none⟩ = some (.int .i64 n.c) := by rw [e7]; exact hcB 7 _ rfl
          have hb8_ : wr.cell? ⟨bb, bo + j * 15 + 8, none⟩ = some (.int .i64 n.t) := by rw [e8]; exact hcB 8 _ rfl
          have hb9_ : wr.cell? ⟨bb, bo + j * 15 + 9, none⟩ = some (.int .i64 n.l) := by rw [e9]; exact hcB 9 _ rfl
          have hb10_ : wr.cell? ⟨bb, bo + j * 15 + 10, none⟩ = some (.int .i64 n.b) := by rw [e10]; exact hcB 10 _ rfl
          have hb11_ : wr.cell? ⟨bb, bo + j * 15 + 11, none⟩ = some (.int .i64 m.q) := hcB 11 _ rfl
          have hb12_ : wr.cell? ⟨bb, bo + j * 15 + 12, none⟩ = some (.int .i64 m.op) := hcB 12 _ rfl
          have hb13_ : wr.cell? ⟨bb, bo + j * 15 + 13, none⟩ = some (.string m.name) := hcB 13 _ rfl
          have hb14_ : wr.cell? ⟨bb, bo + j * 15 + 14, none⟩ = some (.int .i64 m.args) := hcB 14 _ rfl
          have hbq : (n.q == m.q) = false := by simpa using hne
          have hbp : (n.q = m.q) = False := eq_false hne
          clear hcB e0 e1 e2 e3 e4 e5 e6 e7 e8 e9 e10 hne
          go_wp2
          go_quiet (fail)
          go_wp2
          go_ret
          exact ⟨rfl, by (repeat (first | (with_reducible exact Below.refl _ _) | (with_reducible refine Below.alloc ?_ (by first | omega | (dsimp only; omega) | (simp <;> omega)) _) | (with_reducible refine Below.setCell ?_ (by first | omega | (dsimp only; omega) | (simp <;> omega)) _) | (with_reducible refine Below.drew ?_) | (with_reducible refine below_drewN ?_ _) | (with_reducible refine Below.trans ?_ (Below.mono (by assumption) (by first | omega | (dsimp only; omega) | (simp <;> omega))))))⟩
      · clear hnm
        as_aux_lemma =>
          have hb0_ : wr.cell? ⟨bb, bo + j * 15, none⟩ = some (.int .i64 n.kind) := by rw [e0]; exact hcB 0 _ rfl
          have hb1_ : wr.cell? ⟨bb, bo + j * 15 + 1, none⟩ = some (.int .i64 n.v.t) := by rw [e1]; exact hcB 1 _ rfl
          have hb2_ : wr.cell? ⟨bb, bo + j * 15 + 2, none⟩ = some (.int .i64 n.v.n) := by rw [e2]; exact hcB 2 _ rfl
          have hb3_ : wr.cell? ⟨bb, bo + j * 15 + 3, none⟩ = some (.string n.v.s) := by rw [e3]; exact hcB 3 _ rfl
          have hb4_ : wr.cell? ⟨bb, bo + j * 15 + 4, none⟩ = some (.bool n.v.b) := by rw [e4]; exact hcB 4 _ rfl
          have hb5_ : wr.cell? ⟨bb, bo + j * 15 + 5, none⟩ = some (.int .i64 n.v.c) := by rw [e5]; exact hcB 5 _ rfl
          have hb6_ : wr.cell? ⟨bb, bo + j * 15 + 6, none⟩ = some (.int .i64 n.r) := by rw [e6]; exact hcB 6 _ rfl
          have hb7_ : wr.cell? ⟨bb, bo + j * 15 + 7, none⟩ = some (.int .i64 n.c) := by rw [e7]; exact hcB 7 _ rfl
          have hb8_ : wr.cell? ⟨bb, bo + j * 15 + 8, none⟩ = some (.int .i64 n.t) := by rw [e8]; exact hcB 8 _ rfl
          have hb9_ : wr.cell? ⟨bb, bo + j * 15 + 9, none⟩ = some (.int .i64 n.l) := by rw [e9]; exact hcB 9 _ rfl
          have hb10_ : wr.cell? ⟨bb, bo + j * 15 + 10, none⟩ = some (.int .i64 n.b) := by rw [e10]; exact hcB 10 _ rfl
          have hb11_ : wr.cell? ⟨bb, bo + j * 15 + 11, none⟩ = some (.int .i64 n.q) := by rw [e11]; exact hcB 11 _ rfl
          have hb12_ : wr.cell? ⟨bb, bo + j * 15 + 12, none⟩ = some (.int .i64 m.op) := hcB 12 _ rfl
          have hb13_ : wr.cell? ⟨bb, bo + j * 15 + 13, none⟩ = some (.string m.name) := hcB 13 _ rfl
          have hb14_ : wr.cell? ⟨bb, bo + j * 15 + 14, none⟩ = some (.int .i64 m.args) := hcB 14 _ rfl
          have hbq : (n.op == m.op) = false := by simpa using hne
          have hbp : (n.op = m.op) = False := eq_false hne
          clear hcB e0 e1 e2 e3 e4 e5 e6 e7 e8 e9 e10 e11 hne
          go_wp2
          go_quiet (fail)
          go_wp2
          go_ret
          exact ⟨rfl, by (repeat (first | (with_reducible exact Below.refl _ _) | (with_reducible refine Below.alloc ?_ (by first | omega | (dsimp only; omega) | (simp <;> omega)) _) | (with_reducible refine Below.setCell ?_ (by first | omega | (dsimp only; omega) | (simp <;> omega)) _) | (with_reducible refine Below.drew ?_) | (with_reducible refine below_drewN ?_ _) | (with_reducible refine Below.trans ?_ (Below.mono (by assumption) (by first | omega | (dsimp only; omega) | (simp <;> omega))))))⟩
      · clear hnm
        as_aux_lemma =>
          have hb0_ : wr.cell? ⟨bb, bo + j * 15, none⟩ = some (.int .i64 n.kind) := by rw [e0]; exact hcB 0 _ rfl
          have hb1_ : wr.cell? ⟨bb, bo + j * 15 + 1, none⟩ = some (.int .i64 n.v.t) := by rw [e1]; exact hcB 1 _ rfl
          have hb2_ : wr.cell? ⟨bb, bo + j * 15 + 2, none⟩ = some (.int .i64 n.v.n) := by rw [e2]; exact hcB 2 _ rfl
          have hb3_ : wr.cell? ⟨bb, bo + j * 15 + 3, none⟩ = some (.string n.v.s) := by rw [e3]; exact hcB 3 _ rfl
          have hb4_ : wr.cell? ⟨bb, bo + j * 15 + 4, none⟩ = some (.bool n.v.b) := by rw [e4]; exact hcB 4 _ rfl
          have hb5_ : wr.cell? ⟨bb, bo + j * 15 + 5, none⟩ = some (.int .i64 n.v.c) := by rw [e5]; exact hcB 5 _ rfl
          have hb6_ : wr.cell? ⟨bb, bo + j * 15 + 6, none⟩ = some (.int .i64 n.r) := by rw [e6]; exact hcB 6 _ rfl
          have hb7_ : wr.cell? ⟨bb, bo + j * 15 + 7, none⟩ = some (.int .i64 n.c) := by rw [e7]; exact hcB 7 _ rfl
          have hb8_ : wr.cell? ⟨bb, bo + j * 15 + 8, none⟩ = some (.int .i64 n.t) := by rw [e8]; exact hcB 8 _ rfl
          have hb9_ : wr.cell? ⟨bb, bo + j * 15 + 9, none⟩ = some (.int .i64 n.l) := by rw [e9]; exact hcB 9 _ rfl
          have hb10_ : wr.cell? ⟨bb, bo + j * 15 + 10, none⟩ = some (.int .i64 n.b) := by rw [e10]; exact hcB 10 _ rfl
          have hb11_ : wr.cell? ⟨bb, bo + j * 15 + 11, none⟩ = some (.int .i64 n.q) := by rw [e11]; exact hcB 11 _ rfl
          have hb12_ : wr.cell? ⟨bb, bo + j * 15 + 12, none⟩ = some (.int .i64 n.op) := by rw [e12]; exact hcB 12 _ rfl
          have hb13_ : wr.cell? ⟨bb, bo + j * 15 + 13, none⟩ = some (.string m.name) := hcB 13 _ rfl
          have hb14_ : wr.cell? ⟨bb, bo + j * 15 + 14, none⟩ = some (.int .i64 m.args) := hcB 14 _ rfl
          obtain ⟨l1, hl1⟩ : ∃ l1 : List UInt8, n.name = ⟨l1.toArray⟩ := ⟨n.name.data.toList, by rw [Array.toArray_toList]⟩
          obtain ⟨l2, hl2⟩ : ∃ l2 : List UInt8, m.name = ⟨l2.toArray⟩ := ⟨m.name.data.toList, by rw [Array.toArray_toList]⟩
          have hbp : (l1 = l2) = False := eq_false (fun e => hne (by rw [hl1, hl2, e]))
          rw [hl1] at ha13
          rw [hl2] at hb13_
          clear hl1 hl2
          clear hcB e0 e1 e2 e3 e4 e5 e6 e7 e8 e9 e10 e11 e12 hne
          go_wp2
          go_quiet (fail)
          go_wp2
          go_ret
          exact ⟨rfl, by (repeat (first | (with_reducible exact Below.refl _ _) | (with_reducible refine Below.alloc ?_ (by first | omega | (dsimp only; omega) | (simp <;> omega)) _) | (with_reducible refine Below.setCell ?_ (by first | omega | (dsimp only; omega) | (simp <;> omega)) _) | (with_reducible refine Below.drew ?_) | (with_reducible refine below_drewN ?_ _) | (with_reducible refine Below.trans ?_ (Below.mono (by assumption) (by first | omega | (dsimp only; omega) | (simp <;> omega))))))⟩
      · clear hnm
        as_aux_lemma =>
          have hb0_ : wr.cell? ⟨bb, bo + j * 15, none⟩ = some (.int .i64 n.kind) := by rw [e0]; exact hcB 0 _ rfl
          have hb1_ : wr.cell? ⟨bb, bo + j * 15 + 1, none⟩ = some (.int .i64 n.v.t) := by rw [e1]; exact hcB 1 _ rfl
          have hb2_ : wr.cell? ⟨bb, bo + j * 15 + 2, none⟩ = some (.int .i64 n.v.n) := by rw [e2]; exact hcB 2 _ rfl
          have hb3_ : wr.cell? ⟨bb, bo + j * 15 + 3, none⟩ = some (.string n.v.s) := by rw [e3]; exact hcB 3 _ rfl
          have hb4_ : wr.cell? ⟨bb, bo + j * 15 + 4, none⟩ = some (.bool n.v.b) := by rw [e4]; exact hcB 4 _ rfl
          have hb5_ : wr.cell? ⟨bb, bo + j * 15 + 5, none⟩ = some (.int .i64 n.v.c) := by rw [e5]; exact hcB 5 _ rfl
          have hb6_ : wr.cell? ⟨bb, bo + j * 15 + 6, none⟩ = some (.int .i64 n.r) := by rw [e6]; exact hcB 6 _ rfl
          have hb7_ : wr.cell? ⟨bb, bo + j * 15 + 7, none⟩ = some (.int .i64 n.c) := by rw [e7]; exact hcB 7 _ rfl
          have hb8_ : wr.cell? ⟨bb, bo + j * 15 + 8, none⟩ = some (.int .i64 n.t) := by rw [e8]; exact hcB 8 _ rfl
          have hb9_ : wr.cell? ⟨bb, bo + j * 15 + 9, none⟩ = some (.int .i64 n.l) := by rw [e9]; exact hcB 9 _ rfl
          have hb10_ : wr.cell? ⟨bb, bo + j * 15 + 10, none⟩ = some (.int .i64 n.b) := by rw [e10]; exact hcB 10 _ rfl
          have hb11_ : wr.cell? ⟨bb, bo + j * 15 + 11, none⟩ = some (.int .i64 n.q) := by rw [e11]; exact hcB 11 _ rfl
          have hb12_ : wr.cell? ⟨bb, bo + j * 15 + 12, none⟩ = some (.int .i64 n.op) := by rw [e12]; exact hcB 12 _ rfl
          have hb13_ : wr.cell? ⟨bb, bo + j * 15 + 13, none⟩ = some (.string n.name) := by rw [e13]; exact hcB 13 _ rfl
          have hb14_ : wr.cell? ⟨bb, bo + j * 15 + 14, none⟩ = some (.int .i64 m.args) := hcB 14 _ rfl
          have hbq : (n.args == m.args) = false := by simpa using hne
          have hbp : (n.args = m.args) = False := eq_false hne
          clear hcB e0 e1 e2 e3 e4 e5 e6 e7 e8 e9 e10 e11 e12 e13 hne
          go_wp2
          go_quiet (fail)
          go_wp2
          go_ret
          exact ⟨rfl, by (repeat (first | (with_reducible exact Below.refl _ _) | (with_reducible refine Below.alloc ?_ (by first | omega | (dsimp only; omega) | (simp <;> omega)) _) | (with_reducible refine Below.setCell ?_ (by first | omega | (dsimp only; omega) | (simp <;> omega)) _) | (with_reducible refine Below.drew ?_) | (with_reducible refine below_drewN ?_ _) | (with_reducible refine Below.trans ?_ (Below.mono (by assumption) (by first | omega | (dsimp only; omega) | (simp <;> omega))))))⟩
end Go.Proofs.YtfbkoieodflcpaaDoor
