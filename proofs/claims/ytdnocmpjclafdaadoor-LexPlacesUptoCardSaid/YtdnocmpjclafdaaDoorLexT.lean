/-
  oriellaw04: known.
-/
import Derived.Test.YtdnocmpjclafdaaDoorNumL
import Derived.Test.YtdnocmpjclafdaaDoorRows
import Derived.Test.YtdnocmpjclafdaaDoorBase
import Derived.Test.YtdnocmpjclafdaaDoorProg
import Derived.Test.YtdnocmpjclafdaaDoorShelf
import Derived.Test.YtdnocmpjclafdaaDoorCutW
import Derived.Test.YtdnocmpjclafdaaDoorAddrC
import Derived.Test.YtdnocmpjclafdaaDoorNames
import Derived.Test.YtdnocmpjclafdaaDoorParseW
import Derived.Test.YtdnocmpjclafdaaDoorPRect
import Derived.Test.YtdnocmpjclafdaaDoorDecA
import Derived.Test.YtdnocmpjclafdaaDoorValA
import Derived.Test.YtdnocmpjclafdaaDoorValB
import Derived.Test.YtdnocmpjclafdaaDoorValD
import Derived.Test.YtdnocmpjclafdaaDoorLexP
import Derived.Test.YtdnocmpjclafdaaDoorLexW
import Derived.Test.YtdnocmpjclafdaaDoorRefName
import Derived.Test.YtdnocmpjclafdaaDoorLexR
import Derived.Test.YtdnocmpjclafdaaDoorLexWd
import Derived.Test.YtdnocmpjclafdaaDoorLexSg
import Derived.Test.YtdnocmpjclafdaaDoorBld
import Derived.Test.YtdnocmpjclafdaaDoorLexQt
import Derived.Test.YtdnocmpjclafdaaDoorLexS
import Derived.Test.YtdnocmpjclafdaaDoorDDig
import Derived.Test.YtdnocmpjclafdaaDoorDParse
import Derived.Test.YtdnocmpjclafdaaDoorLexF
import Derived.Test.YtdnocmpjclafdaaDoorRowB
import Derived.Test.YtdnocmpjclafdaaDoorMapK
import Derived.Test.YtdnocmpjclafdaaDoorLexC
import Derived.Test.YtdnocmpjclafdaaDoorLexI
import Derived.Test.YtdnocmpjclafdaaDoorLexL
import Derived.WalkSpells
import Derived.WalkLawsBesides
import Derived.StillTactics
import Derived.Laws.Pointers
import Derived.Deep.RegionHeld3
import Derived.Deep.QuietTactic
import Derived.BigQuiet
import Derived.RowKit3
import Derived.Lib.Hide
import Derived.Lib.OthersKept
import Derived.OwnWalk
import Derived.Lib.IndexLaws
import Derived.Lib.ItoaMem
import Derived.Lib.TrimByte
import Derived.Lib.SlTrimSet
import Derived.Lib.ParseIntB
import Derived.WalkKit
import Derived.ProofKit
import Derived.OpenShut
import Derived.Carry
import Derived.ChangeSame
import Derived.Deep.Draws
import Derived.Shelf.Strings.Builder1
import Derived.Shelf.Strings.Builder2
import Derived.Shelf.Strings.Trim
import Derived.Shelf.Small.Utf8
import Derived.Shelf.Small.Strs
import Derived.Shelf.Small.Wraps
import Derived.Shelf.Strings.BuilderF
import Derived.Shelf.Strings.BuilderK
import Derived.Shelf.Utf8.RuneCount
import Derived.Shelf.Strconv.Itoa0
import Derived.Shelf.Strconv.Itoa1
import Derived.Shelf.LaysM
import Derived.Shelf.Strconv.Itoa2
import Derived.Shelf.Strconv.Itoa3
import Derived.Ground.MpProg
import Derived.Shelf.Pu.ParseUintPublic10
import Derived.Shelf.Strings.Search1
import Derived.Shelf.Strings.Search2
import Derived.Shelf.Strings.Search3
import Derived.Shelf.Strings.Cut
import Derived.Shelf.Strings.Count
import Derived.Shelf.Strings.Shaped
import Derived.Shelf.Strings.Prefix
import Derived.Shelf.Strings.Split
import Derived.Shelf.Strings.Replace
import Derived.Shelf.Strings.SplitShaped
import Derived.Shelf.Unicode.Decode
import Derived.Shelf.Strings.Runes
import Derived.Shelf.Strings.RuneCount
import Derived.Shelf.Strings.AsciiSet
import Derived.Shelf.Unicode.DecodeSlow
import Derived.Shelf.Unicode.DecodeAny
import Derived.Shelf.Unicode.DecodeLast
import Derived.Lib.ItoaNum
import Derived.Shelf.Strings.SlTrimAscii
import Derived.Lib.SmallJoins
import Derived.Maps.OwnSet
import Derived.Maps.AppendAt
import Derived.RangeFuncBox
import Derived.RangeFuncNested
import Derived.RangeFuncLeaves
import Derived.Shelf.Abstract
import Derived.OwnWalkIn
import Derived.TacticsInMore
import Derived.LoopNIn
import Derived.LoopIn
import Derived.Maps.OwnIn
namespace Go.Proofs.YtdnocmpjclafdaaDoor
open Go.RowKit Go.Shelf

theorem known_toks : lexL [61, 65, 49, 43, 50, 46, 53] = [(tokCell 1 1).put 1, (tokS 7 [43]).put 3, (tokNum 25000).put 4, (tokK 0).put 7] := by kernel_rfl
/-- the cells of a row of tokens -/
theorem RdT.at {w : World} {B : Nat} {v : Value} {l : List Tok} (h : RdT w B v l) (h0 : 0 < l.length) : ∃ b o cap, v = .slice (some ⟨b, o, none⟩) l.length cap ∧ b < B ∧ ∀ k x, l[k]? = some x → ∀ j u, x.cs[j]? = some u → w.cell? ⟨b, o + k * 11 + j, none⟩ = some u := by
  obtain ⟨A, cap, rfl, h⟩ := h
  obtain ⟨x, hx⟩ : ∃ x, l[0]? = some x := ⟨_, List.getElem?_eq_getElem h0⟩
  obtain ⟨b, o, e, hb, _⟩ := h 0 x.cs (by rw [List.getElem?_map, hx]; rfl)
  subst e
  refine ⟨b, o, cap, rfl, hb, fun k y hy j u hu => ?_⟩
  obtain ⟨b', o', e', _, hc⟩ := h k y.cs (by rw [List.getElem?_map, hy]; rfl)
  injection e' with e'
  injection e' with e1 e2 _
  subst e1 e2
  exact hc j u hu
set_option maxHeartbeats 1000000 in
theorem known_any (w : World) : Calls Tryd.prog 10 #[] w fun e w' => e = .returned (.bool true) ∧ Below w.heap.size w w' := by
  have CA := all_any [61, 65, 49, 43, 50, 46, 53] (by simp) (-1) (.inl (by decide))
  rw [known_toks] at CA
  go_enter Tryd.func10, Tryd.ntmps10
  go_wp2_with fail
  refine (CA _).mono ?_
  rintro e w1 ⟨⟨v, rfl, hown⟩, hb1⟩
  obtain ⟨b, o, cap, rfl, hlt, hcell⟩ := (own_rdt hown).at (by simp)
  have k0 : w1.cell? ⟨b, o, none⟩ = some (.int .i64 4) := hcell 0 _ rfl 0 _ rfl
  have k1 : w1.cell? ⟨b, o + 4, none⟩ = some (.int .i64 1) := hcell 0 _ rfl 4 _ rfl
  have k2 : w1.cell? ⟨b, o + 5, none⟩ = some (.int .i64 1) := hcell 0 _ rfl 5 _ rfl
  have k3 : w1.cell? ⟨b, o + 14, none⟩ = some (.string ⟨#[43]⟩) := hcell 1 _ rfl 3 _ rfl
  have k4 : w1.cell? ⟨b, o + 24, none⟩ = some (.int .i64 25000) := hcell 2 _ rfl 2 _ rfl
  have k5 : w1.cell? ⟨b, o + 34, none⟩ = some (.int .i64 7) := hcell 3 _ rfl 1 _ rfl
  clear hcell hown CA
  go_wp2
  go_ret
  exact ⟨rfl, hb1⟩
/-- what holds of a text's tokens -/
structure TokLaws (l : List UInt8) (ts : List Tok) : Prop where
  ne : 0 < ts.length
  last : ∀ (k : Nat) (x : Tok), ts[k]? = some x → x.last = decide (k + 1 = ts.length)
  place : ∀ (k : Nat) (x : Tok), ts[k]? = some x → 0 ≤ x.place ∧ x.place ≤ l.length
  rise : ∀ (k : Nat) (x y : Tok), ts[k]? = some x → ts[k + 1]? = some y → x.place < y.place
  fin : ∀ (k : Nat) (x : Tok), ts[k]? = some x → x.kind = 0 → x.place = l.length
theorem laws_one (l : List UInt8) : TokLaws l [tokK 8] := by
  refine ⟨by simp, fun k x hx => ?_, fun k x hx => ?_, fun k x y hx hy => by simp at hy, fun k x hx hk => ?_⟩
  all_goals (cases k with | zero => (simp at hx; subst hx; first | rfl | (simp [tokK]; done) | (simp [tokK] at hk)) | succ k => simp at hx)
theorem lexL_laws (l : List UInt8) : TokLaws l (lexL l) := by
  cases l with
  | nil => exact laws_one _
  | cons b r =>
    by_cases h61 : b.toNat = 61
    · have e : lexL (b :: r) = toks (b :: r).length (r.length + 1) r := by simp [lexL, h61]
      rw [e]
      have hle : r.length ≤ (b :: r).length := by simp
      refine ⟨toks_ne _ _ _ (by omega), toks_last _ _ _ (by omega), fun k x hx => ?_, toks_rise _ _ _ hle, fun k x hx hk => toks_end _ _ _ hle k x hx hk⟩
      have := toks_in _ _ _ hle k x hx
      simp at this ⊢
      omega
    · rw [lexL_no (fun c hc => by simp at hc; subst hc; exact h61)]
      exact laws_one _
theorem last_no {x : Tok} (h : x.last = false) : (x.kind == 0) = false ∧ (x.kind == 8) = false := by
  simpa [Tok.last] using h
theorem last_yes {x : Tok} (h : x.last = true) : (x.kind == 0) = true ∨ ((x.kind == 0) = false ∧ (x.kind == 8) = true) := by
  by_cases h0 : x.kind = 0
  · exact .inl (by simp [h0])
  · exact .inr ⟨by simp [h0], by simpa [Tok.last, h0] using h⟩
set_option maxRecDepth 100000 in
set_option maxHeartbeats 4000000 in
theorem walk_LexPlaces (l : List UInt8) (hl : l.length ≤ 1048576) (w : World) : Calls Tryd.prog 3 #[.string ⟨l.toArray⟩] w fun e w' => e = .returned (.bool true) ∧ Below w.heap.size w w' := by
  have H := lexL_laws l
  have CA := all_any l (by omega) (-1) (.inl (by decide))
  have hNl := lexL_len l
  generalize lexL l = ts at H CA hNl
  go_enter Tryd.func3, Tryd.ntmps3
  go_wp2_with fail
  refine (CA _).mono ?_
  rintro e w1 ⟨⟨v, rfl, hown⟩, hb1⟩
  obtain ⟨b, o, cap, rfl, hlt, hcell⟩ := (own_rdt hown).at H.ne
  clear hown CA
  obtain ⟨N, hN⟩ : ∃ N, ts.length = N := ⟨_, rfl⟩
  have hN0 : 0 < N := by have := H.ne; omega
  have hNi : ((N : Int) == 0) = false := by simp; omega
  rw [hN] at hNl
  have hw1 : IntKind.i64.wrap ((N : Int) - 1) = (N : Int) - 1 := IntWalk.i64_in _ (by omega)
  rw [hN]
  go_wp2_with fail
  refine (known_any _).mono ?_
  rintro e w2 ⟨rfl, hb2⟩
  have hcell2 : Hid (∀ (k : Nat) (x : Tok), ts[k]? = some x → ∀ (j : Nat) (u : Value), x.cs[j]? = some u → w2.cell? ⟨b, o + k * 11 + j, none⟩ = some u) := Lib.hid fun k x hx j u hu => (hb2.cell (p := ⟨b, _, none⟩) hlt).trans (hcell k x hx j u hu)
  have hlt2 : b < w2.heap.size := Nat.lt_of_lt_of_le hlt hb2.size
  have hb12 : Below w.heap.size w w2 := hb1.trans (hb2.mono hb1.size)
  have hHid := Lib.hid H
  clear hcell hb1 hb2 H
  go_wp2
  go_loopw [4] (fun i wr => ∃ k : Nat, k ≤ N ∧ i = .int .i64 (k : Int) ∧ Below w2.heap.size w2 wr) (fun i _ => N - (intOf i).toNat)
  case atStart => exact ⟨0, by omega, rfl, Below.refl _ _⟩
  case round =>
    obtain ⟨k, hk, rfl, hbr⟩ := hrel
    have hzr := hbr.size
    by_cases hlt3 : k < N
    · obtain ⟨x, hx⟩ : ∃ x, ts[k]? = some x := ⟨_, List.getElem?_eq_getElem (by omega)⟩
      have c0 : wr.cell? ⟨b, o + k * 11, none⟩ = some (.int .i64 x.kind) := (hbr.cell (p := ⟨b, _, none⟩) hlt2).trans (hcell2.out k x hx 0 _ rfl)
      have c1 : wr.cell? ⟨b, o + k * 11 + 1, none⟩ = some (.int .i64 x.place) := (hbr.cell (p := ⟨b, _, none⟩) hlt2).trans (hcell2.out k x hx 1 _ rfl)
      obtain ⟨hp1, hp2⟩ := hHid.out.place k x hx
      have hlast := hHid.out.last k x hx
      rw [hN] at hlast
      have p1 : decide (x.place < 0) = false := by simp; omega
      have p2 : decide (x.place > (l.length : Int)) = false := by simp; omega
      have p3 : decide ((l.length : Int) < x.place) = false := by simp; omega
      have hkl : (k : Int) < (N : Int) := by omega
      have hw2 : IntKind.i64.wrap ((k : Int) - 1) = (k : Int) - 1 := IntWalk.i64_in _ (by omega)
      rcases hla : x.last
      · have hkN : k + 1 ≠ N := by rw [hla] at hlast; simpa using hlast.symm
        clear hlast
        by_cases hk0 : k = 0
        · obtain ⟨e0, e8⟩ := last_no hla
          have hz : ((k : Int) == ((N : Int) - 1)) = false := by simp; omega
          clear hkN
          have hg : decide ((k : Int) > 0) = false := by simp; omega
          have hg1 : decide (0 < k) = false := by simp; omega
          have hg2 : ¬ (0 : Int) < (k : Int) := by omega
          clear hk0
          clear hx
          go_wp2
          go_quiet (fail)
          have hbq : Below w2.heap.size w2 (wr.drewN nq) := below_drewN hbr _
          go_wp2
          go_roundw
          case rel => exact ⟨k + 1, by omega, by go_num, by first | assumption | exact hbq⟩
          case measure => simp [intOf]; omega
        · obtain ⟨e0, e8⟩ := last_no hla
          have hz : ((k : Int) == ((N : Int) - 1)) = false := by simp; omega
          clear hkN
          have hg : decide ((k : Int) > 0) = true := by simp; omega
          have hg1 : decide (0 < k) = true := by simp; omega
          have hg2 : (0 : Int) < (k : Int) := by omega
          obtain ⟨y, hy⟩ : ∃ y, ts[k - 1]? = some y := ⟨_, List.getElem?_eq_getElem (by omega)⟩
          have cp : wr.cell? ⟨b, o + (k - 1) * 11 + 1, none⟩ = some (.int .i64 y.place) := (hbr.cell (p := ⟨b, _, none⟩) hlt2).trans (hcell2.out (k - 1) y hy 1 _ rfl)
          have hyx := hHid.out.rise (k - 1) y x hy (by rw [show k - 1 + 1 = k by omega]; exact hx)
          have hpp : decide (x.place ≤ y.place) = false := by simp; omega
          have hkm : ((k : Int) - 1).toNat = k - 1 := by omega
          clear hy
          clear hx
          go_wp2
          go_quiet (fail)
          have hbq : Below w2.heap.size w2 (wr.drewN nq) := below_drewN hbr _
          go_wp2
          go_roundw
          case rel => exact ⟨k + 1, by omega, by go_num, by first | assumption | exact hbq⟩
          case measure => simp [intOf]; omega
      · have hkN : k + 1 = N := by rw [hla] at hlast; simpa using hlast.symm
        clear hlast
        by_cases hk0 : k = 0
        · rcases last_yes hla with e0 | ⟨e0, e8⟩
          · have hz : ((k : Int) == ((N : Int) - 1)) = true := by simp; omega
            clear hkN
            have hg : decide ((k : Int) > 0) = false := by simp; omega
            have hg1 : decide (0 < k) = false := by simp; omega
            have hg2 : ¬ (0 : Int) < (k : Int) := by omega
            clear hk0
            clear hx
            go_wp2
            go_quiet (fail)
            have hbq : Below w2.heap.size w2 (wr.drewN nq) := below_drewN hbr _
            go_wp2
            go_roundw
            case rel => exact ⟨k + 1, by omega, by go_num, by first | assumption | exact hbq⟩
            case measure => simp [intOf]; omega
          · have hz : ((k : Int) == ((N : Int) - 1)) = true := by simp; omega
            clear hkN
            have hg : decide ((k : Int) > 0) = false := by simp; omega
            have hg1 : decide (0 < k) = false := by simp; omega
            have hg2 : ¬ (0 : Int) < (k : Int) := by omega
            clear hk0
            clear hx
            go_wp2
            go_quiet (fail)
            have hbq : Below w2.heap.size w2 (wr.drewN nq) := below_drewN hbr _
            go_wp2
            go_roundw
            case rel => exact ⟨k + 1, by omega, by go_num, by first | assumption | exact hbq⟩
            case measure => simp [intOf]; omega
        · rcases last_yes hla with e0 | ⟨e0, e8⟩
          · have hz : ((k : Int) == ((N : Int) - 1)) = true := by simp; omega
            clear hkN
            have hg : decide ((k : Int) > 0) = true := by simp; omega
            have hg1 : decide (0 < k) = true := by simp; omega
            have hg2 : (0 : Int) < (k : Int) := by omega
            obtain ⟨y, hy⟩ : ∃ y, ts[k - 1]? = some y := ⟨_, List.getElem?_eq_getElem (by omega)⟩
            have cp : wr.cell? ⟨b, o + (k - 1) * 11 + 1, none⟩ = some (.int .i64 y.place) := (hbr.cell (p := ⟨b, _, none⟩) hlt2).trans (hcell2.out (k - 1) y hy 1 _ rfl)
            have hyx := hHid.out.rise (k - 1) y x hy (by rw [show k - 1 + 1 = k by omega]; exact hx)
            have hpp : decide (x.place ≤ y.place) = false := by simp; omega
            have hkm : ((k : Int) - 1).toNat = k - 1 := by omega
            clear hy
            clear hx
            go_wp2
            go_quiet (fail)
            have hbq : Below w2.heap.size w2 (wr.drewN nq) := below_drewN hbr _
            go_wp2
            go_roundw
            case rel => exact ⟨k + 1, by omega, by go_num, by first | assumption | exact hbq⟩
            case measure => simp [intOf]; omega
          · have hz : ((k : Int) == ((N : Int) - 1)) = true := by simp; omega
            clear hkN
            have hg : decide ((k : Int) > 0) = true := by simp; omega
            have hg1 : decide (0 < k) = true := by simp; omega
            have hg2 : (0 : Int) < (k : Int) := by omega
            obtain ⟨y, hy⟩ : ∃ y, ts[k - 1]? = some y := ⟨_, List.getElem?_eq_getElem (by omega)⟩
            have cp : wr.cell? ⟨b, o + (k - 1) * 11 + 1, none⟩ = some (.int .i64 y.place) := (hbr.cell (p := ⟨b, _, none⟩) hlt2).trans (hcell2.out (k - 1) y hy 1 _ rfl)
            have hyx := hHid.out.rise (k - 1) y x hy (by rw [show k - 1 + 1 = k by omega]; exact hx)
            have hpp : decide (x.place ≤ y.place) = false := by simp; omega
            have hkm : ((k : Int) - 1).toNat = k - 1 := by omega
            clear hy
            clear hx
            go_wp2
            go_quiet (fail)
            have hbq : Below w2.heap.size w2 (wr.drewN nq) := below_drewN hbr _
            go_wp2
            go_roundw
            case rel => exact ⟨k + 1, by omega, by go_num, by first | assumption | exact hbq⟩
            case measure => simp [intOf]; omega
    · obtain rfl : k = N := by omega
      obtain ⟨x, hx⟩ : ∃ x, ts[k - 1]? = some x := ⟨_, List.getElem?_eq_getElem (by omega)⟩
      have c0 : wr.cell? ⟨b, o + (k - 1) * 11, none⟩ = some (.int .i64 x.kind) := (hbr.cell (p := ⟨b, _, none⟩) hlt2).trans (hcell2.out (k - 1) x hx 0 _ rfl)
      have c1 : wr.cell? ⟨b, o + (k - 1) * 11 + 1, none⟩ = some (.int .i64 x.place) := (hbr.cell (p := ⟨b, _, none⟩) hlt2).trans (hcell2.out (k - 1) x hx 1 _ rfl)
      have c2 : wr.cell? ⟨b, o + (k - 1) * 11 + 2, none⟩ = some (.int .i64 x.num) := (hbr.cell (p := ⟨b, _, none⟩) hlt2).trans (hcell2.out (k - 1) x hx 2 _ rfl)
      have c3 : wr.cell? ⟨b, o + (k - 1) * 11 + 3, none⟩ = some (.string x.str) := (hbr.cell (p := ⟨b, _, none⟩) hlt2).trans (hcell2.out (k - 1) x hx 3 _ rfl)
      have c4 : wr.cell? ⟨b, o + (k - 1) * 11 + 4, none⟩ = some (.int .i64 x.r) := (hbr.cell (p := ⟨b, _, none⟩) hlt2).trans (hcell2.out (k - 1) x hx 4 _ rfl)
      have c5 : wr.cell? ⟨b, o + (k - 1) * 11 + 5, none⟩ = some (.int .i64 x.c) := (hbr.cell (p := ⟨b, _, none⟩) hlt2).trans (hcell2.out (k - 1) x hx 5 _ rfl)
      have c6 : wr.cell? ⟨b, o + (k - 1) * 11 + 6, none⟩ = some (.int .i64 x.t) := (hbr.cell (p := ⟨b, _, none⟩) hlt2).trans (hcell2.out (k - 1) x hx 6 _ rfl)
      have c7 : wr.cell? ⟨b, o + (k - 1) * 11 + 7, none⟩ = some (.int .i64 x.l) := (hbr.cell (p := ⟨b, _, none⟩) hlt2).trans (hcell2.out (k - 1) x hx 7 _ rfl)
      have c8 : wr.cell? ⟨b, o + (k - 1) * 11 + 8, none⟩ = some (.int .i64 x.b) := (hbr.cell (p := ⟨b, _, none⟩) hlt2).trans (hcell2.out (k - 1) x hx 8 _ rfl)
      have c9 : wr.cell? ⟨b, o + (k - 1) * 11 + 9, none⟩ = some (.int .i64 x.q) := (hbr.cell (p := ⟨b, _, none⟩) hlt2).trans (hcell2.out (k - 1) x hx 9 _ rfl)
      have c10 : wr.cell? ⟨b, o + (k - 1) * 11 + 10, none⟩ = some (.int .i64 x.code) := (hbr.cell (p := ⟨b, _, none⟩) hlt2).trans (hcell2.out (k - 1) x hx 10 _ rfl)
      have hla : x.last = true := by rw [hHid.out.last (k - 1) x hx, hN]; simp; omega
      have hfin := hHid.out.fin (k - 1) x hx
      have hkm : ((k : Int) - 1).toNat = k - 1 := by omega
      have hkr : (k : Int) - 1 < (k : Int) := by omega
      have hkr2 : (0 : Int) ≤ (k : Int) - 1 := by omega
      have hq1 : Below w.heap.size w wr := hb12.trans (hbr.mono hb12.size)
      clear hx
      rcases last_yes hla with e0 | ⟨e0, e8⟩
      · have hpl : (x.place == (l.length : Int)) = true := by have := hfin (by simpa using e0); simp [this]
        have e8 : (x.kind == 8) = false := by have : x.kind = 0 := by simpa using e0
                                              simp [this]
        clear hfin hla
        go_wp2
        go_ret
        exact ⟨rfl, hq1.alloc hq1.size _⟩
      · clear hfin hla
        go_wp2
        go_ret
        exact ⟨rfl, hq1.alloc hq1.size _⟩
end Go.Proofs.YtdnocmpjclafdaaDoor
