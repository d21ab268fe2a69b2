/-
  oriellaw04: LexAlone.
-/
import Derived.Test.YtdnocmpjclafdaaDoorNumL
import Derived.Test.YtdnocmpjclafdaaDoorRows
import Derived.Test.YtdnocmpjclafdaaDoorBase
import Derived.Test.YtdnocmpjclafdaaDoorProg
import Derived.Test.YtdnocmpjclafdaaDoorShelf
import Derived.Test.YtdnocmpjclafdaaDoorCutW
import Derived.Test.YtdnocmpjclafdaaDoorAddrC
import Derived.Test.YtdnocmpjclafdaaDoorNames
import Derived.Test.YtdnocmpjclafdaaDoorParseW
import Derived.Test.YtdnocmpjclafdaaDoorPRect
import Derived.Test.YtdnocmpjclafdaaDoorDecA
import Derived.Test.YtdnocmpjclafdaaDoorValA
import Derived.Test.YtdnocmpjclafdaaDoorValB
import Derived.Test.YtdnocmpjclafdaaDoorValD
import Derived.Test.YtdnocmpjclafdaaDoorLexP
import Derived.Test.YtdnocmpjclafdaaDoorLexW
import Derived.Test.YtdnocmpjclafdaaDoorRefName
import Derived.Test.YtdnocmpjclafdaaDoorLexR
import Derived.Test.YtdnocmpjclafdaaDoorLexWd
import Derived.Test.YtdnocmpjclafdaaDoorLexSg
import Derived.Test.YtdnocmpjclafdaaDoorBld
import Derived.Test.YtdnocmpjclafdaaDoorLexQt
import Derived.Test.YtdnocmpjclafdaaDoorLexS
import Derived.Test.YtdnocmpjclafdaaDoorDDig
import Derived.Test.YtdnocmpjclafdaaDoorDParse
import Derived.Test.YtdnocmpjclafdaaDoorLexF
import Derived.Test.YtdnocmpjclafdaaDoorRowB
import Derived.Test.YtdnocmpjclafdaaDoorMapK
import Derived.Test.YtdnocmpjclafdaaDoorLexC
import Derived.Test.YtdnocmpjclafdaaDoorLexI
import Derived.Test.YtdnocmpjclafdaaDoorLexL
import Derived.Test.YtdnocmpjclafdaaDoorLexT
import Derived.WalkSpells
import Derived.WalkLawsBesides
import Derived.StillTactics
import Derived.Laws.Pointers
import Derived.Deep.RegionHeld3
import Derived.Deep.QuietTactic
import Derived.BigQuiet
import Derived.RowKit3
import Derived.Lib.Hide
import Derived.Lib.OthersKept
import Derived.OwnWalk
import Derived.Lib.IndexLaws
import Derived.Lib.ItoaMem
import Derived.Lib.TrimByte
import Derived.Lib.SlTrimSet
import Derived.Lib.ParseIntB
import Derived.WalkKit
import Derived.ProofKit
import Derived.OpenShut
import Derived.Carry
import Derived.ChangeSame
import Derived.Deep.Draws
import Derived.Shelf.Strings.Builder1
import Derived.Shelf.Strings.Builder2
import Derived.Shelf.Strings.Trim
import Derived.Shelf.Small.Utf8
import Derived.Shelf.Small.Strs
import Derived.Shelf.Small.Wraps
import Derived.Shelf.Strings.BuilderF
import Derived.Shelf.Strings.BuilderK
import Derived.Shelf.Utf8.RuneCount
import Derived.Shelf.Strconv.Itoa0
import Derived.Shelf.Strconv.Itoa1
import Derived.Shelf.LaysM
import Derived.Shelf.Strconv.Itoa2
import Derived.Shelf.Strconv.Itoa3
import Derived.Ground.MpProg
import Derived.Shelf.Pu.ParseUintPublic10
import Derived.Shelf.Strings.Search1
import Derived.Shelf.Strings.Search2
import Derived.Shelf.Strings.Search3
import Derived.Shelf.Strings.Cut
import Derived.Shelf.Strings.Count
import Derived.Shelf.Strings.Shaped
import Derived.Shelf.Strings.Prefix
import Derived.Shelf.Strings.Split
import Derived.Shelf.Strings.Replace
import Derived.Shelf.Strings.SplitShaped
import Derived.Shelf.Unicode.Decode
import Derived.Shelf.Strings.Runes
import Derived.Shelf.Strings.RuneCount
import Derived.Shelf.Strings.AsciiSet
import Derived.Shelf.Unicode.DecodeSlow
import Derived.Shelf.Unicode.DecodeAny
import Derived.Shelf.Unicode.DecodeLast
import Derived.Lib.ItoaNum
import Derived.Shelf.Strings.SlTrimAscii
import Derived.Lib.SmallJoins
import Derived.Maps.OwnSet
import Derived.Maps.AppendAt
import Derived.RangeFuncBox
import Derived.RangeFuncNested
import Derived.RangeFuncLeaves
import Derived.Shelf.Abstract
import Derived.OwnWalkIn
import Derived.TacticsInMore
import Derived.LoopNIn
import Derived.LoopIn
import Derived.Maps.OwnIn
namespace Go.Proofs.YtdnocmpjclafdaaDoor
open Go.RowKit

theorem alone_law (l : List UInt8) (k : Nat) (x y : Tok) (hx : (lexL l)[k]? = some x) (hy : (lexL l)[k + 1]? = some y) : ∃ fr d : Nat, x.place = (fr : Int) ∧ y.place = ((fr + d : Nat) : Int) ∧ fr + d ≤ l.length ∧
    lexL (61 :: (l.drop fr).take d) = [x.put 1, (tokK 0).put ((d : Int) + 1)] := by
  have no : lexL l = [tokK 8] → False := fun h => by rw [h] at hy; simp at hy
  cases l with
  | nil => exact (no rfl).elim
  | cons b r =>
    by_cases h61 : b.toNat = 61
    · have e : lexL (b :: r) = toks (b :: r).length (r.length + 1) r := by simp [lexL, h61]
      rw [e] at hx hy
      have hle : r.length ≤ (b :: r).length := by simp
      have h1 := toks_in _ _ _ hle k x hx
      have h2 := toks_in _ _ _ hle (k + 1) y hy
      have h3 := toks_rise _ _ _ hle k x y hx hy
      simp at h1 h2
      obtain ⟨o, ho⟩ : ∃ o : Nat, x.place = (o : Int) + 1 := ⟨(x.place - 1).toNat, by omega⟩
      obtain ⟨d, hd⟩ : ∃ d : Nat, y.place = ((o + d : Nat) : Int) + 1 := ⟨(y.place - x.place).toNat, by omega⟩
      have ha := toks_alone (b :: r).length (r.length + 1) r (by omega) hle k x y o (o + d) hx hy (by simp; omega) (by simp; omega)
      rw [show o + d - o = d by omega] at ha
      refine ⟨o + 1, d, by omega, by omega, by simp; omega, ?_⟩
      have hs : (((b :: r).drop (o + 1)).take d).length = d := by
        rw [List.drop_succ_cons, List.length_take, List.length_drop]; omega
      rw [List.drop_succ_cons] at hs ⊢
      have : lexL (61 :: (r.drop o).take d) = toks (d + 1) (d + 1) ((r.drop o).take d) := by
        simp only [lexL]
        rw [if_pos (by decide), List.length_cons, hs]
      rw [this, ha]
    · exact (no (lexL_no (fun c hc => by simp at hc; subst hc; exact h61))).elim
set_option maxRecDepth 100000 in
set_option maxHeartbeats 4000000 in
theorem walk_LexAlone (l : List UInt8) (hl : l.length ≤ 1048576) (w : World) : Calls Tryd.prog 5 #[.string ⟨l.toArray⟩] w fun e w' => e = .returned (.bool true) ∧ Below w.heap.size w w' := by
  have HA := Lib.hid (alone_law l)
  have H := lexL_laws l
  have CA := all_any l (by omega) (-1) (.inl (by decide))
  have hNl := lexL_len l
  generalize lexL l = ts at H CA hNl HA
  go_enter Tryd.func5, Tryd.ntmps5
  go_wp2_with fail
  refine (CA _).mono ?_
  rintro e w1 ⟨⟨v, rfl, hown⟩, hb1⟩
  obtain ⟨b, o, cap, rfl, hlt, hcell⟩ := (own_rdt hown).at H.ne
  clear hown CA
  obtain ⟨N, hN⟩ : ∃ N, ts.length = N := ⟨_, rfl⟩
  have hN0 : 0 < N := by have := H.ne; omega
  have hNi : ((N : Int) == 0) = false := by simp; omega
  rw [hN] at hNl
  have hw1 : IntKind.i64.wrap ((N : Int) - 1) = (N : Int) - 1 := IntWalk.i64_in _ (by omega)
  rw [hN]
  go_wp2_with fail
  refine (known_any _).mono ?_
  rintro e w2 ⟨rfl, hb2⟩
  have hcell2 : Hid (∀ (k : Nat) (x : Tok), ts[k]? = some x → ∀ (j : Nat) (u : Value), x.cs[j]? = some u → w2.cell? ⟨b, o + k * 11 + j, none⟩ = some u) := Lib.hid fun k x hx j u hu => (hb2.cell (p := ⟨b, _, none⟩) hlt).trans (hcell k x hx j u hu)
  have hlt2 : b < w2.heap.size := Nat.lt_of_lt_of_le hlt hb2.size
  have hb12 : Below w.heap.size w w2 := hb1.trans (hb2.mono hb1.size)
  have hHid := Lib.hid H
  clear hcell hb1 hb2 H
  go_wp2
  go_loopw [4] (fun i wr => ∃ k : Nat, k ≤ N ∧ i = .int .i64 (k : Int) ∧ Below w2.heap.size w2 wr) (fun i _ => N - (intOf i).toNat)
  case atStart => exact ⟨0, by omega, rfl, Below.refl _ _⟩
  case round =>
    obtain ⟨k, hk, rfl, hbr⟩ := hrel
    have hzr := hbr.size
    by_cases hlt3 : k + 1 < N
    · obtain ⟨x, hx⟩ : ∃ x, ts[k]? = some x := ⟨_, List.getElem?_eq_getElem (by omega)⟩
      obtain ⟨y, hy⟩ : ∃ y, ts[k + 1]? = some y := ⟨_, List.getElem?_eq_getElem (by omega)⟩
      obtain ⟨fr, d, hfr, hto, hle, hlex⟩ := HA.out k x y hx hy
      have c1 : wr.cell? ⟨b, o + k * 11 + 1, none⟩ = some (.int .i64 (fr : Int)) := by rw [← hfr]; exact (hbr.cell (p := ⟨b, _, none⟩) hlt2).trans (hcell2.out k x hx 1 _ rfl)
      have cy : wr.cell? ⟨b, o + (k + 1) * 11 + 1, none⟩ = some (.int .i64 ((fr + d : Nat) : Int)) := by rw [← hto]; exact (hbr.cell (p := ⟨b, _, none⟩) hlt2).trans (hcell2.out (k + 1) y hy 1 _ rfl)
      have hkl : (k : Int) < (N : Int) := by omega
      have hkl1 : (k : Int) + 1 < (N : Int) := by omega
      have hk1 : ((k : Int) + 1).toNat = k + 1 := by omega
      have hs1 : ((l.drop fr).take d).length ≤ 1048576 := by rw [List.length_take, List.length_drop]; omega
      have hex := ext_mid l ((l.drop fr).take d) fr d rfl
      have CA2 := all_any (61 :: (l.drop fr).take d) (by rw [List.length_cons]; omega) 3 (.inr (by rw [hlex]; simp))
      rw [hlex] at CA2
      generalize (l.drop fr).take d = sg at *
      have happ := bytes_append [61] sg
      have hsz : sg.length + 1 ≤ 9223372036854775807 := by omega
      clear hto hlex hy
      go_wp2_with fail
      try rw [hex]
      try rw [show (⟨#[61]⟩ : ByteArray) ++ ⟨sg.toArray⟩ = ⟨(61 :: sg).toArray⟩ from happ]
      refine (CA2 _).mono ?_
      rintro e w3 ⟨⟨v2, rfl, hown2⟩, hb3⟩
      obtain ⟨b2, o2, cap2, rfl, hltm, hcm⟩ := (own_rdt hown2).at (by simp)
      have hbr3 : Below w2.heap.size w2 w3 := hbr.trans (hb3.mono hzr)
      have hz3 := hb3.size
      have m0 : w3.cell? ⟨b2, o2, none⟩ = some (.int .i64 x.kind) := hcm 0 _ rfl 0 _ rfl
      have m1 : w3.cell? ⟨b2, o2 + 1, none⟩ = some (.int .i64 1) := hcm 0 _ rfl 1 _ rfl
      have m2 : w3.cell? ⟨b2, o2 + 2, none⟩ = some (.int .i64 x.num) := hcm 0 _ rfl 2 _ rfl
      have m3 : w3.cell? ⟨b2, o2 + 3, none⟩ = some (.string x.str) := hcm 0 _ rfl 3 _ rfl
      have m4 : w3.cell? ⟨b2, o2 + 4, none⟩ = some (.int .i64 x.r) := hcm 0 _ rfl 4 _ rfl
      have m5 : w3.cell? ⟨b2, o2 + 5, none⟩ = some (.int .i64 x.c) := hcm 0 _ rfl 5 _ rfl
      have m6 : w3.cell? ⟨b2, o2 + 6, none⟩ = some (.int .i64 x.t) := hcm 0 _ rfl 6 _ rfl
      have m7 : w3.cell? ⟨b2, o2 + 7, none⟩ = some (.int .i64 x.l) := hcm 0 _ rfl 7 _ rfl
      have m8 : w3.cell? ⟨b2, o2 + 8, none⟩ = some (.int .i64 x.b) := hcm 0 _ rfl 8 _ rfl
      have m9 : w3.cell? ⟨b2, o2 + 9, none⟩ = some (.int .i64 x.q) := hcm 0 _ rfl 9 _ rfl
      have m10 : w3.cell? ⟨b2, o2 + 10, none⟩ = some (.int .i64 x.code) := hcm 0 _ rfl 10 _ rfl
      have mk : w3.cell? ⟨b2, o2 + 11, none⟩ = some (.int .i64 0) := hcm 1 _ rfl 0 _ rfl
      have x0 : w3.cell? ⟨b, o + k * 11, none⟩ = some (.int .i64 x.kind) := (hbr3.cell (p := ⟨b, _, none⟩) hlt2).trans (hcell2.out k x hx 0 _ rfl)
      have x1 : w3.cell? ⟨b, o + k * 11 + 1, none⟩ = some (.int .i64 (fr : Int)) := by rw [← hfr]; exact (hbr3.cell (p := ⟨b, _, none⟩) hlt2).trans (hcell2.out k x hx 1 _ rfl)
      have x2 : w3.cell? ⟨b, o + k * 11 + 2, none⟩ = some (.int .i64 x.num) := (hbr3.cell (p := ⟨b, _, none⟩) hlt2).trans (hcell2.out k x hx 2 _ rfl)
      have x3 : w3.cell? ⟨b, o + k * 11 + 3, none⟩ = some (.string x.str) := (hbr3.cell (p := ⟨b, _, none⟩) hlt2).trans (hcell2.out k x hx 3 _ rfl)
      have x4 : w3.cell? ⟨b, o + k * 11 + 4, none⟩ = some (.int .i64 x.r) := (hbr3.cell (p := ⟨b, _, none⟩) hlt2).trans (hcell2.out k x hx 4 _ rfl)
      have x5 : w3.cell? ⟨b, o + k * 11 + 5, none⟩ = some (.int .i64 x.c) := (hbr3.cell (p := ⟨b, _, none⟩) hlt2).trans (hcell2.out k x hx 5 _ rfl)
      have x6 : w3.cell? ⟨b, o + k * 11 + 6, none⟩ = some (.int .i64 x.t) := (hbr3.cell (p := ⟨b, _, none⟩) hlt2).trans (hcell2.out k x hx 6 _ rfl)
      have x7 : w3.cell? ⟨b, o + k * 11 + 7, none⟩ = some (.int .i64 x.l) := (hbr3.cell (p := ⟨b, _, none⟩) hlt2).trans (hcell2.out k x hx 7 _ rfl)
      have x8 : w3.cell? ⟨b, o + k * 11 + 8, none⟩ = some (.int .i64 x.b) := (hbr3.cell (p := ⟨b, _, none⟩) hlt2).trans (hcell2.out k x hx 8 _ rfl)
      have x9 : w3.cell? ⟨b, o + k * 11 + 9, none⟩ = some (.int .i64 x.q) := (hbr3.cell (p := ⟨b, _, none⟩) hlt2).trans (hcell2.out k x hx 9 _ rfl)
      have x10 : w3.cell? ⟨b, o + k * 11 + 10, none⟩ = some (.int .i64 x.code) := (hbr3.cell (p := ⟨b, _, none⟩) hlt2).trans (hcell2.out k x hx 10 _ rfl)
      have hne2 : b2 ≠ w3.heap.size := by omega
      have hnb : b ≠ w3.heap.size := by omega
      clear hcm hown2 CA2 hx hfr c1 cy
      go_wp2
      go_quiet (fail)
      go_wp2
      go_roundw
      case rel => exact ⟨k + 1, by omega, by go_num, by first | assumption | exact below_drewN ((hbr3.alloc (by omega) _).setCell (p := ⟨w3.heap.size, 1, none⟩) (by dsimp only; omega) _) _ | exact below_drewN (hbr3.alloc (by omega) _) _⟩
      case measure => simp [intOf]; omega
    · have hkn : ¬ (k : Int) + 1 < (N : Int) := by omega
      have hq1 : Below w.heap.size w wr := hb12.trans (hbr.mono hb12.size)
      go_wp2
      go_ret
      exact ⟨rfl, hq1⟩
end Go.Proofs.YtdnocmpjclafdaaDoor
