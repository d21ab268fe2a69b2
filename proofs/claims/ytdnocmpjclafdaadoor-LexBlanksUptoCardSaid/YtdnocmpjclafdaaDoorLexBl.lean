/-
  oriellaw04: LexBlanks.
-/
import Derived.Test.YtdnocmpjclafdaaDoorNumL
import Derived.Test.YtdnocmpjclafdaaDoorRows
import Derived.Test.YtdnocmpjclafdaaDoorBase
import Derived.Test.YtdnocmpjclafdaaDoorProg
import Derived.Test.YtdnocmpjclafdaaDoorShelf
import Derived.Test.YtdnocmpjclafdaaDoorCutW
import Derived.Test.YtdnocmpjclafdaaDoorAddrC
import Derived.Test.YtdnocmpjclafdaaDoorNames
import Derived.Test.YtdnocmpjclafdaaDoorParseW
import Derived.Test.YtdnocmpjclafdaaDoorPRect
import Derived.Test.YtdnocmpjclafdaaDoorDecA
import Derived.Test.YtdnocmpjclafdaaDoorValA
import Derived.Test.YtdnocmpjclafdaaDoorValB
import Derived.Test.YtdnocmpjclafdaaDoorValD
import Derived.Test.YtdnocmpjclafdaaDoorLexP
import Derived.Test.YtdnocmpjclafdaaDoorLexW
import Derived.Test.YtdnocmpjclafdaaDoorRefName
import Derived.Test.YtdnocmpjclafdaaDoorLexR
import Derived.Test.YtdnocmpjclafdaaDoorLexWd
import Derived.Test.YtdnocmpjclafdaaDoorLexSg
import Derived.Test.YtdnocmpjclafdaaDoorBld
import Derived.Test.YtdnocmpjclafdaaDoorLexQt
import Derived.Test.YtdnocmpjclafdaaDoorLexS
import Derived.Test.YtdnocmpjclafdaaDoorDDig
import Derived.Test.YtdnocmpjclafdaaDoorDParse
import Derived.Test.YtdnocmpjclafdaaDoorLexF
import Derived.Test.YtdnocmpjclafdaaDoorRowB
import Derived.Test.YtdnocmpjclafdaaDoorMapK
import Derived.Test.YtdnocmpjclafdaaDoorLexC
import Derived.Test.YtdnocmpjclafdaaDoorLexI
import Derived.Test.YtdnocmpjclafdaaDoorLexL
import Derived.Test.YtdnocmpjclafdaaDoorLexT
import Derived.Test.YtdnocmpjclafdaaDoorLexSm
import Derived.WalkSpells
import Derived.WalkLawsBesides
import Derived.StillTactics
import Derived.Laws.Pointers
import Derived.Deep.RegionHeld3
import Derived.Deep.QuietTactic
import Derived.BigQuiet
import Derived.RowKit3
import Derived.Lib.Hide
import Derived.Lib.OthersKept
import Derived.OwnWalk
import Derived.Lib.IndexLaws
import Derived.Lib.ItoaMem
import Derived.Lib.TrimByte
import Derived.Lib.SlTrimSet
import Derived.Lib.ParseIntB
import Derived.WalkKit
import Derived.ProofKit
import Derived.OpenShut
import Derived.Carry
import Derived.ChangeSame
import Derived.Deep.Draws
import Derived.Shelf.Strings.Builder1
import Derived.Shelf.Strings.Builder2
import Derived.Shelf.Strings.Trim
import Derived.Shelf.Small.Utf8
import Derived.Shelf.Small.Strs
import Derived.Shelf.Small.Wraps
import Derived.Shelf.Strings.BuilderF
import Derived.Shelf.Strings.BuilderK
import Derived.Shelf.Utf8.RuneCount
import Derived.Shelf.Strconv.Itoa0
import Derived.Shelf.Strconv.Itoa1
import Derived.Shelf.LaysM
import Derived.Shelf.Strconv.Itoa2
import Derived.Shelf.Strconv.Itoa3
import Derived.Ground.MpProg
import Derived.Shelf.Pu.ParseUintPublic10
import Derived.Shelf.Strings.Search1
import Derived.Shelf.Strings.Search2
import Derived.Shelf.Strings.Search3
import Derived.Shelf.Strings.Cut
import Derived.Shelf.Strings.Count
import Derived.Shelf.Strings.Shaped
import Derived.Shelf.Strings.Prefix
import Derived.Shelf.Strings.Split
import Derived.Shelf.Strings.Replace
import Derived.Shelf.Strings.SplitShaped
import Derived.Shelf.Unicode.Decode
import Derived.Shelf.Strings.Runes
import Derived.Shelf.Strings.RuneCount
import Derived.Shelf.Strings.AsciiSet
import Derived.Shelf.Unicode.DecodeSlow
import Derived.Shelf.Unicode.DecodeAny
import Derived.Shelf.Unicode.DecodeLast
import Derived.Lib.ItoaNum
import Derived.Shelf.Strings.SlTrimAscii
import Derived.Lib.SmallJoins
import Derived.Maps.OwnSet
import Derived.Maps.AppendAt
import Derived.RangeFuncBox
import Derived.RangeFuncNested
import Derived.RangeFuncLeaves
import Derived.Shelf.Abstract
import Derived.OwnWalkIn
import Derived.TacticsInMore
import Derived.LoopNIn
import Derived.LoopIn
import Derived.Maps.OwnIn
namespace Go.Proofs.YtdnocmpjclafdaaDoor
open Go.RowKit

theorem blank_law (l : List UInt8) (he : ∀ x, (lexL l)[(lexL l).length - 1]? = some x → x.kind ≠ 8) (k : Nat) (x : Tok) (hx : (lexL l)[k]? = some x) : ∃ fr : Nat, x.place = (fr : Int) ∧ fr ≤ l.length ∧
    lexL (l.take fr ++ 32 :: l.drop fr) = (lexL l).take k ++ ((lexL l).drop k).map Tok.shift := by
  have no : lexL l = [tokK 8] → False := fun h => he (tokK 8) (by rw [h]; rfl) rfl
  cases l with
  | nil => exact (no rfl).elim
  | cons b r =>
    by_cases h61 : b.toNat = 61
    · have e : lexL (b :: r) = toks (b :: r).length (r.length + 1) r := by simp [lexL, h61]
      rw [e] at hx ⊢
      have hle : r.length ≤ (b :: r).length := by simp
      have h1 := toks_in _ _ _ hle k x hx
      simp at h1
      obtain ⟨o, ho⟩ : ∃ o : Nat, x.place = (o : Int) + 1 := ⟨(x.place - 1).toNat, by omega⟩
      have hi := toks_ins (b :: r).length (r.length + 1) r (by omega) hle k x o hx (by simp; omega) (r.length + 1 + 1) (by omega)
      refine ⟨o + 1, by omega, by simp; omega, ?_⟩
      rw [← hi, List.take_succ_cons, List.drop_succ_cons, List.cons_append]
      have hlen : (r.take o ++ 32 :: r.drop o).length = r.length + 1 := by simp; omega
      simp only [lexL]
      rw [if_pos h61, List.length_cons, hlen, List.length_cons]
    · exact (no (lexL_no (fun c hc => by simp at hc; subst hc; exact h61))).elim
/-- the token at i, when those from k up to j have been put on by one -/
def sh (k j i : Nat) (x : Tok) : Tok := if k ≤ i ∧ i < j then x.shift else x
def RowS (w : World) (g : Nat) (ts : List Tok) (k j : Nat) : Prop := ∃ cs, w.heap[g]? = some (.cells cs 31 (0, 0)) ∧ ∀ (i : Nat) (x : Tok), ts[i]? = some x → ∀ (m : Nat) (u : Value), (sh k j i x).cs[m]? = some u → cs[i * 11 + m]? = some u
theorem RowS.cell {w : World} {g : Nat} {ts : List Tok} {k j : Nat} (h : RowS w g ts k j) (i : Nat) (x : Tok) (hx : ts[i]? = some x) (m : Nat) (u : Value) (hu : (sh k j i x).cs[m]? = some u) : w.cell? ⟨g, i * 11 + m, none⟩ = some u := by
  obtain ⟨cs, hh, hc⟩ := h
  rw [cell_of_row w g _ cs _ (0, 0) hh]
  exact hc i x hx m u hu
theorem RowS.frozen {w : World} {g : Nat} {ts : List Tok} {k j : Nat} (h : RowS w g ts k j) (o : Nat) : w.frozen? ⟨g, o, none⟩ = false := by
  obtain ⟨cs, hh, _⟩ := h
  simp [World.frozen?, hh]
theorem RowS.below {w w' : World} {g : Nat} {ts : List Tok} {k j : Nat} (h : RowS w g ts k j) (hb : Below w.heap.size w w') : RowS w' g ts k j := by
  obtain ⟨cs, hh, hc⟩ := h
  exact ⟨cs, (hb.block g (lt_of_heap hh)).trans hh, hc⟩
theorem RowS.step {w : World} {g : Nat} {ts : List Tok} {k j : Nat} {y : Tok} (h : RowS w g ts k j) (hy : ts[j]? = some y) (hk : k ≤ j) : RowS (w.setCell ⟨g, j * 11 + 1, none⟩ (.int .i64 (y.place + 1))) g ts k (j + 1) := by
  obtain ⟨cs, hh, hc⟩ := h
  refine ⟨_, set_block hh (i := j * 11 + 1) _, fun i x hx m u hu => ?_⟩
  have hm : m < 11 := by have := (List.getElem?_eq_some_iff.1 hu).1; simpa [Tok.cs] using this
  by_cases he : i = j ∧ m = 1
  · obtain ⟨rfl, rfl⟩ := he
    rw [hy] at hx; injection hx with hx; subst hx
    have hu' : u = .int .i64 (y.place + 1) := by
      rw [sh, if_pos ⟨hk, by omega⟩] at hu
      simpa [Tok.cs, Tok.shift, Tok.put] using hu.symm
    have hlt : i * 11 + 1 < cs.size := by
      have := hc i y hy 1 _ (by rw [sh, if_neg (by omega)]; rfl)
      exact (Array.getElem?_eq_some_iff.1 this).1
    rw [hu', Array.getElem?_setIfInBounds_self_of_lt hlt]
  · have hne : j * 11 + 1 ≠ i * 11 + m := fun e => he (by omega)
    rw [Array.getElem?_setIfInBounds_ne hne]
    refine hc i x hx m u ?_
    by_cases hij : i = j
    · subst hij
      have hm1 : m ≠ 1 := fun e => he ⟨rfl, e⟩
      rw [sh, if_neg (by omega)]
      rw [sh, if_pos ⟨hk, by omega⟩] at hu
      rw [← hu]
      match m, hm, hm1 with
      | 0, _, _ => rfl
      | 1, _, h => exact absurd rfl h
      | m + 2, _, _ => rfl
    · rw [sh] at hu ⊢
      by_cases h1 : k ≤ i ∧ i < j
      · rw [if_pos h1]; rwa [if_pos ⟨h1.1, by omega⟩] at hu
      · rw [if_neg h1]; rwa [if_neg (by omega)] at hu
theorem RowS.all {w : World} {g cap : Nat} {ts : List Tok} {k : Nat} (h : RowS w g ts k ts.length) (hk : k ≤ ts.length) : RdT w w.heap.size (.slice (some ⟨g, 0, none⟩) ts.length cap) (ts.take k ++ (ts.drop k).map Tok.shift) := by
  have hlen : (ts.take k ++ (ts.drop k).map Tok.shift).length = ts.length := by simp; omega
  refine ⟨some ⟨g, 0, none⟩, cap, by rw [hlen], fun i c hi => ?_⟩
  obtain ⟨cs, hh, _⟩ := id h
  refine ⟨g, 0, rfl, lt_of_heap hh, fun m u hu => ?_⟩
  rw [Nat.zero_add]
  rw [List.getElem?_map] at hi
  obtain ⟨z, hz, rfl⟩ := Option.map_eq_some_iff.1 hi
  have hlt : i < ts.length := by rw [← hlen]; exact (List.getElem?_eq_some_iff.1 hz).1
  obtain ⟨x, hx⟩ : ∃ x, ts[i]? = some x := ⟨_, List.getElem?_eq_getElem hlt⟩
  refine h.cell i x hx m u ?_
  by_cases hki : k ≤ i
  · rw [List.getElem?_append_right (by rw [List.length_take]; omega), List.length_take, List.getElem?_map, List.getElem?_drop, Nat.min_eq_left hk, show k + (i - k) = i by omega, hx] at hz
    injection hz with hz; subst hz
    rw [sh, if_pos ⟨hki, hlt⟩]; exact hu
  · rw [List.getElem?_append_left (by rw [List.length_take]; omega), List.getElem?_take_of_lt (by omega), hx] at hz
    injection hz with hz; subst hz
    rw [sh, if_neg (by omega)]; exact hu
theorem row_of_own {w : World} {B : Nat} {v : Value} {ts : List Tok} (h : OwnT w B v ts) (h0 : 0 < ts.length) (k : Nat) : ∃ g cap, v = .slice (some ⟨g, 0, none⟩) ts.length cap ∧ B ≤ g ∧ g < w.heap.size ∧ RowS w g ts k k := by
  obtain ⟨h1, ⟨_, h2⟩ | ⟨g, cap, cs, hv, hB, hh, hc, _, hs, ht⟩⟩ := h
  · omega
  · refine ⟨g, cap, hv, hB, lt_of_heap hh, cs, hh, fun i x hx m u hu => ?_⟩
    rw [sh, if_neg (by omega)] at hu
    have hf := flat_at (k := 11) (ts.map Tok.cs) (fun c hc => by obtain ⟨y, _, rfl⟩ := List.mem_map.1 hc; rfl) i x.cs (by rw [List.getElem?_map, hx]; rfl) m u hu
    have hlt : i * 11 + m < (tRow ts).length := (List.getElem?_eq_some_iff.1 hf).1
    rw [← Array.getElem?_toList]
    rw [h1] at hlt
    have hf' : (tRow ts)[i * 11 + m]? = some u := hf
    rw [← ht, List.getElem?_take, if_pos hlt] at hf'
    exact hf'
set_option maxRecDepth 100000 in
set_option maxHeartbeats 4000000 in
theorem blanks_no (l : List UInt8) (hl : l.length ≤ 1048576) (a : Int) (he : ∀ x, (lexL l)[(lexL l).length - 1]? = some x → x.kind = 8) (w : World) : Calls Tryd.prog 4 #[.string ⟨l.toArray⟩, .int .i64 a] w fun e w' => e = .returned (.bool true) ∧ Below w.heap.size w w' := by
  have H := lexL_laws l
  have CA := all_any l (by omega) (-1) (.inl (by decide))
  have hNl := lexL_len l
  generalize lexL l = ts at H CA hNl he
  go_enter Tryd.func4, Tryd.ntmps4
  go_wp2_with fail
  refine (CA _).mono ?_
  rintro e w1 ⟨⟨v, rfl, hown⟩, hb1⟩
  obtain ⟨g, cap, rfl, hBg, hlt, hrow⟩ := row_of_own hown H.ne 0
  clear hown CA
  obtain ⟨N, hN⟩ : ∃ N, ts.length = N := ⟨_, rfl⟩
  have hN0 : 0 < N := by have := H.ne; omega
  have hNi : ((N : Int) == 0) = false := by simp; omega
  rw [hN] at hNl
  have hw1 : IntKind.i64.wrap ((N : Int) - 1) = (N : Int) - 1 := IntWalk.i64_in _ (by omega)
  have hwm : ((N : Int) - 1).toNat = N - 1 := by omega
  rw [hN]
  go_wp2_with fail
  refine (known_any _).mono ?_
  rintro e w2 ⟨rfl, hb2⟩
  have hrow2 := hrow.below hb2
  have hlt2 : g < w2.heap.size := Nat.lt_of_lt_of_le hlt hb2.size
  have hb12 : Below w.heap.size w w2 := hb1.trans (hb2.mono hb1.size)
  clear hrow hb1 hb2
  obtain ⟨x, hx⟩ : ∃ x, ts[N - 1]? = some x := ⟨_, List.getElem?_eq_getElem (by omega)⟩
  have hsx : sh 0 0 (N - 1) x = x := by rw [sh, if_neg (by omega)]
  have x0 : w2.cell? ⟨g, (N - 1) * 11, none⟩ = some (.int .i64 x.kind) := hrow2.cell (N - 1) x hx 0 _ (by rw [hsx]; rfl)
  have x1 : w2.cell? ⟨g, (N - 1) * 11 + 1, none⟩ = some (.int .i64 x.place) := hrow2.cell (N - 1) x hx 1 _ (by rw [hsx]; rfl)
  have x2 : w2.cell? ⟨g, (N - 1) * 11 + 2, none⟩ = some (.int .i64 x.num) := hrow2.cell (N - 1) x hx 2 _ (by rw [hsx]; rfl)
  have x3 : w2.cell? ⟨g, (N - 1) * 11 + 3, none⟩ = some (.string x.str) := hrow2.cell (N - 1) x hx 3 _ (by rw [hsx]; rfl)
  have x4 : w2.cell? ⟨g, (N - 1) * 11 + 4, none⟩ = some (.int .i64 x.r) := hrow2.cell (N - 1) x hx 4 _ (by rw [hsx]; rfl)
  have x5 : w2.cell? ⟨g, (N - 1) * 11 + 5, none⟩ = some (.int .i64 x.c) := hrow2.cell (N - 1) x hx 5 _ (by rw [hsx]; rfl)
  have x6 : w2.cell? ⟨g, (N - 1) * 11 + 6, none⟩ = some (.int .i64 x.t) := hrow2.cell (N - 1) x hx 6 _ (by rw [hsx]; rfl)
  have x7 : w2.cell? ⟨g, (N - 1) * 11 + 7, none⟩ = some (.int .i64 x.l) := hrow2.cell (N - 1) x hx 7 _ (by rw [hsx]; rfl)
  have x8 : w2.cell? ⟨g, (N - 1) * 11 + 8, none⟩ = some (.int .i64 x.b) := hrow2.cell (N - 1) x hx 8 _ (by rw [hsx]; rfl)
  have x9 : w2.cell? ⟨g, (N - 1) * 11 + 9, none⟩ = some (.int .i64 x.q) := hrow2.cell (N - 1) x hx 9 _ (by rw [hsx]; rfl)
  have x10 : w2.cell? ⟨g, (N - 1) * 11 + 10, none⟩ = some (.int .i64 x.code) := hrow2.cell (N - 1) x hx 10 _ (by rw [hsx]; rfl)
  have e8 : (x.kind == 8) = true := by have := he x (by rw [hN]; exact hx); simp [this]
  clear he hx
  go_wp2
  go_ret
  exact ⟨rfl, hb12.alloc hb12.size _⟩
set_option maxRecDepth 100000 in
set_option maxHeartbeats 4000000 in
theorem blanks_yes (l : List UInt8) (hl : l.length ≤ 1048576) (a : Int) (ha : -9223372036854775808 ≤ a ∧ a ≤ 9223372036854775807) (he : ∀ x, (lexL l)[(lexL l).length - 1]? = some x → x.kind ≠ 8) (k : Nat) (hkN : k < (lexL l).length) (hk : (a.tmod ((lexL l).length : Int) < 0 ∧ a.tmod ((lexL l).length : Int) + ((lexL l).length : Int) = (k : Int)) ∨ a.tmod ((lexL l).length : Int) = (k : Int)) (w : World) : Calls Tryd.prog 4 #[.string ⟨l.toArray⟩, .int .i64 a] w fun e w' => e = .returned (.bool true) ∧ Below w.heap.size w w' := by
  have HB := Lib.hid (blank_law l he)
  have H := lexL_laws l
  have CA := all_any l (by omega) (-1) (.inl (by decide))
  have hNl := lexL_len l
  generalize lexL l = ts at H CA hNl HB he hkN hk
  go_enter Tryd.func4, Tryd.ntmps4
  go_wp2_with fail
  refine (CA _).mono ?_
  rintro e w1 ⟨⟨v, rfl, hown⟩, hb1⟩
  obtain ⟨g, cap, rfl, hBg, hlt, hrow⟩ := row_of_own hown H.ne k
  clear hown CA
  obtain ⟨N, hN⟩ : ∃ N, ts.length = N := ⟨_, rfl⟩
  have hN0 : 0 < N := by have := H.ne; omega
  have hNi : ((N : Int) == 0) = false := by simp; omega
  rw [hN] at hNl
  have hw1 : IntKind.i64.wrap ((N : Int) - 1) = (N : Int) - 1 := IntWalk.i64_in _ (by omega)
  have hwm : ((N : Int) - 1).toNat = N - 1 := by omega
  rw [hN]
  go_wp2_with fail
  refine (known_any _).mono ?_
  rintro e w2 ⟨rfl, hb2⟩
  have hrow2 := hrow.below hb2
  have hlt2 : g < w2.heap.size := Nat.lt_of_lt_of_le hlt hb2.size
  have hb12 : Below w.heap.size w w2 := hb1.trans (hb2.mono hb1.size)
  clear hrow hb1 hb2
  obtain ⟨x, hx⟩ : ∃ x, ts[N - 1]? = some x := ⟨_, List.getElem?_eq_getElem (by omega)⟩
  have hsx : sh k k (N - 1) x = x := by rw [sh, if_neg (by omega)]
  have x0 : w2.cell? ⟨g, (N - 1) * 11, none⟩ = some (.int .i64 x.kind) := hrow2.cell (N - 1) x hx 0 _ (by rw [hsx]; rfl)
  have x1 : w2.cell? ⟨g, (N - 1) * 11 + 1, none⟩ = some (.int .i64 x.place) := hrow2.cell (N - 1) x hx 1 _ (by rw [hsx]; rfl)
  have x2 : w2.cell? ⟨g, (N - 1) * 11 + 2, none⟩ = some (.int .i64 x.num) := hrow2.cell (N - 1) x hx 2 _ (by rw [hsx]; rfl)
  have x3 : w2.cell? ⟨g, (N - 1) * 11 + 3, none⟩ = some (.string x.str) := hrow2.cell (N - 1) x hx 3 _ (by rw [hsx]; rfl)
  have x4 : w2.cell? ⟨g, (N - 1) * 11 + 4, none⟩ = some (.int .i64 x.r) := hrow2.cell (N - 1) x hx 4 _ (by rw [hsx]; rfl)
  have x5 : w2.cell? ⟨g, (N - 1) * 11 + 5, none⟩ = some (.int .i64 x.c) := hrow2.cell (N - 1) x hx 5 _ (by rw [hsx]; rfl)
  have x6 : w2.cell? ⟨g, (N - 1) * 11 + 6, none⟩ = some (.int .i64 x.t) := hrow2.cell (N - 1) x hx 6 _ (by rw [hsx]; rfl)
  have x7 : w2.cell? ⟨g, (N - 1) * 11 + 7, none⟩ = some (.int .i64 x.l) := hrow2.cell (N - 1) x hx 7 _ (by rw [hsx]; rfl)
  have x8 : w2.cell? ⟨g, (N - 1) * 11 + 8, none⟩ = some (.int .i64 x.b) := hrow2.cell (N - 1) x hx 8 _ (by rw [hsx]; rfl)
  have x9 : w2.cell? ⟨g, (N - 1) * 11 + 9, none⟩ = some (.int .i64 x.q) := hrow2.cell (N - 1) x hx 9 _ (by rw [hsx]; rfl)
  have x10 : w2.cell? ⟨g, (N - 1) * 11 + 10, none⟩ = some (.int .i64 x.code) := hrow2.cell (N - 1) x hx 10 _ (by rw [hsx]; rfl)
  have e8 : (x.kind == 8) = false := by have := he x (by rw [hN]; exact hx); simp [this]
  rw [hN] at hk hkN
  clear he hx hsx
  obtain ⟨y, hy⟩ : ∃ y, ts[k]? = some y := ⟨_, List.getElem?_eq_getElem (by omega)⟩
  obtain ⟨fr, hfr, hfl, hlex⟩ := HB.out k y hy
  have cy : w2.cell? ⟨g, k * 11 + 1, none⟩ = some (.int .i64 (fr : Int)) := by rw [← hfr]; exact hrow2.cell k y hy 1 _ (by rw [sh, if_neg (by omega)]; rfl)
  have CA2 := all_any (l.take fr ++ 32 :: l.drop fr) (by simp; omega) (-1) (.inl (by decide))
  rw [hlex] at CA2
  have hx1 := ext_take' l fr
  have hx2 := ext_drop' l fr l.length (Nat.le_refl _)
  have hfi : (fr : Int) ≤ (l.length : Int) := by omega
  have hkN2 : (k : Int) < (N : Int) := by omega
  have hgn : g ≠ w2.heap.size := by omega
  have hgl : g < w2.heap.size + 1 := by omega
  have hap1 := bytes_append (l.take fr) [32]
  have hap2 := bytes_append (l.take fr ++ [32]) (l.drop fr)
  rw [show l.take fr ++ [32] ++ l.drop fr = l.take fr ++ 32 :: l.drop fr by simp] at hap2
  have hc1 : ¬ 9223372036854775807 < fr + 1 := by omega
  have hc2 : ¬ 9223372036854775807 < fr + 1 + (l.length - fr) := by omega
  clear hy hlex HB hfr
  have hq1 : Below w.heap.size w (w2.alloc (.cells #[.int .i64 x.kind, .int .i64 x.place, .int .i64 x.num, .string x.str, .int .i64 x.r, .int .i64 x.c, .int .i64 x.t, .int .i64 x.l, .int .i64 x.b, .int .i64 x.q, .int .i64 x.code] 31)) := hb12.alloc hb12.size _
  have hrow3 : RowS (w2.alloc (.cells #[.int .i64 x.kind, .int .i64 x.place, .int .i64 x.num, .string x.str, .int .i64 x.r, .int .i64 x.c, .int .i64 x.t, .int .i64 x.l, .int .i64 x.b, .int .i64 x.q, .int .i64 x.code] 31)) g ts k k := hrow2.below ((Below.refl _ w2).alloc (Nat.le_refl _) _)
  have cy3 : (w2.alloc (.cells #[.int .i64 x.kind, .int .i64 x.place, .int .i64 x.num, .string x.str, .int .i64 x.r, .int .i64 x.c, .int .i64 x.t, .int .i64 x.l, .int .i64 x.b, .int .i64 x.q, .int .i64 x.code] 31)).cell? ⟨g, k * 11 + 1, none⟩ = some (.int .i64 (fr : Int)) := (((Below.refl w2.heap.size w2).alloc (Nat.le_refl _) _).cell (p := ⟨g, k * 11 + 1, none⟩) hlt2).trans cy
  have hrange : -(N : Int) < a.tmod (N : Int) ∧ a.tmod (N : Int) < (N : Int) := ⟨by have := Int.lt_tmod_of_pos a (show (0 : Int) < N by omega); omega, Int.tmod_lt_of_pos a (by omega)⟩
  generalize hqq : a.tmod (N : Int) = q at *
  rcases hk with ⟨hneg, hkk⟩ | hkk
  · go_wp2
    generalize w2.alloc (.cells #[.int .i64 x.kind, .int .i64 x.place, .int .i64 x.num, .string x.str, .int .i64 x.r, .int .i64 x.c, .int .i64 x.t, .int .i64 x.l, .int .i64 x.b, .int .i64 x.q, .int .i64 x.code] 31) = w3 at *
    go_loopw [9] (fun i wr => ∃ j : Nat, k ≤ j ∧ j ≤ N ∧ i = .int .i64 (j : Int) ∧ RowS wr g ts k j ∧ Below g w3 wr) (fun i _ => N - (intOf i).toNat)
    case atStart => exact ⟨k, Nat.le_refl _, by omega, rfl, hrow3, Below.refl _ _⟩
    case round =>
      obtain ⟨j, hkj, hj, rfl, hrj, hbr⟩ := hrel
      have hzr := hbr.size
      by_cases hlt3 : j < N
      · obtain ⟨y, hy⟩ : ∃ y, ts[j]? = some y := ⟨_, List.getElem?_eq_getElem (by omega)⟩
        have cj : wr.cell? ⟨g, j * 11 + 1, none⟩ = some (.int .i64 y.place) := hrj.cell j y hy 1 _ (by rw [sh, if_neg (by omega)]; rfl)
        have fj := hrj.frozen (j * 11 + 1)
        obtain ⟨hp1, hp2⟩ := H.place j y hy
        have hs := hrj.step hy hkj
        have hbs := hbr.setCell (p := ⟨g, j * 11 + 1, none⟩) (Nat.le_refl _) (.int .i64 (y.place + 1))
        have hjN : (j : Int) < (N : Int) := by omega
        clear hy
        go_wp2
        go_roundw
        case rel => exact ⟨j + 1, by omega, by omega, by go_num, hs, hbs⟩
        case measure => simp [intOf]; omega
      · obtain rfl : j = N := by omega
        have hrj' := hrj
        rw [← hN] at hrj'
        have hrd := (hrj'.all (cap := cap) (by omega)).below (Below.refl _ wr).drew
        rw [hN] at hrd
        have hlen2 : (ts.take k ++ (ts.drop k).map Tok.shift).length = j := by simp; omega
        have hq3 : Below w.heap.size w wr := hq1.trans (hbr.mono hBg)
        have hz3 := hq3.size
        clear hrj hrj' hrow3 hrow2 H
        generalize ts.take k ++ (ts.drop k).map Tok.shift = ts' at *
        go_wp2
        refine wp_region_noPanic ?_
        refine wp_region_held_drew (S := fun _ => True) (by kernel_rfl) trivial (fun hHeld => ?_)
        refine wpAnyH_take (i := 0) (oi := ⟨_, _, _, _, _, _⟩) (v := ?v11) rfl (by kernel_rfl) (by kernel_rfl) (by kernel_rfl) (fun _ _ _ h => h) (Or.inl ⟨by rfl, ?hy11⟩) hHeld ?rest11
        case hy11 => (intro w2 hSw; (try dsimp only at hSw); go_split_ands; go_simp; first | done | with_reducible rfl)
        try simp only [Act.put, List.setIfInBounds_toArray, List.set_cons_zero, List.set_cons_succ]
        refine wpAnyH_take (i := 1) (oi := ⟨_, _, _, _, _, _⟩) (v := ?v12) rfl (by kernel_rfl) (by kernel_rfl) (by kernel_rfl) (fun _ _ _ h => h) (Or.inl ⟨by rfl, ?hy12⟩) hHeld ?rest12
        case hy12 => (intro w2 hSw; (try dsimp only at hSw); go_split_ands; go_simp; first | done | with_reducible rfl)
        try simp only [Act.put, List.setIfInBounds_toArray, List.set_cons_zero, List.set_cons_succ]
        refine wpAnyH_take (i := 2) (oi := ⟨_, _, _, _, _, _⟩) (v := ?v13) rfl (by kernel_rfl) (by kernel_rfl) (by kernel_rfl) (fun _ _ _ h => h) (Or.inl ⟨by rfl, ?hy13⟩) hHeld ?rest13
        case hy13 => (intro w2 hSw; (try dsimp only at hSw); go_split_ands; go_simp; first | done | with_reducible rfl)
        try simp only [Act.put, List.setIfInBounds_toArray, List.set_cons_zero, List.set_cons_succ]
        refine wpAnyH_take (i := 3) (oi := ⟨_, _, _, _, _, _⟩) (v := ?v14) rfl (by kernel_rfl) (by kernel_rfl) (by kernel_rfl) (fun _ _ _ h => h) (Or.inl ⟨by rfl, ?hy14⟩) hHeld ?rest14
        case hy14 => (intro w2 hSw; (try dsimp only at hSw); go_split_ands; go_simp; first | done | with_reducible rfl)
        try simp only [Act.put, List.setIfInBounds_toArray, List.set_cons_zero, List.set_cons_succ]
        refine wpAnyH_take (i := 4) (oi := ⟨_, _, _, _, _, _⟩) (v := ?v15) rfl (by kernel_rfl) (by kernel_rfl) (by kernel_rfl) (fun _ _ _ h => h) (Or.inl ⟨by rfl, ?hy15⟩) hHeld ?rest15
        case hy15 => (intro w2 hSw; (try dsimp only at hSw); go_split_ands; go_simp; first | done | with_reducible rfl)
        try simp only [Act.put, List.setIfInBounds_toArray, List.set_cons_zero, List.set_cons_succ]
        refine wpAnyH_take (i := 5) (oi := ⟨_, _, _, _, _, _⟩) (v := ?v16) rfl (by kernel_rfl) (by kernel_rfl) (by kernel_rfl) (fun _ _ _ h => h) (Or.inl ⟨by rfl, ?hy16⟩) hHeld ?rest16
        case hy16 => (intro w2 hSw; (try dsimp only at hSw); go_split_ands; go_simp; first | done | with_reducible rfl)
        try simp only [Act.put, List.setIfInBounds_toArray, List.set_cons_zero, List.set_cons_succ]
        refine wpAnyH_take (i := 6) (oi := ⟨_, _, _, _, _, _⟩) (v := ?v17) rfl (by kernel_rfl) (by kernel_rfl) (by kernel_rfl) (fun _ _ _ h => h) (Or.inl ⟨by rfl, ?hy17⟩) hHeld ?rest17
        case hy17 => (intro w2 hSw; (try dsimp only at hSw); go_split_ands; go_simp; first | done | with_reducible rfl)
        try simp only [Act.put, List.setIfInBounds_toArray, List.set_cons_zero, List.set_cons_succ]
        refine wpAnyH_take (i := 7) (oi := ⟨_, _, _, _, _, _⟩) (v := ?v18) rfl (by kernel_rfl) (by kernel_rfl) (by kernel_rfl) (fun _ _ _ h => h) (Or.inl ⟨by rfl, ?hy18⟩) hHeld ?rest18
        case hy18 => (intro w2 hSw; (try dsimp only at hSw); go_split_ands; go_simp; first | done | with_reducible rfl)
        try simp only [Act.put, List.setIfInBounds_toArray, List.set_cons_zero, List.set_cons_succ]
        refine wpAnyH_take (i := 9) (oi := ⟨_, _, _, _, _, _⟩) (v := ?v19) rfl (by kernel_rfl) (by kernel_rfl) (by kernel_rfl) (fun _ _ _ h => h) (Or.inl ⟨by rfl, ?hy19⟩) hHeld ?rest19
        case hy19 => (intro w2 hSw; (try dsimp only at hSw); go_split_ands; go_simp; first | done | with_reducible rfl)
        try simp only [Act.put, List.setIfInBounds_toArray, List.set_cons_zero, List.set_cons_succ]
        refine wpAnyH_ready (rs := [8]) (by kernel_rfl) (by simp) ?_
        refine AllReadyH.cons (o := ⟨_, _, _, _, _, _⟩) rfl (fun K hK => ?_) AllReadyH.nil
        go_split_ands
        go_simp
        refine (CA2 _).mono ?_
        rintro e w5 ⟨⟨v2, rfl, hown2⟩, hb5⟩
        refine hK.out _ _ ?_ (fun hHeld => ?_)
        · trivial
        clear hK K
        try simp only [Act.put, List.setIfInBounds_toArray, List.set_cons_zero, List.set_cons_succ]
        refine wpAnyH_ready (rs := [10]) (by kernel_rfl) (by simp) ?_
        refine AllReadyH.cons (o := ⟨_, _, _, _, _, _⟩) rfl (fun K hK => ?_) AllReadyH.nil
        go_split_ands
        go_simp
        refine (same_yes ts' (by omega) w5 v2 _ (own_rdt hown2) ((hrd.below hb5).mono hb5.size)).mono ?_
        rintro e w6 ⟨rfl, hb6⟩
        refine hK.out _ _ ?_ (fun hHeld => ?_)
        · trivial
        clear hK K
        try simp only [Act.put, List.setIfInBounds_toArray, List.set_cons_zero, List.set_cons_succ]
        refine wpAnyH_take (i := 11) (oi := ⟨_, _, _, _, _, _⟩) (v := ?v20) rfl (by kernel_rfl) (by kernel_rfl) (by kernel_rfl) (fun _ _ _ h => h) (Or.inl ⟨by rfl, ?hy20⟩) hHeld ?rest20
        case hy20 => (intro w2 hSw; (try dsimp only at hSw); go_split_ands; go_simp; first | done | with_reducible rfl)
        try simp only [Act.put, List.setIfInBounds_toArray, List.set_cons_zero, List.set_cons_succ]
        refine wpAnyH_done (by kernel_rfl) ?_ _
        refine NoPanic.normal ?_
        go_wp2
        go_ret
        have hz5 := hb5.size
        exact ⟨rfl, (hq3.drew.trans (hb5.mono hz3)).trans (hb6.mono (Nat.le_trans hz3 hz5))⟩
  · have hpos : ¬ q < 0 := by omega
    go_wp2
    generalize w2.alloc (.cells #[.int .i64 x.kind, .int .i64 x.place, .int .i64 x.num, .string x.str, .int .i64 x.r, .int .i64 x.c, .int .i64 x.t, .int .i64 x.l, .int .i64 x.b, .int .i64 x.q, .int .i64 x.code] 31) = w3 at *
    go_loopw [9] (fun i wr => ∃ j : Nat, k ≤ j ∧ j ≤ N ∧ i = .int .i64 (j : Int) ∧ RowS wr g ts k j ∧ Below g w3 wr) (fun i _ => N - (intOf i).toNat)
    case atStart => exact ⟨k, Nat.le_refl _, by omega, rfl, hrow3, Below.refl _ _⟩
    case round =>
      obtain ⟨j, hkj, hj, rfl, hrj, hbr⟩ := hrel
      have hzr := hbr.size
      by_cases hlt3 : j < N
      · obtain ⟨y, hy⟩ : ∃ y, ts[j]? = some y := ⟨_, List.getElem?_eq_getElem (by omega)⟩
        have cj : wr.cell? ⟨g, j * 11 + 1, none⟩ = some (.int .i64 y.place) := hrj.cell j y hy 1 _ (by rw [sh, if_neg (by omega)]; rfl)
        have fj := hrj.frozen (j * 11 + 1)
        obtain ⟨hp1, hp2⟩ := H.place j y hy
        have hs := hrj.step hy hkj
        have hbs := hbr.setCell (p := ⟨g, j * 11 + 1, none⟩) (Nat.le_refl _) (.int .i64 (y.place + 1))
        have hjN : (j : Int) < (N : Int) := by omega
        clear hy
        go_wp2
        go_roundw
        case rel => exact ⟨j + 1, by omega, by omega, by go_num, hs, hbs⟩
        case measure => simp [intOf]; omega
      · obtain rfl : j = N := by omega
        have hrj' := hrj
        rw [← hN] at hrj'
        have hrd := (hrj'.all (cap := cap) (by omega)).below (Below.refl _ wr).drew
        rw [hN] at hrd
        have hlen2 : (ts.take k ++ (ts.drop k).map Tok.shift).length = j := by simp; omega
        have hq3 : Below w.heap.size w wr := hq1.trans (hbr.mono hBg)
        have hz3 := hq3.size
        clear hrj hrj' hrow3 hrow2 H
        generalize ts.take k ++ (ts.drop k).map Tok.shift = ts' at *
        go_wp2
        refine wp_region_noPanic ?_
        refine wp_region_held_drew (S := fun _ => True) (by kernel_rfl) trivial (fun hHeld => ?_)
        refine wpAnyH_take (i := 0) (oi := ⟨_, _, _, _, _, _⟩) (v := ?v21) rfl (by kernel_rfl) (by kernel_rfl) (by kernel_rfl) (fun _ _ _ h => h) (Or.inl ⟨by rfl, ?hy21⟩) hHeld ?rest21
        case hy21 => (intro w2 hSw; (try dsimp only at hSw); go_split_ands; go_simp; first | done | with_reducible rfl)
        try simp only [Act.put, List.setIfInBounds_toArray, List.set_cons_zero, List.set_cons_succ]
        refine wpAnyH_take (i := 1) (oi := ⟨_, _, _, _, _, _⟩) (v := ?v22) rfl (by kernel_rfl) (by kernel_rfl) (by kernel_rfl) (fun _ _ _ h => h) (Or.inl ⟨by rfl, ?hy22⟩) hHeld ?rest22
        case hy22 => (intro w2 hSw; (try dsimp only at hSw); go_split_ands; go_simp; first | done | with_reducible rfl)
        try simp only [Act.put, List.setIfInBounds_toArray, List.set_cons_zero, List.set_cons_succ]
        refine wpAnyH_take (i := 2) (oi := ⟨_, _, _, _, _, _⟩) (v := ?v23) rfl (by kernel_rfl) (by kernel_rfl) (by kernel_rfl) (fun _ _ _ h => h) (Or.inl ⟨by rfl, ?hy23⟩) hHeld ?rest23
        case hy23 => (intro w2 hSw; (try dsimp only at hSw); go_split_ands; go_simp; first | done | with_reducible rfl)
        try simp only [Act.put, List.setIfInBounds_toArray, List.set_cons_zero, List.set_cons_succ]
        refine wpAnyH_take (i := 3) (oi := ⟨_, _, _, _, _, _⟩) (v := ?v24) rfl (by kernel_rfl) (by kernel_rfl) (by kernel_rfl) (fun _ _ _ h => h) (Or.inl ⟨by rfl, ?hy24⟩) hHeld ?rest24
        case hy24 => (intro w2 hSw; (try dsimp only at hSw); go_split_ands; go_simp; first | done | with_reducible rfl)
        try simp only [Act.put, List.setIfInBounds_toArray, List.set_cons_zero, List.set_cons_succ]
        refine wpAnyH_take (i := 4) (oi := ⟨_, _, _, _, _, _⟩) (v := ?v25) rfl (by kernel_rfl) (by kernel_rfl) (by kernel_rfl) (fun _ _ _ h => h) (Or.inl ⟨by rfl, ?hy25⟩) hHeld ?rest25
        case hy25 => (intro w2 hSw; (try dsimp only at hSw); go_split_ands; go_simp; first | done | with_reducible rfl)
        try simp only [Act.put, List.setIfInBounds_toArray, List.set_cons_zero, List.set_cons_succ]
        refine wpAnyH_take (i := 5) (oi := ⟨_, _, _, _, _, _⟩) (v := ?v26) rfl (by kernel_rfl) (by kernel_rfl) (by kernel_rfl) (fun _ _ _ h => h) (Or.inl ⟨by rfl, ?hy26⟩) hHeld ?rest26
        case hy26 => (intro w2 hSw; (try dsimp only at hSw); go_split_ands; go_simp; first | done | with_reducible rfl)
        try simp only [Act.put, List.setIfInBounds_toArray, List.set_cons_zero, List.set_cons_succ]
        refine wpAnyH_take (i := 6) (oi := ⟨_, _, _, _, _, _⟩) (v := ?v27) rfl (by kernel_rfl) (by kernel_rfl) (by kernel_rfl) (fun _ _ _ h => h) (Or.inl ⟨by rfl, ?hy27⟩) hHeld ?rest27
        case hy27 => (intro w2 hSw; (try dsimp only at hSw); go_split_ands; go_simp; first | done | with_reducible rfl)
        try simp only [Act.put, List.setIfInBounds_toArray, List.set_cons_zero, List.set_cons_succ]
        refine wpAnyH_take (i := 7) (oi := ⟨_, _, _, _, _, _⟩) (v := ?v28) rfl (by kernel_rfl) (by kernel_rfl) (by kernel_rfl) (fun _ _ _ h => h) (Or.inl ⟨by rfl, ?hy28⟩) hHeld ?rest28
        case hy28 => (intro w2 hSw; (try dsimp only at hSw); go_split_ands; go_simp; first | done | with_reducible rfl)
        try simp only [Act.put, List.setIfInBounds_toArray, List.set_cons_zero, List.set_cons_succ]
        refine wpAnyH_take (i := 9) (oi := ⟨_, _, _, _, _, _⟩) (v := ?v29) rfl (by kernel_rfl) (by kernel_rfl) (by kernel_rfl) (fun _ _ _ h => h) (Or.inl ⟨by rfl, ?hy29⟩) hHeld ?rest29
        case hy29 => (intro w2 hSw; (try dsimp only at hSw); go_split_ands; go_simp; first | done | with_reducible rfl)
        try simp only [Act.put, List.setIfInBounds_toArray, List.set_cons_zero, List.set_cons_succ]
        refine wpAnyH_ready (rs := [8]) (by kernel_rfl) (by simp) ?_
        refine AllReadyH.cons (o := ⟨_, _, _, _, _, _⟩) rfl (fun K hK => ?_) AllReadyH.nil
        go_split_ands
        go_simp
        refine (CA2 _).mono ?_
        rintro e w5 ⟨⟨v2, rfl, hown2⟩, hb5⟩
        refine hK.out _ _ ?_ (fun hHeld => ?_)
        · trivial
        clear hK K
        try simp only [Act.put, List.setIfInBounds_toArray, List.set_cons_zero, List.set_cons_succ]
        refine wpAnyH_ready (rs := [10]) (by kernel_rfl) (by simp) ?_
        refine AllReadyH.cons (o := ⟨_, _, _, _, _, _⟩) rfl (fun K hK => ?_) AllReadyH.nil
        go_split_ands
        go_simp
        refine (same_yes ts' (by omega) w5 v2 _ (own_rdt hown2) ((hrd.below hb5).mono hb5.size)).mono ?_
        rintro e w6 ⟨rfl, hb6⟩
        refine hK.out _ _ ?_ (fun hHeld => ?_)
        · trivial
        clear hK K
        try simp only [Act.put, List.setIfInBounds_toArray, List.set_cons_zero, List.set_cons_succ]
        refine wpAnyH_take (i := 11) (oi := ⟨_, _, _, _, _, _⟩) (v := ?v30) rfl (by kernel_rfl) (by kernel_rfl) (by kernel_rfl) (fun _ _ _ h => h) (Or.inl ⟨by rfl, ?hy30⟩) hHeld ?rest30
        case hy30 => (intro w2 hSw; (try dsimp only at hSw); go_split_ands; go_simp; first | done | with_reducible rfl)
        try simp only [Act.put, List.setIfInBounds_toArray, List.set_cons_zero, List.set_cons_succ]
        refine wpAnyH_done (by kernel_rfl) ?_ _
        refine NoPanic.normal ?_
        go_wp2
        go_ret
        have hz5 := hb5.size
        exact ⟨rfl, (hq3.drew.trans (hb5.mono hz3)).trans (hb6.mono (Nat.le_trans hz3 hz5))⟩
theorem walk_LexBlanks (l : List UInt8) (hl : l.length ≤ 1048576) (a : Int) (ha : -9223372036854775808 ≤ a ∧ a ≤ 9223372036854775807) (w : World) : Calls Tryd.prog 4 #[.string ⟨l.toArray⟩, .int .i64 a] w fun e w' => e = .returned (.bool true) ∧ Below w.heap.size w w' := by
  have H := lexL_laws l
  obtain ⟨x, hx⟩ : ∃ x, (lexL l)[(lexL l).length - 1]? = some x := ⟨_, List.getElem?_eq_getElem (by have := H.ne; omega)⟩
  by_cases h8 : x.kind = 8
  · exact blanks_no l hl a (fun y hy => by rw [hx] at hy; injection hy with hy; subst hy; exact h8) w
  · have hN : (0 : Int) < ((lexL l).length : Int) := by have := H.ne; omega
    have h1 := Int.lt_tmod_of_pos a hN
    have h2 := Int.tmod_lt_of_pos a hN
    have he : ∀ y, (lexL l)[(lexL l).length - 1]? = some y → y.kind ≠ 8 := fun y hy => by rw [hx] at hy; injection hy with hy; subst hy; exact h8
    by_cases hneg : a.tmod ((lexL l).length : Int) < 0
    · obtain ⟨k, hk⟩ := Int.eq_ofNat_of_zero_le (show 0 ≤ a.tmod ((lexL l).length : Int) + ((lexL l).length : Int) by omega)
      exact blanks_yes l hl a ha he k (by omega) (.inl ⟨hneg, hk⟩) w
    · obtain ⟨k, hk⟩ := Int.eq_ofNat_of_zero_le (show 0 ≤ a.tmod ((lexL l).length : Int) by omega)
      exact blanks_yes l hl a ha he k (by omega) (.inr hk) w
end Go.Proofs.YtdnocmpjclafdaaDoor
