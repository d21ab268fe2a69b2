/-
  orielref06: Known and Takes.
-/
import Derived.Test.YtfbkoieodflcpaaGreatDoorMg3
import Derived.Test.YtfbkoieodflcpaaGreatDoorRows
import Derived.Test.YtfbkoieodflcpaaGreatDoorMg0
import Derived.Test.YtfbkoieodflcpaaGreatDoorProg
import Derived.Test.YtfbkoieodflcpaaGreatDoorShelf
import Derived.Test.YtfbkoieodflcpaaGreatDoorMg4
import Derived.Test.YtfbkoieodflcpaaGreatDoorAddrC
import Derived.Test.YtfbkoieodflcpaaGreatDoorMg6
import Derived.Test.YtfbkoieodflcpaaGreatDoorValA
import Derived.Test.YtfbkoieodflcpaaGreatDoorValB
import Derived.Test.YtfbkoieodflcpaaGreatDoorMg9
import Derived.Test.YtfbkoieodflcpaaGreatDoorMg10
import Derived.Test.YtfbkoieodflcpaaGreatDoorPaP
import Derived.WalkSpells
import Derived.WalkLawsBesides
import Derived.StillTactics
import Derived.Laws.Pointers
import Derived.Deep.RegionHeld3
import Derived.Deep.QuietTactic
import Derived.BigQuiet
import Derived.RowKit3
import Derived.Lib.Hide
import Derived.Lib.OthersKept
import Derived.OwnWalk
import Derived.Lib.IndexLaws
import Derived.Lib.ItoaMem
import Derived.Lib.TrimByte
import Derived.Lib.SlTrimSet
import Derived.Lib.ParseIntB
import Derived.WalkKit
import Derived.ProofKit
import Derived.OpenShut
import Derived.Carry
import Derived.ChangeSame
import Derived.Deep.Draws
import Derived.Shelf.Strings.Builder1
import Derived.Shelf.Strings.Builder2
import Derived.Shelf.Strings.Trim
import Derived.Shelf.Small.Utf8
import Derived.Shelf.Small.Strs
import Derived.Shelf.Small.Wraps
import Derived.Shelf.Strings.BuilderF
import Derived.Shelf.Strings.BuilderK
import Derived.Shelf.Utf8.RuneCount
import Derived.Shelf.Strconv.Itoa0
import Derived.Shelf.Strconv.Itoa1
import Derived.Shelf.LaysM
import Derived.Shelf.Strconv.Itoa2
import Derived.Shelf.Strconv.Itoa3
import Derived.Ground.MpProg
import Derived.Shelf.Pu.ParseUintPublic10
import Derived.Shelf.Strings.Search1
import Derived.Shelf.Strings.Search2
import Derived.Shelf.Strings.Search3
import Derived.Shelf.Strings.Cut
import Derived.Shelf.Strings.Count
import Derived.Shelf.Strings.Shaped
import Derived.Shelf.Strings.Prefix
import Derived.Shelf.Strings.Split
import Derived.Shelf.Strings.Replace
import Derived.Shelf.Strings.SplitShaped
import Derived.Shelf.Unicode.Decode
import Derived.Shelf.Strings.Runes
import Derived.Shelf.Strings.RuneCount
import Derived.Shelf.Strings.AsciiSet
import Derived.Shelf.Unicode.DecodeSlow
import Derived.Shelf.Unicode.DecodeAny
import Derived.Shelf.Unicode.DecodeLast
import Derived.Lib.ItoaNum
import Derived.Maps.OwnSet
import Derived.Maps.AppendAt
namespace Go.Proofs.YtfbkoieodflcpaaGreatDoor
open Go.RowKit

/-- a function of a table -/
structure FL where
  name : ByteArray
  least : Int
  most : Int
  kinds : ByteArray
def FL.cs (f : FL) : List Value := [.string f.name, .int .i64 f.least, .int .i64 f.most, .string f.kinds]
def FL.kind (f : FL) (k : Nat) : Int := if h : 0 < f.kinds.size then ((f.kinds[min k (f.kinds.size - 1)]'(by omega)).toNat : Int) else 118
def argOk (f : FL) (k : Nat) (b : Bool) : Bool := decide (f.kind k = 120) || (b == decide (f.kind k = 114))
def argsOk (f : FL) (l : List Bool) : Bool := l.zipIdx.all fun x => argOk f x.2 x.1
def FL.takes (f : FL) (l : List Bool) : Bool := argsOk f l && decide (f.least ≤ l.length) && decide ((l.length : Int) ≤ f.most)
def tkOf (o : Option FL) (r : List Bool) : Bool := match o with | some f => f.takes r | none => false
def tbOf (l : List FL) : Tb := ⟨fun n => l.any fun f => decide (f.name = n), fun n r => tkOf (l.find? fun f => decide (f.name = n)) r⟩
/-- a table, as it came -/
structure TV where
  A : Option Addr
  cap : Nat
  l : List FL
def TV.s (t : TV) : Value := .slice t.A t.l.length t.cap
def TV.v (t : TV) : Value := .iface 31 t.s
/-- a table that can be read -/
structure FunsAt (t : TV) (B : Nat) (w : World) : Prop where
  rd : RdB w B t.A 4 (t.l.map FL.cs)
  small : ∀ f ∈ t.l, f.kinds.size ≤ 1000000000
  few : t.l.length ≤ 1000000000
theorem FunsAt.below {t : TV} {B : Nat} {w w' : World} (h : FunsAt t B w) (hb : Below B w w') : FunsAt t B w' := ⟨h.rd.below hb, h.small, h.few⟩
theorem FunsAt.mono {t : TV} {B B' : Nat} {w : World} (h : FunsAt t B w) (hb : B ≤ B') : FunsAt t B' w := ⟨h.rd.mono hb, h.small, h.few⟩
theorem FunsAt.at {t : TV} {B : Nat} {w : World} (h : FunsAt t B w) (h0 : 0 < t.l.length) : ∃ b o, t.A = some ⟨b, o, none⟩ ∧ b < B ∧ ∀ (k : Nat) (f : FL), t.l[k]? = some f → ∀ j u, f.cs[j]? = some u → w.cell? ⟨b, o + k * 4 + j, none⟩ = some u := by
  obtain ⟨f, hf⟩ : ∃ f, t.l[0]? = some f := ⟨_, List.getElem?_eq_getElem h0⟩
  obtain ⟨b, o, e, hb, _⟩ := h.rd 0 f.cs (by rw [List.getElem?_map, hf]; rfl)
  refine ⟨b, o, e, hb, fun k f hk j u hu => ?_⟩
  obtain ⟨b', o', e', _, hc⟩ := h.rd k f.cs (by rw [List.getElem?_map, hk]; rfl)
  rw [e] at e'
  injection e' with e'
  injection e' with e1 e2 _
  subst e1 e2
  exact hc j u hu
theorem any_drop (l : List FL) (n : ByteArray) (k : Nat) (f : FL) (hf : l[k]? = some f) : ((l.drop k).any fun f => decide (f.name = n)) = (decide (f.name = n) || (l.drop (k + 1)).any fun f => decide (f.name = n)) := by
  obtain ⟨hl, e⟩ := List.getElem?_eq_some_iff.1 hf
  rw [List.drop_eq_getElem_cons hl, e, List.any_cons]
set_option maxHeartbeats 1000000 in
theorem fknown (t : TV) (B : Nat) (nm : ByteArray) (w : World) (h : FunsAt t B w) : Calls Tryz.prog 186 #[t.s, .string nm] w fun e w' => e = .returned (.bool ((tbOf t.l).known nm)) ∧ w' = w := by
  have hfew := h.few
  have hat := h.at
  clear h
  show Calls Tryz.prog 186 #[.slice t.A t.l.length t.cap, .string nm] w fun e w' => e = .returned (.bool (t.l.any fun f => decide (f.name = nm))) ∧ w' = w
  obtain ⟨A, cap, l⟩ := t
  simp only at *
  go_enter Tryz.func186, Tryz.ntmps186
  go_wp2
  go_loopw [5] (fun i wr => ∃ k : Nat, k ≤ l.length ∧ i = .int .i64 (k : Int) ∧ (l.any fun f => decide (f.name = nm)) = ((l.drop k).any fun f => decide (f.name = nm)) ∧ wr = w) (fun i _ => l.length - (intOf i).toNat)
  case atStart => exact ⟨0, Nat.zero_le _, rfl, rfl, rfl⟩
  case round =>
    obtain ⟨k, hk, rfl, hany, rfl⟩ := hrel
    by_cases hkl : k < l.length
    · obtain ⟨b, o, rfl, _, hcell⟩ := hat (by omega)
      obtain ⟨f, hf⟩ : ∃ f, l[k]? = some f := ⟨_, List.getElem?_eq_getElem hkl⟩
      have hc := hcell k f hf
      have hd := any_drop l nm k f hf
      have hki : (k : Int) < (l.length : Int) := by omega
      have q0 : wr.cell? ⟨b, o + k * 4, none⟩ = some (.string f.name) := hc 0 _ rfl
      clear hcell hat hc
      by_cases hn : f.name = nm
      · have hfin : Hid ((l.any fun f => decide (f.name = nm)) = true) := Lib.hid (by rw [hany, hd]; simp [hn])
        clear hd hany hf
        go_wp2
        go_ret
        exact ⟨by rw [hfin.out]; rfl, rfl⟩
      · rw [decide_eq_false hn, Bool.false_or] at hd
        clear hf
        go_wp2
        go_roundw
        case rel => exact ⟨k + 1, by omega, by go_num, hany.trans hd, by first | rfl | trivial⟩
        case measure => simp [intOf]; omega
    · obtain rfl : k = l.length := by omega
      rw [List.drop_length] at hany
      have hfin : Hid ((l.any fun f => decide (f.name = nm)) = false) := Lib.hid hany
      clear hany hat
      go_wp2
      go_ret
      exact ⟨by rw [hfin.out]; rfl, rfl⟩
/-- a row of bools that can be read -/
def RdBl (w : World) (B : Nat) (A : Option Addr) (l : List Bool) : Prop := RdB w B A 1 (l.map fun b => [.bool b])
theorem find_drop (l : List FL) (n : ByteArray) (k : Nat) (f : FL) (hf : l[k]? = some f) : ((l.drop k).find? fun f => decide (f.name = n)) = if f.name = n then some f else (l.drop (k + 1)).find? fun f => decide (f.name = n) := by
  obtain ⟨hl, e⟩ := List.getElem?_eq_some_iff.1 hf
  rw [List.drop_eq_getElem_cons hl, e, List.find?_cons]
  by_cases h : f.name = n <;> simp [h]
theorem args_drop (f : FL) (l : List Bool) (k : Nat) (b : Bool) (hb : l[k]? = some b) : (((l.zipIdx).drop k).all fun x => argOk f x.2 x.1) = (argOk f k b && ((l.zipIdx).drop (k + 1)).all fun x => argOk f x.2 x.1) := by
  have h1 : l.zipIdx[k]? = some (b, k) := by rw [List.getElem?_zipIdx, hb]; simp
  obtain ⟨hl, e⟩ := List.getElem?_eq_some_iff.1 h1
  rw [List.drop_eq_getElem_cons hl, e, List.all_cons]
set_option maxHeartbeats 2000000 in
set_option maxRecDepth 100000 in
theorem ftakes (t : TV) (B : Nat) (nm : ByteArray) (rects : List Bool) (A2 : Option Addr) (c2 : Nat) (hr16 : rects.length ≤ 16) (w : World) (h : FunsAt t B w) (hB : B ≤ w.heap.size) (h2 : RdBl w w.heap.size A2 rects) : Calls Tryz.prog 187 #[t.s, .string nm, .slice A2 rects.length c2] w fun e w' => e = .returned (.bool ((tbOf t.l).takes nm rects)) ∧ Below w.heap.size w w' := by
  have hfew := h.few
  have hsm := h.small
  have hat := h.at
  clear h
  have etk : (tbOf t.l).takes nm rects = tkOf (t.l.find? fun f => decide (f.name = nm)) rects := rfl
  rw [etk]
  clear etk
  obtain ⟨A, cap, l⟩ := t
  simp only [TV.s] at *
  go_enter Tryz.func187, Tryz.ntmps187
  go_wp2
  go_loopw [7] (fun i wr => ∃ k : Nat, k ≤ l.length ∧ i = .int .i64 (k : Int) ∧ (l.find? fun f => decide (f.name = nm)) = ((l.drop k).find? fun f => decide (f.name = nm)) ∧ Below w.heap.size w wr) (fun i _ => l.length - (intOf i).toNat)
  case atStart => exact ⟨0, Nat.zero_le _, rfl, rfl, Below.refl _ _⟩
  case round =>
    obtain ⟨k, hk, rfl, hfind, hbr⟩ := hrel
    have hzr := hbr.size
    by_cases hkl : k < l.length
    · obtain ⟨b, o, rfl, hbB, hcell⟩ := hat (by omega)
      obtain ⟨f, hf⟩ : ∃ f, l[k]? = some f := ⟨_, List.getElem?_eq_getElem hkl⟩
      have hc := fun j u hu => (hbr.cell (p := ⟨b, o + k * 4 + j, none⟩) (by dsimp only; omega)).trans (hcell k f hf j u hu)
      have hd := find_drop l nm k f hf
      have hki : (k : Int) < (l.length : Int) := by omega
      have q0 : wr.cell? ⟨b, o + k * 4, none⟩ = some (.string f.name) := hc 0 _ rfl
      have q1 : wr.cell? ⟨b, o + k * 4 + 1, none⟩ = some (.int .i64 f.least) := hc 1 _ rfl
      have q2 : wr.cell? ⟨b, o + k * 4 + 2, none⟩ = some (.int .i64 f.most) := hc 2 _ rfl
      have q3 : wr.cell? ⟨b, o + k * 4 + 3, none⟩ = some (.string f.kinds) := hc 3 _ rfl
      have hks := hsm f (List.mem_of_getElem? hf)
      have hbw : Below w.heap.size w (wr.alloc (.cells #[.string f.name, .int .i64 f.least, .int .i64 f.most, .string f.kinds] 225)) := hbr.alloc hzr _
      clear hcell hat hc
      by_cases hn : f.name = nm
      · subst hn
        have hfin := Lib.hid (hfind.trans (hd.trans (if_pos rfl)))
        clear hf hd hfind hsm
        have rd2 : RdBl (wr.alloc (.cells #[.string f.name, .int .i64 f.least, .int .i64 f.most, .string f.kinds] 225)) w.heap.size A2 rects := h2.below hbw
        clear h2
        have hga : Hid (tkOf (l.find? fun f_1 => decide (f_1.name = f.name)) rects = (argsOk f rects && decide (f.least ≤ rects.length) && decide ((rects.length : Int) ≤ f.most))) := Lib.hid (by rw [hfin.out]; rfl)
        clear hfin
        go_wp2
        go_loopw [9] (fun i wq => ∃ j : Nat, j ≤ rects.length ∧ i = .int .i64 (j : Int) ∧ Hid (argsOk f rects = ((rects.zipIdx).drop j).all fun x => argOk f x.2 x.1) ∧ wq = wr.alloc (.cells #[.string f.name, .int .i64 f.least, .int .i64 f.most, .string f.kinds] 225)) (fun i _ => rects.length - (intOf i).toNat)
        case atStart => exact ⟨0, Nat.zero_le _, rfl, Lib.hid rfl, rfl⟩
        case round =>
          obtain ⟨j, hj, rfl, hall, rfl⟩ := hrel
          by_cases hjl : j < rects.length
          · obtain ⟨x, hx⟩ : ∃ x, rects[j]? = some x := ⟨_, List.getElem?_eq_getElem hjl⟩
            obtain ⟨b2, o2, rfl, hb2, hc2⟩ := rd2 j [.bool x] (by rw [List.getElem?_map, hx]; rfl)
            have q4 : (wr.alloc (.cells #[.string f.name, .int .i64 f.least, .int .i64 f.most, .string f.kinds] 225)).cell? ⟨b2, o2 + j, none⟩ = some (.bool x) := by have := hc2 0 _ rfl; simpa using this
            have hd2 := args_drop f rects j x hx
            have hjr : (j : Int) < (rects.length : Int) := by omega
            by_cases hk0 : f.kinds.size = 0
            · have hkd : f.kind j = 118 := by unfold FL.kind; rw [dif_neg (by omega)]
              have hke : decide (f.kinds = ⟨#[]⟩) = true := by
                have : f.kinds.data = #[] := by apply Array.eq_empty_of_size_eq_zero; exact hk0
                cases hf : f.kinds with | mk d => rw [hf] at this; simp only at this; rw [this]; simp
              have hka : argOk f j x = (x == false) := by unfold argOk; rw [hkd]; simp
              rw [hka] at hd2
              clear hk0 hkd hka
              cases x with
              | true =>
                have hfin : Hid (tkOf (l.find? fun f_1 => decide (f_1.name = f.name)) rects = false) := Lib.hid (by rw [hga.out, hall.out, hd2]; rfl)
                clear hga hall hd2
                go_wp2
                go_ret
                exact ⟨by rw [hfin.out]; rfl, hbw⟩
              | false =>
                have hall2 := Lib.hid (hall.out.trans hd2)
                clear hga hall hd2
                go_wp2
                go_roundw
                case rel => exact ⟨j + 1, by omega, by go_num, by first | exact hall2 | (refine Lib.hid (hall2.out.trans ?_); simp), by first | rfl | trivial⟩
                case measure => simp [intOf]; omega
            · have h0 : 0 < f.kinds.size := by omega
              have hkd : f.kind j = ((f.kinds[min j (f.kinds.size - 1)]'(by omega)).toNat : Int) := by unfold FL.kind; rw [dif_pos h0]
              have hke : decide (f.kinds = ⟨#[]⟩) = false := by
                simp only [decide_eq_false_iff_not]
                intro e
                rw [e] at h0
                exact absurd h0 (by decide)
              have hwk : IntKind.i64.wrap ((f.kinds.size : Int) - 1) = (f.kinds.size : Int) - 1 := IntWalk.i64_in _ (by omega)
              have m1 : (0 : Int) ≤ min (j : Int) ((f.kinds.size : Int) - 1) := by omega
              have m2 : min (j : Int) ((f.kinds.size : Int) - 1) < (f.kinds.size : Int) := by omega
              obtain ⟨N, hN⟩ : ∃ N : Nat, (f.kinds[(min (j : Int) ((f.kinds.size : Int) - 1)).toNat]'(by omega)).toNat = N := ⟨_, rfl⟩
              have hkN : f.kind j = (N : Int) := by
                rw [hkd, ← hN]
                congr 3
                omega
              have hka : argOk f j x = (decide (N = 120) || (x == decide (N = 114))) := by
                unfold argOk
                rw [hkN]
                congr 2
                · simp; omega
                · simp; omega
              clear hkd hkN
              by_cases h120 : N = 120
              · subst h120
                have hka : argOk f j x = true := by rw [hka]; simp
                have hall2 : Hid (argsOk f rects = ((rects.zipIdx).drop (j + 1)).all fun x => argOk f x.2 x.1) := Lib.hid (hall.out.trans (hd2.trans (by simp [hka])))
                clear hall hd2 hka hga
                go_wp2
                all_goals go_roundw
                all_goals first | exact ⟨j + 1, by omega, by go_num, hall2, by first | rfl | trivial⟩ | (simp [intOf]; omega)
              · by_cases h114 : N = 114
                · subst h114
                  clear h120
                  cases x with
                  | true =>
                    have hall2 : Hid (argsOk f rects = ((rects.zipIdx).drop (j + 1)).all fun x => argOk f x.2 x.1) := Lib.hid (hall.out.trans (hd2.trans (by simp [hka])))
                    clear hall hd2 hka hga
                    go_wp2
                    all_goals go_roundw
                    all_goals first | exact ⟨j + 1, by omega, by go_num, hall2, by first | rfl | trivial⟩ | (simp [intOf]; omega)
                  | false =>
                    have hfin : Hid (tkOf (l.find? fun f_1 => decide (f_1.name = f.name)) rects = false) := Lib.hid (by rw [hga.out, hall.out, hd2, hka]; simp)
                    clear hall hd2 hka hga
                    go_wp2
                    all_goals go_ret
                    all_goals exact ⟨by rw [hfin.out]; rfl, hbw⟩
                · have i120 : ¬ (N : Int) = 120 := by omega
                  have i114 : ¬ (N : Int) = 114 := by omega
                  have n120 : ((N : Int) != 120) = true := by simp; omega
                  have n114 : ((N : Int) == 114) = false := by simp; omega
                  have hka : argOk f j x = (x == false) := by rw [hka, decide_eq_false h120, decide_eq_false h114]; rfl
                  cases x with
                  | true =>
                    have hfin : Hid (tkOf (l.find? fun f_1 => decide (f_1.name = f.name)) rects = false) := Lib.hid (by rw [hga.out, hall.out, hd2, hka]; simp)
                    clear hall hd2 hka hga
                    go_wp2
                    all_goals go_ret
                    all_goals exact ⟨by rw [hfin.out]; rfl, hbw⟩
                  | false =>
                    have hall2 : Hid (argsOk f rects = ((rects.zipIdx).drop (j + 1)).all fun x => argOk f x.2 x.1) := Lib.hid (hall.out.trans (hd2.trans (by simp [hka])))
                    clear hall hd2 hka hga
                    go_wp2
                    all_goals go_roundw
                    all_goals first | exact ⟨j + 1, by omega, by go_num, hall2, by first | rfl | trivial⟩ | (simp [intOf]; omega)
          · obtain rfl : j = rects.length := by omega
            have hall2 : Hid (argsOk f rects = true) := Lib.hid (by rw [hall.out, List.drop_of_length_le (by simp)]; rfl)
            clear hall
            by_cases hlo : f.least ≤ (rects.length : Int)
            · have l1 : decide ((rects.length : Int) ≥ f.least) = true := by simpa using hlo
              have hfin := Lib.hid (hga.out.trans (show _ = decide ((rects.length : Int) ≤ f.most) by rw [hall2.out]; simp [hlo]))
              clear hga hall2
              go_wp2
              go_ret
              exact ⟨by rw [hfin.out]; rfl, hbw⟩
            · have l1 : decide ((rects.length : Int) ≥ f.least) = false := by simpa using hlo
              have hfin := Lib.hid (hga.out.trans (show _ = false by simp [hlo]))
              clear hga hall2
              go_wp2
              go_ret
              exact ⟨by rw [hfin.out]; rfl, hbw⟩
      · rw [if_neg hn] at hd
        clear hf hsm
        go_wp2
        go_roundw
        case rel => exact ⟨k + 1, by omega, by go_num, hfind.trans hd, hbw⟩
        case measure => simp [intOf]; omega
    · obtain rfl : k = l.length := by omega
      rw [List.drop_length] at hfind
      have hfin := Lib.hid hfind
      clear hfind hat hsm
      go_wp2
      go_ret
      exact ⟨by rw [hfin.out]; rfl, hbr⟩
end Go.Proofs.YtfbkoieodflcpaaGreatDoor
