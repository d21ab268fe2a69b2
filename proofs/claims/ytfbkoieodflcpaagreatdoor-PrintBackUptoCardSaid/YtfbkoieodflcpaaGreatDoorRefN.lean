/-
  refs: named.
-/
import Derived.Test.YtfbkoieodflcpaaGreatDoorMg3
import Derived.Test.YtfbkoieodflcpaaGreatDoorRows
import Derived.Test.YtfbkoieodflcpaaGreatDoorMg0
import Derived.Test.YtfbkoieodflcpaaGreatDoorProg
import Derived.Test.YtfbkoieodflcpaaGreatDoorShelf
import Derived.Test.YtfbkoieodflcpaaGreatDoorMg4
import Derived.Test.YtfbkoieodflcpaaGreatDoorAddrC
import Derived.Test.YtfbkoieodflcpaaGreatDoorMg6
import Derived.Test.YtfbkoieodflcpaaGreatDoorValA
import Derived.Test.YtfbkoieodflcpaaGreatDoorValB
import Derived.Test.YtfbkoieodflcpaaGreatDoorMg9
import Derived.Test.YtfbkoieodflcpaaGreatDoorMg10
import Derived.Test.YtfbkoieodflcpaaGreatDoorMg11
import Derived.Test.YtfbkoieodflcpaaGreatDoorLexS
import Derived.WalkSpells
import Derived.WalkLawsBesides
import Derived.StillTactics
import Derived.Laws.Pointers
import Derived.Deep.RegionHeld3
import Derived.Deep.QuietTactic
import Derived.BigQuiet
import Derived.RowKit3
import Derived.Lib.Hide
import Derived.Lib.OthersKept
import Derived.OwnWalk
import Derived.Lib.IndexLaws
import Derived.Lib.ItoaMem
import Derived.Lib.TrimByte
import Derived.Lib.SlTrimSet
import Derived.Lib.ParseIntB
import Derived.WalkKit
import Derived.ProofKit
import Derived.OpenShut
import Derived.Carry
import Derived.ChangeSame
import Derived.Deep.Draws
import Derived.Shelf.Strings.Builder1
import Derived.Shelf.Strings.Builder2
import Derived.Shelf.Strings.Trim
import Derived.Shelf.Small.Utf8
import Derived.Shelf.Small.Strs
import Derived.Shelf.Small.Wraps
import Derived.Shelf.Strings.BuilderF
import Derived.Shelf.Strings.BuilderK
import Derived.Shelf.Utf8.RuneCount
import Derived.Shelf.Strconv.Itoa0
import Derived.Shelf.Strconv.Itoa1
import Derived.Shelf.LaysM
import Derived.Shelf.Strconv.Itoa2
import Derived.Shelf.Strconv.Itoa3
import Derived.Ground.MpProg
import Derived.Shelf.Pu.ParseUintPublic10
import Derived.Shelf.Strings.Search1
import Derived.Shelf.Strings.Search2
import Derived.Shelf.Strings.Search3
import Derived.Shelf.Strings.Cut
import Derived.Shelf.Strings.Count
import Derived.Shelf.Strings.Shaped
import Derived.Shelf.Strings.Prefix
import Derived.Shelf.Strings.Split
import Derived.Shelf.Strings.Replace
import Derived.Shelf.Strings.SplitShaped
import Derived.Shelf.Unicode.Decode
import Derived.Shelf.Strings.Runes
import Derived.Shelf.Strings.RuneCount
import Derived.Shelf.Strings.AsciiSet
import Derived.Shelf.Unicode.DecodeSlow
import Derived.Shelf.Unicode.DecodeAny
import Derived.Shelf.Unicode.DecodeLast
import Derived.Lib.ItoaNum
import Derived.Maps.OwnSet
import Derived.Maps.AppendAt
namespace Go.Proofs.YtfbkoieodflcpaaGreatDoor
open Go.RowKit

set_option maxRecDepth 100000 in
set_option maxHeartbeats 2000000 in
theorem refnamed_loop (l : List UInt8) (hl : 1 ≤ l.length) (hl2 : l.length ≤ 16) (n1 : l ≠ [84, 82, 85, 69]) (n2 : l ≠ [70, 65, 76, 83, 69]) (u d top : Nat) (res : Bool) (hul : u ≤ l.length) (hdl : u + d ≤ l.length) (htop : top ≤ l.length) (hu0 : 0 < u ∨ top = 0)
    (hA : ∀ j (_ : j < top) (h2 : j < l.length), j < u → upB l[j] = true) (hB : ∀ j (_ : j < top) (h2 : j < l.length), u ≤ j → j < u + d → isDig l[j] = true)
    (hC : ∀ j (_ : j < top) (h2 : j < l.length), u + d ≤ j → partB l[j] = true) (hD : ∀ (h2 : u < l.length), u < top → upB l[u] = false) (hE : ∀ (h2 : u + d < l.length), u + d < top → isDig l[u + d] = false)
    (hF : ∀ (h2 : top < l.length), (0 < top → partB l[top] = false) ∧ (top = 0 → upB l[top] = false))
    (hres : (top < l.length → res = false) ∧ (top = l.length → res = (decide (d = 0) || decide (u + d < l.length)))) (w : World) : Calls Tryz.prog 98 #[.string ⟨l.toArray⟩] w fun e w' => e = .returned (.bool res) ∧ w = w' := by
  have m1 : ((⟨l.toArray⟩ : ByteArray) = ⟨#[84, 82, 85, 69]⟩) = False := by rw [show (⟨#[84, 82, 85, 69]⟩ : ByteArray) = ⟨([84, 82, 85, 69] : List UInt8).toArray⟩ from rfl, list_bytes]; exact eq_false n1
  have m2 : ((⟨l.toArray⟩ : ByteArray) = ⟨#[70, 65, 76, 83, 69]⟩) = False := by rw [show (⟨#[70, 65, 76, 83, 69]⟩ : ByteArray) = ⟨([70, 65, 76, 83, 69] : List UInt8).toArray⟩ from rfl, list_bytes]; exact eq_false n2
  have hA' := Lib.hid hA
  have hB' := Lib.hid hB
  have hC' := Lib.hid hC
  have hD' := Lib.hid hD
  have hE' := Lib.hid hE
  have hF' := Lib.hid hF
  have hres' := Lib.hid hres
  have hu0' := Lib.hid hu0
  clear hA hB hC hD hE hF hres hu0 n1 n2
  go_enter Tryz.func98, Tryz.ntmps98
  go_wp2
  go_loop [3, 4, 25] (fun a b i => ∃ j : Nat, j ≤ top ∧ i = .int .i64 (j : Int) ∧ a = .int .i64 ((min j u : Nat) : Int) ∧ b = .int .i64 ((min (j - u) d : Nat) : Int)) (fun _ _ i => top - (intOf i).toNat)
  case atStart => exact ⟨0, by omega, rfl, by simp, by simp⟩
  case round =>
    obtain ⟨j, hj, rfl, rfl, rfl⟩ := hrel
    obtain ⟨p, hp0⟩ : ∃ p, min j u = p := ⟨_, rfl⟩
    obtain ⟨q, hq0⟩ : ∃ q, min (j - u) d = q := ⟨_, rfl⟩
    have hp := Lib.hid hp0
    have hq := Lib.hid hq0
    rw [hp0, hq0]
    clear hp0 hq0
    by_cases hlen : j < l.length
    · have hb : j < (⟨l.toArray⟩ : ByteArray).size := by show j < l.toArray.size; simpa using hlen
      have hjl : (j : Int) < (l.length : Int) := by omega
      by_cases hjt : j < top
      · have hu1 : 0 < u := by rcases hu0'.out with h | h <;> omega
        by_cases hju : j < u
        · have hup : upB ((⟨l.toArray⟩ : ByteArray)[j]'hb) = true := hA'.out j hjt hlen hju
          have eP : IntKind.i64.wrap ((p : Int) + 1) = (p : Int) + 1 := by have h7 := hp.out; have h9 : p ≤ 16 := (by omega); exact IntWalk.i64_in _ (by omega)
          have r1 : Hid (min (j + 1) u = p + 1) := Lib.hid (by have := hp.out; have := hq.out; omega)
          have r2 : Hid (min (j + 1 - u) d = q) := Lib.hid (by have := hp.out; have := hq.out; omega)
          have e1 : ((p : Int) == (j : Int)) = true := by have := hp.out; simp; omega
          have c1 : 65 ≤ ((⟨l.toArray⟩ : ByteArray)[j]'hb).toNat := by have := hup; simp [upB] at this; exact this.1
          have c2 : ((⟨l.toArray⟩ : ByteArray)[j]'hb).toNat ≤ 90 := by have := hup; simp [upB] at this; exact this.2
          clear hup
          go_wp2
          go_round
          case rel => exact ⟨j + 1, by omega, by go_num, by first | rfl | (refine congrArg (Value.int IntKind.i64) ?_; have h5 := r1.out; have h6 := r2.out; have h7 := hp.out; have h8 := hq.out; have h9 : p ≤ 16 := (by omega); have h10 : q ≤ 16 := (by omega); first | omega | (rw [h5]; go_num) | (rw [h6]; go_num)), by first | rfl | (refine congrArg (Value.int IntKind.i64) ?_; have h5 := r1.out; have h6 := r2.out; have h7 := hp.out; have h8 := hq.out; have h9 : p ≤ 16 := (by omega); have h10 : q ≤ 16 := (by omega); first | omega | (rw [h5]; go_num) | (rw [h6]; go_num))⟩
          case measure => simp [intOf]; omega
        · by_cases hjd : j < u + d
          · have hdg : isDig ((⟨l.toArray⟩ : ByteArray)[j]'hb) = true := hB'.out j hjt hlen (by omega) hjd
            have eQ : IntKind.i64.wrap ((q : Int) + 1) = (q : Int) + 1 := by have h7 := hp.out; have h8 := hq.out; have h9 : q ≤ 16 := (by omega); exact IntWalk.i64_in _ (by omega)
            have eW : IntKind.i64.wrap ((p : Int) + (q : Int)) = (p : Int) + (q : Int) := by have h7 := hp.out; have h8 := hq.out; have h9 : p ≤ 16 := (by omega); have h10 : q ≤ 16 := (by omega); exact IntWalk.i64_in _ (by omega)
            have r1 : Hid (min (j + 1) u = p) := Lib.hid (by have := hp.out; have := hq.out; omega)
            have r2 : Hid (min (j + 1 - u) d = q + 1) := Lib.hid (by have := hp.out; have := hq.out; omega)
            have e1 : ((p : Int) + (q : Int) == (j : Int)) = true := by have := hp.out; have := hq.out; simp; omega
            have hj0 : decide (0 < j) = true := by simp; omega
            have hj1 : decide ((j : Int) > 0) = true := by simp; omega
            have hj2 : (0 : Int) < (j : Int) := by omega
            have c1 : 48 ≤ ((⟨l.toArray⟩ : ByteArray)[j]'hb).toNat := by have := hdg; simp [isDig] at this; exact this.1
            have c2 : ((⟨l.toArray⟩ : ByteArray)[j]'hb).toNat ≤ 57 := by have := hdg; simp [isDig] at this; exact this.2
            have c3 : ((⟨l.toArray⟩ : ByteArray)[j]'hb).toNat < 65 := by omega
            clear hdg
            go_wp2
            go_round
            case rel => exact ⟨j + 1, by omega, by go_num, by first | rfl | (refine congrArg (Value.int IntKind.i64) ?_; have h5 := r1.out; have h6 := r2.out; have h7 := hp.out; have h8 := hq.out; have h9 : p ≤ 16 := (by omega); have h10 : q ≤ 16 := (by omega); first | omega | (rw [h5]; go_num) | (rw [h6]; go_num)), by first | rfl | (refine congrArg (Value.int IntKind.i64) ?_; have h5 := r1.out; have h6 := r2.out; have h7 := hp.out; have h8 := hq.out; have h9 : p ≤ 16 := (by omega); have h10 : q ≤ 16 := (by omega); first | omega | (rw [h5]; go_num) | (rw [h6]; go_num))⟩
            case measure => simp [intOf]; omega
          · have hpt : partB ((⟨l.toArray⟩ : ByteArray)[j]'hb) = true := hC'.out j hjt hlen (by omega)
            by_cases hup : upB ((⟨l.toArray⟩ : ByteArray)[j]'hb) = true
            · have hne : j ≠ u := fun e => by subst e; have := hD'.out hlen hjt; rw [show upB l[j] = true from hup] at this; cases this
              clear hpt
              have r1 : Hid (min (j + 1) u = p) := Lib.hid (by have := hp.out; have := hq.out; omega)
              have r2 : Hid (min (j + 1 - u) d = q) := Lib.hid (by have := hp.out; have := hq.out; omega)
              have e1 : ((p : Int) == (j : Int)) = false := by have := hp.out; simp; omega
              have hj0 : decide (0 < j) = true := by simp; omega
              have hj1 : decide ((j : Int) > 0) = true := by simp; omega
              have hj2 : (0 : Int) < (j : Int) := by omega
              have c1 : 65 ≤ ((⟨l.toArray⟩ : ByteArray)[j]'hb).toNat := by have := hup; simp [upB] at this; exact this.1
              have c2 : ((⟨l.toArray⟩ : ByteArray)[j]'hb).toNat ≤ 90 := by have := hup; simp [upB] at this; exact this.2
              have c4 : 57 < ((⟨l.toArray⟩ : ByteArray)[j]'hb).toNat := by omega
              clear hup
              go_wp2
              go_round
              case rel => exact ⟨j + 1, by omega, by go_num, by first | rfl | (refine congrArg (Value.int IntKind.i64) ?_; have h5 := r1.out; have h6 := r2.out; have h7 := hp.out; have h8 := hq.out; have h9 : p ≤ 16 := (by omega); have h10 : q ≤ 16 := (by omega); first | omega | (rw [h5]; go_num) | (rw [h6]; go_num)), by first | rfl | (refine congrArg (Value.int IntKind.i64) ?_; have h5 := r1.out; have h6 := r2.out; have h7 := hp.out; have h8 := hq.out; have h9 : p ≤ 16 := (by omega); have h10 : q ≤ 16 := (by omega); first | omega | (rw [h5]; go_num) | (rw [h6]; go_num))⟩
              case measure => simp [intOf]; omega
            · by_cases hdg : isDig ((⟨l.toArray⟩ : ByteArray)[j]'hb) = true
              · have hne : j ≠ u + d := fun e => by
                  have h9 := hE'.out (by omega) (by omega)
                  simp only [← e] at h9
                  rw [show isDig l[j] = true from hdg] at h9; cases h9
                clear hpt hup
                have eW : IntKind.i64.wrap ((p : Int) + (q : Int)) = (p : Int) + (q : Int) := by have h7 := hp.out; have h8 := hq.out; have h9 : p ≤ 16 := (by omega); have h10 : q ≤ 16 := (by omega); exact IntWalk.i64_in _ (by omega)
                have r1 : Hid (min (j + 1) u = p) := Lib.hid (by have := hp.out; have := hq.out; omega)
                have r2 : Hid (min (j + 1 - u) d = q) := Lib.hid (by have := hp.out; have := hq.out; omega)
                have e1 : ((p : Int) + (q : Int) == (j : Int)) = false := by have := hp.out; have := hq.out; simp; omega
                have hj0 : decide (0 < j) = true := by simp; omega
                have hj1 : decide ((j : Int) > 0) = true := by simp; omega
                have hj2 : (0 : Int) < (j : Int) := by omega
                have c1 : 48 ≤ ((⟨l.toArray⟩ : ByteArray)[j]'hb).toNat := by have := hdg; simp [isDig] at this; exact this.1
                have c2 : ((⟨l.toArray⟩ : ByteArray)[j]'hb).toNat ≤ 57 := by have := hdg; simp [isDig] at this; exact this.2
                have c3 : ((⟨l.toArray⟩ : ByteArray)[j]'hb).toNat < 65 := by omega
                clear hdg
                go_wp2
                go_round
                case rel => exact ⟨j + 1, by omega, by go_num, by first | rfl | (refine congrArg (Value.int IntKind.i64) ?_; have h5 := r1.out; have h6 := r2.out; have h7 := hp.out; have h8 := hq.out; have h9 : p ≤ 16 := (by omega); have h10 : q ≤ 16 := (by omega); first | omega | (rw [h5]; go_num) | (rw [h6]; go_num)), by first | rfl | (refine congrArg (Value.int IntKind.i64) ?_; have h5 := r1.out; have h6 := r2.out; have h7 := hp.out; have h8 := hq.out; have h9 : p ≤ 16 := (by omega); have h10 : q ≤ 16 := (by omega); first | omega | (rw [h5]; go_num) | (rw [h6]; go_num))⟩
                case measure => simp [intOf]; omega
              · have hus : ((⟨l.toArray⟩ : ByteArray)[j]'hb).toNat = 95 := by simpa [partB, hup, hdg] using hpt
                clear hpt hup hdg
                have r1 : Hid (min (j + 1) u = p) := Lib.hid (by have := hp.out; have := hq.out; omega)
                have r2 : Hid (min (j + 1 - u) d = q) := Lib.hid (by have := hp.out; have := hq.out; omega)
                have c1 : ((⟨l.toArray⟩ : ByteArray)[j]'hb).toNat = 95 := hus
                have hj0 : decide (0 < j) = true := by simp; omega
                have hj1 : decide ((j : Int) > 0) = true := by simp; omega
                have hj2 : (0 : Int) < (j : Int) := by omega
                clear hus
                go_wp2
                go_round
                case rel => exact ⟨j + 1, by omega, by go_num, by first | rfl | (refine congrArg (Value.int IntKind.i64) ?_; have h5 := r1.out; have h6 := r2.out; have h7 := hp.out; have h8 := hq.out; have h9 : p ≤ 16 := (by omega); have h10 : q ≤ 16 := (by omega); first | omega | (rw [h5]; go_num) | (rw [h6]; go_num)), by first | rfl | (refine congrArg (Value.int IntKind.i64) ?_; have h5 := r1.out; have h6 := r2.out; have h7 := hp.out; have h8 := hq.out; have h9 : p ≤ 16 := (by omega); have h10 : q ≤ 16 := (by omega); first | omega | (rw [h5]; go_num) | (rw [h6]; go_num))⟩
                case measure => simp [intOf]; omega
      · obtain rfl : j = top := by omega
        have hr : res = false := hres'.out.1 hlen
        subst hr
        by_cases hz : j = 0
        · have hup : upB ((⟨l.toArray⟩ : ByteArray)[j]'hb) = false := (hF'.out hlen).2 hz
          have c1 : ((⟨l.toArray⟩ : ByteArray)[j]'hb).toNat < 65 ∨ 90 < ((⟨l.toArray⟩ : ByteArray)[j]'hb).toNat := by simp [upB] at hup; omega
          have hj0 : decide (0 < j) = false := by simp; omega
          have hj2 : ¬ (0 : Int) < (j : Int) := by omega
          clear hup hz
          rcases c1 with c1 | c1
          · by_cases c2 : 48 ≤ ((⟨l.toArray⟩ : ByteArray)[j]'hb).toNat
            · by_cases c3 : ((⟨l.toArray⟩ : ByteArray)[j]'hb).toNat ≤ 57
              · go_wp2
                go_ret
                exact ⟨rfl, rfl⟩
              · go_wp2
                go_ret
                exact ⟨rfl, rfl⟩
            · go_wp2
              go_ret
              exact ⟨rfl, rfl⟩
          · go_wp2
            go_ret
            exact ⟨rfl, rfl⟩
        · have hpt : partB ((⟨l.toArray⟩ : ByteArray)[j]'hb) = false := (hF'.out hlen).1 (by omega)
          have c0 : ((⟨l.toArray⟩ : ByteArray)[j]'hb).toNat < 48 ∨ (57 < ((⟨l.toArray⟩ : ByteArray)[j]'hb).toNat ∧ ((⟨l.toArray⟩ : ByteArray)[j]'hb).toNat < 65) ∨ (90 < ((⟨l.toArray⟩ : ByteArray)[j]'hb).toNat ∧ ((⟨l.toArray⟩ : ByteArray)[j]'hb).toNat ≠ 95) := by simp [partB, upB, isDig] at hpt; omega
          have hj0 : decide (0 < j) = true := by simp; omega
          have hj2 : (0 : Int) < (j : Int) := by omega
          clear hpt hz
          rcases c0 with c1 | ⟨c1, c2⟩ | ⟨c1, c2⟩
          · have c3 : ((⟨l.toArray⟩ : ByteArray)[j]'hb).toNat ≠ 95 := by omega
            have c4 : ((⟨l.toArray⟩ : ByteArray)[j]'hb).toNat < 65 := by omega
            go_wp2
            go_ret
            exact ⟨rfl, rfl⟩
          · have c3 : ((⟨l.toArray⟩ : ByteArray)[j]'hb).toNat ≠ 95 := by omega
            go_wp2
            go_ret
            exact ⟨rfl, rfl⟩
          · have c3 : 57 < ((⟨l.toArray⟩ : ByteArray)[j]'hb).toNat := by omega
            go_wp2
            go_ret
            exact ⟨rfl, rfl⟩
    · obtain rfl : j = top := by omega
      have hjl : j = l.length := by omega
      have hr := hres'.out.2 hjl
      have hlt : ¬ (j : Int) < (l.length : Int) := by omega
      have hu1 : 0 < u := by rcases hu0'.out with h | h <;> omega
      obtain rfl : p = u := by have := hp.out; omega
      obtain rfl : q = d := by have := hq.out; omega
      have hr' := Lib.hid hr
      clear hr hjl
      by_cases hd0 : q = 0
      · have f1 : ((q : Int) == 0) = true := by simp; omega
        have hd1 := Lib.hid hd0
        clear hd0
        go_wp2
        go_ret
        exact ⟨by rw [hr'.out, decide_eq_true hd1.out]; rfl, rfl⟩
      · have f1 : ((q : Int) == 0) = false := by simp; omega
        have hd1 := Lib.hid hd0
        clear hd0
        by_cases hlt2 : p + q < l.length
        · have f2 : decide ((p : Int) + (q : Int) < (l.length : Int)) = true := by simp; omega
          go_wp2
          go_ret
          exact ⟨by rw [hr'.out, decide_eq_true hlt2, Bool.or_true]; first | rfl | simp [f2] | simp; omega, rfl⟩
        · have f2 : decide ((p : Int) + (q : Int) < (l.length : Int)) = false := by simp; omega
          go_wp2
          go_ret
          exact ⟨by rw [hr'.out, decide_eq_false hlt2, decide_eq_false hd1.out]; first | rfl | simp [f2], rfl⟩
end Go.Proofs.YtfbkoieodflcpaaGreatDoor
