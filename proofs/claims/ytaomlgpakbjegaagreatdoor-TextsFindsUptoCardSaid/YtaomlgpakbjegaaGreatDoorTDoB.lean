/-
  texts: bytes turned.
-/
import Derived.Test.YtaomlgpakbjegaaGreatDoorRows
import Derived.Test.YtaomlgpakbjegaaGreatDoorBase
import Derived.Test.YtaomlgpakbjegaaGreatDoorMapK
import Derived.Test.YtaomlgpakbjegaaGreatDoorProg
import Derived.Test.YtaomlgpakbjegaaGreatDoorShelf
import Derived.Test.YtaomlgpakbjegaaGreatDoorTFind
import Derived.Test.YtaomlgpakbjegaaGreatDoorRowB
import Derived.Test.YtaomlgpakbjegaaGreatDoorDecA
import Derived.Test.YtaomlgpakbjegaaGreatDoorValA
import Derived.Test.YtaomlgpakbjegaaGreatDoorValB
import Derived.Test.YtaomlgpakbjegaaGreatDoorMg10
import Derived.Test.YtaomlgpakbjegaaGreatDoorValC
import Derived.Test.YtaomlgpakbjegaaGreatDoorAddrC
import Derived.Test.YtaomlgpakbjegaaGreatDoorAddrI
import Derived.Test.YtaomlgpakbjegaaGreatDoorMg14
import Derived.Test.YtaomlgpakbjegaaGreatDoorFmtU
import Derived.Test.YtaomlgpakbjegaaGreatDoorPrintL
import Derived.Test.YtaomlgpakbjegaaGreatDoorDPrint
import Derived.Test.YtaomlgpakbjegaaGreatDoorRPr
import Derived.Test.YtaomlgpakbjegaaGreatDoorNDoE
import Derived.Test.YtaomlgpakbjegaaGreatDoorTCall
import Derived.Test.YtaomlgpakbjegaaGreatDoorValD
import Derived.Test.YtaomlgpakbjegaaGreatDoorMg21
import Derived.Test.YtaomlgpakbjegaaGreatDoorValJ
import Derived.Test.YtaomlgpakbjegaaGreatDoorValL
import Derived.Test.YtaomlgpakbjegaaGreatDoorNCallK
import Derived.Test.YtaomlgpakbjegaaGreatDoorTCallK
import Derived.Test.YtaomlgpakbjegaaGreatDoorTCallB
import Derived.Test.YtaomlgpakbjegaaGreatDoorTDoA
import Derived.Laws.IdiomStrings
import Derived.WalkSpells
import Derived.WalkLawsBesides
import Derived.StillTactics
import Derived.Laws.Pointers
import Derived.Deep.RegionHeld3
import Derived.Deep.QuietTactic
import Derived.BigQuiet
import Derived.RowKit3
import Derived.Lib.Hide
import Derived.Lib.OthersKept
import Derived.OwnWalk
import Derived.Lib.IndexLaws
import Derived.Lib.ItoaMem
import Derived.WalkKit
import Derived.ProofKit
import Derived.OpenShut
import Derived.Carry
import Derived.ChangeSame
import Derived.Deep.Draws
import Derived.Maps.OwnSet
import Derived.Maps.AppendAt
import Derived.Shelf.Strings.Builder1
import Derived.Shelf.Strings.Builder2
import Derived.Shelf.Strings.OnBuilder
import Derived.Shelf.Strings.Trim
import Derived.Shelf.Small.Bits
import Derived.Shelf.Small.Strs
import Derived.Shelf.Small.Wraps
import Derived.Shelf.Strings.BuilderF
import Derived.Shelf.Strings.BuilderK
import Derived.Shelf.Strconv.Itoa0
import Derived.Shelf.Strconv.Itoa1
import Derived.Shelf.LaysM
import Derived.Shelf.Strconv.Itoa2
import Derived.Ground.MpProg
import Derived.Shelf.Pu.ParseUintPublic10
import Derived.Shelf.Strings.Search1
import Derived.Shelf.Strings.Search2
import Derived.Shelf.Strings.Search3
import Derived.Shelf.Strings.Cut
import Derived.Shelf.Strings.Prefix
import Derived.Shelf.Strings.Runes
import Derived.Shelf.Strings.AsciiSet
import Derived.Shelf.Bits.Mul64
import Derived.Shelf.Strings.Repeat
import Derived.Laws.EntriesVeiled
import Derived.Laws.BitsAllLaws
import Derived.Lib.TrimByte
import Derived.Lib.Bytealg
import Derived.Lib.SlTrimSet
import Derived.Lib.ParseIntB
import Derived.Shelf.Strings.SlTrimAscii
import Derived.Lib.SmallJoins
import Derived.Deep.RegionWith
import Derived.IntWalk
namespace Go.Proofs.YtaomlgpakbjegaaGreatDoor
open Go.RowKit

/-- a block that begins with some bytes, none frozen -/
def BytesAt (w : World) (g : Nat) (l : List UInt8) : Prop := g < w.heap.size ∧ ∀ j (hj : j < l.length), w.cell? ⟨g, j, none⟩ = some (.int .u8 (l[j].toNat : Int)) ∧ w.frozen? ⟨g, j, none⟩ = false
theorem bytes_made (s : ByteArray) (w : World) : ∃ (W : World) (cap : Nat), (convert 9 81 (.string s)).run Tryz.prog w = .ok (.slice (some ⟨w.heap.size, 0, none⟩) s.size cap) W ∧ Below w.heap.size w W ∧ BytesAt W w.heap.size s.data.toList := by
  refine ⟨_, _, run_bytes_of_string w 9 81 5 s Tryz.underlying9 Tryz.underlying81 Tryz.underlying5, ?_, ?_, fun j hj => ⟨?_, ?_⟩⟩
  · exact ((Below.refl w.heap.size w).drew).alloc (Nat.le_refl _) _
  · show w.heap.size < (w.drew.alloc _).heap.size
    rw [World.size_alloc]; exact Nat.lt_succ_self _
  · have hj2 : j < s.data.size := by simpa using hj
    rw [cell_of_row _ w.heap.size j _ 5 _ (heap_alloc_new w.drew _), bytesRow_at s _ j hj2]
    simp
  · have hj2 : j < s.data.size := by simpa using hj
    have hh := heap_alloc_new w.drew (.cells (bytesRow s (grownCap w s.size 0 5)) 5 ((bytesRow s (grownCap w s.size 0 5)).size, (bytesRow s (grownCap w s.size 0 5)).size + 1))
    have hz : j < (bytesRow s (grownCap w s.size 0 5)).size := by unfold bytesRow; rw [Array.size_append, Array.size_map]; omega
    have hd : w.drew.heap.size = w.heap.size := rfl
    rw [hd] at hh
    simp only [World.frozen?, hh]
    simp only [Bool.and_eq_false_imp, decide_eq_true_eq, decide_eq_false_iff_not]
    omega
theorem bytes_back (w : World) (g cap : Nat) (l : List UInt8) (h : BytesAt w g l) : (convert 81 9 (.slice (some ⟨g, 0, none⟩) l.length cap)).run Tryz.prog w = .ok (.string ⟨l.toArray⟩) w := by
  refine run_convert_bytes_back w 81 9 5 ⟨g, 0, none⟩ cap l Tryz.underlying81 Tryz.underlying5 Tryz.underlying9 fun j hj => ?_
  have := (h.2 j hj).1
  unfold Addr.add
  split
  · rename_i e; subst e; exact this
  · simpa using this
theorem BytesAt.set {w : World} {g : Nat} {l : List UInt8} (h : BytesAt w g l) (j : Nat) (c : UInt8) (v : Int) (hv : v = (c.toNat : Int)) : BytesAt (w.setCell ⟨g, j, none⟩ (.int .u8 v)) g (l.set j c) := by
  subst hv
  refine ⟨by simpa using h.1, fun k hk => ?_⟩
  rw [List.length_set] at hk
  obtain ⟨h1, h2⟩ := h.2 k hk
  rw [List.getElem_set]
  refine ⟨?_, by rw [World.frozen?_setCell]; exact h2⟩
  by_cases e : j = k
  · subst e
    rw [if_pos rfl, World.cell?_setCell_same' _ _ _ (by rw [h1]; rfl)]
  · rw [if_neg e, World.cell?_setCell_other _ _ _ _ (by first | (simp; done) | (simp; omega))]
    exact h1
theorem BytesAt.drewN {w : World} {g : Nat} {l : List UInt8} (h : BytesAt w g l) (n : Nat) : BytesAt (w.drewN n) g l := h
/-- a letter of one size as one of the other -/
def caseU (a b : Nat) (c : UInt8) : UInt8 := if a ≤ c.toNat ∧ c.toNat < a + 26 then UInt8.ofNat (c.toNat - a + b) else c
def caseS (a b : Nat) (s : ByteArray) : ByteArray := ⟨(s.data.toList.map (caseU a b)).toArray⟩
theorem case_step (f : UInt8 → UInt8) (l : List UInt8) (k : Nat) (hk : k < l.length) : ((l.take k).map f ++ l.drop k).set k (f l[k]) = (l.take (k + 1)).map f ++ l.drop (k + 1) := by
  have h1 : ((l.take k).map f).length = k := by simp; omega
  rw [List.set_append_right k (f l[k]) (by omega), h1, Nat.sub_self, List.drop_eq_getElem_cons hk, List.set_cons_zero, List.take_succ_eq_append_getElem hk, List.map_append, List.append_assoc]
  rfl
theorem case_len (f : UInt8 → UInt8) (l : List UInt8) (k : Nat) (hk : k < l.length) : k < ((l.take k).map f ++ l.drop k).length := by
  rw [List.length_append, List.length_map, List.length_take, List.length_drop]; omega
theorem case_at (f : UInt8 → UInt8) (l : List UInt8) (k : Nat) (hk : k < l.length) (h : k < ((l.take k).map f ++ l.drop k).length) : ((l.take k).map f ++ l.drop k)[k] = l[k] := by
  have h1 : ((l.take k).map f).length = k := by simp; omega
  rw [List.getElem_append_right (by omega)]
  simp only [List.getElem_drop, h1, Nat.sub_self, Nat.add_zero]
set_option maxRecDepth 100000 in
set_option maxHeartbeats 1000000 in
theorem each_any (s : ByteArray) (hs : s.size ≤ 1024) (a b : Nat) (hab : a ≤ 200 ∧ b ≤ 200) (w : World) : Calls Tryz.prog 91 #[.string s, .int .u8 a, .int .u8 b] w fun e w' => e = .returned (.string (caseS a b s)) ∧ Below w.heap.size w w' := by
  obtain ⟨W, cap, hrun, hB, hBy⟩ := bytes_made s w
  have hBy' := Lib.hid hBy
  have hlen : s.data.toList.length = s.size := by first | rfl | simp
  have hlen' := Lib.hid hlen
  clear hBy hlen
  go_enter Tryz.func91, Tryz.ntmps91
  go_wp2
  go_loopw [14] (fun i wr => ∃ k : Nat, k ≤ s.size ∧ i = .int .i64 (k : Int) ∧ Hid (BytesAt wr w.heap.size ((s.data.toList.take k).map (caseU a b) ++ s.data.toList.drop k)) ∧ Below w.heap.size w wr) (fun i _ => s.size - (intOf i).toNat)
  case atStart => exact ⟨0, by omega, rfl, Lib.hid (by simpa using hBy'.out), hB⟩
  case round =>
    clear hrun hB
    obtain ⟨k, hk, rfl, hBk, hb⟩ := hrel
    by_cases hlt : k < s.size
    · have hl : k < s.data.toList.length := by rw [hlen'.out]; exact hlt
      have hl2 : k < ((s.data.toList.take k).map (caseU a b) ++ s.data.toList.drop k).length := case_len _ _ _ hl
      obtain ⟨c0, f0⟩ := hBk.out.2 k hl2
      rw [case_at _ _ k hl hl2] at c0
      obtain ⟨c, hc⟩ : ∃ c, s.data.toList[k] = c := ⟨_, rfl⟩
      rw [hc] at c0
      have hc256 : (c.toNat : Int) < 256 := by have := c.toNat_lt; omega
      have hc0 : (0 : Int) ≤ c.toNat := by omega
      have hst := case_step (caseU a b) s.data.toList k hl
      rw [hc] at hst
      have hst' := Lib.hid hst
      have hgl := hBk.out.1
      have hin1 : (0 : Int) ≤ k := by omega
      have hin2 : (k : Int) < s.size := by omega
      have hcd : (s.data.toList[k]?) = some c := by rw [List.getElem?_eq_getElem hl, hc]
      have hcd' := Lib.hid hcd
      clear hst hc hcd hl2
      clear hl
      by_cases h1 : (a : Int) ≤ c.toNat
      · by_cases h2 : (c.toNat : Int) < a + 26
        · have hcu : caseU a b c = UInt8.ofNat (c.toNat - a + b) := by unfold caseU; rw [if_pos (by omega)]
          have hcv : (c.toNat : Int) - a + b = ((caseU a b c).toNat : Int) := by rw [hcu, UInt8.toNat_ofNat']; omega
          have hcv' := Lib.hid hcv
          clear hcu hcv
          go_wp2
          go_roundw
          case rel => exact ⟨k + 1, by omega, by go_num, Lib.hid (by rw [← hst'.out]; exact hBk.out.set k _ _ hcv'.out), bel_set2 hb _ _ (by simp)⟩
          case measure => simp [intOf]; omega
        · have hcu : caseU a b c = c := by unfold caseU; rw [if_neg (by omega)]
          have hcu' := Lib.hid hcu
          clear hcu
          go_wp2
          go_roundw
          case rel =>
            refine ⟨k + 1, by omega, by go_num, Lib.hid ?_, hb⟩
            rw [← hst'.out, hcu'.out]
            have := case_at (caseU a b) s.data.toList k (by rw [hlen'.out]; exact hlt) (case_len _ _ _ (by rw [hlen'.out]; exact hlt))
            rw [show s.data.toList[k]'(by rw [hlen'.out]; exact hlt) = c from by have h9 := hcd'.out; rw [List.getElem?_eq_getElem (by rw [hlen'.out]; exact hlt)] at h9; injection h9] at this
            rw [show (List.map (caseU a b) (List.take k s.data.toList) ++ List.drop k s.data.toList).set k c = List.map (caseU a b) (List.take k s.data.toList) ++ List.drop k s.data.toList from by rw [← this]; exact List.set_getElem_self _]
            exact hBk.out
          case measure => simp [intOf]; omega
      · have hcu : caseU a b c = c := by unfold caseU; rw [if_neg (by omega)]
        have hcu' := Lib.hid hcu
        clear hcu
        go_wp2
        go_roundw
        case rel =>
          refine ⟨k + 1, by omega, by go_num, Lib.hid ?_, hb⟩
          rw [← hst'.out, hcu'.out]
          have := case_at (caseU a b) s.data.toList k (by rw [hlen'.out]; exact hlt) (case_len _ _ _ (by rw [hlen'.out]; exact hlt))
          rw [show s.data.toList[k]'(by rw [hlen'.out]; exact hlt) = c from by have h9 := hcd'.out; rw [List.getElem?_eq_getElem (by rw [hlen'.out]; exact hlt)] at h9; injection h9] at this
          rw [show (List.map (caseU a b) (List.take k s.data.toList) ++ List.drop k s.data.toList).set k c = List.map (caseU a b) (List.take k s.data.toList) ++ List.drop k s.data.toList from by rw [← this]; exact List.set_getElem_self _]
          exact hBk.out
        case measure => simp [intOf]; omega
    · have hkk : k = s.size := by omega
      subst hkk
      have hfin : (s.data.toList.take s.size).map (caseU a b) ++ s.data.toList.drop s.size = s.data.toList.map (caseU a b) := by
        rw [← hlen'.out, List.take_length, List.drop_length, List.append_nil]
      have hBf := hBk.out
      rw [hfin] at hBf
      have hback := bytes_back wr w.heap.size cap _ hBf
      rw [List.length_map, hlen'.out] at hback
      clear hfin hBf
      go_wp2
      go_ret
      exact ⟨rfl, hb⟩
end Go.Proofs.YtaomlgpakbjegaaGreatDoor
