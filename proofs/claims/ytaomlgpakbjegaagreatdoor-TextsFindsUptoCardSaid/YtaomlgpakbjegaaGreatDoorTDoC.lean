/-
  texts: rev.
-/
import Derived.Test.YtaomlgpakbjegaaGreatDoorRows
import Derived.Test.YtaomlgpakbjegaaGreatDoorBase
import Derived.Test.YtaomlgpakbjegaaGreatDoorMapK
import Derived.Test.YtaomlgpakbjegaaGreatDoorProg
import Derived.Test.YtaomlgpakbjegaaGreatDoorShelf
import Derived.Test.YtaomlgpakbjegaaGreatDoorTFind
import Derived.Test.YtaomlgpakbjegaaGreatDoorRowB
import Derived.Test.YtaomlgpakbjegaaGreatDoorDecA
import Derived.Test.YtaomlgpakbjegaaGreatDoorValA
import Derived.Test.YtaomlgpakbjegaaGreatDoorValB
import Derived.Test.YtaomlgpakbjegaaGreatDoorMg10
import Derived.Test.YtaomlgpakbjegaaGreatDoorValC
import Derived.Test.YtaomlgpakbjegaaGreatDoorAddrC
import Derived.Test.YtaomlgpakbjegaaGreatDoorAddrI
import Derived.Test.YtaomlgpakbjegaaGreatDoorMg14
import Derived.Test.YtaomlgpakbjegaaGreatDoorFmtU
import Derived.Test.YtaomlgpakbjegaaGreatDoorPrintL
import Derived.Test.YtaomlgpakbjegaaGreatDoorDPrint
import Derived.Test.YtaomlgpakbjegaaGreatDoorRPr
import Derived.Test.YtaomlgpakbjegaaGreatDoorNDoE
import Derived.Test.YtaomlgpakbjegaaGreatDoorTCall
import Derived.Test.YtaomlgpakbjegaaGreatDoorValD
import Derived.Test.YtaomlgpakbjegaaGreatDoorMg21
import Derived.Test.YtaomlgpakbjegaaGreatDoorValJ
import Derived.Test.YtaomlgpakbjegaaGreatDoorValL
import Derived.Test.YtaomlgpakbjegaaGreatDoorNCallK
import Derived.Test.YtaomlgpakbjegaaGreatDoorTCallK
import Derived.Test.YtaomlgpakbjegaaGreatDoorTCallB
import Derived.Test.YtaomlgpakbjegaaGreatDoorTDoA
import Derived.Test.YtaomlgpakbjegaaGreatDoorTDoB
import Derived.RegionTactic
import Derived.ChangeAlike
import Derived.WalkSpells
import Derived.WalkLawsBesides
import Derived.StillTactics
import Derived.Laws.Pointers
import Derived.Deep.RegionHeld3
import Derived.Deep.QuietTactic
import Derived.BigQuiet
import Derived.RowKit3
import Derived.Lib.Hide
import Derived.Lib.OthersKept
import Derived.OwnWalk
import Derived.Lib.IndexLaws
import Derived.Lib.ItoaMem
import Derived.WalkKit
import Derived.ProofKit
import Derived.OpenShut
import Derived.Carry
import Derived.ChangeSame
import Derived.Deep.Draws
import Derived.Maps.OwnSet
import Derived.Maps.AppendAt
import Derived.Shelf.Strings.Builder1
import Derived.Shelf.Strings.Builder2
import Derived.Shelf.Strings.OnBuilder
import Derived.Shelf.Strings.Trim
import Derived.Shelf.Small.Bits
import Derived.Shelf.Small.Strs
import Derived.Shelf.Small.Wraps
import Derived.Shelf.Strings.BuilderF
import Derived.Shelf.Strings.BuilderK
import Derived.Shelf.Strconv.Itoa0
import Derived.Shelf.Strconv.Itoa1
import Derived.Shelf.LaysM
import Derived.Shelf.Strconv.Itoa2
import Derived.Ground.MpProg
import Derived.Shelf.Pu.ParseUintPublic10
import Derived.Shelf.Strings.Search1
import Derived.Shelf.Strings.Search2
import Derived.Shelf.Strings.Search3
import Derived.Shelf.Strings.Cut
import Derived.Shelf.Strings.Prefix
import Derived.Shelf.Strings.Runes
import Derived.Shelf.Strings.AsciiSet
import Derived.Shelf.Bits.Mul64
import Derived.Shelf.Strings.Repeat
import Derived.Laws.EntriesVeiled
import Derived.Laws.BitsAllLaws
import Derived.Lib.TrimByte
import Derived.Lib.Bytealg
import Derived.Lib.SlTrimSet
import Derived.Lib.ParseIntB
import Derived.Shelf.Strings.SlTrimAscii
import Derived.Lib.SmallJoins
import Derived.Deep.RegionWith
import Derived.IntWalk
import Derived.Laws.IdiomStrings
namespace Go.Proofs.YtaomlgpakbjegaaGreatDoor
open Go.RowKit

/-- the first k and the last k turned round -/
def swpL (l : List UInt8) (k : Nat) : List UInt8 := (List.range l.length).map fun m => if m < k ∨ l.length - k ≤ m then l.getD (l.length - 1 - m) 0 else l.getD m 0
theorem swpL_len (l : List UInt8) (k : Nat) : (swpL l k).length = l.length := by simp [swpL]
theorem swpL_zero (l : List UInt8) : swpL l 0 = l := by
  refine List.ext_getElem (by simp [swpL]) fun m h1 h2 => ?_
  simp only [swpL, List.getElem_map, List.getElem_range, List.getD_eq_getElem?_getD]
  rw [if_neg (by omega), List.getElem?_eq_getElem h2]; rfl
theorem swpL_end (l : List UInt8) (k : Nat) (h : l.length ≤ 2 * k + 1) : swpL l k = l.reverse := by
  refine List.ext_getElem (by simp [swpL]) fun m h1 h2 => ?_
  have hm : m < l.length := by simpa using h2
  rw [List.getElem_reverse]
  simp only [swpL, List.getElem_map, List.getElem_range, List.getD_eq_getElem?_getD]
  by_cases hc : m < k ∨ l.length - k ≤ m
  · rw [if_pos hc, List.getElem?_eq_getElem (by omega)]; rfl
  · rw [if_neg hc, List.getElem?_eq_getElem hm]
    have e : l.length - 1 - m = m := by omega
    simp only [e]; rfl
theorem swpL_at (l : List UInt8) (k m : Nat) (h1 : k ≤ m) (h2 : m < l.length - k) (hm : m < (swpL l k).length) : (swpL l k)[m] = l.getD m 0 := by
  simp only [swpL, List.getElem_map, List.getElem_range]
  rw [if_neg (by omega)]
theorem swpL_step (l : List UInt8) (k : Nat) (h : 2 * k + 1 < l.length) : ((swpL l k).set k (l.getD (l.length - 1 - k) 0)).set (l.length - 1 - k) (l.getD k 0) = swpL l (k + 1) := by
  refine List.ext_getElem (by simp [swpL]) fun m h1 h2 => ?_
  have hm : m < l.length := by rw [swpL_len] at h2; exact h2
  rw [List.getElem_set, List.getElem_set]
  by_cases e1 : l.length - 1 - k = m
  · rw [if_pos e1]
    subst e1
    simp only [swpL, List.getElem_map, List.getElem_range]
    rw [if_pos (by omega)]
    congr 1; omega
  · rw [if_neg e1]
    by_cases e2 : k = m
    · rw [if_pos e2]
      subst e2
      simp only [swpL, List.getElem_map, List.getElem_range]
      rw [if_pos (by omega)]
    · rw [if_neg e2]
      simp only [swpL, List.getElem_map, List.getElem_range]
      by_cases hc : m < k ∨ l.length - k ≤ m
      · rw [if_pos hc, if_pos (by omega)]
      · rw [if_neg hc, if_neg (by omega)]
set_option maxRecDepth 100000 in
set_option maxHeartbeats 1000000 in
theorem reverse_any (l : List UInt8) (hl : l.length ≤ 1024) (g cap : Nat) (w : World) (hB : BytesAt w g l) : Calls Tryz.prog 176 #[.slice (some ⟨g, 0, none⟩) l.length cap] w fun e w' => e = .returned (.tuple #[]) ∧ BytesAt w' g l.reverse ∧ Below g w w' := by
  have hB' := Lib.hid hB
  have hgl := hB.1
  clear hB
  go_enter Tryz.func176, Tryz.ntmps176
  go_wp2
  go_loopw [2, 3] (fun i j wr => ∃ k : Nat, 2 * k ≤ l.length + 1 ∧ i = .int .i64 (k : Int) ∧ j = .int .i64 ((l.length : Int) - 1 - k) ∧ Hid (BytesAt wr g (swpL l k)) ∧ Below g w wr) (fun i _ _ => l.length - (intOf i).toNat)
  case atStart => exact ⟨0, by omega, rfl, by simp, Lib.hid (by rw [swpL_zero]; exact hB'.out), Below.refl _ _⟩
  case round =>
    obtain ⟨k, hk, rfl, rfl, hBk, hb⟩ := hrel
    by_cases hlt : 2 * k + 1 < l.length
    · obtain ⟨m, hm⟩ : ∃ m : Nat, m = l.length - 1 - k := ⟨_, rfl⟩
      have hmk : (l.length : Int) - 1 - k = (m : Int) := by omega
      have hst := swpL_step l k hlt
      rw [← hm] at hst
      have hkl : k < (swpL l k).length := by rw [swpL_len]; omega
      have hml : m < (swpL l k).length := by rw [swpL_len]; omega
      obtain ⟨c1, f1⟩ := hBk.out.2 k hkl
      obtain ⟨c2, f2⟩ := hBk.out.2 m hml
      rw [swpL_at l k k (by omega) (by omega)] at c1
      rw [swpL_at l k m (by omega) (by omega)] at c2
      obtain ⟨a, ha⟩ : ∃ a, l.getD k 0 = a := ⟨_, rfl⟩
      obtain ⟨b, hb9⟩ : ∃ b, l.getD m 0 = b := ⟨_, rfl⟩
      rw [ha] at c1 hst
      rw [hb9] at c2 hst
      rw [hmk]
      have hst' := Lib.hid hst
      have hgl2 := hBk.out.1
      have hmkl : k < m := by omega
      have hne : k ≠ m := by omega
      have hin1 : (0 : Int) ≤ k := by omega
      have hin2 : (k : Int) < l.length := by omega
      have hin3 : (0 : Int) ≤ m := by omega
      have hin4 : (m : Int) < l.length := by omega
      have hin5 : (k : Int) < m := by omega
      have hm2 : (m : Int) ≤ 1024 := by omega
      have hm' := Lib.hid hm
      have d1 : (wr.setCell ⟨g, k, none⟩ (.int .u8 (b.toNat : Int))).cell? ⟨g, m, none⟩ = some (.int .u8 (b.toNat : Int)) := (World.cell?_setCell_other _ _ _ _ (by first | (simp; done) | (simp; omega))).trans c2
      have d2 : (wr.setCell ⟨g, k, none⟩ (.int .u8 (b.toNat : Int))).frozen? ⟨g, m, none⟩ = false := by rw [World.frozen?_setCell]; exact f2
      clear hst ha hb9 hkl hml hm hmk
      go_upto_region 3 with (fail)
      go_region
      go_wp2
      go_roundw
      case rel =>
        refine ⟨k + 1, by omega, by go_num, by congr 1; have := hm'.out; omega, Lib.hid ?_, ?_⟩
        · rw [← hst'.out]; exact (hBk.out.set k b _ rfl).set m a _ rfl
        · exact ((hb.trans ((Below.refl _ _).setCell (by simp) _)).trans ((Below.refl _ _).setCell (by simp) _)).trans (Below.refl _ _).drew
      case measure => simp [intOf]; omega
    · have hnl : ¬ (k : Int) < (l.length : Int) - 1 - k := by omega
      have hfin := swpL_end l k (by omega)
      have hBf := hBk.out
      rw [hfin] at hBf
      have hBf' := Lib.hid hBf
      clear hfin hBf
      go_wp2
      go_end0
      exact ⟨rfl, hBf'.out, hb⟩
def revS (s : ByteArray) : ByteArray := ⟨s.data.toList.reverse.toArray⟩
theorem rev_any (s : ByteArray) (hs : s.size ≤ 1024) (w : World) : Calls Tryz.prog 103 #[.string s] w fun e w' => e = .returned (.string (revS s)) ∧ Below w.heap.size w w' := by
  obtain ⟨W, cap, hrun, hB, hBy⟩ := bytes_made s w
  have hlen : s.data.toList.length = s.size := by first | rfl | simp
  have CR := reverse_any s.data.toList (by rw [hlen]; exact hs) w.heap.size cap W hBy
  rw [hlen] at CR
  have CR' := Lib.hid CR
  have hlen' := Lib.hid hlen
  clear CR hBy hlen
  go_enter Tryz.func103, Tryz.ntmps103
  go_wp2_with fail
  refine CR'.out.mono ?_
  rintro e w2 ⟨rfl, hB2, hb2⟩
  have hback := bytes_back w2 w.heap.size cap _ hB2
  rw [List.length_reverse, hlen'.out] at hback
  clear hrun hB2
  go_wp2
  go_ret
  exact ⟨rfl, hB.trans hb2⟩
end Go.Proofs.YtaomlgpakbjegaaGreatDoor
